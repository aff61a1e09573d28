/- Merged. -/
import Derived.Test.YtjjcgpfljidbhaaGreatYe
import Derived.Laws.MakeOwn
import Derived.ChangeArms
import Derived.BigRegion
open Go.Proofs.Tryz
open Go.Value renaming int->O,slice->I,bool->Ah,agg->Ai,pointer->Aj
open Go.IntKind renaming i64->U
open Option renaming none->Z,some->J
open Go.Obj renaming cells->Ag
open Go.Ending renaming returned->Ak
open Go.Proofs.Tryz renaming prog->Al,underlying32->Ru
open Go.RowKit renaming Below->Am,intOf->Ao,Hid->Ap
open Go renaming Calls->An,Value->Aq
open Bool renaming true->Ar,false->As,or_eq_true->Pf
open List renaming foldl_cons->PA
namespace Go.Proofs.YtjjcgpfljidbhaaGreat
abbrev Ry:=@Nat.le_of_lt
abbrev RM:=@List.getLast?_eq_getElem?
abbrev N7:=@Go.Proofs.Tryz.underlying45
abbrev PJ:=@List.findIdx?_eq_none_iff
abbrev Rl:=@decide_eq_true_iff
set_option maxRecDepth 100000
set_option maxHeartbeats 4000000
section
open Go.RowKit Go.Shelf
attribute [local go_sem] Oper.semAt_some
def RetBt(p:Pb)(A:Bb)(kc:Nat)(SV:Bb)(ks:Nat)(w:Ba)(e:Ending)(w':Ba):Prop:=
 ∃AV kv AE ke,e=Ak (Ai #[O U p.t.n,O U p.t.ins,O U p.t.outs,I A p.t.cases.length kc,O U p.a.n,I SV p.a.sts.length ks,O U p.k,O U p.t.n,.slice AV (zx p (zu p)).1.length kv,.slice AE (zx p (zu p)).2.length ke]) /\
  OwnV w' w.heap.size (.slice AV (zx p (zu p)).1.length kv) (zx p (zu p)).1/\OwnX Z6 (fun k=>w.heap.size<=k) w' w.heap.size (.slice AE (zx p (zu p)).2.length ke) (zx p (zu p)).2/\Am w.heap.size w w'
theorem built_any(p:Pb)(hf:xN p)(iq:zL p=0)(dt:zT p<=60)(A:Bb)(kc:Nat)(SV:Bb)(ks:Nat)(w:Ba)(hA:CAt w w.heap.size A p.t.cases)(hS:SAt w w.heap.size SV p.a.sts) :
  An Al 92 #[.agg (p.vs A kc SV ks)] w (RetBt p A kc SV ks w):=by
 obtain⟨dI,nF,oI,oJ,Ay⟩:=zM iq;obtain⟨K,hK⟩:=Lr oJ;obtain⟨nf,en,pL⟩:=yv dI;have Fq:K<=6:=by omega
 have nd:zT p=zU p.a K 0*p.t.cases.length:=by unfold zT;rw[hK];rfl
 have A8:zU p.a K 0<=60:=by
  have:=P1 (zU p.a K 0) nf;omega
 obtain⟨hz,aA⟩:zB p.a p.a.sts=0/\1<=p.a.sts.length:=⟨(yG hf.1.2 nF).1,(yG hf.1.2 nF).2.1⟩;obtain⟨N,hN⟩:=Lr (show 0<=p.t.n by omega);have ia:=zH hf;have Cb:=zH nF;have Dl:=zH oI;have M9:=zH (uL dI);obtain⟨w1,ac,d0,d1,d2,hsz,bZ⟩:=qZ w (p.vs A kc SV ks) #[O U 0,O U 0,O U 0,I Z 0 0,O U 0,I Z 0 0,O U 0,O U 0,I Z 0 0,I Z 0 0] #[O U p.t.n,O U p.t.ins,O U p.t.outs,I A p.t.cases.length kc,O U p.a.n,I SV p.a.sts.length ks,O U p.k,O U p.t.n,I Z 0 0,I Z 0 0] 29 39 39;have Dc:=Zn p.a SV ks hz hf.1.2 K Fq 0 w1 (by by_cases h:K=0;exact .inl h;exact .inr ⟨by omega,by omega⟩) (by rw[yj];omega) ((hS.keep bZ).more bZ.size);have sF:=zH Dc;have HA:=zH hA;have HS:=zH hS;have bg:=zH bZ;have bD:=zH d0;have cH:=zH d1;have iF:=zH d2;have ah:=zH ac;have pu:=zH hK;have dU:=zH hN;have Gf:=zH nd;have UF:=zH dt;have Uy:=zH nf;have GX:1<=N/\N<=5:=by omega
 clear ac d0 d1 d2 bZ hA hS hf hK hN nd dt iq dI nF oI oJ Ay en pL hz aA Dc nf;unfold Pb.vs at ah bD ⊢;go_enter func92,ntmps92;go_wp2_with fail;rw[ah.out];have Dc:=sF.out;unfold qX at sF;rw[<-pu.out] at Dc;refine Dc.mono ?_;rintro e wr ⟨v,rfl,hW,hb⟩;have cB:=bg.out.size;obtain⟨ab,eM⟩:=Kh (zC p.a K 0);rw[eM] at hW;obtain⟨AW,cw,rfl,SR⟩:=WdsAt.of (bs:=w.heap.size+1+1) hW (by omega) rfl;obtain⟨SC,Bs⟩:∃SC:Aq->Aq->Array Aq,SC=fun V E=>#[O U p.t.n,O U p.t.ins,O U p.t.outs,I A p.t.cases.length kc,O U p.a.n,I SV p.a.sts.length ks,O U p.k,O U p.t.n,V,E]:=⟨_,rfl⟩
 obtain⟨WR,rfl⟩:∃x,x=wr:=⟨_,rfl⟩;obtain⟨D,hD⟩:∃D,D=WR.heap.size:=⟨_,rfl⟩;have hDb:w.heap.size+3<=D:=by have:=hb.size;omega
 have H0:Ap (Bt D (w.heap.size+1+1) SC WR [] [] (I Z 0 0) (I Z 0 0) WR):=
  ⟨Wrote.refl _ _,by omega,by omega,by omega,by rw[Bs];exact Lb hb (by omega) iF.out,OwnV.nil _ _,OwnX.nil _ _ _ _,fun k e=>(by cases e)⟩
 have Cc:Ap (WR.heap[w.heap.size]?=J (Ag #[O U p.t.n,O U p.t.ins,O U p.t.outs,I A p.t.cases.length kc,O U p.a.n,I SV p.a.sts.length ks,O U p.k] 29 (0,0))):=Lb hb (by omega) bD.out;have HP1:Ap (WR.heap[w.heap.size+1]?=J (Ag #[O U 0,O U 0,O U 0,I Z 0 0,O U 0,I Z 0 0,O U 0,O U 0,I Z 0 0,I Z 0 0] 39 (0,0))):=Lb hb (by omega) cH.out;have mv:Ap (Am w.heap.size w WR):=bg.out.trans (hb.mono (by omega));have Hm:=zH SR;rw[<-hD] at Hm;have nQ:=zH Bs;have j':=zH eM;have pz:=zH hD;have nh:p.t.cases.length<=30:=ia.out.1.1.1;have lk:ab.length<=60:=by rw[<-eM,yj];exact A8
 have rh:Ap (∀x∈ab,x.length<=6):=fun x hx=>by rw[<-eM] at hx;rw[yK p.a K 0 x hx];exact Fq
 clear hW hb Bs eM hD SR bD cH iF ah bg sF Dc cB hsz;go_wp2_with fail
 go_loopw [5] (fun i wx=>∃(c:Nat) (V E:Aq),c<=p.t.cases.length/\i=O U (c:Int)/\Ap (Bt D (w.heap.size+1+1) SC WR (zx p (pcs ab c)).1 (zx p (pcs ab c)).2 V E wx)) (fun i _=>p.t.cases.length-(Ao i).toNat)
 case atStart=>exact⟨0,_,_,by omega,rfl,H0.out⟩
 clear H0;obtain⟨c,V0,E0,hc,rfl,dF⟩:=hrel;have hbig:=dF.out.big;have dY:∀k,k<D->k≠w.heap.size+1+1->wr.heap[k]?=WR.heap[k]?:=fun k h1 h2=>dF.out.wr.block k (by have:=pz.out;omega) h2
 have P0:=(dY _ (by omega) (by omega)).trans Cc.out;have p0:wr.cell? ⟨w.heap.size,0,Z⟩=J (O U p.t.n):=za P0 0 rfl;have p3:wr.cell? ⟨w.heap.size,3,Z⟩=J (I A p.t.cases.length kc):=za P0 3 rfl;have p6:wr.cell? ⟨w.heap.size,6,Z⟩=J (O U p.k):=za P0 6 rfl
 by_cases KX:c<p.t.cases.length
 case neg=>
  obtain rfl:c=p.t.cases.length:=by omega
  have ER:p.t.cases.length*ab.length<=60:=by have h1:=Gf.out;have h2:=UF.out;have h3:=congrArg List.length j'.out;rw[yj] at h3;rw[h3,Pa] at h1;omega
  obtain⟨AV,kv,rfl,_⟩:=dF.out.tb.form (by have:=uT p ab (by have:=dU.out;omega) rh.out p.t.cases.length ER;omega);obtain⟨AE,ke,rfl,_,_,_⟩:=dF.out.out.form zJ;have aY:=(dY (w.heap.size+1) (by omega) (by omega)).trans HP1.out;have aQ:=dF.out.sys;rw[nQ.out] at aQ;have s0:wr.cell? ⟨w.heap.size+1+1,0,Z⟩=J (O U p.t.n):=za aQ 0 rfl;have s1:wr.cell? ⟨w.heap.size+1+1,1,Z⟩=J (O U p.t.ins):=za aQ 1 rfl;have s2:wr.cell? ⟨w.heap.size+1+1,2,Z⟩=J (O U p.t.outs):=za aQ 2 rfl;have s3:wr.cell? ⟨w.heap.size+1+1,3,Z⟩=J (I A p.t.cases.length kc):=za aQ 3 rfl;have s4:wr.cell? ⟨w.heap.size+1+1,4,Z⟩=J (O U p.a.n):=za aQ 4 rfl;have s5:wr.cell? ⟨w.heap.size+1+1,5,Z⟩=J (I SV p.a.sts.length ks):=za aQ 5 rfl;have s6:wr.cell? ⟨w.heap.size+1+1,6,Z⟩=J (O U p.k):=za aQ 6 rfl;have s7:wr.cell? ⟨w.heap.size+1+1,7,Z⟩=J (O U p.t.n):=za aQ 7 rfl;have s8:wr.cell? ⟨w.heap.size+1+1,8,Z⟩=J (.slice AV (zx p (pcs ab p.t.cases.length)).1.length kv):=za aQ 8 rfl;have s9:wr.cell? ⟨w.heap.size+1+1,9,Z⟩=J (.slice AE (zx p (pcs ab p.t.cases.length)).2.length ke):=za aQ 9 rfl;have y0:wr.cell? ⟨w.heap.size+1,0,Z⟩=J (O U 0):=za aY 0 rfl;have f0:=zb aY 0;have y1:wr.cell? ⟨w.heap.size+1,1,Z⟩=J (O U 0):=za aY 1 rfl;have f1:=zb aY 1;have y2:wr.cell? ⟨w.heap.size+1,2,Z⟩=J (O U 0):=za aY 2 rfl;have f2:=zb aY 2
  have y3:wr.cell? ⟨w.heap.size+1,3,Z⟩=J (I Z 0 0):=za aY 3 rfl;have f3:=zb aY 3;have y4:wr.cell? ⟨w.heap.size+1,4,Z⟩=J (O U 0):=za aY 4 rfl;have f4:=zb aY 4;have y5:wr.cell? ⟨w.heap.size+1,5,Z⟩=J (I Z 0 0):=za aY 5 rfl;have f5:=zb aY 5;have y6:wr.cell? ⟨w.heap.size+1,6,Z⟩=J (O U 0):=za aY 6 rfl;have f6:=zb aY 6;have y7:wr.cell? ⟨w.heap.size+1,7,Z⟩=J (O U 0):=za aY 7 rfl;have f7:=zb aY 7;have y8:wr.cell? ⟨w.heap.size+1,8,Z⟩=J (I Z 0 0):=za aY 8 rfl;have f8:=zb aY 8;have y9:wr.cell? ⟨w.heap.size+1,9,Z⟩=J (I Z 0 0):=za aY 9 rfl;have f9:=zb aY 9;have px:=zH dF.out;have az:Am w.heap.size w wr:=mv.out.trans (dF.out.wr.below (by have:=mv.out.size;omega) (fun k h1 h2=>by have h3:k=w.heap.size+1+1:=h2;omega));obtain⟨k1,k2,k3,k4,k5⟩:=qw (O U p.t.n) (O U p.t.ins) (O U p.t.outs) (I A p.t.cases.length kc) (O U p.a.n) (I SV p.a.sts.length ks) (O U p.k) (O U p.t.n) (.slice AV (zx p (pcs ab p.t.cases.length)).1.length kv) (.slice AE (zx p (pcs ab p.t.cases.length)).2.length ke) aY az (by omega:w.heap.size<=w.heap.size+1)
  obtain⟨WF,dy⟩:=Kh (((((((((((wr.setCell ⟨w.heap.size+1,0,Z⟩ (O U p.t.n)).setCell ⟨w.heap.size+1,1,Z⟩ (O U p.t.ins)).setCell ⟨w.heap.size+1,2,Z⟩ (O U p.t.outs)).setCell ⟨w.heap.size+1,3,Z⟩ (I A p.t.cases.length kc)).setCell ⟨w.heap.size+1,4,Z⟩ (O U p.a.n)).setCell ⟨w.heap.size+1,5,Z⟩ (I SV p.a.sts.length ks)).setCell ⟨w.heap.size+1,6,Z⟩ (O U p.k)).setCell ⟨w.heap.size+1,7,Z⟩ (O U p.t.n)).setCell ⟨w.heap.size+1,8,Z⟩ (.slice AV (zx p (pcs ab p.t.cases.length)).1.length kv)).setCell ⟨w.heap.size+1,9,Z⟩ (.slice AE (zx p (pcs ab p.t.cases.length)).2.length ke)));rw[dy] at k1 k2 k3 k4 k5;have K1:=zH k1;have K2:=zH k2;have K4:=zH k4;have K5:=zH k5;have st:=zH dy;clear aY aQ P0 az k1 k2 k3 k4 k5 dy;go_wp2_with fail;rw[st.out];obtain⟨z0,z1,z2,z3,z4,z5,z6,z7,z8,z9⟩:=zK K1.out;refine L6 (v:=Ai #[O U p.t.n,O U p.t.ins,O U p.t.outs,I A p.t.cases.length kc,O U p.a.n,I SV p.a.sts.length ks,O U p.k,O U p.t.n,.slice AV (zx p (pcs ab p.t.cases.length)).1.length kv,.slice AE (zx p (pcs ab p.t.cases.length)).2.length ke]) (by simp[results,results92,go_sem,z0,z1,z2,z3,z4,z5,z6,z7,z8,z9]) rfl ?_;have iq:zu p=pcs ab p.t.cases.length:=by rw[ZO,<-j'.out,show p.k.toNat=K by have:=pu.out;omega]
  unfold RetBt;rw[iq];have cB:=px.out.big;refine⟨AV,kv,AE,ke,rfl,?_,?_,K2.out⟩
  . exact(px.out.tb.of_same fun k hk=>K4.out k (by have:=(px.out.tb.lt' k hk).1;omega)).low (by omega)
  exact(OwnX.mono zJ (px.out.out.keep zJ ⟨by have:=K5.out;omega,fun k hs _=>K4.out k (by omega)⟩ fun k hk=>K4.out k (by have:=(px.out.out.lt k hk).1;omega)) fun k _ hs=>(by omega)).low (by omega)
 have hc1:(c:Int)<(p.t.cases.length:Int):=by omega
 have Di:=zH dY;clear dY P0;go_wp2_with fail;obtain⟨wo,rfl⟩:∃x,x=wr:=⟨_,rfl⟩
 go_loopw [6] (fun i wx=>∃(j:Nat) (V E:Aq),j<=ab.length/\i=O U (j:Int)/\Ap (Bt D (w.heap.size+1+1) SC WR (zx p (pcw ab c j)).1 (zx p (pcw ab c j)).2 V E wx)) (fun i _=>ab.length-(Ao i).toNat)
 case atStart=>exact⟨0,V0,E0,by omega,rfl,by rw[YO];exact dF.out⟩
 obtain⟨j,V1,E1,hj,rfl,dk⟩:=hrel
 by_cases Kz:j<ab.length
 case neg=>
  obtain rfl:j=ab.length:=by omega
  have HBe:=zH (by have h:=dk.out;rw[pcw_end] at h;exact h);clear dk;go_wp2_with fail
  go_roundw
  case rel=>exact⟨c+1,V1,E1,by omega,by go_num,HBe.out⟩
  simp[Ao];omega
 obtain⟨gw,A2,c2,eAW,pS,lq,pU,nj,nB⟩:=Hm.out j Kz;subst eAW;have Tg:KeepB (fun k=>k<D/\k≠w.heap.size+1+1) WR wr:=dk.out.wr.keep fun k _ hs=>hs.2
 have sT:wr.cell? ⟨gw,j,Z⟩=J (I A2 ab[j].length c2):=qe Tg ⟨lq,by omega⟩ pU
 have lN:c*ab.length+j<60:=by
  have h1:=Gf.out;have h2:=UF.out;have h3:=congrArg List.length j'.out;rw[yj] at h3;rw[h3,Pa] at h1;have h4:=Rc ab.length (show c+1<=p.t.cases.length by omega);rw[P5] at h4;omega
 obtain⟨IM,ot⟩:=gZ p ab (by have:=dU.out;omega) rh.out c j (by omega) (by omega);have rN:=xH p (pcw ab c j) (c,ab[j]);rw[<-pcw_succ ab c j Kz] at rN;obtain⟨word,fN⟩:=Kh (ab[j]);rw[fN] at sT nj rN pU nB;have lJ:word∈zC p.a K 0:=by rw[j'.out,<-fN];exact Ld Kz
 have tT:=yK p.a K 0 word lJ
 have st:Ap (∀r∈word,zS r=0/\r.n=(N:Int)):=fun r hr=>by
  obtain⟨m,hm,rfl⟩:=qY p.a K 0 word lJ r hr;obtain⟨z1,z2,_⟩:=yY (yG ia.out.1.2 Cb.out).1 m hm;exact⟨z1,by rw[z2,<-Dl.out,dU.out]⟩
 obtain⟨AE,ke,rfl,_,_,_⟩:=dk.out.out.form zJ;obtain⟨li,tU⟩:=Kh ((zx p (pcw ab c j)).1);obtain⟨nA,tQ⟩:=Kh ((zx p (pcw ab c j)).2);rw[tU,tQ] at rN dk;rw[tU] at IM;rw[tQ] at ot;have oR:yc p c=p.t.cases[c].inp:=by unfold yc;rw[Le,Lf KX];rfl
 have FO:Ap (zx p (pcw ab c (j+1))=((stQ li N p.t.cases[c].inp word (K+1)).1,nA++[⟨(c:Int),word,(stQ li N p.t.cases[c].inp word (K+1)).2⟩])):=by
  rw[rN];show(_,_)=_;rw[oR,tT,show p.t.n.toNat=N by have:=dU.out;omega]
  rfl
 obtain⟨bc,oc,A0,c0,A1',c1',A2',c2',eA,K6,Bc,_,_,Mt,_,_⟩:=HA.out.row c KX;subst eA;have AP:p.t.cases[c].inp.length=N:=by have h1:=M9.out _ (Ld KX);have:=dU.out;omega
 obtain⟨inp,s'⟩:=Kh (p.t.cases[c].inp);rw[s'] at Bc Mt FO AP;have Co:=zH Mt;have HGW:=zH pU;have HC0:=zH Bc;have cF:=zH nj;have FH:=zH nB;clear nB;have pw:=zH AP;have np:Ap (nA.length<60):=by show nA.length<60;omega
 have FM:=zH IM;have FG:=zH tT;have EG:(j:Int)<(ab.length:Int):=by omega
 have VJ:gw<wr.heap.size:=by have:=dk.out.big;omega
 clear AP s' rN oR Mt Bc nj pU Tg tU tQ fN lJ ot IM tT;go_wp2_with fail;clear sT;obtain⟨W1,cV,x1,aA,aG⟩:=zh wr #[O U c,I A2 word.length c2,I Z 0 0] 49;rw[cV];have FT:Ap (Bq D (w.heap.size+1+1) wr.heap.size SC WR c (I A2 word.length c2) li nA [] [] V1 (I AE nA.length ke) (I Z 0 0) (I Z 0 0) W1):=Bt.start dk.out aG x1;clear cV x1 aA aG dk;obtain⟨bx,aV⟩:∃bx,bx=wr.heap.size:=⟨_,rfl⟩;rw[<-aV] at FT ⊢;clear aV
 go_loopw [8] (fun i wx=>∃(k:Nat) (V Y:Aq),k<=K+1/\i=O U (k:Int)/\Ap (Bq D (w.heap.size+1+1) bx SC WR c (I A2 word.length c2) (stQ li N inp word k).1 nA (stQ li N inp word k).2 [] V (I AE nA.length ke) Y (I Z 0 0) wx)) (fun i _=>K+1-(Ao i).toNat)
 case atStart=>exact⟨0,V1,_,by omega,rfl,FT.out⟩
 clear FT;obtain⟨k,V2,Y2,hk,rfl,HQ⟩:=hrel;have hbig:=HQ.out.big;have P0:=(HQ.out.wr.block _ (by have:=pz.out;omega) (by omega)).trans Cc.out;have p0:wr.cell? ⟨w.heap.size,0,Z⟩=J (O U p.t.n):=za P0 0 rfl;have p3:wr.cell? ⟨w.heap.size,3,Z⟩=J (I (J ⟨bc,oc,Z⟩) p.t.cases.length kc):=za P0 3 rfl;have p6:wr.cell? ⟨w.heap.size,6,Z⟩=J (O U p.k):=za P0 6 rfl;clear P0
 by_cases R8:k<=K
 case neg=>
  have sC:Ap (k=K+1):=by show k=K+1;omega
  have dQ:¬((k:Int)<=p.k):=by have:=pu.out;omega
  obtain⟨AY,ky,rfl,_,_,_⟩:=HQ.out.vw.form yw;have aQ:=HQ.out.sys;rw[nQ.out] at aQ;have fd:=zH aQ;have s9:wr.cell? ⟨w.heap.size+1+1,9,Z⟩=J (I AE nA.length ke):=za aQ 9 rfl;have f9:=zb aQ 9;have x0:wr.cell? ⟨bx,0,Z⟩=J (O U c):=za HQ.out.x 0 rfl;have x1:wr.cell? ⟨bx,1,Z⟩=J (I A2 word.length c2):=za HQ.out.x 1 rfl;have x2:wr.cell? ⟨bx,2,Z⟩=J (.slice AY (stQ li N inp word k).2.length ky):=za HQ.out.x 2 rfl;have rx:=zH (zj wr (Ag #[O U c,I A2 word.length c2,.slice AY (stQ li N inp word k).2.length ky] 49));have pi:=zH (HQ.out.out.below zJ (zN wr (Ag #[O U c,I A2 word.length c2,.slice AY (stQ li N inp word k).2.length ky] 49)) (Lh _));have EX:=HQ.out.bsl;have Wh:w.heap.size+1+1<wr.heap.size:=by omega
  have EW:=HQ.out.bxl;clear aQ;go_wp2_with (at_builtin;obtain⟨aI,aw,fW,bJ⟩:=pi.out;refine yJ kXn_ok rfl (.tmp 110) (.tmp 112) rfl D (I AE nA.length ke) nA.length aI.flatten rfl fW wr.heap.size #[O U c,I A2 word.length c2,.slice AY (stQ li N inp word k).2.length ky] rfl rx.out rfl (by simp[Value.oneCell']) (LE (Ry np.out) (by decide)) (by simp;omega) _ rfl ?_;intro g' cap w7 lQ fD dp oO;have b7:=(fD.block _ (by simp;omega) (fun e=>pi.out.ne EX e.symm)).trans (yo fd.out _);have c7:=za b7 9 rfl;have MI:=zb b7 9;have HDN:=zH (Bq.done HQ.out (zN wr _) aw bJ rfl rfl cF.out FH.out lQ fD dp (by rw[nQ.out];rfl));clear lQ fD dp aw bJ fW b7)
  go_roundw
  case rel=>exact⟨j+1,V2,_,by omega,by go_num,by rw[FO.out,<-sC.out];exact HDN.out⟩
  simp[Ao];omega
 have dQ:(k:Int)<=p.k:=by have:=pu.out;omega
 have R5:k<=6:=by omega
 obtain⟨vk,iT⟩:=Kh ((stQ li N inp word k).1);obtain⟨yk,fh⟩:=Kh ((stQ li N inp word k).2);obtain⟨f,hf⟩:=Kh (fQ inp word yk k);have ig:=stQ_len li N inp word k;have co:=QK li N inp word k;have DI:=stQ_row li N inp word k;have CL:=stQ_succ li N inp word k;rw[iT,fh] at HQ;rw[fh] at ig DI;rw[iT] at co;rw[iT,fh,hf] at CL;have HSS:=zH CL;have HYR:=zH DI;have Hj:=zH ig
 have eJ:Ap (vk.length<=2100+30):=by
  have h1:=L3 R5 GX.2;have h2:=FM.out;show vk.length<=2130;omega
 have Cr:=zH hf;clear iT fh hf ig co DI CL;obtain⟨AY,ky,rfl,_,_,_⟩:=HQ.out.vw.form yw;go_wp2_with fail;clear p0 p3 p6
 go_loopw [9,10] (fun l i wx=>∃(q:Nat) (V:Aq),q<=N/\i=O U (q:Int)/\Ap (Bq D (w.heap.size+1+1) bx SC WR c (I A2 word.length c2) (zY f vk q).1 nA yk (zY f vk q).2 V (I AE nA.length ke) (I AY yk.length ky) l wx)) (fun _ i _=>N-(Ao i).toNat)
 case atStart=>exact⟨0,V2,by omega,rfl,HQ.out⟩
 clear HQ;obtain⟨q,V3,hq,rfl,HQ⟩:=hrel;have hbig:=HQ.out.big;have P0:=(HQ.out.wr.block _ (by have:=pz.out;omega) (by omega)).trans Cc.out;have p0:wr.cell? ⟨w.heap.size,0,Z⟩=J (O U p.t.n):=za P0 0 rfl;have p3:wr.cell? ⟨w.heap.size,3,Z⟩=J (I (J ⟨bc,oc,Z⟩) p.t.cases.length kc):=za P0 3 rfl;clear P0;obtain⟨AL,kl,eL,VB,VA,_⟩:=HQ.out.row.form;subst eL
 by_cases rP:q<N
 case neg=>
  have HQQ:Ap (q=N):=by show q=N;omega
  have Av:¬((q:Int)<p.t.n):=by have:=dU.out;omega
  have x2:wr.cell? ⟨bx,2,Z⟩=J (I AY yk.length ky):=za HQ.out.x 2 rfl;have rx:=zH (zj wr (Ag #[.slice AL (zY f vk q).2.length kl] 30));have pi:=zH (HQ.out.vw.below yw (zN wr (Ag #[.slice AL (zY f vk q).2.length kl] 30)) (Lh _));have EW:=HQ.out.bxl;have We:=HQ.out.hx;go_wp2_with (at_builtin;obtain⟨aI,aw,fW,bJ⟩:=pi.out;refine yJ Z0 rfl (.tmp 104) (.tmp 106) rfl D (I AY yk.length ky) yk.length aI.flatten rfl fW wr.heap.size #[.slice AL (zY f vk q).2.length kl] rfl rx.out rfl (by simp[Value.oneCell']) (by rw[Hj.out];omega) (by simp;omega) _ rfl ?_;intro g' cap w7 lQ fD dp oO;have b7:=(fD.block bx (by simp;omega) (fun e=>(HQ.out.nY bx e.symm).1 rfl)).trans (yo HQ.out.x _);have c7:=za b7 2 rfl;have MI:=zb b7 2;have du:=zH (Bq.close HQ.out (zN wr _) aw bJ lQ fD dp);clear lQ fD dp aw bJ fW b7)
  go_roundw
  case rel=>exact⟨k+1,V3,_,by omega,by go_num,by rw[HSS.out,<-HQQ.out];exact du.out⟩
  simp[Ao];omega
 have Av:(q:Int)<p.t.n:=by have:=dU.out;omega
 have fE:Am w.heap.size w wr:=mv.out.trans (HQ.out.wr.below (by have:=mv.out.size;omega) (fun k h1 h2=>by have h3:k=w.heap.size+1+1:=h2;omega));have pU:=(fE.cell (p:=⟨bc,oc+c*3,Z⟩) K6).trans HC0.out;have RE:q<inp.length:=by have:=pw.out;omega
 obtain⟨bi,oi,eI,K3,Ss⟩:=Co.out.at_ q RE;subst eI;have Se:=(fE.cell (p:=⟨bi,oi+q,Z⟩) K3).trans Ss;obtain⟨iv,KC⟩:=Kh (inp[q]);rw[KC] at Se;have HIV:Ap (inp.getD q 0=iv):=by show _=_;rw[Le,Lf RE,<-KC];rfl
 have oG:(0:Int)<=(q:Int):=by omega
 have mW:(q:Int)<(inp.length:Int):=by omega
 have hcp:(0:Int)<=(c:Int):=by omega
 have fg:=zH (first_any q iv wr);have HPO:=zH (QK li N inp word k);have EW:=HQ.out.bxl;clear fE Ss KC;go_wp2_with fail;refine fg.out.mono ?_;rintro e w5 ⟨rfl,ap⟩;obtain⟨W6,pW,b6,mB,nm⟩:=zh w5 (yi q iv).cells 144;have bz:Am wr.heap.size wr W6:=Lc ap nm;have iV:=ap.size;have rh:=zH pW;have dj:=zH bz;have lh:=zH b6;unfold Vw.cells at rh;unfold Vw.cells;clear fg ap pW b6 nm bz pU Se p0 p3;go_simp;rename_i iO;refine iO _ _ ?_;clear iO;refine LU rfl fun K5 bU=>?_
 go_simp;refine bU _ _ ?_;clear bU K5;refine LU rfl fun K5 bU=>?_
 go_simp;rw[rh.out];refine bU _ _ ?_;clear bU K5 rh;rcases LX k with cA | GG
 case' inl=>
  have GF:¬((0:Int)<(k:Int)):=by omega
  have tJ:Ap (f q=yi q iv):=by
   show f q=_;rw[<-Cr.out,cA];show yi q (inp.getD q 0)=_;rw[HIV.out]
  rw[<-tJ.out] at lh;have lh:Ap (W6.heap[w5.heap.size]?=J (Ag (f q).cells 144 (0,0))):=lh;obtain⟨W9,nI⟩:=Kh W6;rw[nI] at dj lh ⊢;clear nI tJ cA
 case' inr=>
  obtain⟨k',dw⟩:∃k',k=k'+1:=⟨k-1,by omega⟩;have GF:(0:Int)<(k:Int):=by omega
  have EB:IntKind.i64.wrap ((k:Int)-1)=(k':Int):=by rw[Lv];omega
  have AN:k'<word.length:=by have:=FG.out;omega
  have AM:k'<yk.length:=by have:=Hj.out;omega
  have tJ:Ap (f q=xk word[k'] k q yk[k']):=by
   show f q=_;rw[<-Cr.out,dw];show xk (word.getD k' default) (k'+1) q (yk.getD k' [])=_;rw[Le,Lf AN,Le,Lf AM]
   rfl
  have Q6:=HQ.out.on dj.out;have S6:RAtS (fun k=>w.heap.size+1+1<k/\k<D) W6 A2 word:=cF.out.keep (Q6.wr.keep fun k _ hs e=>by have h3:k=w.heap.size+1+1:=e;omega);have pH:W6.cell? ⟨gw,j,Z⟩=J (I A2 word.length c2):=qe (S:=fun k=>w.heap.size+1+1<k/\k<D) (Q6.wr.keep fun k _ hs e=>by have h3:k=w.heap.size+1+1:=e;omega) ⟨pS,lq⟩ HGW.out;obtain⟨br,UN,eA2,aC,r0,r1,r2,r3,r4,r5,r6⟩:=S6.rat.row k' AN;subst eA2;obtain⟨AYx,kyx,eY,_,_,SM⟩:=Q6.vw.form yw
  cases eY
  obtain⟨gy,eAY,_,hgy,O4⟩:=SM (by omega);subst eAY;obtain⟨cs,⟨A3,c3,rfl,iA⟩,ay⟩:=O4 k' AM;have O5:W6.cell? ⟨gy,k',Z⟩=J (I A3 yk[k'].length c3):=by simpa[cIs,kIs] using ay 0 _ rfl
  have x6:W6.cell? ⟨bx,2,Z⟩=J (I (J ⟨gy,0,Z⟩) yk.length ky):=za Q6.x 2 rfl;have lP:=HYR.out k' AM;obtain⟨row,aN⟩:=Kh (yk[k']);obtain⟨rd,rO⟩:=Kh (word[k']);have CM:=st.out word[k'] (Ld AN);rw[aN] at O5 iA lP tJ;rw[rO] at r0 r1 r2 r3 r4 r5 r6 CM tJ;have Sh:=ug (xI CM.1).2.2.1 q (by omega);have nu:=zH (fun (X:Ba) (hX:Am W6.heap.size W6 X)=>seen_any rd k q (by omega) Sh A3 c3 row (by rw[CM.2,lP]) (by omega) X ((iA.iat.keep hX).more hX.size));have VG:(0:Int)<=(k':Int):=by omega
  have VF:(k':Int)<(word.length:Int):=by omega
  have VE:(k':Int)<(yk.length:Int):=by omega
  have hjp:(0:Int)<=(j:Int):=by omega
  have HKS:=zH dw;have MG:w5.heap.size<W6.heap.size:=zc lh.out;clear GG dw Q6 S6 SM O4 ay iA aN rO CM Sh lP;go_wp2_with fail
  go_still_tail 17,(by kernel_rfl)
  change wpList _ _ _ _ _ W6.drew;obtain⟨W7,ni⟩:∃W7,W7=W6.drew:=⟨_,rfl⟩;have ec:Ap (Am W6.heap.size W6 W7):=by rw[ni];exact(Ll _ _).drew
  rw[<-ni];clear ni r0 r1 r2 r3 r4 r5 r6 pH O5 x6;go_wp2_with fail;refine(nu.out W7 ec.out).mono ?_;rintro e w8 ⟨rfl,dD⟩;obtain⟨vv,Pn⟩:=Kh (xk rd k q row);rw[Pn] at tJ ⊢;have Bl:Am W6.heap.size W6 w8:=Lc ec.out dD;have b8:=Lb Bl MG lh.out;unfold Vw.cells at b8;obtain⟨k1,k2⟩:=Jm vv b8 (Lc dj.out Bl) (by omega:wr.heap.size<=w5.heap.size);obtain⟨W9,nI⟩:=Kh (((((((((w8.setCell ⟨w5.heap.size,0,Z⟩ (O U vv.p)).setCell ⟨w5.heap.size,1,Z⟩ (O U vv.r)).setCell ⟨w5.heap.size,2,Z⟩ (O U vv.i)).setCell ⟨w5.heap.size,3,Z⟩ (O U vv.h0)).setCell ⟨w5.heap.size,4,Z⟩ (O U vv.h1)).setCell ⟨w5.heap.size,5,Z⟩ (O U vv.h2)).setCell ⟨w5.heap.size,6,Z⟩ (O U vv.h3)).setCell ⟨w5.heap.size,7,Z⟩ (O U vv.h4)));rw[nI] at k1 k2;have FJ:=zH nI;have y0:w8.cell? ⟨w5.heap.size,0,Z⟩=J (O U (yi q iv).p):=za b8 0 rfl;have fr0:=zb b8 0;have y1:w8.cell? ⟨w5.heap.size,1,Z⟩=J (O U (yi q iv).r):=za b8 1 rfl;have fr1:=zb b8 1;have y2:w8.cell? ⟨w5.heap.size,2,Z⟩=J (O U (yi q iv).i):=za b8 2 rfl;have fr2:=zb b8 2;have y3:w8.cell? ⟨w5.heap.size,3,Z⟩=J (O U (yi q iv).h0):=za b8 3 rfl;have fr3:=zb b8 3;have y4:w8.cell? ⟨w5.heap.size,4,Z⟩=J (O U (yi q iv).h1):=za b8 4 rfl;have fr4:=zb b8 4;have y5:w8.cell? ⟨w5.heap.size,5,Z⟩=J (O U (yi q iv).h2):=za b8 5 rfl;have fr5:=zb b8 5
  have y6:w8.cell? ⟨w5.heap.size,6,Z⟩=J (O U (yi q iv).h3):=za b8 6 rfl;have fr6:=zb b8 6;have y7:w8.cell? ⟨w5.heap.size,7,Z⟩=J (O U (yi q iv).h4):=za b8 7 rfl;have MI:=zb b8 7;have lh:Ap (W9.heap[w5.heap.size]?=J (Ag (f q).cells 144 (0,0))):=by rw[tJ.out];exact k1
  have dj:Ap (Am wr.heap.size wr W9):=k2;clear Bl b8 k1 k2 nI Pn dD nu ec tJ;unfold Vw.cells;go_simp;rename_i iO;refine iO _ _ ?_;refine LU rfl fun K5 bU=>?_
  go_simp;rw[FJ.out];refine bU _ _ ?_;clear FJ HKS GF EB y0 y1 y2 y3 y4 y5 y6 y7 fr0 fr1 fr2 fr3 fr4 fr5 fr6 MI
 all_goals
  have Q9:=HQ.out.on dj.out;have CM:=qL f vk q;have D':=yW f vk q;obtain⟨AV,kv,eV,hT⟩:=Q9.tb.form (by have:=eJ.out;omega);subst eV;have NU:=zH (put_any p.t.n AV kv (zY f vk q).1 (f q) W9 hT (by have:=eJ.out;omega));have aQ:=Q9.sys;rw[nQ.out] at aQ;have s7:W9.cell? ⟨w.heap.size+1+1,7,Z⟩=J (O U p.t.n):=za aQ 7 rfl;have s8:W9.cell? ⟨w.heap.size+1+1,8,Z⟩=J (.slice AV (zY f vk q).1.length kv):=za aQ 8 rfl;have FS:=zH Q9;have NC:=zH D';obtain⟨v,hv⟩:=Kh (f q);have Up:=zH hv;rw[hv] at NU lh;have x0:W9.cell? ⟨w5.heap.size,0,Z⟩=J (O U v.p):=za lh.out 0 rfl;have x1:W9.cell? ⟨w5.heap.size,1,Z⟩=J (O U v.r):=za lh.out 1 rfl;have x2:W9.cell? ⟨w5.heap.size,2,Z⟩=J (O U v.i):=za lh.out 2 rfl;have x3:W9.cell? ⟨w5.heap.size,3,Z⟩=J (O U v.h0):=za lh.out 3 rfl;have x4:W9.cell? ⟨w5.heap.size,4,Z⟩=J (O U v.h1):=za lh.out 4 rfl;have x5:W9.cell? ⟨w5.heap.size,5,Z⟩=J (O U v.h2):=za lh.out 5 rfl;have x6:W9.cell? ⟨w5.heap.size,6,Z⟩=J (O U v.h3):=za lh.out 6 rfl;have x7:W9.cell? ⟨w5.heap.size,7,Z⟩=J (O U v.h4):=za lh.out 7 rfl;clear hv CM D' hT aQ Q9;go_wp2_with fail
  all_goals first | (exfalso;omega) | skip
  refine NU.out.mono ?_;rintro e cZ Ei;obtain⟨A3,k3,rfl,Mo,Ff,aX⟩:=put_out Ei FS.out.tb FS.out.big;have sN:=Lc dj.out aX;have aQ:=(HQ.out.on sN).sys;rw[nQ.out] at aQ;have s7:cZ.cell? ⟨w.heap.size+1+1,7,Z⟩=J (O U p.t.n):=za aQ 7 rfl;have s8:cZ.cell? ⟨w.heap.size+1+1,8,Z⟩=J (.slice AV (zY f vk q).1.length kv):=za aQ 8 rfl;have f7:=zb aQ 7;have f8:=zb aQ 8;have BZ:=zH aQ;obtain⟨tN,rK⟩:=Kh ((xn (zY f vk q).1 v).1);obtain⟨iz,KA⟩:=Kh ((xn (zY f vk q).1 v).2);rw[rK] at Mo Ff;have Hn:=zH rK;have Ul:=zH KA;have rp:=zH Mo;have TT:=zH Ff;have CA:=zH sN;have lO:=sN.size;have EX:=HQ.out.bsl;rw[rK,KA];clear Ei Mo Ff aX sN aQ rK KA NU x0 x1 x2 x3 x4 x5 x6 x7 lh;obtain⟨tv,Fe,Hf,y',BH⟩:=zh cZ #[O U p.t.n,I A3 tN.length k3] 36;have pg:=zH Fe;have sL:Ap (Am wr.heap.size wr tv):=CA.out.trans (BH.mono lO);have t0:tv.cell? ⟨cZ.heap.size,0,Z⟩=J (O U p.t.n):=za Hf 0 rfl;have t1:tv.cell? ⟨cZ.heap.size,1,Z⟩=J (I A3 tN.length k3):=za Hf 1 rfl;have aQ:=(HQ.out.on sL.out).sys;rw[nQ.out] at aQ;have e7:tv.cell? ⟨w.heap.size+1+1,7,Z⟩=J (O U p.t.n):=za aQ 7 rfl;have e8:tv.cell? ⟨w.heap.size+1+1,8,Z⟩=J (.slice AV (zY f vk q).1.length kv):=za aQ 8 rfl;have fe7:=zb aQ 7;have fe8:=zb aQ 8;have Sz:w.heap.size+1+1<tv.heap.size:=by omega
  have sw:=zH (Bq.put HQ.out sL.out (u:=O U p.t.n) (rp.out.of_same fun k hk=>BH.block k (rp.out.lt' k hk).2) (fun k hk=>by
   rcases TT.out k hk with e | e
   . exact .inl e
   . exact .inr (by have:=dj.out.size;omega)) (by rw[nQ.out];rfl) (by rw[nQ.out];rfl))
  obtain⟨Fz,se⟩:=Kh ((tv.setCell ⟨w.heap.size+1+1,7,Z⟩ (O U p.t.n)).setCell ⟨w.heap.size+1+1,8,Z⟩ (I A3 tN.length k3));rw[se] at sw;have MV:=zH se;have DT:Fz.heap.size=tv.heap.size:=by rw[<-se];simp
  have H8:Ap ((Fz.alloc (Ag #[O U iz] 3)).heap[cZ.heap.size+1]?=J (Ag #[O U iz] 3 (0,0))):=by show _=_;rw[<-y',<-DT];exact zj Fz _
  have Nv:=zH (sw.out.row.alloc (Ag #[O U iz] 3));have HDY:=zH sw.out.big
  have Ca:Ap (zY f vk (q+1)=(tN,(zY f vk q).2++[iz])):=by
   show(_,_)=_;rw[Up.out,Hn.out,Ul.out]
  clear Fe Hf BH aQ se s7 s8 f7 f8 BZ rp TT Hn Ul Up FS;go_simp;rename_i iO;refine iO _ _ ?_;clear iO;refine LU rfl fun K5 bU=>?_
  go_simp;refine bU _ _ ?_;clear bU K5;refine LU rfl fun K5 bU=>?_
  go_simp;refine bU _ _ ?_;clear bU K5;refine LU rfl fun K5 bU=>?_
  go_simp;refine bU _ _ ?_;clear bU K5;refine LU rfl fun K5 bU=>?_
  go_simp;refine bU _ _ ?_;clear bU K5;refine LU rfl fun K5 bU=>?_
  go_simp;rw[pg.out];refine bU _ _ ?_;clear bU K5 pg;have Nx:Ap ((zY f vk q).2.length<=1000000000):=by show _<=_;rw[NC.out];omega
  have HDZ:Ap (D<=(Fz.alloc (Ag #[O U iz] 3)).heap.size):=by show _<=_;have:=HDY.out;simp;omega
  go_wp2_with (at_builtin;go_loud (rw[MV.out];refine yJ Qg rfl (.tmp 99) (.tmp 101) rfl D (.slice AL (zY f vk q).2.length kl) (zY f vk q).2.length ((zY f vk q).2.map (O U)) rfl Nv.out (cZ.heap.size+1) #[O U iz] rfl H8.out rfl (by simp[Value.oneCell']) Nx.out HDZ.out _ rfl ?_;intro g' cap UJ lQ fD dp oO;have HPS:=zH (Bq.push sw.out (zN Fz _) lQ fD dp);clear lQ fD dp))
  go_roundw
  case rel=>exact⟨q+1,_,by omega,by go_num,by rw[Ca.out];exact HPS.out⟩
  case measure=>simp[Ao];omega
end
section
open Go.RowKit
attribute [local go_sem] Oper.semAt_some
theorem num_many{p:Pb}(h:zL p=0):4096<gE p↔4096<zT p:=by
 obtain⟨dI,_⟩:=zM h;obtain⟨h1,_⟩:=yv dI;have e:zT p=p.t.cases.length*zU p.a p.k.toNat 0:=by unfold zT;rw[Pa]
 rw[e];exact QM 4096 p.t.cases.length (zU p.a p.k.toNat 0) h1
theorem wl(p:Pb)(hf:xN p)(A:Bb)(kc:Nat)(SV:Bb)(ks:Nat)(w:Ba)(hA:CAt w w.heap.size A p.t.cases)(hS:SAt w w.heap.size SV p.a.sts) :
  An Al 49 #[.agg (p.vs A kc SV ks)] w (RetSys (zP p) w):=by
 have HC:=zH (fun (w':Ba) (h1:CAt w' w'.heap.size A p.t.cases) (h2:SAt w' w'.heap.size SV p.a.sts)=>vW p hf.1 A kc SV ks w' h1 h2)
 have HN:=zH (fun (w':Ba) (h0:zL p=0) (h:SAt w' w'.heap.size SV p.a.sts)=>
  hP p hf.1 (yG hf.1.2 (zM h0).2.1).1 (yG hf.1.2 (zM h0).2.1).2.1 p.k.toNat 4096 (by have:=(zM h0).2.2.2.1;omega) (by have:=(zM h0).2.2.2.2;omega) (by decide) A kc SV ks w' h)
 have HB:=zH (fun (h0:zL p=0) (dt:zT p<=60) (w':Ba) (h1:CAt w' w'.heap.size A p.t.cases) (h2:SAt w' w'.heap.size SV p.a.sts)=>built_any p hf h0 dt A kc SV ks w' h1 h2);have sI:=zH (@yF p);have le:=zH (@yO p);have FV:=zH (@xM p);have FW:=zH (@num_many p);have ia:=zH hf.2;obtain⟨R,hR⟩:=Kh (zP p);rw[hR] at sI le FV ⊢;obtain⟨w1,ac,d0,d1,aA,aG⟩:=yr w (p.vs A kc SV ks) #[O U 0,O U 0,O U 0,I Z 0 0,O U 0,I Z 0 0,O U 0,O U 0,I Z 0 0,I Z 0 0] 29 39;have DA:=zH hA;have HSW:=zH hS;have HA:=zH ((hA.keep aG).more aG.size);have HS:=zH ((hS.keep aG).more aG.size);unfold Pb.vs at ac d0 ⊢;have ah:=zH ac;have bD:=zH d0;have cH:=zH d1;have dk:=zH aG;obtain⟨p0,p1,p2,p3,p4,p5,p6,_⟩:=Kf d0;obtain⟨E,hE⟩:=Kh (zL p);have rm:=zH hE;rw[hE] at HC sI;obtain⟨M,hM⟩:=Kh (p.t.cases.length*yy 4096 (zU p.a p.k.toNat 0));have nS:Ap (gE p=M):=hM;rw[hM] at HN;clear ac d0 d1 aG hA hS hf hR hE hM;go_enter func49,ntmps49;go_wp2_with fail;rw[ah.out];go_wp2_with fail;refine(HC.out w1 HA.out HS.out).mono ?_;rintro e w2 ⟨rfl,af⟩;have B2:=zH (dk.out.trans (af.mono (by omega)));have CC:=zH ((HA.out.keep af).more af.size);have cI:=zH ((HS.out.keep af).more af.size);have ef:=af.size;have d0:=La af bD.out;have d1:=La af cH.out;have dN:=zH d0;have aq:=zH d1;clear af HC ah bD cH HA HS p0 p1 p2 p3 p4 p5 p6
 obtain⟨p0,p1,p2,p3,p4,p5,p6,_⟩:=Kf d0
 by_cases h0:E=0
 case neg=>
  have hR:=zH (sI.out h0);have e0:(E != 0)=Ar:=by simpa using h0
  have y0:=za d1 0 rfl;have f0:=zb d1 0;have y1:=za d1 1 rfl;have f1:=zb d1 1;have y2:=za d1 2 rfl;have f2:=zb d1 2;have y3:=za d1 3 rfl;have f3:=zb d1 3;have y4:=za d1 4 rfl;have f4:=zb d1 4;have y5:=za d1 5 rfl;have f5:=zb d1 5;have y6:=za d1 6 rfl;have f6:=zb d1 6;have y7:=za d1 7 rfl;have f7:=zb d1 7;have y8:=za d1 8 rfl;have f8:=zb d1 8;have y9:=za d1 9 rfl;have f9:=zb d1 9;obtain⟨k1,k2,k3⟩:=qw (O U 0) (O U 0) (O U 0) (I Z 0 0) (O U 0) (I Z 0 0) (O U 0) (O U 0) (I Z 0 0) (I Z 0 0) d1 B2.out (by omega:w.heap.size<=w.heap.size+1);obtain⟨WF,dy⟩:=Kh (((((((((((w2.setCell ⟨w.heap.size+1,0,Z⟩ (O U 0)).setCell ⟨w.heap.size+1,1,Z⟩ (O U 0)).setCell ⟨w.heap.size+1,2,Z⟩ (O U 0)).setCell ⟨w.heap.size+1,3,Z⟩ (I Z 0 0)).setCell ⟨w.heap.size+1,4,Z⟩ (O U 0)).setCell ⟨w.heap.size+1,5,Z⟩ (I Z 0 0)).setCell ⟨w.heap.size+1,6,Z⟩ (O U 0)).setCell ⟨w.heap.size+1,7,Z⟩ (O U 0)).setCell ⟨w.heap.size+1,8,Z⟩ (I Z 0 0)).setCell ⟨w.heap.size+1,9,Z⟩ (I Z 0 0)));rw[dy] at k1 k2 k3;have nT:=zH k1;have fI:=zH k2;have Hx:=zH k3;have st:=zH dy;clear k1 k2 k3 dy;clear le FV FW HN HB ia h0 d0 d1;go_wp2_with fail;rw[st.out];obtain⟨z0,z1,z2,z3,z4,z5,z6,z7,z8,z9⟩:=zK nT.out
  refine L6 (v:=.tuple #[Ai #[O U 0,O U 0,O U 0,I Z 0 0,O U 0,I Z 0 0,O U 0,O U 0,I Z 0 0,I Z 0 0],O U E]) (by simp[results,results49,go_sem,z0,z1,z2,z3,z4,z5,z6,z7,z8,z9]) rfl ?_;rw[hR.out];exact RetSys.zero _ fI.out
 case pos=>
 subst h0;clear sI;go_wp2_with fail;refine(HN.out w2 rm.out cI.out).mono ?_;rintro e w3 ⟨rfl,am⟩;have B3:=zH (B2.out.trans (am.mono (by omega)));have sM:=zH ((CC.out.keep am).more am.size);have mP:=zH ((cI.out.keep am).more am.size);have ij:=am.size;have d0:=La am dN.out;have d1:=La am aq.out;have sG:=zH d0;have fg:=zH d1;clear am HN dN aq CC cI p0 p1 p2 p3 p4 p5 p6
 by_cases hm:4096<M
 case pos=>
  have hR:=zH (le.out rm.out ((FW.out rm.out).1 (by rw[nS.out];exact hm)));have Vm:(4096:Int)<(M:Int):=by omega
  have y0:=za d1 0 rfl;have f0:=zb d1 0;have y1:=za d1 1 rfl;have f1:=zb d1 1;have y2:=za d1 2 rfl;have f2:=zb d1 2;have y3:=za d1 3 rfl;have f3:=zb d1 3;have y4:=za d1 4 rfl;have f4:=zb d1 4;have y5:=za d1 5 rfl;have f5:=zb d1 5;have y6:=za d1 6 rfl;have f6:=zb d1 6;have y7:=za d1 7 rfl;have f7:=zb d1 7;have y8:=za d1 8 rfl;have f8:=zb d1 8;have y9:=za d1 9 rfl;have f9:=zb d1 9;obtain⟨k1,k2,k3⟩:=qw (O U 0) (O U 0) (O U 0) (I Z 0 0) (O U 0) (I Z 0 0) (O U 0) (O U 0) (I Z 0 0) (I Z 0 0) d1 B3.out (by omega:w.heap.size<=w.heap.size+1);obtain⟨WF,dy⟩:=Kh (((((((((((w3.setCell ⟨w.heap.size+1,0,Z⟩ (O U 0)).setCell ⟨w.heap.size+1,1,Z⟩ (O U 0)).setCell ⟨w.heap.size+1,2,Z⟩ (O U 0)).setCell ⟨w.heap.size+1,3,Z⟩ (I Z 0 0)).setCell ⟨w.heap.size+1,4,Z⟩ (O U 0)).setCell ⟨w.heap.size+1,5,Z⟩ (I Z 0 0)).setCell ⟨w.heap.size+1,6,Z⟩ (O U 0)).setCell ⟨w.heap.size+1,7,Z⟩ (O U 0)).setCell ⟨w.heap.size+1,8,Z⟩ (I Z 0 0)).setCell ⟨w.heap.size+1,9,Z⟩ (I Z 0 0)));rw[dy] at k1 k2 k3;have nT:=zH k1;have fI:=zH k2;have Hx:=zH k3;have st:=zH dy;clear k1 k2 k3 dy;clear le FV FW HB ia d0 d1;go_wp2_with fail;rw[st.out];obtain⟨z0,z1,z2,z3,z4,z5,z6,z7,z8,z9⟩:=zK nT.out
  refine L6 (v:=.tuple #[Ai #[O U 0,O U 0,O U 0,I Z 0 0,O U 0,I Z 0 0,O U 0,O U 0,I Z 0 0,I Z 0 0],O U 17]) (by simp[results,results49,go_sem,z0,z1,z2,z3,z4,z5,z6,z7,z8,z9]) rfl ?_;rw[hR.out];exact RetSys.zero _ fI.out
 case neg=>
 have CX:¬(4096<zT p):=fun h=>hm (by rw[<-nS.out];exact(FW.out rm.out).2 h)
 have dt:zT p<=60:=by
  rcases ia.out rm.out with h | h
  . exact h
  exact absurd h CX
 have hR:=zH (FV.out rm.out (by omega));have Vm:¬((4096:Int)<(M:Int)):=by omega
 have Uz:=zH (HB.out rm.out dt w3 sM.out mP.out);have Cp:=zH (ZE p rm.out dt).1;obtain⟨p0,p1,p2,p3,p4,p5,p6,_⟩:=Kf d0;clear le FV FW HB ia CX dt d0 d1 nS;go_wp2_with fail
 all_goals first | (exfalso;omega) | skip
 refine Uz.out.mono ?_;rintro e w4 ⟨AV,kv,AE,ke,rfl,hV,hX,bq⟩;have B4:=zH (B3.out.trans (bq.mono (by omega)));have MZ:=zH hV;have MX:=zH hX;have mC:=bq.size;have d1:=La bq fg.out;have HG1:=zH d1;have CB:=zH ((sM.out.keep bq).more bq.size);have su:=zH ((mP.out.keep bq).more bq.size);clear hV hX bq Uz sG fg p0 p1 p2 p3 p4 p5 p6 d1;obtain⟨W5,mM,b5,iV,lA⟩:=zh w4 #[O U p.t.n,O U p.t.ins,O U p.t.outs,I A p.t.cases.length kc,O U p.a.n,I SV p.a.sts.length ks,O U p.k,O U p.t.n,.slice AV (zx p (zu p)).1.length kv,.slice AE (zx p (zu p)).2.length ke] 39;have d1:=La lA HG1.out;have B5:=zH (B4.out.trans (lA.mono (by omega)));have aW:=zH lA;have BP:=zH mM;obtain⟨x0,x1,x2,x3,x4,x5,x6,x7,x8,x9⟩:=zK b5;have hfv:¬((8192:Int)<((zx p (zu p)).1.length:Int)):=by have:=Cp.out;omega
 clear mM lA b5;go_simp;rename_i iO;refine iO _ _ ?_;clear iO;refine LU rfl fun K5 bU=>?_
 go_simp;refine bU _ _ ?_;clear bU K5;refine LU rfl fun K5 bU=>?_
 go_simp;rw[BP.out];refine bU _ _ ?_;clear bU K5 BP;have y0:=za d1 0 rfl;have f0:=zb d1 0;have y1:=za d1 1 rfl;have f1:=zb d1 1;have y2:=za d1 2 rfl;have f2:=zb d1 2;have y3:=za d1 3 rfl;have f3:=zb d1 3;have y4:=za d1 4 rfl;have f4:=zb d1 4;have y5:=za d1 5 rfl;have f5:=zb d1 5;have y6:=za d1 6 rfl;have f6:=zb d1 6;have y7:=za d1 7 rfl;have f7:=zb d1 7;have y8:=za d1 8 rfl;have f8:=zb d1 8;have y9:=za d1 9 rfl;have f9:=zb d1 9;obtain⟨k1,k2,k3⟩:=qw (O U p.t.n) (O U p.t.ins) (O U p.t.outs) (I A p.t.cases.length kc) (O U p.a.n) (I SV p.a.sts.length ks) (O U p.k) (O U p.t.n) (.slice AV (zx p (zu p)).1.length kv) (.slice AE (zx p (zu p)).2.length ke) d1 B5.out (by omega:w.heap.size<=w.heap.size+1);obtain⟨WF,dy⟩:=Kh (((((((((((W5.setCell ⟨w.heap.size+1,0,Z⟩ (O U p.t.n)).setCell ⟨w.heap.size+1,1,Z⟩ (O U p.t.ins)).setCell ⟨w.heap.size+1,2,Z⟩ (O U p.t.outs)).setCell ⟨w.heap.size+1,3,Z⟩ (I A p.t.cases.length kc)).setCell ⟨w.heap.size+1,4,Z⟩ (O U p.a.n)).setCell ⟨w.heap.size+1,5,Z⟩ (I SV p.a.sts.length ks)).setCell ⟨w.heap.size+1,6,Z⟩ (O U p.k)).setCell ⟨w.heap.size+1,7,Z⟩ (O U p.t.n)).setCell ⟨w.heap.size+1,8,Z⟩ (.slice AV (zx p (zu p)).1.length kv)).setCell ⟨w.heap.size+1,9,Z⟩ (.slice AE (zx p (zu p)).2.length ke)));rw[dy] at k1 k2 k3;have nT:=zH k1;have fI:=zH k2;have Hx:=zH k3;have st:=zH dy;clear k1 k2 k3 dy;clear d1;go_wp2_with fail;rw[st.out]
 obtain⟨z0,z1,z2,z3,z4,z5,z6,z7,z8,z9⟩:=zK nT.out;refine L6 (v:=.tuple #[Ai #[O U p.t.n,O U p.t.ins,O U p.t.outs,I A p.t.cases.length kc,O U p.a.n,I SV p.a.sts.length ks,O U p.k,O U p.t.n,.slice AV (zx p (zu p)).1.length kv,.slice AE (zx p (zu p)).2.length ke],O U 0]) (by simp[results,results49,go_sem,z0,z1,z2,z3,z4,z5,z6,z7,z8,z9]) rfl ?_;rw[hR.out];have dY:∀k,k≠w.heap.size+1->k<w4.heap.size->WF.heap[k]?=w4.heap[k]?:=fun k a b=>(Hx.out.2.1 k a).trans (aW.out.block k b)
 have hz:w4.heap.size<=WF.heap.size:=by have:=aW.out.size;have:=Hx.out.2.2;omega
 obtain⟨DB,CI,eV,hT⟩:=(MZ.out.of_same fun k hk=>dY k (by have:=(MZ.out.lt' k hk).1;omega) (MZ.out.lt' k hk).2).form (by have:=Cp.out;omega)
 cases eV
 obtain⟨OR,Ir,eE,_,_,GS,_⟩:=kZ (MX.out.keep zJ ⟨hz,fun k hs hl=>dY k (by omega) hl⟩ fun k hk=>dY k (by have:=(MX.out.lt k hk).1;omega) (MX.out.lt k hk).2)
 cases eE
 exact⟨A,kc,SV,ks,AV,kv,AE,ke,rfl,⟨(DA.out.keep fI.out).more fI.out.size,(HSW.out.keep fI.out).more fI.out.size,hT.rows,GS⟩,hT.lec,hT.lem,fI.out⟩
theorem rver_any(s:Sy)(hs:LowS s)(hf:xN s.p)(A SV AV AX:Bb)(kc ks kv kx:Nat)(w:Ba)(hS:SyAt w w.heap.size A SV AV AX s) :
  An Al 50 #[.agg (s.vs_ A kc SV ks AV kv AX kx)] w fun e w'=>e=Ak (O U (yb s))/\Am w.heap.size w w':=by
 obtain⟨w1,ac⟩:=Kh (w.alloc (Ag (s.vs_ A kc SV ks AV kv AX kx) 39));have aM:=zj w (Ag (s.vs_ A kc SV ks AV kv AX kx) 39);have al:Am w.heap.size w w1:=by rw[<-ac];exact zN w _
 have df:w1.heap.size=w.heap.size+1:=by rw[<-ac];simp
 rw[ac] at aM;have d':=zH (hS.up al);have HB:=zH (wl s.p hf A kc SV ks w1 (hS.up al).fc (hS.up al).fs);have po:=zH (qU hs.fp hf);have rr:=zH hs;have mm:Ap (yb s=if (zP s.p).2≠0 then (zP s.p).2 else if s=(zP s.p).1 then 0 else 3):=rfl
 have bL:=zH (fun (h:(zP s.p).2=0)=>(by
  by_cases h0:zL s.p=0
  case neg=>rw[yF h0] at h;exact absurd h h0
  case pos=>
   by_cases h1:4096<zT s.p
   . rw[yO h0 h1] at h;cases h
   . rw[xM h0 (by omega)];exact⟨rfl,rfl⟩:(zP s.p).1.p=s.p/\(zP s.p).1.n=s.p.t.n))
 unfold Sy.vs_ at ac aM ⊢;unfold Pb.vs at HB;have ah:=zH ac;have bE:=zH aM;have aZ:=zH al;obtain⟨R,hR⟩:=Kh (zP s.p);rw[hR] at HB po mm bL;obtain⟨r,hr⟩:=Kh (yb s);rw[hr] at mm ⊢;clear ac aM al hS hs hf hR hr;go_enter func50,ntmps50;go_wp2_with fail;rw[ah.out];go_wp2_with fail;refine HB.out.mono ?_;rintro e w2 ⟨A2,dX,dz,dW,sP,rG,sO,rF,rfl,Bw,DQ,DP,af⟩;obtain⟨T,E⟩:=R;obtain⟨W3,dE,b3,ij,cW⟩:=zh w2 (T.vs_ A2 dX dz dW sP rG sO rF) 39;have mP:=zH (Bw.up cW);have bk:=zH (aZ.out.trans ((Lc af cW).mono (by omega)));have ef:=af.size;have d0:=Lb cW (by omega:w.heap.size<w2.heap.size) (Lb af (by omega:w.heap.size<w1.heap.size) bE.out);have sv:=zH ((d'.out.up af).up cW);unfold Sy.vs_ at dE b3 ⊢;have nP:=zH dE;have Cv:=zH b3;clear af Bw DQ DP cW dE HB ah d' bE;dsimp only at mm bL po mP;go_simp;rename_i iO;refine iO _ _ ?_;clear iO;refine LU rfl fun K5 bU=>?_
 go_simp;refine bU _ _ ?_;clear bU K5;refine LU rfl fun K5 bU=>?_
 go_simp;refine bU _ _ ?_;clear bU K5;refine LU rfl fun K5 bU=>?_
 go_simp;refine bU _ _ ?_;clear bU K5;refine LU rfl fun K5 bU=>?_
 go_simp;refine bU _ _ ?_;clear bU K5;refine LU rfl fun K5 bU=>?_
 go_simp;rw[nP.out];refine bU _ _ ?_;clear bU K5
 by_cases h0:E=0
 case neg=>
  have e0:(E != 0)=Ar:=by simpa using h0
  have hR:Ap (r=E):=mm.out.trans (Lo h0);clear mm bL h0 d0 b3;go_wp2_with fail;go_ret;exact⟨zd hR.out.symm,bk.out⟩
 case pos=>
 subst h0;obtain⟨Fg,tl⟩:=bL.out rfl;have pX:r=if s=T then 0 else 3:=mm.out.trans (Li (by simp));have H3:Ap (s≠T->r=3):=fun h=>pX.trans (Li h)
 have H0:Ap (s=T->r=0):=fun h=>pX.trans (Lo h)
 have M7:=zH Fg;have tK:=zH (@sy_eq s T);have Di:=zH (XI s T rr.out po.out A SV AV AX A2 dz sP sO kc ks kv kx dX dW rG rF W3 sv.out mP.out);have x0:W3.cell? ⟨w.heap.size,0,Z⟩=J (O U s.p.t.n):=za d0 0 rfl;have y0:W3.cell? ⟨w2.heap.size,0,Z⟩=J (O U T.p.t.n):=za b3 0 rfl;have x1:W3.cell? ⟨w.heap.size,1,Z⟩=J (O U s.p.t.ins):=za d0 1 rfl;have y1:W3.cell? ⟨w2.heap.size,1,Z⟩=J (O U T.p.t.ins):=za b3 1 rfl;have x2:W3.cell? ⟨w.heap.size,2,Z⟩=J (O U s.p.t.outs):=za d0 2 rfl;have y2:W3.cell? ⟨w2.heap.size,2,Z⟩=J (O U T.p.t.outs):=za b3 2 rfl;have x3:W3.cell? ⟨w.heap.size,3,Z⟩=J (I A s.p.t.cases.length kc):=za d0 3 rfl;have y3:W3.cell? ⟨w2.heap.size,3,Z⟩=J (I A2 T.p.t.cases.length dX):=za b3 3 rfl;have x4:W3.cell? ⟨w.heap.size,4,Z⟩=J (O U s.p.a.n):=za d0 4 rfl;have y4:W3.cell? ⟨w2.heap.size,4,Z⟩=J (O U T.p.a.n):=za b3 4 rfl;have x5:W3.cell? ⟨w.heap.size,5,Z⟩=J (I SV s.p.a.sts.length ks):=za d0 5 rfl;have y5:W3.cell? ⟨w2.heap.size,5,Z⟩=J (I dz T.p.a.sts.length dW):=za b3 5 rfl;have x6:W3.cell? ⟨w.heap.size,6,Z⟩=J (O U s.p.k):=za d0 6 rfl;have y6:W3.cell? ⟨w2.heap.size,6,Z⟩=J (O U T.p.k):=za b3 6 rfl;have x7:W3.cell? ⟨w.heap.size,7,Z⟩=J (O U s.n):=za d0 7 rfl;have y7:W3.cell? ⟨w2.heap.size,7,Z⟩=J (O U T.n):=za b3 7 rfl
 have x8:W3.cell? ⟨w.heap.size,8,Z⟩=J (I AV s.vs.length kv):=za d0 8 rfl;have y8:W3.cell? ⟨w2.heap.size,8,Z⟩=J (I sP T.vs.length rG):=za b3 8 rfl;have x9:W3.cell? ⟨w.heap.size,9,Z⟩=J (I AX s.xs.length kx):=za d0 9 rfl;have y9:W3.cell? ⟨w2.heap.size,9,Z⟩=J (I sO T.xs.length rF):=za b3 9 rfl;unfold Sy.vs_ at Di;clear Fg tl pX mm bL d0 b3 po rr M7 tK;go_wp2_with fail;refine Di.out.mono ?_;rintro e w4 ⟨rfl,bq⟩;have B4:=zH (bk.out.trans (bq.mono (by omega)));clear bq Di x0 x1 x2 x3 x4 x5 x6 x7 x8 x9 y0 y1 y2 y3 y4 y5 y6 y7 y8 y9
 by_cases h2:s=T
 case neg=>
  have hR:=zH (H3.out h2);rw[Ln h2];clear H3 H0 h2;go_wp2_with fail;go_ret;exact⟨zd hR.out.symm,B4.out⟩
 have hR:=zH (H0.out h2);rw[Lm h2];clear H3 H0 h2;go_wp2_with fail;go_ret;exact⟨zd hR.out.symm,B4.out⟩
def xW(p:Pb):Bool:=xA p&&decide ((zP p).2=0)
theorem JB(p:Pb)(hl:gu p)(A:Bb)(kc:Nat)(SV:Bb)(ks:Nat)(w:Ba)(hA:CAt w w.heap.size A p.t.cases)(hS:SAt w w.heap.size SV p.a.sts) :
  An Al 14 #[.agg (p.vs A kc SV ks)] w fun e w'=>e=Ak (Ah (xW p))/\Am w.heap.size w w':=by
 obtain⟨w1,ac⟩:=Kh (w.alloc (Ag (p.vs A kc SV ks) 29));have aM:=zj w (Ag (p.vs A kc SV ks) 29);have al:Am w.heap.size w w1:=by rw[<-ac];exact zN w _
 have df:w1.heap.size=w.heap.size+1:=by rw[<-ac];simp
 rw[ac] at aM;have HF:=zH (few_any p hl A kc SV ks w1 ((hA.keep al).more al.size) ((hS.keep al).more al.size));have sJ:=zH (fun (h:xA p=Ar) (X:Ba) (hX:Am w1.heap.size w1 X)=>wl p (few_x h).1 A kc SV ks X ((((hA.keep al).more al.size).keep hX).more hX.size) ((((hS.keep al).more al.size).keep hX).more hX.size));have mo:Ap (xW p=(xA p&&decide ((zP p).2=0))):=rfl;obtain⟨r,hr⟩:=Kh (xW p);rw[hr] at mo ⊢;obtain⟨R,hR⟩:=Kh (zP p);rw[hR] at sJ mo;obtain⟨b,hb⟩:=Kh (xA p);rw[hb] at HF sJ mo;unfold Pb.vs at ac aM HF sJ ⊢;have ah:=zH ac;have bE:=zH aM;have aZ:=zH al;have p5:=za aM 5 rfl;have p6:=za aM 6 rfl;clear ac aM al hA hS hl hr hR hb;go_enter func14,ntmps14;go_wp2_with fail;rw[ah.out];go_wp2_with fail;refine HF.out.mono ?_;rintro e w2 ⟨rfl,af⟩;have aP:=zH (aZ.out.trans (af.mono (by omega)));have d0:=Lb af (by omega:w.heap.size<w1.heap.size) bE.out;have ef:=af.size
 cases b with
 | false=>
  have Mi:Ap (r=As):=mo.out;clear mo sJ HF p5 p6 d0 af bE ah;go_wp2_with fail;go_ret;exact⟨ze Mi.out.symm,aP.out⟩
 | true=>
  have bk:=zH (sJ.out rfl w2 af);have Mi:Ap (r=decide (R.2=0)):=mo.out;clear p5 p6 af sJ HF bE ah mo;obtain⟨p0,p1,p2,p3,p4,p5,p6,_⟩:=Kf d0;clear d0;go_wp2_with fail;refine bk.out.mono ?_;rintro e w3 ⟨A2,dX,dz,dW,sP,rG,sO,rF,rfl,Bw,DQ,DP,am⟩;obtain⟨T,E⟩:=R;have nz:=zH (aP.out.trans ((am.trans (zN w3 (Ag (T.vs_ A2 dX dz dW sP rG sO rF) 39) |>.mono am.size)).mono (by omega)));unfold Sy.vs_ at nz ⊢;clear am Bw DQ DP bk p5 p6;go_wp2_with fail;go_ret;exact⟨ze (by rw[Mi.out];first | rfl | exact Z3 Iff.rfl | (rw[NG];simp)),nz.out⟩
def uf(N:Nat)(x:Exn):Int:=match x.word.getLast? with
 | none=>2^N-1
 | some r=>bits BinOp.andNot U (2^N-1) r.f
theorem Zf{N:Nat}{x:Exn}(h:x.word.length=0):uf N x=2^N-1:=by
 unfold uf;rw[LA h];rfl
theorem Zg{N:Nat}{x:Exn}{k:Nat}(h:x.word.length=k+1):uf N x=bits BinOp.andNot U (2^N-1) (x.word[k]'(by omega)).f:=by
 have e:x.word.getLast?=J (x.word[k]'(by omega)):=by
  rw[RM,show x.word.length-1=k by omega,Lf (by omega)]
 unfold uf;rw[e]
theorem round_f{r:Rd}(h:zS r=0):∃f:Nat,r.f=(f:Int)/\f<32:=xr (m:=⟨r,0⟩) h
theorem QE(N f:Nat)(h1:1<=N)(h5:N<=5)(hf:f<32):∃m:Nat,bits BinOp.andNot U (2^N-1) (f:Int)=(m:Int)/\m<32:=by
 have key:∀N:Nat,N<6->(ja fun f=>decide (0<=bits BinOp.andNot U ((2:Int)^N-1) (f:Int)/\bits BinOp.andNot U ((2:Int)^N-1) (f:Int)<32))=Ar:=by decide +kernel
 have h:=Lw (xp (key N (by omega)) hf);exact⟨(bits BinOp.andNot U ((2:Int)^N-1) (f:Int)).toNat,by omega,by omega⟩
theorem mask_nat{N:Nat}{x:Exn}(h1:1<=N)(h5:N<=5)(hx:∀r∈x.word,zS r=0/\r.n=(N:Int)):∃m:Nat,uf N x=(m:Int)/\m<32:=by
 rcases LX x.word.length with h | h
 . rw[Zf h]
   have key:∀N:Nat,N<6->(0:Int)<=2^N-1/\(2:Int)^N-1<32:=by decide
   obtain⟨a,b⟩:=key N (by omega);exact⟨((2:Int)^N-1).toNat,by omega,by omega⟩
 obtain⟨k,hk⟩:∃k,x.word.length=k+1:=⟨x.word.length-1,by omega⟩;rw[Zg hk];obtain⟨f,e,hf⟩:=round_f (hx _ (Ld (by omega:k<x.word.length))).1;rw[e];exact QE N f h1 h5 hf
theorem xj{s:Sy}(hf:xN s.p)(h:yb s=0):s=zz s.p/\∃K N,Fine s K N:=by
 unfold yb at h
 by_cases h1:(zP s.p).2≠0
 . rw[Lo h1] at h;exact absurd h h1
 rw[Li h1] at h
 by_cases h2:s=(zP s.p).1
 · have h0 : zL s.p = 0 := by
    by_cases h0:zL s.p=0
    . exact h0
    rw[yF h0] at h1;exact absurd h0 h1
   have hm:¬4096<zT s.p:=fun hm=>by rw[yO h0 hm] at h1;exact h1 (by decide)
   rw[xM h0 (by omega)] at h2;obtain⟨K,N,hF⟩:=gh hf h0 (by rcases hf.2 h0 with h | h;exact h;exact absurd h hm);exact⟨h2,K,N,by rw[h2];exact hF⟩
 rw[Li h2] at h;cases h
def ku(bs:List Bool):Array Aq:=(bs.map Ah).toArray
theorem boolA_set(bs:List Bool)(i:Nat)(b:Bool):(ku bs).setIfInBounds i (Ah b)=ku (bs.set i b):=by
 unfold ku;rw[List.setIfInBounds_toArray,List.map_set]
theorem gj(bs:List Bool)(i:Nat)(h:i<bs.length):(ku bs)[i]?=J (Ah bs[i]):=by
 unfold ku;simp[h]
def kBo:Kd:=⟨4,45,1,1,Ah As⟩
theorem kBo_ok:KdOk Al kBo:=⟨N7,by kernel_rfl,by rfl,by decide,by decide⟩
theorem X7(n:Nat):madeCells #[Ah As] (n*1)=ku (List.replicate n As):=by
 unfold madeCells ku;apply Array.ext
 . simp
 intro i h1 h2;simp[Nat.mod_one]
theorem wI(n:Nat)(hn:n<=100000)(W:Ba):(Instr.makeSlice 45 (O U n) (O U n)).run Al W=.ok (I (J ⟨W.heap.size,0,Z⟩) n n) (W.alloc (Ag (ku (List.replicate n As)) 4)):=by
 obtain⟨i0,hi,cU,bN,cK⟩:=yu kBo_ok;have hb:i0.bytes=1:=cK;have hs:i0.size=1:=bN;have h:=run_make (P:=Al) W 45 4 i0 (Ah As) N7 hi cU U U (n:Int) (n:Int) (by omega) (Int.le_refl _) (by rw[hb];omega) (by omega);rw[h,hs];simp only[Int.toNat_natCast];rw[show(Ah As).cells=#[Ah As] from rfl,X7]
end
section
open Go.RowKit
def kBl:Kd:=⟨4,45,1,1,Ah As⟩
theorem kBl_ok:KdOk Al kBl:=⟨N7,by kernel_rfl,by rfl,by decide,by decide⟩
section
variable {w w':Ba} {B B':Nat} {A:Bb}
def BAt(w:Ba)(B:Nat)(A:Bb)(bs:List Bool):Prop:=
 0<bs.length->∃b off,A=J ⟨b,off,Z⟩/\b<B/\∀(i:Nat) (hi:i<bs.length),w.cell? ⟨b,off+i,Z⟩=J (Ah bs[i])
theorem BAt.keep{bs:List Bool}(h:BAt w B A bs)(hb:Am B w w'):BAt w' B A bs:=fun h0=>by
 obtain⟨b,off,e,aa,hc⟩:=h h0;exact⟨b,off,e,aa,fun i hi=>(hb.cell (p:=⟨b,_,Z⟩) aa).trans (hc i hi)⟩
theorem BAt.more{bs:List Bool}(h:BAt w B A bs)(hB:B<=B'):BAt w B' A bs:=fun h0=>by
 obtain⟨b,off,e,aa,hc⟩:=h h0;exact⟨b,off,e,by omega,hc⟩
theorem BAt.at_{bs:List Bool}(h:BAt w B A bs)(i:Nat)(hi:i<bs.length):∃b off,A=J ⟨b,off,Z⟩/\b<B/\w.cell? ⟨b,off+i,Z⟩=J (Ah bs[i]):=by
 obtain⟨b,off,e,aa,hc⟩:=h (by omega);exact⟨b,off,e,aa,hc i hi⟩
def BRow(w:Ba)(g:Nat)(bs:List Bool):Prop:=w.heap[g]?=J (Ag (ku bs) 4 (0,0))
theorem BRow.lt{g:Nat}{bs:List Bool}(h:BRow w g bs):g<w.heap.size:=zc h
theorem BRow.at_{g:Nat}{bs:List Bool}(h:BRow w g bs)(hB:g<B):BAt w B (J ⟨g,0,Z⟩) bs:=fun _=>⟨g,0,rfl,hB,fun i hi=>by rw[LM];exact za h i (gj bs i hi)⟩
end
end
section
open Go.RowKit
structure Fh where
 op:Int
 p:Int
 o:Int
 v:Int
 g:Int
inductive Fm where
 | mk (h:Fh) (args:List Fm)
def Fm.h:Fm->Fh
 | .mk h _=>h
def Fm.args:Fm->List Fm
 | .mk _ l=>l
instance:Inhabited Fm:=⟨.mk ⟨0,0,0,0,0⟩ []⟩
def usP(op:Int):Bool:=decide (op=1\/op=3\/op=4\/op=5\/op=10)
def usO(op:Int):Bool:=decide (op=3)
def usV(op:Int):Bool:=decide (op=1\/op=2\/op=5\/op=6)
def usG(op:Int):Bool:=decide (op=11\/op=12\/op=13)
def arN(op:Int):Int:=if op=8\/op=9\/op=17 then 2 else if op<=6 then 0 else 1
def mxV(op:Int):Int:=if op=6 then 6 else 7
def kF(n:Nat)(h:Fh)(k:Nat):Int:=
 if h.op<0\/17<h.op then 1 else if (k:Int)≠arN h.op then 15
 else if (usP h.op=Ar/\¬(0<=h.p/\h.p<=(n:Int)-1))\/(usO h.op=Ar/\¬(0<=h.o/\h.o<=(n:Int)-1))\/(usV h.op=Ar/\¬(0<=h.v/\h.v<=mxV h.op))\/(usG h.op=Ar/\¬(0<=h.g/\h.g<=(2:Int)^n-1)) then 2
 else if (usP h.op=As/\h.p≠0)\/(usO h.op=As/\h.o≠0)\/(usV h.op=As/\h.v≠0)\/(usG h.op=As/\h.g≠0) then 3 else 0
def Xb:List Int->Int
 | []=>0
 | e::l=>if e≠0 then e else Xb l
def XY(n:Nat)(R:Fm->Int)(f:Fm):Int:=if kF n f.h f.args.length≠0 then kF n f.h f.args.length else Xb (f.args.map R)
def jZ(n:Nat):Nat->Fm->Int
 | 0=>XY n fun _=>0
 | d+1=>XY n (jZ n d)
def yC(R:Fm->Nat×Nat)(l:List Fm):Nat×Nat:=l.foldl (fun a x=>(a.1+(R x).1,max a.2 (R x).2)) (1,0)
def xG:Nat->Fm->Nat×Nat
 | 0=>fun f=>((yC (fun _=>(0,0)) f.args).1,(yC (fun _=>(0,0)) f.args).2+1)
 | d+1=>fun f=>((yC (xG d) f.args).1,(yC (xG d) f.args).2+1)
def uu(x:Nat×Nat):Int:=if 128<x.1 then 5 else if 24<x.2 then 12 else 0
def j8(n:Int)(d:Nat)(f:Fm):Int:=if n<1\/5<n then 2 else if uu (xG d f)≠0 then uu (xG d f) else jZ n.toNat d f
def FsAt(w:Ba)(B:Nat):Nat->Bb->List Fm->Prop
 | 0,_,l=>l=[]
 | d+1,A,l=>0<l.length->∃b o,A=J ⟨b,o,Z⟩/\b<B/\∀i (hi:i<l.length),∃A' c',
   (∀j v,#[O U l[i].h.op,O U l[i].h.p,O U l[i].h.o,O U l[i].h.v,O U l[i].h.g,I A' l[i].args.length c'][j]?=J v->w.cell? ⟨b,o+i*6+j,Z⟩=J v)/\FsAt w B d A' l[i].args
def Fm.vs(f:Fm)(A:Bb)(c:Nat):Array Aq:=#[O U f.h.op,O U f.h.p,O U f.h.o,O U f.h.v,O U f.h.g,I A f.args.length c]
theorem FsAt.keep:∀ {d:Nat} {w w':Ba} {B:Nat} {A:Bb} {l:List Fm},FsAt w B d A l->Am B w w'->FsAt w' B d A l
 | 0,_,_,_,_,_,h,_=>h
 | d+1,w,w',B,A,l,h,hb=>fun h0=>by
  obtain⟨b,o,e,aa,hr⟩:=h h0;refine⟨b,o,e,aa,fun i hi=>?_⟩;obtain⟨A',c',h1,h2⟩:=hr i hi;exact⟨A',c',fun j v hv=>(hb.cell aa).trans (h1 j v hv),FsAt.keep h2 hb⟩
theorem FsAt.more:∀ {d:Nat} {w:Ba} {B B':Nat} {A:Bb} {l:List Fm},FsAt w B d A l->B<=B'->FsAt w B' d A l
 | 0,_,_,_,_,_,h,_=>h
 | d+1,w,B,B',A,l,h,hb=>fun h0=>by
  obtain⟨b,o,e,aa,hr⟩:=h h0;refine⟨b,o,e,by omega,fun i hi=>?_⟩;obtain⟨A',c',h1,h2⟩:=hr i hi;exact⟨A',c',h1,FsAt.more h2 hb⟩
def RecAt(w:Ba)(A:Bb)(l:List Fm)(F:Array Aq->Fm->Ba->Prop):Prop:=∀i (hi:i<l.length),∃b o A' c',A=J ⟨b,o,Z⟩/\b<w.heap.size /\
 (∀W,Am w.heap.size w W->∀j v,(l[i].vs A' c')[j]?=J v->W.cell? ⟨b,o+i*6+j,Z⟩=J v)/\∀X,Am w.heap.size w X->F (l[i].vs A' c') l[i] X
theorem RecAt.of{d:Nat}{w:Ba}{A:Bb}{l:List Fm}{F:Array Aq->Fm->Ba->Prop}(h:FsAt w w.heap.size (d+1) A l)
  (hF:∀(x:Fm) (A':Bb) (c':Nat) (X:Ba),x∈l->FsAt X X.heap.size d A' x.args->F (x.vs A' c') x X):RecAt w A l F:=fun i hi=>by
 obtain⟨b,o,e,aa,hr⟩:=h (by omega);obtain⟨A',c',h1,h2⟩:=hr i hi;exact⟨b,o,A',c',e,aa,fun W hW j v hv=>(hW.cell aa).trans (h1 j v hv),fun X hX=>hF _ A' c' X (Ld hi) ((h2.keep hX).more hX.size)⟩
theorem RecAt.none{w:Ba}{A:Bb}{l:List Fm}{F:Array Aq->Fm->Ba->Prop}(h:FsAt w w.heap.size 0 A l):RecAt w A l F:=fun i hi=>by
 rw[show l=[] from h] at hi;cases hi
theorem gV(R:Fm->Nat×Nat)(l:List Fm)(x:Fm):yC R (l++[x])=((yC R l).1+(R x).1,max (yC R l).2 (R x).2):=by unfold yC;rw[PV];rfl
theorem jT(R:Fm->Nat×Nat):∀(l:List Fm) (a:Nat×Nat),a.1<=(l.foldl (fun a x=>(a.1+(R x).1,max a.2 (R x).2)) a).1/\a.2<=(l.foldl (fun a x=>(a.1+(R x).1,max a.2 (R x).2)) a).2
 | [],a=>⟨Lh _,Lh _⟩
 | x::l,a=>by
  have:=jT R l (a.1+(R x).1,max a.2 (R x).2);rw[PA];dsimp only at this;omega
theorem gU(R:Fm->Nat×Nat)(l:List Fm)(k:Nat):(yC R (l.take k)).1<=(yC R l).1/\(yC R (l.take k)).2<=(yC R l).2:=by
 have h:=jT R (l.drop k) (yC R (l.take k))
 have e:yC R l=(l.drop k).foldl (fun a x=>(a.1+(R x).1,max a.2 (R x).2)) (yC R (l.take k)):=by
  unfold yC;rw[<-PV,Pp]
 rw[e];exact h
theorem ve(R:Fm->Nat×Nat)(hR:∀x,(R x).2<=(R x).1):∀(l:List Fm) (a:Nat×Nat),a.2+1<=a.1->(l.foldl (fun a x=>(a.1+(R x).1,max a.2 (R x).2)) a).2+1<=(l.foldl (fun a x=>(a.1+(R x).1,max a.2 (R x).2)) a).1
 | [],_,h=>h
 | x::l,a,h=>by
  rw[PA];refine ve R hR l _ ?_;have:=hR x;dsimp only;omega
theorem gY:∀(d:Nat) (f:Fm),(xG d f).2<=(xG d f).1
 | 0,f=>ve _ (fun _=>Lh _) f.args (1,0) (by decide)
 | d+1,f=>ve _ (gY d) f.args (1,0) (by decide)
theorem Yn(R:Fm->Nat×Nat){l:List Fm}{x:Fm}(h:x∈l):(R x).1<=(yC R l).1:=by
 obtain⟨k,hk,rfl⟩:=LG h;have h1:=(gU R l (k+1)).1;rw[Ls hk,gV] at h1;dsimp only at h1;omega
theorem Ym(R:Fm->Nat×Nat)(hR:∀x,1<=(R x).1):∀(l:List Fm) (a:Nat×Nat),a.1+l.length<=(l.foldl (fun a x=>(a.1+(R x).1,max a.2 (R x).2)) a).1
 | [],_=>Lh _
 | x::l,a=>by
  have:=Ym R hR l (a.1+(R x).1,max a.2 (R x).2);have:=hR x;rw[PA,LD];dsimp only at *;omega
theorem gW(R:Fm->Nat×Nat)(hR:∀x,1<=(R x).1)(l:List Fm):l.length<=(yC R l).1:=by
 have:1+l.length<=(yC R l).1:=Ym R hR l (1,0);omega
theorem Yo:∀(d:Nat) (f:Fm),1<=(xG d f).1
 | 0,f=>(jT _ f.args (1,0)).1
 | _+1,f=>(jT _ f.args (1,0)).1
theorem vF(e:Int)(l:List Int):Xb (e::l)=if e≠0 then e else Xb l:=rfl
theorem ffsE_none{l:List Int}(h:∀e∈l,e=0):Xb l=0:=by
 induction l with
 | nil=>rfl
 | cons e l ih=>
  rw[vF,Li (by simpa using h e (by simp))];exact ih fun x hx=>h x (by simp[hx])
theorem ffsE_at{l:List Int}{k:Nat}(hk:k<l.length)(h0:∀j (hj:j<l.length),j<k->l[j]=0)(h1:l[k]≠0):Xb l=l[k]:=by
 induction l generalizing k with
 | nil=>simp at hk
 | cons e l ih=>
  cases k with
  | zero=>
   simp only[List.getElem_cons_zero] at h1 ⊢;rw[vF,Lo h1]
  | succ k=>
   have he:e=0:=h0 0 (by simp) (by omega);simp only[List.getElem_cons_succ] at h1 ⊢;rw[vF,Li (by simpa using he)];refine ih (by simpa using hk) (fun j hj aa=>?_) h1;have:=h0 (j+1) (by simpa using hj) (by omega);simpa using this
end
section
open Go.ChangeShapes Go.WideShapes Go.ChangeAt Go.RowKit Go.Deep
section
variable {H:Type} {enc:TypeId×Aq->H} {W:Ba} {base:Nat} {spare:Nat->Bool} {aS:Bool}
theorem cellsRu:Al.cellsOf 32=1:=by kernel_rfl
theorem ZP{b0:Nat}{v:Aq}{d:DataW H}{ps:List MemPlace}(hv:Value.okWide Al W .any b0 32 v)(h:DataW.Trod enc Al W base spare aS 32 v d ps)(hw:xZ Al 32 d) :
  ∃(AR:Bb) (out:List Int) (kr:Nat),v=Ai #[I AR out.length kr]/\out.length<=17592186044416/\IAt W W.heap.size AR out:=by
 obtain⟨cs,rfl,_⟩:=okWide_struct Ru hv;obtain⟨fuel,hf⟩:=h;obtain⟨xs,n,rfl,hx,hl,dG,VU⟩:=NO Ru hf;have hd:d=.agg (xs.map (·.1)):=congrArg Prod.fst hx;rw[hd] at hw;rw[cellsRu] at hl;have IF:xs.length=1:=dG;obtain⟨cl⟩:=cs
 match cl,hl with
 | [c0],_=>
  have f0:=VU 0 _ rfl
  obtain⟨x0,rfl⟩:∃x0,xs=[x0]:=by
   match xs,IF with
   | [x0],_=>exact⟨x0,rfl⟩
  have g0:DataW.trod enc Al W base spare aS n 30 [c0]=J x0:=by simpa[Z4,Value.cells] using f0
  have w0:xZ Al 30 x0.1:=xg Ru hw (j:=0) rfl rfl;obtain⟨AR,out,kr,e0,hb,hA⟩:=ZI g0 w0
  cases e0
  exact⟨AR,out,kr,rfl,hb,hA⟩
end
end
section
def xw(x:Exn)(k q:Nat):Int:=(x.views.getD k []).getD q 0
structure Sees(s:Sy)(K N:Nat):Prop where
 nodup:s.vs.Nodup
 v0:∀x∈s.xs,∀q,q<N->At s.vs (xw x 0 q) (yi q ((yc s.p x.c.toNat).getD q 0))
 vk:∀x∈s.xs,∀k,k<K->∀q,q<N->At s.vs (xw x (k+1) q) (xk (x.word.getD k default) (k+1) q (x.views.getD k []))
 prs:s.xs.map (fun x=>(x.c.toNat,x.word))=zu s.p
 cs:∀x∈s.xs,∃c:Nat,x.c=(c:Int)/\c<s.p.t.cases.length/\x.word∈zC s.p.a K 0
theorem Yc{p:Pb}{CH:List Vw}{c:Nat}{word:List Rd}{x:Exn}{vs:List Vw}(h:XFin p CH c word x vs)(k:Nat)(hk:k<=word.length):x.views.getD k []=uZ vs p.t.n.toNat (yc p c) word k:=by
 rw[h.hv];exact kg _ _ _ _ _ k hk
theorem QH{p:Pb}{CH:List Vw}{c:Nat}{word:List Rd}{x:Exn}{vs:List Vw}(h:XFin p CH c word x vs)(k q:Nat)(hk:k<=word.length)(hq:q<p.t.n.toNat):At CH (xw x k q) (fV vs p.t.n.toNat (yc p c) word k q):=by
 obtain⟨us,lm⟩:=h.ht;unfold xw;rw[Yc h k hk,lm];exact(ux vs p.t.n.toNat (yc p c) word word.length k q hk hq).mono
theorem ge{p:Pb}{K N:Nat}(hF:Fine (zz p) K N):Sees (zz p) K N:=by
 obtain⟨f1,f2,f3⟩:=Ys p (zu p);have Ta:p.t.n.toNat=N:=by have:p.t.n=(N:Int):=hF.pn;omega
 have iO:p.k.toNat=K:=by have:p.k=(K:Int):=hF.k;omega
 have io:∀y∈zu p,y.2.length=K/\y.1<p.t.cases.length/\y.2∈zC p.a K 0:=fun y hy=>by
  unfold zu at hy;obtain⟨d,hd,hy⟩:=Ny.1 hy;obtain⟨w',fi,rfl⟩:=LO.1 hy;rw[iO] at fi;exact⟨yK p.a _ 0 w' fi,by simpa using hd,fi⟩
 have hx:∀x∈(zz p).xs,∃y∈zu p,∃vs,XFin p (zz p).vs y.1 y.2 x vs:=fun x hx=>by
  obtain⟨i,hi,e⟩:=LG hx;have CV:i<(zu p).length:=by rw[<-xm p (zu p)];exact hi
  obtain⟨x',vs,CJ,hh⟩:=f1 i CV
  have:x=x':=by
   have h3:(zx p (zu p)).2[i]?=J x:=(Lf (l:=(zz p).xs) hi).trans (congrArg J e);exact Py (h3.symm.trans CJ)
  subst this;exact⟨_,Ld CV,vs,hh⟩
 refine⟨f3,fun x hm q hq=>?_,fun x hm k hk q hq=>?_,?_,fun x hm=>?_⟩
 . obtain⟨y,hy,vs,hh⟩:=hx x hm
   have h:=QH hh 0 q (Nw _) (by omega);rw[hh.hc,Lj];exact h
 . obtain⟨y,hy,vs,hh⟩:=hx x hm
   have hl:=(io y hy).1;have h:=QH hh (k+1) q (by omega) (by omega);rw[Yc hh k (by omega),hh.hw];exact h
 . show(zx p (zu p)).2.map _=zu p
   refine Pr (by rw[LJ,xm]) fun i h1 h2=>?_
   obtain⟨x',vs,CJ,hh⟩:=f1 i h2;rw[NT];obtain⟨h3,h4⟩:=Lp.1 CJ;rw[h4,hh.hc,hh.hw,Lj]
 obtain⟨y,hy,vs,hh⟩:=hx x hm;exact⟨y.1,hh.hc,(io y hy).2.1,by rw[hh.hw];exact(io y hy).2.2⟩
section
variable {s:Sy} {K N:Nat}
theorem Sees.pr(h:Sees s K N){x:Exn}(hx:x∈s.xs){k q:Nat}(hk:k<=K)(hq:q<N):∃v,At s.vs (xw x k q) v/\v.p=(q:Int)/\v.r=(k:Int):=by
 cases k with
 | zero=>exact⟨_,h.v0 x hx q hq,rfl,rfl⟩
 | succ k=>exact⟨_,h.vk x hx k (by omega) q hq,rfl,rfl⟩
end
end
section
theorem hear_row{r:Rd}(h:yn r=0)(p:Nat)(hp:p<5):yT r.n p (r.h p)=0:=by
 unfold yn at h
 split at h
 . cases h
 have key : ∀ k, k <= 5 -> yh r (5 - k) k = 0 -> ∀ q, k <= q -> q < 5 -> yT r.n q (r.h q) = 0 := by
  intro k hk
  induction hm:5-k generalizing k with
  | zero=>intro _ q h1 h2;omega
  | succ m ih=>
   intro hz q h1 h2;unfold yh at hz
   split at hz
   . rename_i aO;exact absurd hz aO
   . rename_i aO
     by_cases e:q=k
     . subst e;simpa using aO
     . exact ih (k+1) (by omega) (by omega) hz q (by omega) h2
 exact key 0 (by omega) h p (by omega) hp
theorem vC{r:Rd}{N:Nat}(h:zS r=0)(hn:r.n=(N:Int))(h5:N<=5){q:Nat}(hq:q<N):∃m:Nat,r.h q=(m:Int)/\m<2^N/\m.testBit q=Ar:=by
 have h1:=hear_row (xI h).2.2.1 q (by omega);unfold yT at h1;rw[Li (by omega)] at h1
 split at h1
 . cases h1
 rename_i hb
 split at h1
 . rename_i ht
   rw[hn,Lj] at hb;obtain⟨m,hm⟩:=Lr (show 0<=r.h q by omega);rw[hm] at hb ht ⊢;have hp:=Nat.two_pow_pos N;exact⟨m,rfl,by omega,by simpa using ht⟩
 cases h1
theorem JZ{r:Rd}{now:List Int}{q m j:Nat}(hm:r.h q=(m:Int)):zQ r q now j=if j<now.length/\m.testBit j=Ar then now.getD j 0 else -1:=by
 unfold zQ;rw[hm,Lj]
section
variable {s:Sy} {K N:Nat}
theorem Fine.row(hF:Fine s K N){x:Exn}(hx:x∈s.xs){k:Nat}(hk:k<=K):(x.views.getD k []).length=N/\∀i∈x.views.getD k [],0<=i/\i<s.vs.length:=by
 obtain⟨hl,h⟩:=hF.views x hx;have eG:k<x.views.length:=by omega
 rw[Le,Lf eG];exact h _ (Ld eG)
theorem Fine.round(hF:Fine s K N){x:Exn}(hx:x∈s.xs){k:Nat}(hk:k<K):zS (x.word.getD k default)=0/\(x.word.getD k default).n=(N:Int):=by
 obtain⟨hl,h⟩:=hF.word x hx;have eG:k<x.word.length:=by omega
 rw[Le,Lf eG];exact h _ (Ld eG)
end
end
section
theorem Z7{vs:List Vw}{i:Int}{v:Vw}(h:At vs i v):Y6 vs i.toNat=v:=by
 unfold Y6;rw[Le,h.2];rfl
end
section
open Go.RowKit Go.Shelf
theorem YQ{w:Ba}{base:Nat}{v:Aq}{xs:List Int}(h:Own w base v xs){k:Nat}{cs:Array Aq}{t:TypeId}(hk:w.heap[k]?=J (Ag cs t (0,0)))(ht:t≠3):v.ownBlock≠J k:=by
 intro e;rcases h.2 with ⟨rfl,_⟩ | ⟨g,cap,cur,rfl,_,hg,_⟩
 . cases e
 simp only[Value.ownBlock,Option.some.injEq] at e;subst e;rw[hk] at hg
 cases hg
 exact ht rfl
theorem Zc{w:Ba}{base:Nat}{v:Aq}{xs:List Int}(h:Own w base v xs):∀r,v.ownBlock=J r->base<=r/\∀o,w.heap[r]?=J o->o.isCells=Ar:=by
 intro r hr;refine⟨(h.lt r hr).1,fun o ho=>?_⟩;rcases h.2 with ⟨rfl,_⟩ | ⟨g,cap,cur,rfl,_,hg,_⟩
 . cases hr
 simp only[Value.ownBlock,Option.some.injEq] at hr;subst hr;rw[hg] at ho
 cases ho
 rfl
end
section
theorem getD_get{α:Type}{l:List α}{i:Nat}(h:i<l.length)(d:α):l.getD i d=l[i]:=by
 rw[Le,Lf h];rfl
end
section
open Go.RowKit
attribute [local go_sem] Oper.semAt_some
def yf(x:Exn):Int:=match x.word.getLast? with
 | none=>0
 | some r=>r.f
theorem ql{x:Exn}(h:x.word.length=0):yf x=0:=by unfold yf;rw[LA h];rfl
theorem qm{x:Exn}{k:Nat}(h:x.word.length=k+1):yf x=(x.word[k]'(by omega)).f:=by
 have e:x.word.getLast?=J (x.word[k]'(by omega)):=by
  rw[RM,show x.word.length-1=k by omega,Lf (by omega)]
 unfold yf;rw[e]
theorem wG{N:Nat}{x:Exn}(h1:1<=N)(h5:N<=5):uf N x=bits BinOp.andNot U (2^N-1) (yf x):=by
 rcases LX x.word.length with h | h
 . rw[Zf h,ql h]
   have key:∀N:Nat,N<6->(2:Int)^N-1=bits BinOp.andNot U ((2:Int)^N-1) 0:=by decide +kernel
   exact key N (by omega)
 obtain⟨k,hk⟩:∃k,x.word.length=k+1:=⟨x.word.length-1,by omega⟩;rw[Zg hk,qm hk]
theorem wW(x:Exn)(hl:x.word.length<=100)(A1 A2:Bb)(a1 a2:Nat)(w:Ba)(hW:RAt w w.heap.size A1 x.word) :
  An Al 56 #[Ai #[O U x.c,I A1 x.word.length a1,I A2 x.views.length a2]] w fun e w'=>e=Ak (O U (yf x))/\Am w.heap.size w w':=by
 obtain⟨w1,ac,d0,aA,hB⟩:=zh w #[O U x.c,I A1 x.word.length a1,I A2 x.views.length a2] 49;have ah:=zH ac;have HB:=zH hB;have fg:=zH (@ql x);have cG:=zH (fun (k:Nat) (h:x.word.length=k+1)=>qm h);obtain⟨F,hF⟩:=Kh (yf x);rw[hF] at fg cG ⊢;have x1:=za d0 1 rfl;rcases LX x.word.length with h | h
 . have hR:=zH (fg.out h)
   rw[h] at x1 ac;have ah:=zH ac;clear ac d0 hB fg cG hF hW;rw[h];clear h;go_enter func56,ntmps56;go_wp2_with fail;rw[ah.out];go_wp2_with fail
   all_goals first | (exfalso;omega) | skip
   go_ret;exact⟨zd hR.out.symm,HB.out⟩
 obtain⟨k,hk⟩:∃k,x.word.length=k+1:=⟨x.word.length-1,by omega⟩;have hR:=zH (cG.out k hk);obtain⟨b,o,eA,hb,t0,t1,t2,t3,t4,t5,r6⟩:=hW.row k (by omega);subst eA;have fz:IntKind.i64.wrap (((k+1:Nat):Int)-1)=(k:Int):=by rw[Lv];omega
 obtain⟨f,hf⟩:=Kh ((x.word[k]'(by omega)).f);rw[hf] at hR r6;rw[hk];obtain⟨L,hL⟩:=Kh (k+1);rw[hL] at fz ⊢;have Tf:(0:Int)<(L:Int):=by omega
 have R7:(k:Int)<(L:Int):=by omega
 have cA:(0:Int)<=(k:Int):=by omega
 have Td:¬(L:Int)=0:=by omega
 clear ac d0 hB fg cG hF hW x1 ah HB t0 t1 t2 t3 t4 t5 hf hL hk h;go_enter func56,ntmps56;go_wp2_with fail;go_ret;exact⟨zd hR.out.symm,zN w _⟩
end
section
def xx(vs:List Vw)(v:Nat):Int:=if (Y6 vs v).r=0 then -1 else (Y6 vs v).h (Y6 vs v).p.toNat
def ruE(out:List Int)(i:Int):Int:=out.getD i.toNat 0
def qk(vs:List Vw)(outs:Int)(out:List Int)(v:Nat):Int:=
 if out.getD v 0 < -1\/outs<=out.getD v 0 then 2 else if 0<=xx vs v/\0<=ruE out (xx vs v)/\ruE out (xx vs v)≠out.getD v 0 then 21 else 0
structure FrmOk(vs:List Vw)(outs:Int)(out:List Int):Prop where
 len:out.length=vs.length
 row:∀v,v<vs.length->qk vs outs out v=0
theorem Y9{vs:List Vw}{outs:Int}{out:List Int}{v:Nat}(h:qk vs outs out v=0):-1<=out.getD v 0/\out.getD v 0<outs/\(0<=xx vs v->0<=ruE out (xx vs v)->out.getD v 0=ruE out (xx vs v)):=by
 unfold qk at h
 split at h
 . cases h
 rename_i h1
 split at h
 . cases h
 rename_i h2;refine⟨by omega,by omega,fun a b=>?_⟩
 by_cases e:ruE out (xx vs v)=out.getD v 0
 . exact e.symm
 exact absurd ⟨a,b,e⟩ h2
def yV(c:Cs)(f:Int):List (List Int):=if f=0/\0<c.calm.length then c.calm else c.out
def xY(v:List Int)(f:Int)(outs:List Int):Bool:=(List.range v.length).all fun p=>f.toNat.testBit p||decide (outs.getD p 0=v.getD p 0)
def vy(c:Cs)(f:Int)(outs:List Int):Bool:=(yV c f).any fun v=>xY v f outs
def qq(out:List Int)(x:Exn)(K:Nat):List Int:=(x.views.getD K []).map (ruE out)
def gD(s:Sy)(x:Exn)(q:Nat)(v:Int):Bool:=(yf x).toNat.testBit q||(yV (s.p.t.cases.getD x.c.toNat default) (yf x)).any fun u=>decide (u.getD q 0=v)
section
variable {s:Sy} {K N:Nat}
theorem lst_at{out:List Int}{x:Exn}(hF:Fine s K N)(hx:x∈s.xs){q:Nat}(hq:q<N):(qq out x K).getD q 0=ruE out (xw x K q):=by
 obtain⟨l1,_⟩:=hF.row hx (Lh K);unfold qq xw;rw[Le,List.getElem?_map,Lf (show q<(x.views.getD K []).length by omega),Le (l:=x.views.getD K []),Lf (show q<(x.views.getD K []).length by omega)]
 rfl
theorem bef_own(hF:Fine s K N)(hS:Sees s K N){x:Exn}(hx:x∈s.xs){k q:Nat}(hk:k<K)(hq:q<N):xx s.vs (xw x (k+1) q).toNat=xw x k q:=by
 have a1:=hS.vk x hx k hk q hq;obtain⟨r1,n1⟩:=hF.round hx hk;obtain⟨m,hm,RU,Vl⟩:=vC r1 n1 hF.n5 hq;obtain⟨l1,p1⟩:=hF.row hx (Ry hk);have h5:=hF.n5;unfold xx;rw[Z7 a1];rw[Li (by show ¬(((k+1:Nat):Int)=0);omega)];show(xk (x.word.getD k default) (k+1) q (x.views.getD k [])).h ((q:Int).toNat)=_;rw[Lj,kS _ _ _ _ _ (by omega),JZ hm,Lo ⟨by omega,Vl⟩]
 rfl
theorem uV(hF:Fine s K N)(hS:Sees s K N){out:List Int}{outs:Int}(ho:FrmOk s.vs outs out){x:Exn}(hx:x∈s.xs){q:Nat}(hq:q<N){k:Nat}{v:Int}(hv:0<=v):∀n,k+n<=K->ruE out (xw x k q)=v->ruE out (xw x (k+n) q)=v
 | 0,_,e=>e
 | n+1,hn,e=>by
  have ih:=uV hF hS ho hx hq hv n (by omega) e;have dJ:k+n<K:=by omega
  have a1:=hS.vk x hx (k+n) dJ q hq;have hl:=a1.lt;obtain⟨l1,p1⟩:=hF.row hx (Ry dJ);have hb:=bef_own hF hS hx dJ hq
  have h0:0<=xw x (k+n) q:=by
   unfold xw;rw[Le,Lf (by omega)];exact(p1 _ (Ld _)).1
  have h1:=(Y9 (ho.row (xw x (k+n+1) q).toNat (by omega))).2.2;rw[hb,ih] at h1;exact h1 h0 hv
theorem dcd_law(hF:Fine s K N)(hS:Sees s K N){out:List Int}{outs:Int}(ho:FrmOk s.vs outs out){x y:Exn}(hy:y∈s.xs)(an:∀u∈yV (s.p.t.cases.getD y.c.toNat default) (yf y),u.length=N)
  (hm:vy (s.p.t.cases.getD y.c.toNat default) (yf y) (qq out y K)=Ar) {k q:Nat} (hk:k<=K) (hq:q<N) {v:Int} (hv:0<=v) (e:xw x k q=xw y k q) (hd:ruE out (xw x k q)=v):gD s y q v=Ar:=by
 rw[e] at hd;have h1:=uV hF hS ho hy hq hv (K-k) (by omega) hd;rw[show k+(K-k)=K by omega,<-lst_at hF hy hq] at h1;unfold vy at hm;obtain⟨u,hu,ha⟩:=Ps.1 hm;have hl:=an u hu;unfold gD;rw[Pf];have h2:=LP.1 ha q (Pm.2 (by omega));rw[Pf] at h2;rcases h2 with h2 | h2
 . exact .inl h2
 have h3:=Lw h2;exact .inr (Ps.2 ⟨u,hu,Lm (by rw[<-h3];exact h1)⟩)
end
end
section
def xf(s:Sy)(out:List Int):Int:=if out.length≠s.vs.length then 15 else qs (qk s.vs s.p.t.outs out) s.vs.length
theorem wR{s:Sy}{out:List Int}(h:out.length≠s.vs.length):xf s out=15:=Lo h
theorem vE{s:Sy}{out:List Int}(h:out.length=s.vs.length):xf s out=qs (qk s.vs s.p.t.outs out) s.vs.length:=Li (by simpa using h)
theorem uB{s:Sy}{out:List Int}(h:xf s out=0):FrmOk s.vs s.p.t.outs out:=by
 by_cases hl:out.length=s.vs.length
 . rw[vE hl] at h
   exact⟨hl,Zl.1 h⟩
 rw[wR hl] at h;cases h
def xz(s:Sy)(K:Nat)(out:List Int)(x:Exn):Bool:=vy (s.p.t.cases.getD x.c.toNat default) (yf x) (qq out x K)
def kp(s:Sy)(K:Nat)(out:List Int):Bool×Int×Int:=match s.xs.findIdx? fun x=>!xz s K out x with
 | none=>(Ar,0,0)
 | some i=>(As,(i:Int),0)
def missB(N K:Nat)(out:List Int)(x:Exn):Bool:=(List.range N).any fun p=>decide ((qq out x K).getD p 0<0)&&!(yf x).toNat.testBit p
def qA(s:Sy)(N K:Nat)(out:List Int)(x:Exn):Bool:=missB N K out x||!xz s K out x
def xX(s:Sy)(N K:Nat)(out:List Int):Int:=match s.xs.findIdx? fun x=>qA s N K out x with
 | none=>-1
 | some i=>(i:Int)
theorem vG{s:Sy}{N K:Nat}{out:List Int}(h:xX s N K out<0):∀x∈s.xs,xz s K out x=Ar:=by
 unfold xX at h
 cases hf:s.xs.findIdx? fun x=>qA s N K out x with
 | some i=>rw[hf] at h;simp only at h;omega
 | none=>
  intro x hx;have h1:=PJ.1 hf x hx;unfold qA at h1;rw[Bool.or_eq_false_iff] at h1;simpa using h1.2
theorem Yk{s:Sy}{K:Nat}{out:List Int}(h:∀x∈s.xs,xz s K out x=Ar):kp s K out=(Ar,0,0):=by
 unfold kp;have:(s.xs.findIdx? fun x=>!xz s K out x)=Z:=PJ.2 fun x hx=>by rw[h x hx];rfl
 rw[this]
def gJ:Pb:=⟨⟨1,2,2,[⟨[0],[[0]],[]⟩,⟨[1],[[1]],[]⟩]⟩,⟨1,[[⟨⟨1,1,0,0,0,0,0⟩,0⟩]]⟩,0⟩
def vI:Sy:=⟨gJ,1,[yi 0 0,yi 0 1],[⟨0,[],[[0]]⟩,⟨1,[],[[1]]⟩]⟩
theorem vH:zP gJ=(vI,0):=by decide +kernel
theorem dcd_form0:xf vI [0,1]=0:=by decide +kernel
theorem dcd_form1:xf vI [1,1]=0:=by decide +kernel
theorem dcd_yes:kp vI 0 [0,1]=(Ar,0,0):=by decide +kernel
theorem dcd_no:kp vI 0 [1,1]=(As,0,0):=by decide +kernel
end
section
open Go.RowKit
theorem qx{p:Pb}(h:xW p=Ar):zP p=(zz p,0)/\yb (zz p)=0/\xN p/\zL p=0/\zT p<=60/\p.t.n<=3/\∃K N,Fine (zz p) K N/\Sees (zz p) K N:=by
 unfold xW at h;rw[Nh] at h;obtain⟨h1,h2⟩:=h;obtain⟨hf,h3⟩:=few_x h1;have h4:(zP p).2=0:=Lw h2
 have h0:zL p=0:=by
  by_cases h0:zL p=0
  . exact h0
  rw[yF h0] at h4;exact absurd h4 h0
 have hm:¬4096<zT p:=fun hm=>by rw[yO h0 hm] at h4;exact absurd h4 (by decide)
 have dt:zT p<=60:=by
  rcases hf.2 h0 with h | h
  . exact h
  exact absurd h hm
 have hb:=xM h0 (by omega);obtain⟨dI,_⟩:=zM h0;obtain⟨_,en,pL⟩:=yv dI;obtain⟨K,N,hF⟩:=gh hf h0 dt;refine⟨hb,?_,hf,h0,dt,by omega,K,N,hF,ge hF⟩;unfold yb;have e:(zz p).p=p:=rfl;rw[e,hb,Li (by simp),Lo rfl]
theorem made_row(n:Nat):madeCells #[O U 0] (n*1)=((List.replicate n 0).map (O U)).toArray:=by
 unfold madeCells;apply Array.ext
 . simp
 intro i h1 h2;simp[Nat.mod_one]
theorem JS(n:Nat)(hn:n<=100000)(W:Ba):(Instr.makeSlice 30 (O U n) (O U n)).run Al W=.ok (I (J ⟨W.heap.size,0,Z⟩) n n) (W.alloc (Ag ((List.replicate n 0).map (O U)).toArray 3)):=by
 obtain⟨i0,hi,cU,bN,cK⟩:=yu Qg;have hb:i0.bytes=8:=cK;have hs:i0.size=1:=bN;have h:=run_make (P:=Al) W 30 3 i0 (O U 0) Ns hi cU U U (n:Int) (n:Int) (by omega) (Int.le_refl _) (by rw[hb];omega) (by omega);rw[h,hs];simp only[Int.toNat_natCast];rw[show(O U 0).cells=#[O U 0] from rfl,made_row]
end
section
open Go.RowKit Go.Shelf
attribute [local go_sem] Oper.semAt_some
theorem ZL(n:Nat)(hn:0<n):∀m i,zi n i m=(List.range (m*n)).map fun t=>(i+t / n,t % n)
 | 0,i=>by simp[zi]
 | m+1,i=>by
  rw[zi,ZL n hn m (i+1),P5,Nat.add_comm (m*n) n,List.range_add,LF,P6]
  congr 1
  . refine Pe fun t ht=>?_
    have:=Pm.1 ht;rw[Nat.div_eq_of_lt this,Nat.mod_eq_of_lt this,Pc]
  . refine Pe fun t _=>?_
    simp only[Function.comp];rw[Nat.add_div_left _ hn,Nat.add_mod_left]
    congr 1
    omega
theorem uw(n m:Nat)(hn:0<n):(zi n 0 m).length=m*n:=by rw[ZL n hn];simp
theorem prs_at(n m:Nat)(hn:0<n)(i:Nat)(h:i<(zi n 0 m).length):(zi n 0 m)[i]=(i / n,i % n):=by
 have:=ZL n hn m 0;simp only[this,List.getElem_map,List.getElem_range];simp
theorem Jh(s:Sy)(A SV AV AX:Bb)(kc ks kv kx:Nat)(w:Ba):An Al 39 #[.agg (s.vs_ A kc SV ks AV kv AX kx)] w fun e w'=>
  e=Ak (.func (.func 72) #[] #[Aj (J ⟨w.heap.size,0,Z⟩)])/\w.alloc (Ag (s.vs_ A kc SV ks AV kv AX kx) 39)=w':=by
 unfold Sy.vs_;go_enter func39,ntmps39;go_wp2;go_ret;exact⟨rfl,rfl⟩
structure PtC(C:Array Aq)(K M:Nat)(AX:Bb)(kx:Nat):Prop where
 c6:C[6]?=J (O U (K:Int))
 c9:C[9]?=J (I AX M kx)
theorem Zz(C:Array Aq)(K M:Nat)(hK:K<=100)(hM:M<=100)(AX:Bb)(kx:Nat)(hC:PtC C K M AX kx)(bs:Nat)(w:Ba)(hb:w.heap[bs]?=J (Ag C 39 (0,0))) :
  Iter Al 72 #[Aj (J ⟨bs,0,Z⟩)] (fun x:Nat×Nat=>#[Ai #[O U x.1,O U x.2]]) (fun k=>k=bs) (zi (K+1) 0 M) w:=fun n hn l Af Jx W hW hJ Ti hY h0=>by
 have Be:bs<w.heap.size:=(Lq.1 hb).1;have iK:=(hW.block bs Be).trans hb;have HY:=zH hY;have c9:=za iK 9 hC.c9;have HC6:=zH hC.c6;have H0:=zH h0;have Cc:=zH iK;have U':bs<W.heap.size:=Lx Be hW.size;refine callsIn_of_wp func72 rfl trivial ?_ rfl;simp only[ntmps72,List.size_toArray,List.length_cons,List.length_nil,Nat.reduceAdd,Nat.reduceSub,Array.replicate_succ,Array.replicate_zero,List.push_toArray,List.append_toArray,List.nil_append,List.cons_append];gi_wp2
 gi_loopw [8] (fun q wr=>∃s:Nat,s<=M/\q=O U (s:Int)/\∃pre:List { x:Nat×Nat // x∈zi (K+1) 0 M },Ap (pre.map (·.1)++zi (K+1) s (M-s)=zi (K+1) 0 M)/\Ap (Af pre wr)/\Ap (wr.heap[bs]?=J (Ag C 39 (0,0)))/\W.heap.size<=wr.heap.size) (fun q _=>M-(Ao q).toNat)
 case atStart=>exact⟨0,by omega,rfl,[],by simp[Ap],H0,Cc,Lh _⟩
 case round=>
  obtain⟨s,hs,rfl,pre,io,fY,p',hsz⟩:=hrel
  by_cases aa:s<M
  · have CY : zi (K + 1) s (M - s) = yt (K + 1) s 0 ++ zi (K + 1) (s + 1) (M - (s + 1)) := by
     rw[show M-s=(M-(s+1))+1 by omega,zi];unfold yt;rw[LT]
    have HP:Ap (pre.map (·.1)++(yt (K+1) s 0++zi (K+1) (s+1) (M-(s+1)))=zi (K+1) 0 M):=by rw[<-CY];exact io.out
    have q6:=za p'.out 6 HC6.out;have ac:IntKind.i64.wrap ((K:Int)+1)=(K:Int)+1:=by rw[Lv];omega
    gi_wp2_with fail
    gi_loopw [15] (fun q wr=>∃j:Nat,j<=K+1/\q=O U (j:Int)/\∃pre:List { x:Nat×Nat // x∈zi (K+1) 0 M },Ap (pre.map (·.1)++(yt (K+1) s j++zi (K+1) (s+1) (M-(s+1)))=zi (K+1) 0 M)/\Ap (Af pre wr)/\Ap (wr.heap[bs]?=J (Ag C 39 (0,0)))/\W.heap.size<=wr.heap.size) (fun q _=>K+1-(Ao q).toNat)
    case atStart=>exact⟨0,by omega,rfl,pre,HP,fY,p',hsz⟩
    case round=>
     obtain⟨j,hj,rfl,pre,io,fY,p',hsz⟩:=hrel
     by_cases bQ:j<K+1
     · have oK : pre.map (·.1) ++ ((s, j) :: (yt (K + 1) s (j + 1) ++ zi (K + 1) (s + 1) (M - (s + 1)))) = zi (K + 1) 0 M := by
        have:=io.out;rw[jW bQ,Ng] at this;exact this
       have bu:(s,j)∈zi (K+1) 0 M:=by rw[<-oK];simp
       have an:pre.length<(zi (K+1) 0 M).length:=by
        have:=congrArg List.length oK;simp only[List.length_append,List.length_map,List.length_cons] at this;omega
       obtain⟨fn,tmps,assign,body,hy,hR⟩:=HY.out pre ⟨(s,j),bu⟩ _ fY.out an;dsimp only at hy
       have tB:Ap ((pre++[(⟨(s,j),bu⟩:{ x:Nat×Nat // x∈zi (K+1) 0 M })]).map (·.1)++(yt (K+1) s (j+1)++zi (K+1) (s+1) (M-(s+1)))=zi (K+1) 0 M):=by
        rw[LF,L7];exact oK
       have HR:=zH hR;gi_wp2_with fail;refine HR.out.mono ?_;rintro e W3 (⟨rfl,Fr,pQ⟩ | ⟨rfl,pb⟩)
       . have aA:wr.heap.size<=W3.heap.size:=pQ.size
         have P3:=zH ((pQ.same bs rfl (by omega)).trans p'.out);have J3:=zH Fr;have lM:W.heap.size<=W3.heap.size:=by omega
         gi_wp2_with fail
         go_roundw
         case rel=>exact⟨j+1,by omega,by go_num,_,tB,J3,P3,lM⟩
         case measure=>simp[Ao];omega
       . gi_wp2_with fail
         refine L6 (Rs rfl _ _ _) rfl ?_;refine⟨⟨_,rfl⟩,.inr ⟨_,?_,pb⟩⟩;exact⟨_,tB.out⟩
     . obtain rfl:j=K+1:=by omega
       have HP:Ap (pre.map (·.1)++zi (K+1) (s+1) (M-(s+1))=zi (K+1) 0 M):=by have:=io.out;rwa[vX,Nc] at this
       gi_wp2_with fail
       go_roundw
       case rel=>exact⟨s+1,by omega,by go_num,pre,HP,fY,p',hsz⟩
       case measure=>simp[Ao];omega
  . obtain rfl:M=s:=by omega
    have HP:Ap (pre.map (·.1)=zi (K+1) 0 M):=by have:=io.out;rwa[NA,zi,L5] at this
    gi_wp2_with fail
    go_end0
    exact⟨⟨_,rfl⟩,.inl ⟨pre,HP.out,fY.out⟩⟩
end
section
section
variable {α:Type} [DecidableEq α]
def ko(mh:List α)(k:α):List α:=if k∈mh then mh else mh++[k]
def qf(l:List α):List α:=l.foldl ko []
theorem uH(l:List α)(k:α):qf (l++[k])=ko (qf l) k:=by simp[qf,List.foldl_append]
theorem JR{mh:List α}{k x:α}:x∈ko mh k↔x∈mh\/x=k:=by
 unfold ko
 split
 . rename_i h
   exact⟨.inl,fun h'=>h'.elim id (fun e=>e▸h)⟩
 simp
theorem Ze{x:α}:∀ {l mh:List α},x∈l.foldl ko mh↔x∈mh\/x∈l
 | [],mh=>by simp
 | k::l,mh=>by rw[PA,Ze,JR,L9,or_assoc]
theorem xe{l:List α}{x:α}:x∈qf l↔x∈l:=by unfold qf;rw[Ze];simp
def kw(l:List α):List Int:=l.map fun k=>((qf l).idxOf k:Int)
theorem qQ(l:List α):(kw l).length=l.length:=by simp[kw]
theorem QX(l:List α)(i:Nat)(h:i<l.length):(kw l)[i]'(by rw[qQ];exact h)=((qf l).idxOf l[i]:Int):=by simp[kw]
theorem JT(l:List α)(k:α):kw (l++[k])=kw l++[if k∈l then ((qf l).idxOf k:Int) else ((qf l).length:Int)]:=by
 unfold kw;rw[LF,uH]
 congr 1
 . refine Pe fun x hx=>?_
   unfold ko
   split
   . rfl
   rw[NY,Lo (xe.2 hx)]
 simp only[List.map_cons,List.map_nil,List.cons.injEq,and_true];unfold ko
 by_cases h:k∈l
 . rw[Lo (xe.2 h),Lo h]
 rw[Li (fun e=>h (xe.1 e)),Li h,NY,Li (fun e=>h (xe.1 e))];simp
theorem JW{l:List α}{a b:α}(ha:a∈l)(hb:b∈l)(h:l.idxOf a=l.idxOf b):a=b:=by
 have h1:=Rp (PE ha);have h2:=Rp (PE hb);rw[<-h1,<-h2]
 congr 1
theorem JU(l:List α){i j:Nat}(hi:i<l.length)(hj:j<l.length):(kw l)[i]'(by rw[qQ];exact hi)=(kw l)[j]'(by rw[qQ];exact hj)↔l[i]=l[j]:=by
 rw[QX l i hi,QX l j hj];constructor
 . intro h
   exact JW (xe.2 (Ld hi)) (xe.2 (Ld hj)) (by omega)
 intro h;rw[h]
end
end
section
open Go.RowKit Go.Shelf
attribute [local go_sem] Oper.semAt_some
theorem ZD{α:Type}:∀ {l m:List α},l.Nodup->(∀x∈l,x∈m)->l.length<=m.length
 | [],_,_,_=>by simp
 | a::l,m,hn,h=>by
  classical
  obtain⟨h1,h2⟩:=P7.1 hn;have ha:a∈m:=h a (by simp)
  have:=ZD (l:=l) (m:=m.erase a) h2 (fun x hx=>by
   have aO:x≠a:=by rintro rfl;exact h1 hx
   exact(List.mem_erase_of_ne aO).2 (h x (by simp[hx])))
  rw[List.length_erase_of_mem ha] at this;have ip:0<m.length:=List.length_pos_of_mem ha;simp only[List.length_cons];omega
theorem MapOf.count{κ:Type}{enc:κ->Aq}(inj:∀a b,enc a=enc b->a=b){w:Ba}{b n:Nat}{f:κ->Option Aq}{l:List κ}(h:MapOf enc w b n f)(hn:l.Nodup)(hf:∀k,(∃v,f k=J v)↔k∈l) :
  ∃es bY,w.heap[b]?=J (.map es bY)/\es.size=l.length:=by
 obtain⟨es,bY,hb,_,hp,h1,h2⟩:=h;refine⟨es,bY,hb,?_⟩;have e1:(es.toList.map (·.key)).Nodup:=List.pairwise_map.2 hp;have e2:(l.map enc).Nodup:=List.pairwise_map.2 (hn.imp fun Wt e=>Wt (inj _ _ e))
 have g1:=ZD e1 (m:=l.map enc) (fun x hx=>by
  obtain⟨e,he,rfl⟩:=LO.1 hx;obtain⟨k,hk,hv⟩:=h1 e he
  exact LO.2 ⟨k,(hf k).1 ⟨_,hv⟩,hk.symm⟩)
 have g2:=ZD e2 (m:=es.toList.map (·.key)) (fun x hx=>by
  obtain⟨k,hk,rfl⟩:=LO.1 hx;obtain⟨v,hv⟩:=(hf k).2 hk;obtain⟨e,he,lX,_⟩:=h2 k v hv
  exact LO.2 ⟨e,he,lX⟩)
 simp at g1 g2;omega
def vr(l:List Int):Int->Option Aq:=fun k=>if k∈l then J (O U (l.idxOf k:Int)) else Z
theorem numG_nil:vr []=fun _=>Z:=by funext k;simp[vr]
theorem numG_put{l:List Int}{k:Int}(h:k∉l):qB (vr l) k (O U (l.length:Int))=vr (l++[k]):=by
 funext x
 unfold qB vr
 by_cases e:x=k
 . subst e
   rw[Lo rfl,Lo (by simp),NY,Li h];simp
 rw[Li e]
 by_cases hx:x∈l
 . rw[Lo hx,Lo (by simp[hx]),NY,Lo hx]
 rw[Li hx,Li (by simp[hx,e])]
theorem ua{α:Type}[DecidableEq α]:∀(l mh:List α),mh.Nodup->(l.foldl ko mh).Nodup
 | [],_,h=>h
 | k::l,mh,h=>by
  rw[PA];refine ua l _ ?_;unfold ko
  split
  . exact h
  . rename_i hk
    exact List.nodup_append.2 ⟨h,by simp,fun a ha b hb=>by rw[Nb] at hb;subst hb;rintro rfl;exact hk ha⟩
theorem YR{α:Type}[DecidableEq α](l:List α):(qf l).Nodup:=ua l [] List.nodup_nil
theorem XX{w:Ba}{b n:Nat}{us:List Int}(h:MapOf (O U) w b n (vr us))(hu:us.Nodup):∃es bY,w.heap[b]?=J (.map es bY)/\es.size=us.length:=
 h.count (fun a b e=>by injection e) hu (fun k=>by
  unfold vr
  by_cases hk:k∈us
  . simp[hk]
  . simp[hk])
theorem Own.same{w w':Ba}{base:Nat}{v:Aq}{xs:List Int}(h:Own w base v xs)(hs:∀k,base<=k->k<w.heap.size->w'.heap[k]?=w.heap[k]?):Own w' base v xs:=by
 refine⟨h.1,?_⟩;rcases h.2 with hn | ⟨g,cap,cur,hv,hb,hg,rest⟩
 . exact .inl hn
 exact .inr ⟨g,cap,cur,hv,hb,(hs g hb (zc hg)).trans hg,rest⟩
structure NbIn(B:Nat)(S:Array Aq)(F:Aq)(R:Nat->Prop)(us ls:List Int)(w W:Ba):Prop where
 wrote:Wrote R w W
 b0:W.heap[B]?=J (Ag S 39 (0,0))
 b1:W.heap[B+1]?=J (Ag #[F] 93 (0,0))
 b3:W.heap[B+1+1+1]?=J (Ag #[.map (J (B+1+1))] 219 (0,0))
 b5:W.heap[B+1+1+1+1+1]?=J (Ag S 39 (0,0))
 hm:∃m,MapOf (O U) W (B+1+1) m (vr us)
 box:∃P c,W.heap[B+1+1+1+1]?=J (Ag #[I P ls.length c] 30 (0,0))/\Own W (B+6) (I P ls.length c) ls
 sz:B+6<=W.heap.size
section
variable {B:Nat} {S:Array Aq} {F:Aq} {R:Nat->Prop} {us ls:List Int} {w W W':Ba}
theorem NbIn.turn{row:Option Nat}(h:NbIn B S F R us ls w W)(hw:w.heap.size<=B)(hg:W.grownBy W' row)(hr:∀r,row=J r->B+6<=r/\∃o:Obj,W.heap[r]?=J o/\o.isCells=As):NbIn B S F R us ls w W':=by
 obtain⟨P,c,hb,ho⟩:=h.box;obtain⟨m,hm⟩:=h.hm;have hsz:=h.sz;have old:∀k,k<B+6->W'.heap[k]?=W.heap[k]?:=fun k hk=>hg.block k (by omega) (fun e=>by have:=(hr k e.symm).1;omega)
 refine⟨h.wrote.trans (Wrote.of_grown (R:=fun k=>w.heap.size<=k) hg (fun k e hk=>by have:=(hr k e).1;omega)) (fun k h1 h2=>by omega),(old B (by omega)).trans h.b0,(old _ (by omega)).trans h.b1,(old _ (by omega)).trans h.b3,(old _ (by omega)).trans h.b5,⟨m,hm.same (old _ (by omega))⟩,⟨P,c,(old _ (by omega)).trans hb,ho.kept hg ?_⟩,LE hsz hg.size⟩;rcases e:(I P ls.length c).ownBlock with _ | g
 . exact .inl rfl
 refine .inr fun e2=>?_
 obtain⟨o,h1,h2⟩:=(hr g e2.symm).2;have:=(Zc ho g e).2 o h1;rw[this] at h2;cases h2
theorem NbIn.call(h:NbIn B S F R us ls w W)(hw:Wrote R W W')(hR:∀k,R k->k<B):NbIn B S F R us ls w W':=by
 obtain⟨P,c,hb,ho⟩:=h.box;obtain⟨m,hm⟩:=h.hm;have hsz:=h.sz;have old:∀k,B<=k->k<W.heap.size->W'.heap[k]?=W.heap[k]?:=fun k hk hl=>hw.block k hl (fun e=>by have:=hR k e;omega)
 exact⟨h.wrote.trans hw (fun _ _ h=>h),(old B (by omega) (by omega)).trans h.b0,(old _ (by omega) (by omega)).trans h.b1,(old _ (by omega) (by omega)).trans h.b3,(old _ (by omega) (by omega)).trans h.b5,⟨m,hm.same (old _ (by omega) (by omega))⟩,⟨P,c,(old _ (by omega) (by omega)).trans hb,ho.same fun k hk hl=>old k (by omega) hl⟩,LE hsz hw.size⟩
theorem NbIn.put{OU:List Int}{m:Nat}(h:NbIn B S F R us ls w W)(hw:w.heap.size<=B)(hg:W.grownBy W' (J (B+1+1)))(hm:MapOf (O U) W' (B+1+1) m (vr OU)):NbIn B S F R OU ls w W':=by
 obtain⟨P,c,hb,ho⟩:=h.box;have hsz:=h.sz;have old:∀k,k<W.heap.size->k≠B+1+1->W'.heap[k]?=W.heap[k]?:=fun k hk hl=>hg.block k hk (fun e=>hl (by cases e;rfl))
 exact⟨h.wrote.trans (Wrote.of_grown (R:=fun k=>w.heap.size<=k) hg (fun k e hk=>by cases e;omega)) (fun k h1 h2=>by omega),(old B (by omega) (by omega)).trans h.b0,(old _ (by omega) (by omega)).trans h.b1,(old _ (by omega) (by omega)).trans h.b3,(old _ (by omega) (by omega)).trans h.b5,⟨m,hm⟩,⟨P,c,(old _ (by omega) (by omega)).trans hb,ho.same fun k hk hl=>old k hl (by omega)⟩,LE hsz hg.size⟩
theorem NbIn.push{P P2:Bb}{c c2:Nat}{u:Int}{W1:Ba}(h:NbIn B S F R us ls w W)(hw:w.heap.size<=B)(hb:W.heap[B+1+1+1+1]?=J (Ag #[I P ls.length c] 30 (0,0)))(ho:Own W (B+6) (I P ls.length c) ls)
  (pK:Own W1 (B+6) (I P2 (ls.length+1) c2) (ls++[u])) (hg:W.grownBy W1 (I P ls.length c).ownBlock) :
  NbIn B S F R us (ls++[u]) w (W1.setCell ⟨B+1+1+1+1,0,Z⟩ (I P2 (ls.length+1) c2)):=by
 obtain⟨m,hm⟩:=h.hm;have hsz:=h.sz;have cz:=ho.lt;have aA:=hg.size;have DE:∀k,k<B+6->W1.heap[k]?=W.heap[k]?:=fun k hk=>hg.block k (by omega) (fun e=>by have:=(cz k e.symm).1;omega)
 have aH:=(DE _ (by omega)).trans hb;obtain⟨x1,x2,x3⟩:=qD aH (I P2 (ls.length+1) c2);have old:∀k,k<B+6->k≠B+1+1+1+1->(W1.setCell ⟨B+1+1+1+1,0,Z⟩ (I P2 (ls.length+1) c2)).heap[k]?=W.heap[k]?:=fun k hk aO=>(x3 k aO).trans (DE k hk)
 refine⟨?_,(old B (by omega) (by omega)).trans h.b0,(old _ (by omega) (by omega)).trans h.b1,(old _ (by omega) (by omega)).trans h.b3,(old _ (by omega) (by omega)).trans h.b5,⟨m,hm.same (old _ (by omega) (by omega))⟩,⟨P2,c2,by rw[Lu];exact x1,by rw[Lu];exact pK.same fun k hk _=>x3 k (by omega)⟩,by rw[show(W1.setCell ⟨B+1+1+1+1,0,Z⟩ (I P2 (ls.length+1) c2)).heap.size=W1.heap.size by simp[World.setCell]];omega⟩;have a1:Wrote (fun k=>w.heap.size<=k) W W1:=Wrote.of_grown hg (fun k e hk=>by have:=(cz k e).1;omega);have a2:Wrote (fun k=>w.heap.size<=k) W1 (W1.setCell ⟨B+1+1+1+1,0,Z⟩ (I P2 (ls.length+1) c2)):=Wrote.of_grown (zR W1 _ 0 _) (fun k e hk=>by cases e;omega);exact h.wrote.trans (a1.trans a2 (fun _ _ h=>h)) (fun k h1 h2=>by omega)
theorem NbIn.keeps{P:Bb}{c:Nat}{W1:Ba}(h:NbIn B S F R us ls w W)(hb:W.heap[B+1+1+1+1]?=J (Ag #[I P ls.length c] 30 (0,0)))(ho:Own W (B+6) (I P ls.length c) ls)
  (hg:W.grownBy W1 (I P ls.length c).ownBlock) (v:Aq):KeepsFrom (B+6) W (W1.setCell ⟨B+1+1+1+1,0,Z⟩ v)/\KeepB (fun k=>k=B+1+1+1+1+1) W (W1.setCell ⟨B+1+1+1+1,0,Z⟩ v):=by
 have cz:=ho.lt;have hsz:=h.sz;have aA:=hg.size;have aH:=(hg.block (B+1+1+1+1) (by omega) (fun e=>by have:=(cz _ e.symm).1;omega)).trans hb;obtain⟨x1,x2,x3⟩:=qD aH v;refine⟨⟨by simp[World.setCell];omega,fun k o hk bC pK=>?_⟩,⟨by simp[World.setCell];omega,fun k hk hl=>?_⟩⟩
 . refine(x3 k (by omega)).trans ((hg.block k (zc bC) (fun e=>?_)).trans bC)
   have:=(Zc ho k e.symm).2 o bC;rw[this] at pK;cases pK
 subst hk;exact(x3 _ (by omega)).trans (hg.block _ (by omega) (fun e=>by have:=(cz _ e.symm).1;omega))
end
end
section
open Go.RowKit Go.Shelf
attribute [local go_sem] Oper.semAt_some
theorem ZS(s:Sy)(K M:Nat)(hK:K<=100)(hM:M<=100)(hk:s.p.k=(K:Int))(hx:s.xs.length=M)(A SV AV AX:Bb)(kc ks kv kx:Nat)(kf:Nat)(kb:Array Aq)(ek:Enters Al kf)(key:Nat×Nat->Int)
  (R:Nat->Prop) (Af:Ba->Prop) (w:Ba) (hR:∀k,R k->k<w.heap.size) (fY:Af w) (hJ:∀W W',Af W->Wrote (fun k=>w.heap.size<=k) W W'->Af W')
  (ED:∀x∈zi (K+1) 0 M,∀W,Af W->w.heap.size<=W.heap.size->An Al kf (#[Ai #[O U x.1,O U x.2]]++kb) W fun e w'=>e=Ak (O U (key x))/\Af w'/\Wrote R W w') :
  An Al 125 #[.agg (s.vs_ A kc SV ks AV kv AX kx),.func (.func kf) #[] kb] w fun e w'=>∃v,e=Ak v/\Own w' w.heap.size v (kw ((zi (K+1) 0 M).map key))/\Af w'/\Wrote R w w':=by
 have hC:PtC (s.vs_ A kc SV ks AV kv AX kx) K M AX kx:=⟨by unfold Sy.vs_;rw[<-hk];rfl,by unfold Sy.vs_;rw[<-hx];rfl⟩
 have an:(zi (K+1) 0 M).length<=20000:=by
  rw[uw (K+1) M (by omega)];exact LE (L3 hM (show K+1<=101 by omega)) (by decide)
 have fJ:=zH (fun (bs:Nat) (W:Ba) (hb:W.heap[bs]?=J (Ag (s.vs_ A kc SV ks AV kv AX kx) 39 (0,0)))=>Zz (s.vs_ A kc SV ks AV kv AX kx) K M hK hM AX kx hC bs W hb);have ic:=zH (fun (W:Ba)=>Jh s A SV AV AX kc ks kv kx W);have F7:=zH ED;have HJ:=zH hJ;have HJ0:=zH fY;have hz:∀W:Ba,(zeroValue 3).run Al W=.ok (O U 0) W:=fun W=>by kernel_rfl
 have ht:Al.underlying 219=J (.map 3 3):=underlying219;have lU:=@run_makeMap Al;obtain⟨L,hL⟩:=Kh (zi (K+1) 0 M);rw[hL] at fJ F7 an ⊢;unfold Sy.vs_ at fJ ic ⊢;clear ED hJ fY hL hC hk hx;refine yA func125 rfl ?_;simp only[ntmps125,List.size_toArray,List.length_cons,List.length_nil,Nat.reduceAdd,Nat.reduceSub,Array.replicate_succ,Array.replicate_zero,List.push_toArray,List.append_toArray,List.nil_append,List.cons_append];go_wp2_with fail;refine(ic.out _).mono ?_;rintro e w2 ⟨rfl,cd⟩;obtain⟨S,hS⟩:∃S,S=#[O U s.p.t.n,O U s.p.t.ins,O U s.p.t.outs,I A s.p.t.cases.length kc,O U s.p.a.n,I SV s.p.a.sts.length ks,O U s.p.k,O U s.n,I AV s.vs.length kv,I AX s.xs.length kx]:=⟨_,rfl⟩;rw[<-hS] at cd fJ
 have Mq:NbIn w.heap.size S (.func (.func kf) #[] kb) R [] [] w w2/\Wrote (fun k=>w.heap.size<=k) w w2:=by
  obtain⟨a1,h1,x1,y1,z1⟩:=zh w S 39;rw[h1] at cd;obtain⟨a2,h2,x2,y2,z2⟩:=zh a1 #[.func (.func kf) #[] kb] 93;rw[h2] at cd;obtain⟨a3,h3⟩:=Kh (a2.alloc (.map #[] 0));have m3:MapOf (O U) a3 a2.heap.size 0 (fun _=>Z):=by rw[<-h3];exact MapOf.made a2
  have y3:a3.heap.size=a2.heap.size+1:=by rw[<-h3];simp
  have z3:Am a2.heap.size a2 a3:=by rw[<-h3];exact zN _ _
  rw[h3] at cd;obtain⟨a4,h4,x4,y4,z4⟩:=zh a3 #[.map (J (w.heap.size+1+1))] 219;rw[h4] at cd;obtain⟨a5,h5,x5,y5,z5⟩:=zh a4 #[I Z 0 0] 30;rw[h5] at cd;obtain⟨a6,h6,x6,y6,z6⟩:=zh a5 S 39;rw[h6] at cd;subst cd;rw[y1] at x2 y2;rw[y2] at m3 y3;rw[y3] at x4 y4;rw[y4] at x5 y5;rw[y5] at x6 y6
  have w1:Wrote (fun k=>w.heap.size<=k) w a6:=by
   have b1:=(Wrote.of_below (R:=fun k=>w.heap.size<=k) z1).trans (Wrote.of_below (R:=fun k=>w.heap.size<=k) z2) (fun _ _ h=>h);have b2:=(b1.trans (Wrote.of_below (R:=fun k=>w.heap.size<=k) z3) (fun _ _ h=>h)).trans (Wrote.of_below (R:=fun k=>w.heap.size<=k) z4) (fun _ _ h=>h);exact((b2.trans (Wrote.of_below (R:=fun k=>w.heap.size<=k) z5) (fun _ _ h=>h)).trans (Wrote.of_below (R:=fun k=>w.heap.size<=k) z6) (fun _ _ h=>h))
  refine⟨⟨w1.more (fun k h1 h2=>by omega),?_,?_,?_,x6,⟨0,?_⟩,⟨Z,0,?_,Own.nil _ _⟩,by omega⟩,w1⟩
  . exact Lb z6 (by omega) (Lb z5 (by omega) (Lb z4 (by omega) (Lb z3 (by omega) (Lb z2 (by omega) x1))))
  . exact Lb z6 (by omega) (Lb z5 (by omega) (Lb z4 (by omega) (Lb z3 (by omega) x2)))
  . exact Lb z6 (by omega) (Lb z5 (by omega) x4)
  . rw[numG_nil]
    exact m3.same (Lb z6 (by omega) (Lb z5 (by omega) (z4.block _ (by omega))))
  exact Lb z6 (by omega) x5
 have ee:w2.heap.size=w.heap.size+6:=by rw[<-cd];simp
 have Hy:Ap (Af w2):=HJ.out w w2 HJ0.out Mq.2;have Oq:=zH (fJ.out (w.heap.size+1+1+1+1+1) w2 Mq.1.b5);have HN:=zH Mq.1;go_wp2_with fail
 refine kQ rfl (NV func72 (by kernel_rfl) rfl) Oq.out (by rintro x rfl;omega) (fun _=>rfl)
  (fun (pre:List { x:Nat×Nat // x∈L }) (X:Ba)=>NbIn w.heap.size S (.func (.func kf) #[] kb) R (qf (pre.map fun x=>key x.1)) (kw (pre.map fun x=>key x.1)) w X/\Af X)
  (fun _ _ _=>False)
  ?hI (fun _ _ _ _ _ h _ _=>h)
  ⟨HN.out,Hy.out⟩ (fun x=>#[O U x.1,O U x.2]) 92 ?a1 ?assign ?body ?done ?stop (fun _ _ h=>by have:=h.1.sz;omega)
 case hI=>
  intro pre X X' row hX hg hr;refine⟨hX.1.turn (Lh _) hg (fun r e=>⟨by have:=(hr r e).1;omega,(hr r e).2⟩),HJ.out X X' hX.2 (Wrote.of_grown hg fun k e hk=>by have:=(hr k e).1;omega)⟩
 case assign=>
  intro l pre x X K' hI hK;obtain⟨g',lr⟩:∃g',g'=X.heap.size:=⟨_,rfl⟩;have HK:=zH (hK g' lr ⟨hI.1.turn (Lh _) (row:=Z) ⟨rfl,rfl,rfl,by simp,fun k hk _=>N1 X _ k hk⟩ (fun r e=>by cases e),HJ.out X _ hI.2 (Wrote.of_below (zN X _))⟩);have HG:=zH lr;gi_wp2;rw[<-HG.out];exact HK.out
 case body=>
  intro l pre x g W3 hg eQ hI aa;obtain⟨us,lm⟩:∃us,qf (pre.map fun x=>key x.1)=us:=⟨_,rfl⟩;obtain⟨ls,Kv⟩:∃ls,kw (pre.map fun x=>key x.1)=ls:=⟨_,rfl⟩;have aD:ls.length<=20000:=by rw[<-Kv,qQ,LJ];omega
  have Gu:us.Nodup:=by rw[<-lm];exact YR _
  obtain⟨kk,AK⟩:=Kh (key x.1);have IP:qf ((pre++[x]).map fun x=>key x.1)=ko us kk:=by rw[LF,L1,NE,uH,lm,AK]
  have Ku:kw ((pre++[x]).map fun x=>key x.1)=ls++[if kk∈us then (us.idxOf kk:Int) else (us.length:Int)]:=by
   rw[LF,L1,NE,JT,lm,Kv,AK]
   congr 2
   by_cases h:kk∈us
   . rw[Lo h,Lo (xe.1 (lm▸h))]
   rw[Li h,Li (fun e=>h (lm▸xe.2 e))]
  rw[lm,Kv] at hI;have cj:=F7.out x.1 x.2 W3 hI.2 (by have:=hI.1.sz;omega);rw[AK] at cj;have HC:=zH cj;have Cl:=zH hI.1;have Dg:=zH IP;have lg:=zH Ku;have HUN:=zH Gu;have q1:=za hI.1.b1 0 rfl;obtain⟨g0,g1,_⟩:=Ka eQ;gi_wp2_with fail;refine⟨trivial,?_⟩;rw[ek];refine⟨fun _=>by omega,(CallsIn.inRound l ((callsIn_wide (n:=6)).2 HC.out)).mono ?_⟩;rintro e W4 ⟨rfl,WM,mw⟩;have Ck:=zH (Cl.out.call mw hR);have Uk:=zH WM;have ns:=zH mw;have q3:=za Ck.out.b3 0 rfl;obtain⟨m,hm⟩:=Ck.out.hm;have ep:=hm.look2 yI ht (hz W4) kk;have Dq:=zH hm
  by_cases dK:kk∈us
  case pos=>
   have hf:vr us kk=J (O U (us.idxOf kk:Int)):=Lo dK;rw[hf] at ep;simp only[Option.getD_some,Option.isSome_some] at ep;have oP:=Dq.out.look yI ht (hz W4) kk;rw[hf] at oP;simp only[Option.getD_some] at oP;have hu:ko us kk=us:=Lo dK;have M5:Ap (qf ((pre++[x]).map fun x=>key x.1)=us):=Dg.out.trans hu;have Om:Ap (kw ((pre++[x]).map fun x=>key x.1)=ls++[(us.idxOf kk:Int)]):=lg.out.trans (by rw[Lo dK]);have Dg:=M5;have lg:=Om;obtain⟨P,c,aV,ho⟩:=Ck.out.box;have bj:=zH aV;have HO:=zH ho;have q4:=za aV 0 rfl
   gi_wp2_with (gi_at_builtin; go_must (refine jh rfl _ _ rfl (w.heap.size + 6) (I P ls.length c) ls (us.idxOf kk : Int) rfl HO.out rfl (by omega) (by have := Ck.out.sz; omega) ?_); intro v' W6 bG mJ bz
                obtain⟨A6,k6,rfl,WX,WW,_⟩:=bG.form;have BJ:=(mJ.block (w.heap.size+1+1+1+1) (zc bj.out) (fun e=>YQ HO.out bj.out (by decide) e.symm)).trans bj.out;have q6:=za BJ 0 rfl;have f6:=zb BJ 0;have mQ:=zH bG;have sD:=zH mJ
                clear BJ bG mJ bz)
   have EE:=Ck.out.keeps bj.out HO.out sD.out (I A6 (ls.length+1) k6);have IY:=Ck.out.push (Lh _) bj.out HO.out (by have:=mQ.out;simpa using this) sD.out;refine⟨((show KeepsFrom w2.heap.size W3 W4 from⟨ns.out.size,fun k o hk bC _=>(ns.out.block k (zc bC) (fun e=>by have:=hR k e;omega)).trans bC⟩)).trans (ee▸EE.1),((show KeepB (fun k=>k=w.heap.size+1+1+1+1+1) W3 W4 from⟨ns.out.size,fun k hk hl=>ns.out.block k hl (fun e=>by have:=hR k e;omega)⟩)).trans EE.2,?_,?_⟩
   . rw[Dg.out,lg.out]
     exact IY
   have a2:Wrote (fun k=>w.heap.size<=k) W4 W6:=Wrote.of_grown sD.out (fun k e hk=>by have:=(HO.out.lt k e).1;omega);have a3:Wrote (fun k=>w.heap.size<=k) W6 (W6.setCell ⟨w.heap.size+1+1+1+1,0,Z⟩ (I A6 (ls.length+1) k6)):=Wrote.of_grown (zR W6 _ 0 _) (fun k e hk=>by cases e;omega);exact HJ.out _ _ Uk.out (a2.trans a3 (fun _ _ h=>h))
  have hf:vr us kk=Z:=Li dK;rw[hf] at ep;simp only[Option.getD_none,Option.isSome_none] at ep;have hu:ko us kk=us++[kk]:=Li dK;have M5:Ap (qf ((pre++[x]).map fun x=>key x.1)=us++[kk]):=Dg.out.trans hu;have Om:Ap (kw ((pre++[x]).map fun x=>key x.1)=ls++[(us.length:Int)]):=lg.out.trans (by rw[Li dK]);obtain⟨es,bY,VZ,KS⟩:=XX Dq.out HUN.out;obtain⟨W5,dP,pM,ix⟩:=Dq.out.put yI ht kk (O U (us.length:Int));rw[numG_put dK] at pM;have FX:=zH (Ck.out.put (Lh _) ix pM);have oP:=pM.look yI ht (hz W5) kk
  have VW:vr (us++[kk]) kk=J (O U (us.length:Int)):=by
   unfold vr;rw[Lo (by simp),NY,Li dK];simp
  rw[VW] at oP;simp only[Option.getD_some] at oP;have HJ5:=zH (HJ.out W4 W5 Uk.out (Wrote.of_grown ix fun k e hk=>by cases e;omega))
  have BP:Ap (KeepsFrom w2.heap.size W4 W5/\KeepB (fun k=>k=w.heap.size+1+1+1+1+1) W4 W5):=by
   refine⟨⟨ix.size,fun k o hk bC _=>(ix.block k (zc bC) (fun e=>by cases e;omega)).trans bC⟩,⟨ix.size,fun k hk hl=>ix.block k hl (fun e=>by cases e;omega)⟩⟩
  have q35:=za FX.out.b3 0 rfl;obtain⟨P,c,aV,ho⟩:=FX.out.box;have bj:=zH aV;have HO:=zH ho;have q4:=za aV 0 rfl;have Dg:=M5;have lg:=Om
  have fB:(Builtin.len_ #[219] 3 #[.map (J (w.heap.size+1+1))]).run Al W4=.ok (O U (us.length:Int)) W4:=by
   rw[<-KS];exact run_len_map W4 _ _ _ es bY (by kernel_rfl) VZ
  gi_wp2_with (gi_at_builtin; go_must (refine jh rfl _ _ rfl (w.heap.size + 6) (I P ls.length c) ls (us.length : Int) rfl HO.out rfl (by omega) (by have := FX.out.sz; omega) ?_); intro v' W6 bG mJ bz
               obtain⟨A6,k6,rfl,WX,WW,_⟩:=bG.form;have BJ:=(mJ.block (w.heap.size+1+1+1+1) (zc bj.out) (fun e=>YQ HO.out bj.out (by decide) e.symm)).trans bj.out;have q6:=za BJ 0 rfl;have f6:=zb BJ 0;have mQ:=zH bG;have sD:=zH mJ
               clear BJ bG mJ bz)
  have EE:=FX.out.keeps bj.out HO.out sD.out (I A6 (ls.length+1) k6);have IY:=FX.out.push (Lh _) bj.out HO.out (by have:=mQ.out;simpa using this) sD.out;refine⟨(((show KeepsFrom w2.heap.size W3 W4 from⟨ns.out.size,fun k o hk bC _=>(ns.out.block k (zc bC) (fun e=>by have:=hR k e;omega)).trans bC⟩)).trans BP.out.1).trans (ee▸EE.1),(((show KeepB (fun k=>k=w.heap.size+1+1+1+1+1) W3 W4 from⟨ns.out.size,fun k hk hl=>ns.out.block k hl (fun e=>by have:=hR k e;omega)⟩)).trans BP.out.2).trans EE.2,?_,?_⟩
  . rw[Dg.out,lg.out]
    exact IY
  have a2:Wrote (fun k=>w.heap.size<=k) W5 W6:=Wrote.of_grown sD.out (fun k e hk=>by have:=(HO.out.lt k e).1;omega);have a3:Wrote (fun k=>w.heap.size<=k) W6 (W6.setCell ⟨w.heap.size+1+1+1+1,0,Z⟩ (I A6 (ls.length+1) k6)):=Wrote.of_grown (zR W6 _ 0 _) (fun k e hk=>by cases e;omega);exact HJ.out _ _ HJ5.out (a2.trans a3 (fun _ _ h=>h))
 case done=>
  intro D ys W hD iS hI fG;have rT:ys.map (fun x=>key x.1)=L.map key:=by rw[show ys.map (fun x=>key x.1)=(ys.map (·.1)).map key by rw[P6];rfl,iS]
  rw[rT] at hI;obtain⟨hN,WL⟩:=hI;obtain⟨P,c,aV,ho⟩:=hN.box;have q4:=za aV 0 rfl;have HN9:=zH hN;have HO:=zH ho;have HJ9:=zH WL;have tL:=zH fG;go_wp2_with fail;refine yR (B:=w2.heap.size) (w:=W) (show Marks w2.heap.size _ W from⟨[D],rfl,by simp,fun r hr=>by rw[Nb] at hr;subst hr;exact⟨hD,tL.out⟩⟩) (v:=.slice P (kw (L.map key)).length c) (fun W=>by kernel_rfl) ?_;intro X hS;have hb:Am w2.heap.size W X:=hS.below;refine⟨_,rfl,(HO.out.shut hS).low (by omega),HJ.out W X HJ9.out ⟨hb.os,hb.tape,hb.output,hb.size,fun k hk hn=>hb.block k (by omega)⟩,HN9.out.wrote.trans (R':=fun k=>w2.heap.size<=k) ⟨hb.os,hb.tape,hb.output,hb.size,fun k hk hn=>hb.block k (by omega)⟩ (fun k h1 h2=>by omega)⟩
 intro D c pre W _ _ h;exact h.elim
theorem zI{α:Type}{l:List α}{i:Nat}(h:i<l.length)(d:α):l.getD i d=l[i]:=by rw[Le,Lf h];rfl
def jE(s:Sy)(q:Nat):List Int:=(zi (s.p.k.toNat+1) 0 s.xs.length).map fun x=>xw (s.xs.getD x.1 default) x.2 q
def qc(s:Sy)(q:Nat):List Int:=kw (jE s q)
def clsE(s:Sy)(p:Int):List Int×Int:=if yb s≠0 then ([],yb s) else if p<0\/s.n<=p then ([],2) else (qc s p.toNat,0)
def RetOE(xs:List Int)(n:Int)(w:Ba)(e:Ending)(w':Ba):Prop:=∃A c,e=Ak (.tuple #[I A xs.length c,O U n])/\Own w' w.heap.size (I A xs.length c) xs/\Am w.heap.size w w'
theorem ZK(s:Sy)(q:Nat):(jE s q).length=s.xs.length*(s.p.k.toNat+1):=by unfold jE;rw[LJ,uw _ _ (by omega)]
theorem keyL_at(s:Sy)(q i:Nat)(h:i<(jE s q).length):(jE s q)[i]=xw (s.xs.getD (i / (s.p.k.toNat+1)) default) (i % (s.p.k.toNat+1)) q:=by
 have h2:i<(zi (s.p.k.toNat+1) 0 s.xs.length).length:=by have:=h;unfold jE at this;simpa using this
 have:(jE s q)[i]=xw (s.xs.getD ((zi (s.p.k.toNat+1) 0 s.xs.length)[i]).1 default) ((zi (s.p.k.toNat+1) 0 s.xs.length)[i]).2 q:=by unfold jE;exact NT ..
 rw[this,prs_at _ _ (by omega)]
theorem cls1_any(s:Sy)(K N:Nat)(hF:Fine s K N)(e k q:Nat)(he:e<s.xs.length)(hk:k<=K)(hq:q<N)(A SV AV AX:Bb)(kc ks kv kx bs bp:Nat)(w:Ba)(hX:XAt w w.heap.size AX s.xs)
  (hb:w.heap[bs]?=J (Ag (s.vs_ A kc SV ks AV kv AX kx) 39 (0,0))) (hp:w.heap[bp]?=J (Ag #[O U (q:Int)] 3 (0,0))) :
  An Al 126 #[Ai #[O U (e:Int),O U (k:Int)],Aj (J ⟨bs,0,Z⟩),Aj (J ⟨bp,0,Z⟩)] w fun r w'=>r=Ak (O U (xw s.xs[e] k q))/\Am w.heap.size w w':=by
 obtain⟨w1,ac,d0,aA,hB⟩:=zh w #[O U (e:Int),O U (k:Int)] 92;have ii:=Ld he;obtain⟨co,aN⟩:=hF.views _ ii;obtain⟨bx,ox,A1,c1,A2,c2,eX,aV,x0,x1,x2,de,eU⟩:=(hX.keep hB).row e he;subst eX;obtain⟨x,hx⟩:∃x,x=s.xs[e]:=⟨_,rfl⟩;rw[<-hx] at co aN x2 eU ⊢;obtain⟨bl,ol,A3,c3,eL,az,y1,hI⟩:=eU.at_ k (by omega);subst eL;obtain⟨hl,ip⟩:=aN _ (Ld (by omega:k<x.views.length));have DK:∀row,x.views[k]'(by omega)=row->xw x k q=row.getD q 0:=fun row hr=>by unfold xw;rw[zI (by omega:k<x.views.length),hr]
 obtain⟨row,oE⟩:=Kh (x.views[k]'(by omega));rw[DK row oE];rw[oE] at y1 hI hl;obtain⟨b4,o4,e4,bq,z4⟩:=hI.at_ q (by omega);subst e4;have iU:row[q]'(by omega)=row.getD q 0:=by rw[Le,Lf (by omega)];rfl
 rw[iU] at z4;obtain⟨u,hu⟩:=Kh (row.getD q 0);rw[hu] at z4 ⊢;obtain⟨nv,sY⟩:=Kh x.views.length;rw[sY] at x2 co;obtain⟨nr,Eo⟩:=Kh row.length;rw[Eo] at y1 hl;have ah:=zH ac;have HB:=zH hB;obtain⟨g0,g1,_⟩:=Ka d0;have p0:=za (La hB hp) 0 rfl;have p9:w1.cell? ⟨bs,9,Z⟩=J (I (J ⟨bx,ox,Z⟩) s.xs.length kx):=za (La hB hb) 9 rfl;have h1:(0:Int)<=(e:Int):=by omega
 have h2:(e:Int)<(s.xs.length:Int):=by omega
 have h3:(0:Int)<=(k:Int):=by omega
 have h4:(k:Int)<(nv:Int):=by omega
 have h5:(0:Int)<=(q:Int):=by omega
 have h6:(q:Int)<(nr:Int):=by omega
 clear ac d0 hB hX hb hp hF iU hu sY Eo hx de eU hI ip aN ii DK oE x0 x1 hl co;go_enter func126,ntmps126;go_wp2_with fail;rw[ah.out];go_quiet (fail);go_wp2_with fail;go_ret;exact⟨rfl,zO HB.out _⟩
theorem Yd{w w':Ba}(h:Wrote (fun _=>False) w w'):Am w.heap.size w w':=⟨h.os,h.tape,h.output,h.size,fun k hk=>h.block k hk (fun h=>h)⟩
theorem Xi(s:Sy)(hs:LowS s)(hf:xN s.p)(p:Int)(A SV AV AX:Bb)(kc ks kv kx:Nat)(w:Ba)(hS:SyAt w w.heap.size A SV AV AX s) :
  An Al 74 #[.agg (s.vs_ A kc SV ks AV kv AX kx),O U p] w (RetOE (clsE s p).1 (clsE s p).2 w):=by
 obtain⟨w1,ac,d0,d1,aA,hB⟩:=yr w (s.vs_ A kc SV ks AV kv AX kx) #[O U p] 39 3;have HV:=zH (uv s hs hf A SV AV AX kc ks kv kx w1 (hS.up hB));have d':=zH (hS.up hB);have HE:Ap (clsE s p=if yb s≠0 then ([],yb s) else if p<0\/s.n<=p then ([],2) else (qc s p.toNat,0)):=rfl;have nt:=zH (fun h=>xj hf h)
 have Do:=zH (fun (K N q:Nat) (hF:Fine s K N) (hq:q<N) (X:Ba) (hX:SyAt X X.heap.size A SV AV AX s) (bs bp:Nat) (hb:X.heap[bs]?=J (Ag (s.vs_ A kc SV ks AV kv AX kx) 39 (0,0))) (hp:X.heap[bp]?=J (Ag #[O U (q:Int)] 3 (0,0)))=>
  ZS s K s.xs.length (by have:=hF.k6;omega) (by have:=hF.lx;omega) hF.k rfl A SV AV AX kc ks kv kx 126 #[Aj (J ⟨bs,0,Z⟩),Aj (J ⟨bp,0,Z⟩)]
   (NV func126 (by kernel_rfl) rfl) (fun x=>xw (s.xs.getD x.1 default) x.2 q) (fun _=>False)
   (fun W=>XAt W X.heap.size AX s.xs/\W.heap[bs]?=J (Ag (s.vs_ A kc SV ks AV kv AX kx) 39 (0,0))/\W.heap[bp]?=J (Ag #[O U (q:Int)] 3 (0,0))/\X.heap.size<=W.heap.size) X (fun _ h=>h.elim)
   ⟨hX.fx,hb,hp,Lh _⟩
   (fun W W' h hw=>by
    have az:Am X.heap.size W W':=⟨hw.os,hw.tape,hw.output,hw.size,fun k hk=>hw.block k (by have:=h.2.2.2;omega) (fun h2=>by omega)⟩
    exact⟨h.1.keep az,Lb az (zc hb) h.2.1,Lb az (zc hp) h.2.2.1,LE h.2.2.2 hw.size⟩)
   (fun x hx W hJ hW=>by
    obtain⟨_,h1,h2⟩:=xT _ _ x hx;have he:x.1<s.xs.length:=by omega
    have:=cls1_any s K N hF x.1 x.2 q he (by omega) hq A SV AV AX kc ks kv kx bs bp W (hJ.1.more hJ.2.2.2) hJ.2.1 hJ.2.2.1;refine this.mono ?_;rintro r w' ⟨rfl,dn⟩;rw[zI he]
    refine⟨rfl,⟨hJ.1.keep (dn.mono hJ.2.2.2),La dn hJ.2.1,La dn hJ.2.2.1,LE hJ.2.2.2 dn.size⟩,Wrote.of_below dn⟩))
 have mr:=zH (fun (K q:Nat) (h:s.p.k=(K:Int))=>(by unfold qc jE;rw[h];rfl:qc s q=kw ((zi (K+1) 0 s.xs.length).map fun x=>xw (s.xs.getD x.1 default) x.2 q)));obtain⟨R,hR⟩:=Kh (clsE s p);obtain⟨r,hr⟩:=Kh (yb s);rw[hr] at HV HE nt;rw[hR] at HE ⊢;unfold Sy.vs_ at ac d0 HV Do ⊢;have ah:=zH ac;have HB:=zH hB;have HD:=zH d0;have cH:=zH d1;have p5:=za d0 5 rfl;have p6:=za d0 6 rfl;have p7:=za d0 7 rfl;have p8:=za d0 8 rfl;have p9:=za d0 9 rfl;clear ac d0 d1 hB hS hr hR hs hf;go_enter func74,ntmps74;go_wp2_with fail;rw[ah.out];go_wp2_with fail;refine HV.out.mono ?_;rintro e w2 ⟨rfl,af⟩;have aP:=zH (HB.out.trans (af.mono (by omega)));have cI:=zH (d'.out.up af);have d0:=Lb af (by omega:w.heap.size<w1.heap.size) HD.out;have d1:=Lb af (by omega:w.heap.size+1<w1.heap.size) cH.out;clear p5 p6 p7 p8 p9 af HV ah d' HD cH
 by_cases h0:r=0
 case neg=>
  have hR:Ap (R=([],r)):=HE.out.trans (Lo h0);have e0:(r != 0)=Ar:=by simpa using h0
  clear HE nt h0 d0 d1 Do mr;go_wp2_with fail
  go_ret2
  rw[hR.out];exact⟨Z,0,rfl,Own.nil _ _,aP.out⟩
 case pos=>
 subst h0;obtain⟨dB,K,N,hF⟩:=nt.out rfl;clear dB;have iP:R=if p<0\/s.n<=p then ([],2) else (qc s p.toNat,0):=HE.out.trans (Li (by simp));have hn:=hF.n;have h5:=hF.n5;rw[hn] at iP;have ai:=zH iP;have Cr:=zH hF;have pz:=zH d0;have q0:=za d1 0 rfl;have q7:w2.cell? ⟨w.heap.size,7,Z⟩=J (O U (N:Int)):=by rw[<-hn];exact za d0 7 rfl
 have cH:=zH d1;clear HE nt iP hF d0 d1 hn
 by_cases h1:p<0
 case pos=>
  have hR:Ap (R=([],2)):=ai.out.trans (Lo (.inl h1));clear ai Do mr;go_wp2_with fail
  go_ret2
  rw[hR.out];exact⟨Z,0,rfl,Own.nil _ _,aP.out⟩
 case neg=>
 obtain⟨q,rfl⟩:=Lr (show 0<=p by omega);have e1:(decide ((q:Int)<0))=As:=by simp
 by_cases h2:q<N
 case neg=>
  have hR:Ap (R=([],2)):=ai.out.trans (Lo (.inr (by omega)));have e2:(decide ((N:Int)<=(q:Int)))=Ar:=by simp;omega
  have h3:(N:Int)<=(q:Int):=by omega
  clear ai Do mr;go_wp2_with fail
  go_ret2
  rw[hR.out];exact⟨Z,0,rfl,Own.nil _ _,aP.out⟩
 have hR:Ap (R=(qc s q,0)):=ai.out.trans (Li (by omega));have HC:=zH (Do.out K N q Cr.out h2 w2 cI.out w.heap.size (w.heap.size+1) pz.out cH.out);have aU:=mr.out K q Cr.out.k;have hn:=Cr.out.n;rw[<-aU,hn] at HC;obtain⟨p0,p1,p2,p3,p4,p5,p6,_⟩:=Kf pz.out;have p8:=za pz.out 8 rfl;have p9:=za pz.out 9 rfl;clear ai Do mr cI aU Cr hn;go_wp2_with fail
 all_goals first | (exfalso;omega) | skip
 refine HC.out.mono ?_;rintro e w3 ⟨v,rfl,ho,_,CK⟩;have HO:=zH ho;have am:=Yd CK;have bk:=zH (Lc aP.out am);obtain⟨A6,k6,rfl,_,_,_⟩:=HO.out.form;go_wp2_with fail
 go_ret2
 rw[hR.out];exact⟨A6,k6,rfl,HO.out.low aP.out.size,bk.out⟩
end
section
theorem Q1{l:List Int}{i:Nat}(h:i<l.length)(d:Int):l.getD i d=l[i]:=by rw[Le,Lf h];rfl
def jH(bs:List Bool)(k:Nat):List Bool:=bs.take k++List.replicate (bs.length-k) As
theorem firB_zero(bs:List Bool):jH bs 0=List.replicate bs.length As:=by simp[jH]
theorem firB_all(bs:List Bool):jH bs bs.length=bs:=by simp[jH]
theorem firB_len(bs:List Bool){k:Nat}(hk:k<=bs.length):(jH bs k).length=bs.length:=by simp[jH];omega
theorem firB_set(bs:List Bool){k:Nat}(hk:k<bs.length):(jH bs k).set k bs[k]=jH bs (k+1):=by
 unfold jH;rw[Ls hk,List.set_append_right _ _ (by simp;omega)];rw[show bs.length-k=(bs.length-(k+1))+1 by omega,List.replicate_succ];rw[show k-(bs.take k).length=0 by simp;omega,List.set_cons_zero,L7]
 rfl
end
section
open Go.RowKit
theorem Q4{a:Ad}(h:zB a a.sts=0):∀(k:Nat) (s:Int),0<=s->s<a.sts.length->1<=zU a k s
 | 0,_,_,_=>Lh _
 | k+1,s,h0,h1=>by
  have hl:s.toNat<a.sts.length:=by omega
  have he:a.at_ s=a.sts[s.toNat]:=by unfold Ad.at_;rw[Le,Lf hl];rfl
  obtain⟨z1,z2⟩:=kA h _ (Ld hl)
  obtain⟨m,r,hm⟩:∃m r,a.sts[s.toNat]=m::r:=by
   cases hc:a.sts[s.toNat] with
   | nil=>rw[hc] at z1;simp at z1
   | cons m r=>exact⟨m,r,rfl⟩
  have Vj:m∈a.mvs:=Nq.2 ⟨_,Ld hl,by rw[hm];simp⟩;obtain⟨_,_,z3,z4⟩:=yY h m Vj;have:=Q4 h k m.to z3 z4;unfold zU;rw[he,hm,L1,PX];omega
theorem xs_pos{s:Sy}(hf:xN s.p)(h:yb s=0):1<=s.xs.length:=by
 obtain⟨e,_⟩:=xj hf h
 have h0:zL s.p=0:=by
  unfold yb at h
  by_cases h1:(zP s.p).2≠0
  . rw[Lo h1] at h;exact absurd h h1
  by_cases h0:zL s.p=0
  . exact h0
  rw[yF h0] at h1;exact absurd h0 h1
 obtain⟨dI,nF,_⟩:=zM h0;obtain⟨hc,_⟩:=yv dI;rw[e];show 1<=(zx s.p (zu s.p)).2.length;have ha:=nF;unfold xy at ha
 have lN:zB s.p.a s.p.a.sts=0/\1<=s.p.a.sts.length:=by
  split at ha
  . cases ha
  split at ha
  . cases ha
  rename_i h3
  split at ha
  . rename_i h4;exact absurd ha h4
  rename_i h4;exact⟨by simpa using h4,by omega⟩
 have:=Q4 lN.1 s.p.k.toNat 0 (Int.le_refl _) (by omega);rw[xm,ZO,uy,yj];exact L3 hc this
end
section
def ptn(s:Sy):Nat:=s.xs.length*(s.p.k.toNat+1)
theorem clsL_len(s:Sy)(q:Nat):(qc s q).length=ptn s:=by unfold qc;rw[qQ,ZK];rfl
end
section
open Go.RowKit Go.Shelf
attribute [local go_sem] Oper.semAt_some
theorem shl_one{N:Nat}(h:N<=5):(2^((N:Int)).toNat:Int)=((2^N:Nat):Int):=by
 obtain rfl | rfl | rfl | rfl | rfl | rfl:N=0\/N=1\/N=2\/N=3\/N=4\/N=5:=by omega
 all_goals rfl
theorem own_on{W W9:Ba}{base:Nat}{A:Bb}{n c:Nat}{xs:List Int}(ho:Own W base (I A n c) xs)(h:∀k,base<=k->k<W.heap.size->W9.heap[k]?=W.heap[k]?):IAt W9 W.heap.size A xs:=fun h0=>by
 obtain⟨A',c',e',_,_,hI⟩:=ho.form;simp only[Value.slice.injEq] at e';obtain⟨e1',-,-⟩:=e';subst e1';obtain⟨b,off,e,aa,hc⟩:=hI h0;subst e;have hb:=(ho.lt b rfl).1;exact⟨b,off,rfl,aa,fun i hi=>(LR (h b hb aa)).trans (hc i hi)⟩
theorem XT(s:Sy)(K N:Nat)(hF:Fine s K N)(A SV AV AX:Bb)(kc ks kv kx:Nat)(w:Ba) :
  An Al 124 #[.agg (s.vs_ A kc SV ks AV kv AX kx)] w fun e w'=>e=Ak (O U (ptn s:Int))/\Am w.heap.size w w':=by
 obtain⟨w1,ac,d0,aA,hB⟩:=zh w (s.vs_ A kc SV ks AV kv AX kx) 39;have Ex:=hF.lx;have hk:=hF.k;have rW:=hF.k6;have hn:ptn s=s.xs.length*(K+1):=by unfold ptn;rw[hk];rfl
 have hb:=L3 Ex (show K+1<=7 by omega);rw[hn];unfold Sy.vs_ at ac d0 ⊢;rw[hk] at ac d0 ⊢;obtain⟨M,hM⟩:=Kh s.xs.length;rw[hM] at ac d0 hb Ex ⊢;have ah:=zH ac;have HB:=zH hB
 have HWR:Ap (wrap64 ((M:Int)*((K:Int)+1))=((M*(K+1):Nat):Int)):=by
  show wrap64 _=_;rw[show(M:Int)*((K:Int)+1)=((M*(K+1):Nat):Int) by push_cast;rfl];exact IntWalk.wrap64_in _ (by omega)
 clear ac d0 hB hF hk hn hM hb;go_enter func124,ntmps124;go_wp2_with fail;rw[ah.out];go_wp2_with fail;go_ret;exact⟨by rw[<-HWR.out];rfl,HB.out⟩
def Xg(s:Sy):Int×Int:=if yb s≠0 then (0,yb s) else ((ptn s:Int),0)
theorem XV(s:Sy)(hs:LowS s)(hf:xN s.p)(A SV AV AX:Bb)(kc ks kv kx:Nat)(w:Ba)(hS:SyAt w w.heap.size A SV AV AX s) :
  An Al 73 #[.agg (s.vs_ A kc SV ks AV kv AX kx)] w fun e w'=>e=Ak (.tuple #[O U (Xg s).1,O U (Xg s).2])/\Am w.heap.size w w':=by
 obtain⟨w1,ac,d0,aA,hB⟩:=zh w (s.vs_ A kc SV ks AV kv AX kx) 39;have HV:=zH (uv s hs hf A SV AV AX kc ks kv kx w1 (hS.up hB));have dN:Ap (yb s≠0->Xg s=(0,yb s)):=fun h=>Lo h
 have aq:Ap (yb s=0->Xg s=((ptn s:Int),0)/\∀X,An Al 124 #[.agg (s.vs_ A kc SV ks AV kv AX kx)] X fun e w'=>e=Ak (O U (ptn s:Int))/\Am X.heap.size X w'):=fun h=>by
  obtain⟨_,K,N,hF⟩:=xj hf h;exact⟨Li (by simpa using h),fun X=>XT s K N hF A SV AV AX kc ks kv kx X⟩
 obtain⟨r,hr⟩:=Kh (yb s);rw[hr] at HV dN aq;obtain⟨R,fX⟩:=Kh (Xg s);rw[fX] at dN aq ⊢;unfold Sy.vs_ at ac d0 HV aq ⊢;have ah:=zH ac;have HB:=zH hB;have HD:=zH d0;have p9:=za (d0) 9 rfl;clear ac d0 hB hS hr fX hs hf;go_enter func73,ntmps73;go_wp2_with fail;rw[ah.out];go_wp2_with fail;refine HV.out.mono ?_;rintro e w2 ⟨rfl,af⟩;have aP:=zH (HB.out.trans (af.mono (by omega)));have d0:=Lb af (by omega:w.heap.size<w1.heap.size) HD.out;clear p9 af HV ah HD;obtain⟨p0,p1,p2,p3,p4,p5,p6,p7,p8,p9⟩:=zK (d0);clear d0
 by_cases h0:r=0
 case neg=>
  have hR:Ap (R=(0,r)):=dN.out h0;have e0:(r != 0)=Ar:=by simpa using h0
  clear dN aq;go_wp2_with fail
  go_ret2
  rw[hR.out];exact⟨rfl,aP.out⟩
 case pos=>
 subst h0;obtain⟨S5,hC⟩:=aq.out rfl;have HC:=zH (hC w2);have hR:=zH S5;clear dN aq S5 hC;go_wp2_with fail;refine HC.out.mono ?_;rintro e w3 ⟨rfl,am⟩;have bk:=zH (Lc aP.out am);go_wp2_with fail
 go_ret2
 rw[hR.out];exact⟨rfl,bk.out⟩
theorem Jk{H:Nat}{w w':Ba}(h:Wrote (fun k=>k=H) w w')(hH:H<=w.heap.size):Am H w w':=⟨h.os,h.tape,h.output,h.size,fun k hk=>h.block k (by omega) (by omega)⟩
def gG(r:Int)(i:Nat)(x:Int)(o:List Int):List Int:=if 0<r/\0<=x then o.set i (bits BinOp.or U (o.getD i 0) (o.getD x.toNat 0)) else o
def qH(v:Vw)(i:Nat)(o:List Int):Nat->List Int
 | 0=>o.set i ((2^v.p.toNat:Nat):Int)
 | q+1=>gG v.r i (v.h q) (qH v i o q)
def xU(vs:List Vw):Nat->List Int
 | 0=>List.replicate vs.length 0
 | k+1=>qH (vs.getD k default) k (xU vs k) 5
theorem hrd1_len{r:Int}{i:Nat}{x:Int}{o:List Int}:(gG r i x o).length=o.length:=by unfold gG;split<;>simp
theorem wM{v:Vw}{i:Nat}{o:List Int}(q:Nat):(qH v i o q).length=o.length:=by
 induction q with
 | zero=>simp[qH]
 | succ q ih=>rw[qH,hrd1_len,ih]
theorem qS{vs:List Vw}(k:Nat):(xU vs k).length=vs.length:=by
 induction k with
 | zero=>simp[xU]
 | succ k ih=>rw[xU,wM,ih]
theorem index_h5(v:Vw)(k:Nat)(hk:k<5)(w:Ba):(Instr.index 64 (Ai #[O U v.h0,O U v.h1,O U v.h2,O U v.h3,O U v.h4]) (O U (k:Int))).run Al w=.ok (O U (v.h k)) w:=by
 obtain rfl | rfl | rfl | rfl | rfl:k=0\/k=1\/k=2\/k=3\/k=4:=by omega
 all_goals kernel_rfl
theorem XS(s:Sy)(hn:s.vs.length<=2100)(hv:∀v∈s.vs,(∃q:Nat,v.p=(q:Int)/\q<5)/\∀q,q<5->v.h q<(s.vs.length:Int))(A SV AV AX:Bb)(kc ks kv kx:Nat)(w:Ba)(hV:VAt w w.heap.size AV s.vs) :
  An Al 29 #[.agg (s.vs_ A kc SV ks AV kv AX kx)] w fun e w'=>∃g:Nat,e=Ak (I (J ⟨g,0,Z⟩) s.vs.length s.vs.length)/\w.heap.size<=g/\RowAt w' g (xU s.vs s.vs.length)/\Am w.heap.size w w':=by
 obtain⟨w1,ac,d0,aA,hB⟩:=zh w (s.vs_ A kc SV ks AV kv AX kx) 39;obtain⟨w2,cd,d2,ef,bP⟩:=zh w1 ((List.replicate s.vs.length 0).map (O U)).toArray 3;have fA:=JS s.vs.length (by omega);have ME:Am w.heap.size w w2:=hB.trans (bP.mono (by omega));have Da:Ap (RowAt w2 (w.heap.size+1) (xU s.vs 0)):=by rw[<-aA];exact d2
 have HD:=zH (Lb bP (by omega:w.heap.size<w1.heap.size) d0);have HV:Ap (VAt w2 w.heap.size AV s.vs):=hV.keep ME;obtain⟨vs,lK⟩:=Kh s.vs;unfold Sy.vs_ at ac d0 HD ⊢;rw[lK] at ac cd d0 fA Da HV HD hn hv ⊢;obtain⟨n,Kj⟩:=Kh vs.length;have Cj:=zH Kj;rw[Kj] at ac cd d0 HD fA hn hv ⊢;have tz:=zH hv;have ah:=zH ac;have FK:=zH cd;have bE:=zH ME;have p8:=za d0 8 rfl;have Ht:=zH fA;clear ac cd d0 d2 hB bP ME hV hv lK fA Kj;go_enter func29,ntmps29;go_upto_region 1 with fail
 rw[ah.out];have fA:=Ht.out;go_upto_region 2 with fail
 rw[show((w1.alloc (Ag (Array.replicate n (O U 0)) 3)))=w2 from(by rw[show Array.replicate n (O U 0)=((List.replicate n 0).map (O U)).toArray by simp];exact FK.out)];have p8:=za HD.out 8 rfl;go_wp2_with fail
 go_loopw [17] (fun i wr=>∃k:Nat,k<=n/\i=O U (k:Int)/\Ap (RowAt wr (w.heap.size+1) (xU vs k))/\Ap (Am (w.heap.size+1) w2 wr)) (fun i _=>n-(Ao i).toNat)
 case atStart=>exact⟨0,by omega,rfl,Da,Ll _ _⟩
 obtain⟨k,hk,rfl,S2,Ft⟩:=hrel;obtain⟨wE,rfl⟩:∃x,x=wr:=⟨_,rfl⟩
 by_cases dJ:k<n
 . obtain⟨v,iT⟩:∃v,vs[k]'(by have:=Cj.out;omega)=v:=⟨_,rfl⟩
   have Po:v∈vs:=by rw[<-iT];exact Ld _
   have HGV:Ap (vs.getD k default=v):=by rw[zI (by have:=Cj.out;omega),iT];exact rfl
   obtain⟨⟨pp,hp,RK⟩,hh⟩:=tz.out v Po;have pX:VAt wE w.heap.size AV vs:=HV.out.keep (Ft.out.mono (by omega));obtain⟨ba,oa,rfl,GP,ay⟩:=pX (by have:=Cj.out;omega);have aw:=ay k (by have:=Cj.out;omega);rw[iT] at aw;have c0:wE.cell? ⟨ba,oa+k*8,Z⟩=J (O U v.p):=aw 0 _ rfl;have c1:wE.cell? ⟨ba,oa+k*8+1,Z⟩=J (O U v.r):=aw 1 _ rfl;have c2:wE.cell? ⟨ba,oa+k*8+2,Z⟩=J (O U v.i):=aw 2 _ rfl;have c3:wE.cell? ⟨ba,oa+k*8+3,Z⟩=J (O U v.h0):=aw 3 _ rfl;have c4:wE.cell? ⟨ba,oa+k*8+4,Z⟩=J (O U v.h1):=aw 4 _ rfl;have c5:wE.cell? ⟨ba,oa+k*8+5,Z⟩=J (O U v.h2):=aw 5 _ rfl;have c6:wE.cell? ⟨ba,oa+k*8+6,Z⟩=J (O U v.h3):=aw 6 _ rfl;have c7:wE.cell? ⟨ba,oa+k*8+7,Z⟩=J (O U v.h4):=aw 7 _ rfl;rw[hp] at c0;have cA:(0:Int)<=(k:Int):=by omega
   have bC:(k:Int)<(n:Int):=by omega
   obtain⟨W5,mM,d5,iV,lA⟩:=zh wE #[O U (pp:Int),O U v.r,O U v.i,O U v.h0,O U v.h1,O U v.h2,O U v.h3,O U v.h4] 144;have tM:=zH d5;have BP:=zH mM;have aW:=zH lA;have HH:=zH hh;have HP:=zH hp;clear iT Po pX ay aw mM d5 lA hh hp;go_upto_region 5 with fail
   rw[BP.out];have ep:=S2.out;obtain⟨o,ho⟩:=Kh (xU vs k);have HO:=zH ho;have ir:o.length=n:=by rw[<-ho,qS];exact Cj.out
   have Cf:=zH ir;have Ml:RowAt W5 (w.heap.size+1) o:=by rw[<-ho];exact Lb aW.out ep.lt ep
   have cU:=zb Ml k;obtain⟨zq,q0⟩:∃z,W5.cell? ⟨w.heap.size+1,k,Z⟩=J (O U z):=⟨_,Ml.cell k (by omega)⟩;have p0:=za tM.out 0 rfl;have hsh:=shl_one (N:=pp) (by omega);have iK:(0:Int)<=(pp:Int):=by omega
   have FR:=zH Ml;go_upto_region 6 with fail
   have cd:wrap64 (2^pp)=((2^pp:Nat):Int):=by
    obtain rfl | rfl | rfl | rfl | rfl:pp=0\/pp=1\/pp=2\/pp=3\/pp=4:=by omega
    all_goals kernel_rfl
   rw[cd];have dO:=FR.out.set k ((2^pp:Nat):Int);have Em:∀z,z≠w.heap.size+1->(W5.setCell ⟨w.heap.size+1,k,Z⟩ (O U ((2^pp:Nat):Int))).heap[z]?=W5.heap[z]?:=fun z hz=>Lg W5 ⟨w.heap.size+1,k,Z⟩ _ z hz
   have Ky:w.heap.size+1<=wE.heap.size:=by
    have:=Ft.out.size;have:=aA;have:=ef;omega
   have fE:Am (w.heap.size+1) wE (W5.setCell ⟨w.heap.size+1,k,Z⟩ (O U ((2^pp:Nat):Int))):=(aW.out.mono Ky).setCell (Lh _) _;obtain⟨W6,pW⟩:=Kh (W5.setCell ⟨w.heap.size+1,k,Z⟩ (O U ((2^pp:Nat):Int)));rw[pW] at dO Em fE ⊢;have tr:w.heap.size+2<=wE.heap.size:=by have:=Ft.out.size;omega
   have Ur:=zH tr;have nW:=zH ((Em wE.heap.size (by omega)).trans tM.out)
   have FT:Ap (RowAt W6 (w.heap.size+1) (qH v k o 0)):=by
    show RowAt W6 _ (o.set k ((2^v.p.toNat:Nat):Int));rw[HP.out,Lj];exact dO
   have dj:=zH fE;have TY:Ap (wE.heap.size<W6.heap.size):=zc nW.out;have c3:=za nW.out 3 rfl;have c4:=za nW.out 4 rfl;have c5:=za nW.out 5 rfl;have c6:=za nW.out 6 rfl;have c7:=za nW.out 7 rfl;go_wp2_with fail
   go_loopw [30] (fun i wr=>∃q:Nat,q<=5/\i=O U (q:Int)/\Ap (RowAt wr (w.heap.size+1) (qH v k o q))/\Ap (Wrote (fun z=>z=w.heap.size+1) W6 wr)) (fun i _=>5-(Ao i).toNat)
   case atStart=>exact⟨0,by omega,rfl,FT,Wrote.refl _ _⟩
   obtain⟨q,hq,rfl,tm,Fc⟩:=hrel;have tr:=Ur.out;have aV:=(Fc.out.block wE.heap.size TY.out (by show ¬wE.heap.size=w.heap.size+1;omega)).trans nW.out
   by_cases im:q<5
   . have KB:=index_h5 v q im wr
     have UQ:=HH.out q im;have cO:qH v k o (q+1)=gG v.r k (v.h q) (qH v k o q):=rfl;obtain⟨x,hx⟩:=Kh (v.h q);rw[hx] at KB UQ cO;obtain⟨oq,RQ⟩:=Kh (qH v k o q);have Vb:oq.length=n:=by rw[<-RQ,wM,Cf.out]
     rw[RQ] at tm cO;have r1:=za aV 1 rfl;have cN:=zH cO;have mW:(q:Int)<5:=by omega
     by_cases hr0:0<v.r
     case neg=>
      have By:Ap (RowAt wr (w.heap.size+1) (qH v k o (q+1))):=by rw[cN.out];unfold gG;rw[Li (by omega)];exact tm.out
      go_wp2_with fail
      go_roundw
      case rel=>exact⟨q+1,by omega,by go_num,By,Fc⟩
      simp[Ao];omega
     by_cases ot:0<=x
     case neg=>
      have By:Ap (RowAt wr (w.heap.size+1) (qH v k o (q+1))):=by rw[cN.out];unfold gG;rw[Li (by omega)];exact tm.out
      go_wp2_with fail
      go_roundw
      case rel=>exact⟨q+1,by omega,by go_num,By,Fc⟩
      simp[Ao];omega
     obtain⟨y,rfl⟩:=Lr ot;have c1:=tm.out.cell k (by omega);have c2:=tm.out.cell y (by omega);have V9:oq.getD k 0=oq[k]'(by omega):=zI (by omega) 0;have V8:oq.getD y 0=oq[y]'(by omega):=zI (by omega) 0;rw[<-V9] at c1;rw[<-V8] at c2;have hE:gG v.r k (y:Int) oq=oq.set k (bits BinOp.or U (oq.getD k 0) (oq.getD y 0)):=by unfold gG;rw[Lo (by omega),Lj]
     rw[hE] at cN;obtain⟨a1,dL⟩:=Kh (oq.getD k 0);obtain⟨a2,iN⟩:=Kh (oq.getD y 0);rw[dL] at c1 cN;rw[iN] at c2 cN;have cU:=zb tm.out k;have pZ:=tm.out.set k (bits BinOp.or U a1 a2);rw[<-cN.out] at pZ;have By:Ap (RowAt (wr.drew.setCell ⟨w.heap.size+1,k,Z⟩ (O U (bits BinOp.or U a1 a2))) (w.heap.size+1) (qH v k o (q+1))):=pZ;have GT:Ap (Wrote (fun z=>z=w.heap.size+1) W6 (wr.drew.setCell ⟨w.heap.size+1,k,Z⟩ (O U (bits BinOp.or U a1 a2)))):=(Fc.out.trans (Wrote.of_below ((Ll _ wr).drew)) (fun _ _ h=>h)).trans (Wrote.of_grown (zR wr.drew (w.heap.size+1) k _) (fun z e _=>by cases e;rfl)) (fun _ _ h=>h);go_upto_region 10 with fail
     refine zk [(0,Ar),(1,Ar),(2,Ar),(3,Ar),(4,Ar),(5,Ar),(6,Ar),(7,Ar),(8,Ar),(9,As),(10,As)] (fun X=>X=wr.drew) (by kernel_rfl) (by kernel_rfl) rfl ?_
     repeat
      apply zy rfl
      . rintro K' ae X rfl
        go_simp;exact ae
     refine zt rfl ?_;intro K' ae;go_simp;refine ae _ _ rfl ?_;refine yN rfl (by kernel_rfl) ?_;intro K' ae;go_simp;refine ae (fun _=>True) _ _ trivial ?_;refine zE ?_;go_wp2_with fail
     go_roundw
     case rel=>exact⟨_,_,_,_,_,_,_,_,_,_,_,_,_,_,_,_,_,_,_,_,_,_,⟨q+1,by omega,by go_num,By,GT⟩,rfl⟩
     simp[Ao];omega
   obtain rfl:q=5:=by omega
   have By:Ap (RowAt wr (w.heap.size+1) (xU vs (k+1))):=by
    show RowAt wr _ (qH (vs.getD k default) k (xU vs k) 5);rw[HGV.out,HO.out];exact tm.out
   have Tr:Ap (Am (w.heap.size+1) w2 wr):=(Ft.out.trans dj.out).trans (Jk Fc.out (by have:=Ur.out;have:=TY.out;omega));go_wp2_with fail
   go_roundw
   case rel=>exact⟨k+1,by omega,by go_num,By,Tr⟩
   simp[Ao];omega
 obtain rfl:n=k:=by omega
 go_wp2_with fail;go_ret;exact⟨w.heap.size+1,rfl,Nat.le_succ _,S2.out,bE.out.trans (Ft.out.mono (Nat.le_succ _))⟩
end
section
open Go.RowKit
def LowV(vs:List Vw):Prop:=∀i (hi:i<vs.length),∀q,q<5->vs[i].h q<(i:Int)
theorem LowV.snoc{vs:List Vw}{v:Vw}(h:LowV vs)(hv:∀q,q<5->v.h q<(vs.length:Int)):LowV (vs++[v]):=fun i hi q hq=>by
 by_cases aa:i<vs.length
 . rw[PY aa];exact h i aa q hq
 . rw[Lu,P8] at hi
   obtain rfl:i=vs.length:=by omega
   rw[PI (by omega)];simpa using hv q hq
theorem putW_asc{vs:List Vw}{v:Vw}(h:LowV vs)(hv:∀q,q<5->v.h q<(vs.length:Int)):LowV (xn vs v).1:=by
 unfold xn
 split
 . exact h
 exact h.snoc hv
theorem uY{f:Nat->Vw}{vs:List Vw}(h:LowV vs):∀n,(∀p,p<n->∀q,q<5->(f p).h q<(vs.length:Int))->LowV (zY f vs n).1
 | 0,_=>h
 | n+1,hf=>by
  rw[zY];refine putW_asc (uY h n fun p hp=>hf p (by omega)) fun q hq=>?_
  have h1:=hf n (by omega) q hq;obtain⟨us,hu⟩:=jV f vs n;rw[hu,Lu];omega
theorem firstE_h(p:Nat)(i:Int)(q:Nat)(_hq:q<5):(yi p i).h q=-1:=by
 match q,_hq with
 | 0,_=>rfl
 | 1,_=>rfl
 | 2,_=>rfl
 | 3,_=>rfl
 | 4,_=>rfl
theorem YL{vs:List Vw}{n:Nat}{inp:List Int}{word:List Rd}(h:LowV vs):∀j,LowV (zr vs n inp word j).1
 | 0=>by
  rw[zr];refine uY h n fun p _ q hq=>?_
  rw[firstE_h p _ q hq];omega
 | j+1=>by
  rw[zr];refine uY (YL h j) n fun p _ q hq=>?_
  rw[kS _ _ _ _ q hq];unfold zQ;rw[kg vs n inp word j j (Lh _)]
  split
  . rename_i hc
    rw[kD] at hc;exact(ux vs n inp word j j q (Lh _) hc.1).lt.2
  . omega
theorem runW_asc(p:Pb)(l:List (Nat×List Rd)):LowV (zx p l).1:=by
 have key:∀n,n<=l.length->LowV (zx p (l.take n)).1:=by
  intro n
  induction n with
  | zero=>intro _;rw[LI,kC];intro i hi;cases hi
  | succ n ih=>
   intro hn;rw[Ls (by omega),xH];exact YL (ih (by omega)) _
 have:=key l.length (Lh _);rwa[LC] at this
theorem built_asc(p:Pb):LowV (zz p).vs:=runW_asc p _
theorem or_32{a b:Nat}(ha:a<32)(hb:b<32):bits BinOp.or U (a:Int) (b:Int)=((a ||| b:Nat):Int):=by
 have h:∀a:Nat,a<32->∀b:Nat,b<32->bits BinOp.or U (a:Int) (b:Int)=((a ||| b:Nat):Int):=by decide +kernel
 exact h a ha b hb
theorem kY{l:List Int}{i j:Nat}{x:Int}:(l.set i x).getD j 0=if i=j/\i<l.length then x else l.getD j 0:=by
 rw[Le,Le,List.getElem?_set]
 by_cases e:i=j
 . subst e
   by_cases h:i<l.length
   . simp[h]
   simp[h]
 simp[e]
theorem wL{v:Vw}{i j:Nat}{o:List Int}(h:i≠j)(q:Nat):(qH v i o q).getD j 0=o.getD j 0:=by
 induction q with
 | zero=>rw[qH,kY,Li (fun e=>h e.1)]
 | succ q ih=>
  rw[qH];unfold gG
  split
  . rw[kY,Li (fun e=>h e.1),ih]
  . exact ih
theorem vB{vs:List Vw}{k:Nat}:∀m,k<=m->∀i,i<k->(xU vs m).getD i 0=(xU vs k).getD i 0
 | 0,hm,i,hi=>by omega
 | m+1,hm,i,hi=>by
  by_cases e:k=m+1
  . subst e;rfl
  . rw[xU,wL (by omega),vB m (by omega) i hi]
theorem wK{vs:List Vw}(hl:LowV vs){i:Nat}(hi:i<vs.length){p:Nat}(hp:vs[i].p=(p:Int))(RK:p<5)
  (hE:∀j,j<i->∃S:Nat,(xU vs vs.length).getD j 0=(S:Int)/\S<32) :
  ∃S:Nat,(xU vs vs.length).getD i 0=(S:Int)/\S<32/\∀o,o<5->(S.testBit o=Ar↔o=p\/(0<vs[i].r/\∃q,q<5/\0<=vs[i].h q/\∃T:Nat,(xU vs vs.length).getD (vs[i].h q).toNat 0=(T:Int)/\T.testBit o=Ar)):=by
 have hv:vs.getD i default=vs[i]:=by rw[Le,Lf hi];rfl
 have key:∀q,q<=5->∃S:Nat,(qH vs[i] i (xU vs i) q).getD i 0=(S:Int)/\S<32/\∀o,o<5->(S.testBit o=Ar↔o=p\/(0<vs[i].r/\∃q',q'<q/\0<=vs[i].h q'/\∃T:Nat,(xU vs vs.length).getD (vs[i].h q').toNat 0=(T:Int)/\T.testBit o=Ar)):=by
  intro q
  induction q with
  | zero=>
   intro _;refine⟨2^p,?_,?_,fun o ho=>?_⟩
   . rw[qH,kY,Lo ⟨rfl,by rw[qS];exact hi⟩,hp,Lj]
   . exact Lx (Nat.pow_lt_pow_right (by omega) RK) (by decide)
   . rw[Nat.testBit_two_pow]
     simp only[decide_eq_true_eq];constructor
     . intro e;exact .inl e.symm
     . rintro(e | ⟨_,q',Gy,_⟩)
       . exact e.symm
       . omega
  | succ q ih=>
   intro hq;obtain⟨S,e,hS,hb⟩:=ih (by omega);rw[qH];unfold gG
   by_cases hc:0<vs[i].r/\0<=vs[i].h q
   . rw[Lo hc]
     have aa:=hl i hi q (by omega);obtain⟨T,eT,hT⟩:=hE (vs[i].h q).toNat (by omega)
     have eT2:(qH vs[i] i (xU vs i) q).getD (vs[i].h q).toNat 0=(T:Int):=by
      rw[wL (by omega),<-vB vs.length (show i<=vs.length by omega) _ (show(vs[i].h q).toNat<i by omega),eT]
     refine⟨S ||| T,?_,Nat.or_lt_two_pow (n:=5) hS hT,fun o ho=>?_⟩
     . rw[kY,Lo ⟨rfl,by rw[wM,qS];exact hi⟩,e,eT2]
       exact or_32 hS hT
     . rw[Nat.testBit_or,Pf,hb o ho]
       constructor
       . rintro((e1 | ⟨h0,q',Gy,r⟩) | h)
         . exact .inl e1
         . exact .inr ⟨h0,q',by omega,r⟩
         . exact .inr ⟨hc.1,q,by omega,hc.2,T,eT,h⟩
       . rintro(e1 | ⟨h0,q',Gy,h2,T',TE,r⟩)
         . exact .inl (.inl e1)
         . by_cases e2:q'=q
           . subst e2
             rw[eT] at TE;have:T=T':=by omega
             subst this;exact .inr r
           . exact .inl (.inr ⟨h0,q',by omega,h2,T',TE,r⟩)
   . rw[Li hc]
     refine⟨S,e,hS,fun o ho=>(hb o ho).trans ?_⟩;constructor
     . rintro(e1 | ⟨h0,q',Gy,r⟩)
       . exact .inl e1
       . exact .inr ⟨h0,q',by omega,r⟩
     . rintro(e1 | ⟨h0,q',Gy,h2,r⟩)
       . exact .inl e1
       . by_cases e2:q'=q
         . subst e2;exact absurd ⟨h0,h2⟩ hc
         . exact .inr ⟨h0,q',by omega,h2,r⟩
 obtain⟨S,e,hS,hb⟩:=key 5 (Lh _);refine⟨S,?_,hS,hb⟩;rw[vB vs.length (show i+1<=vs.length by omega) i (by omega),xU,hv];exact e
theorem JY{vs:List Vw}(hl:LowV vs)(hp:∀v∈vs,∃p:Nat,v.p=(p:Int)/\p<5):∀i,i<vs.length->∃S:Nat,(xU vs vs.length).getD i 0=(S:Int)/\S<32:=by
 intro i
 induction i using Nat.strongRecOn with
 | ind i ih=>
  intro hi;obtain⟨p,h1,h2⟩:=hp _ (Ld hi);obtain⟨S,e,hS,_⟩:=wK hl hi h1 h2 (fun j hj=>ih j hj (by omega));exact⟨S,e,hS⟩
def HR(N:Nat)(word:List Rd):Nat->Nat->Nat->Prop
 | 0,q,o=>o=q
 | k+1,q,o=>∃m,m<N/\((word.getD k default).h q).toNat.testBit m=Ar/\HR N word k m o
theorem HR_own{s:Sy}{K N:Nat}(hF:Fine s K N){x:Exn}(hx:x∈s.xs):∀k,k<=K->∀q,q<N->HR N x.word k q q
 | 0,_,q,_=>rfl
 | k+1,hk,q,hq=>by
  obtain⟨r1,n1⟩:=hF.round hx (show k<K by omega);obtain⟨m,hm,_,hb⟩:=vC r1 n1 hF.n5 hq;exact⟨q,hq,by rw[hm,Lj];exact hb,HR_own hF hx k (by omega) q hq⟩
theorem hrd_view{s:Sy}{K N:Nat}(hF:Fine s K N)(hS:Sees s K N)(hl:LowV s.vs){x:Exn}(hx:x∈s.xs):∀k,k<=K->∀q,q<N->∃S:Nat,(xU s.vs s.vs.length).getD (xw x k q).toNat 0=(S:Int)/\S<32/\∀o,o<5->(S.testBit o=Ar↔HR N x.word k q o):=by
 have pL:=hF.n5;have dH:=JY hl (fun v hv=>by obtain⟨⟨p,h1,h2⟩,_⟩:=hF.vs v hv;exact⟨p,h1,by omega⟩);intro k
 induction k with
 | zero=>
  intro _ q hq;have ha:=hS.v0 x hx q hq;obtain⟨hi,e⟩:=Lp.1 ha.2;obtain⟨S,e1,e2,e3⟩:=wK hl hi (p:=q) (by rw[e];rfl) (by omega) (fun j hj=>dH j (by omega));refine⟨S,e1,e2,fun o ho=>(e3 o ho).trans ?_⟩;rw[e];constructor
  . rintro(h | ⟨h0,_⟩)
    . exact h
    . exact absurd h0 (by show ¬((0:Int)<0);omega)
  . exact fun h=>.inl h
 | succ k ih=>
  intro hk q hq;have ha:=hS.vk x hx k (by omega) q hq;obtain⟨hi,e⟩:=Lp.1 ha.2;obtain⟨S,e1,e2,e3⟩:=wK hl hi (p:=q) (by rw[e];rfl) (by omega) (fun j hj=>dH j (by omega));obtain⟨r1,n1⟩:=hF.round hx (show k<K by omega);obtain⟨m0,iY,RU,hb⟩:=vC r1 n1 pL hq;obtain⟨iu,RO⟩:=hF.row hx (show k<=K by omega);refine⟨S,e1,e2,fun o ho=>(e3 o ho).trans ?_⟩;rw[e]
  have Wl:∀m,((x.word.getD k default).h q).toNat.testBit m=Ar->m<N:=fun m hm=>by
   rw[iY,Lj] at hm
   by_cases h:m<N
   . exact h
   . rw[Nat.testBit_lt_two_pow (Lx RU (LZ (by omega) (by omega)))] at hm
     cases hm
  constructor
  . rintro(rfl | ⟨_,m,pM,rU,T,eT,hT⟩)
    . exact HR_own hF hx (k+1) hk o hq
    . rw[kS _ _ _ _ m pM] at rU eT
      unfold zQ at rU eT
      by_cases hc:m<(x.views.getD k []).length/\((x.word.getD k default).h q).toNat.testBit m=Ar
      . rw[Lo hc] at eT
        have oM:m<N:=by omega
        obtain⟨S',f1,f2,f3⟩:=ih (by omega) m oM;have e':(x.views.getD k []).getD m 0=xw x k m:=rfl;rw[e',f1] at eT;have:S'=T:=by omega
        subst this;exact⟨m,oM,hc.2,(f3 o ho).1 hT⟩
      . rw[Li hc] at rU
        exact absurd rU (by omega)
  . rintro⟨m,oM,mF,hR⟩
    obtain⟨S',f1,f2,f3⟩:=ih (by omega) m oM;have e':(x.views.getD k []).getD m 0=xw x k m:=rfl;have hc:m<(x.views.getD k []).length/\((x.word.getD k default).h q).toNat.testBit m=Ar:=⟨by omega,mF⟩;refine .inr ⟨by show(0:Int)<((k+1:Nat):Int);omega,m,by omega,?_,S',?_,(f3 o ho).2 hR⟩
    . rw[kS _ _ _ _ m (by omega)]
      unfold zQ;rw[Lo hc,e'];obtain⟨v,hv,_⟩:=hS.pr hx (show k<=K by omega) oM;exact hv.lt.1
    . rw[kS _ _ _ _ m (by omega)]
      unfold zQ;rw[Lo hc,e',f1]
def yP(s:Sy)(out:List Int)(h:Fh)(x:Nat×Nat):Bool:=
 if h.op=0 then Ar
 else if h.op=1 then decide ((yc s.p (s.xs.getD x.1 default).c.toNat).getD h.p.toNat 0=h.v)
 else if h.op=2 then decide (h.v∈yc s.p (s.xs.getD x.1 default).c.toNat)
 else if h.op=3 then ((xU s.vs s.vs.length).getD (xw (s.xs.getD x.1 default) x.2 h.p.toNat).toNat 0).toNat.testBit h.o.toNat
 else if h.op=4 then decide (0<x.2)&&(((s.xs.getD x.1 default).word.getD (x.2-1) default).f).toNat.testBit h.p.toNat
 else if h.op=5 then decide (0<out.length)&&decide (out.getD (xw (s.xs.getD x.1 default) x.2 h.p.toNat).toNat 0=h.v)
 else decide ((x.2:Int)=h.v)
def jL(s:Sy)(out:List Int)(h:Fh):List Bool:=(zi (s.p.k.toNat+1) 0 s.xs.length).map (yP s out h)
def Xq(s:Sy)(out:List Int)(d:Nat)(f:Fm):List Bool×Int:=
 if yb s≠0 then ([],yb s) else if 0<out.length/\out.length≠s.vs.length then ([],15) else if j8 s.n d f≠0 then ([],j8 s.n d f) else if 0<f.args.length then ([],11) else (jL s out f.h,0)
theorem Xp(s:Sy)(out:List Int)(h:Fh):(jL s out h).length=s.xs.length*(s.p.k.toNat+1):=by unfold jL;rw[LJ,uw _ _ (by omega)]
structure AtmOk(N:Nat)(h:Fh):Prop where
 op0:0<=h.op
 op6:h.op<=6
 p:h.op=1\/h.op=3\/h.op=4\/h.op=5->0<=h.p/\h.p<(N:Int)
 o:h.op=3->0<=h.o/\h.o<(N:Int)
theorem atm_ok{n:Int}{N:Nat}(hn:n=(N:Int)){d:Nat}{f:Fm}(h:j8 n d f=0)(ha:f.args.length=0):AtmOk N f.h:=by
 have eN:kF N f.h 0=0:=by
  unfold j8 at h
  split at h
  . cases h
  split at h
  . rename_i h2;exact absurd h h2
  have e : jZ n.toNat d f = if kF N f.h 0 ≠ 0 then kF N f.h 0 else jZ n.toNat d f := by
   have hN:n.toNat=N:=by omega
   rw[hN]
   cases d<;>(unfold jZ XY;rw[ha];split<;>simp_all)
  rw[e] at h
  split at h
  . exact h
  rename_i h3;simpa using h3
 unfold kF at eN
 by_cases h1:f.h.op<0\/17<f.h.op
 . rw[Lo h1] at eN;cases eN
 rw[Li h1] at eN
 by_cases h2:((0:Nat):Int)≠arN f.h.op
 . rw[Lo h2] at eN;cases eN
 rw[Li h2] at eN
 have h6:f.h.op<=6:=by
  unfold arN at h2
  by_cases e1:f.h.op=8\/f.h.op=9\/f.h.op=17
  . rw[Lo e1] at h2;simp at h2
  rw[Li e1] at h2
  by_cases e2:f.h.op<=6
  . exact e2
  rw[Li e2] at h2;simp at h2
 refine⟨by omega,h6,fun hp=>?_,fun ho=>?_⟩
 . have hu:usP f.h.op=Ar:=by unfold usP;rw[NN];omega
   by_cases hr:0<=f.h.p/\f.h.p<=(N:Int)-1
   . omega
   rw[Lo (.inl ⟨hu,hr⟩)] at eN;cases eN
 have hu:usO f.h.op=Ar:=by unfold usO;rw[NN];omega
 by_cases hr:0<=f.h.o/\f.h.o<=(N:Int)-1
 . omega
 rw[Lo (.inr (.inl ⟨hu,hr⟩))] at eN;cases eN
end
section
def jg(ls:List Int)(set:List Bool):Nat->Int->Option Aq
 | 0=>fun _=>Z
 | k+1=>if set.getD k As then jg ls set k else qB (jg ls set k) (ls.getD k 0) (Ah Ar)
theorem km(ls:List Int)(set:List Bool)(v:Int):∀k,(jg ls set k v=J (Ah Ar)/\∃i,i<k/\ls.getD i 0=v/\set.getD i As=As)\/(jg ls set k v=Z/\∀i,i<k->ls.getD i 0=v->set.getD i As=Ar)
 | 0=>.inr ⟨rfl,fun i h=>by omega⟩
 | k+1=>by
  unfold jg
  cases hs:set.getD k As with
  | true=>
   rw[Lo rfl];rcases km ls set v k with ⟨h1,i,h2,h3,h4⟩ | ⟨h1,h2⟩
   . exact .inl ⟨h1,i,by omega,h3,h4⟩
   . refine .inr ⟨h1,fun i hi he=>?_⟩
     by_cases e:i=k
     . subst e;exact hs
     . exact h2 i (by omega) he
  | false=>
   rw[Li (by simp)];unfold qB
   by_cases e:v=ls.getD k 0
   . rw[Lo e];exact .inl ⟨rfl,k,by omega,e.symm,hs⟩
   . rw[Li e]
     rcases km ls set v k with ⟨h1,i,h2,h3,h4⟩ | ⟨h1,h2⟩
     . exact .inl ⟨h1,i,by omega,h3,h4⟩
     . refine .inr ⟨h1,fun i hi he=>?_⟩
       by_cases e2:i=k
       . subst e2;exact absurd he.symm e
       . exact h2 i (by omega) he
def je(n:Nat)(ls:List Int)(set:List Bool):List Bool:=(List.range n).map fun i=>decide (∀j,j<n->ls.getD j 0=ls.getD i 0->set.getD j As=Ar)
theorem qR(n:Nat)(ls:List Int)(set:List Bool):(je n ls set).length=n:=by simp[je]
theorem QZ{n:Nat}{ls:List Int}{set:List Bool}{i:Nat}(h:i<n):(je n ls set)[i]'(by rw[qR];exact h)=decide (∀j,j<n->ls.getD j 0=ls.getD i 0->set.getD j As=Ar):=by simp[je]
theorem insL_brk{n:Nat}{ls:List Int}{set:List Bool}{i:Nat}(h:i<n):(je n ls set)[i]'(by rw[qR];exact h)=(jg ls set n (ls.getD i 0)).isNone:=by
 rw[QZ h];rcases km ls set (ls.getD i 0) n with ⟨h1,j,h2,h3,h4⟩ | ⟨h1,h2⟩
 . rw[h1]
   refine Ln fun ha=>?_
   have:=ha j h2 h3;rw[h4] at this;cases this
 rw[h1];exact Lm h2
end
section
def qg(s:Sy)(K q:Nat)(v:Int)(xs:List Exn):List Bool:=xs.flatMap fun x=>List.replicate (K+1) (gD s x q v)
theorem wi(s:Sy)(K q:Nat)(v:Int):∀xs:List Exn,(qg s K q v xs).length=xs.length*(K+1)
 | []=>by simp[qg]
 | x::xs=>by
  have:=wi s K q v xs;unfold qg at this ⊢;rw[Na,Lu,LW,this,LD,P5];omega
theorem QP(s:Sy)(K q:Nat)(v:Int):∀(xs:List Exn) (i:Nat),i<xs.length*(K+1)->(qg s K q v xs).getD i As=gD s (xs.getD (i / (K+1)) default) q v
 | [],i,h=>by simp at h
 | x::xs,i,h=>by
  have e:qg s K q v (x::xs)=List.replicate (K+1) (gD s x q v)++qg s K q v xs:=by unfold qg;rw[Na]
  rw[e]
  by_cases hi:i<K+1
  . rw[Le,LN (by rw[LW];exact hi),Nat.div_eq_of_lt hi]
    simp[hi]
  . obtain⟨m,rfl⟩:∃m,i=m+(K+1):=⟨i-(K+1),by omega⟩
    rw[Le,LK (by rw[LW];omega),LW,Nu,Nat.add_div_right _ (by omega),List.getD_cons_succ,<-Le];refine QP s K q v xs m ?_;rw[LD,P5] at h;omega
section
variable {s:Sy} {K N:Nat}
theorem QJ(_hF:Fine s K N)(hS:Sees s K N){x:Exn}(hx:x∈s.xs){k q:Nat}(hk:k<=K)(hq:q<N):(Y6 s.vs (xw x k q).toNat).r=(k:Int):=by
 cases k with
 | zero=>rw[Z7 (hS.v0 x hx q hq)];rfl
 | succ k=>rw[Z7 (hS.vk x hx k (by omega) q hq)];rfl
theorem pt_in(_hF:Fine s K N){i:Nat}(hi:i<s.xs.length*(K+1)):s.xs.getD (i / (K+1)) default∈s.xs/\i % (K+1)<=K:=by
 have h1:i / (K+1)<s.xs.length:=Nat.div_lt_of_lt_mul (by rw[Pa];exact hi);have h2:=Nat.mod_lt i (show 0<K+1 by omega);refine⟨?_,by omega⟩;rw[zI h1];exact Ld _
theorem dcd_known(hF:Fine s K N)(hS:Sees s K N){out:List Int}{outs:Int}(ho:FrmOk s.vs outs out)(hm:∀x∈s.xs,xz s K out x=Ar)
  (an:∀y∈s.xs,∀u∈yV (s.p.t.cases.getD y.c.toNat default) (yf y),u.length=N) {q:Nat} (hq:q<N) {v:Int} (hv:0<=v) {i:Nat} (hi:i<ptn s)
  (hd:(jL s out ⟨5,(q:Int),0,v,0⟩).getD i As=Ar):(je (ptn s) (qc s q) (qg s K q v s.xs)).getD i As=Ar:=by
 have hk:s.p.k.toNat=K:=by rw[hF.k];rfl
 have hp:ptn s=s.xs.length*(K+1):=by unfold ptn;rw[hk]
 have key:∀t,t<ptn s->(jE s q).getD t 0=xw (s.xs.getD (t / (K+1)) default) (t % (K+1)) q:=fun t ht=>by
  have hl:(jE s q).length=ptn s:=ZK s q;rw[zI (by omega),keyL_at s q t (by omega),hk]
 have So:ruE out (xw (s.xs.getD (i / (K+1)) default) (i % (K+1)) q)=v:=by
  have C2:(jL s out ⟨5,(q:Int),0,v,0⟩).length=ptn s:=Xp ..;rw[zI (by omega)] at hd
  have e:(jL s out ⟨5,(q:Int),0,v,0⟩)[i]'(by omega)=yP s out ⟨5,(q:Int),0,v,0⟩ (i / (K+1),i % (K+1)):=by
   unfold jL;simp only[List.getElem_map];rw[prs_at _ _ (by omega),hk]
  rw[e] at hd;unfold yP at hd;simp only[show ¬((5:Int)=0) by decide,show ¬((5:Int)=1) by decide,show ¬((5:Int)=2) by decide,show ¬((5:Int)=3) by decide,show ¬((5:Int)=4) by decide,if_false,if_true,Bool.and_eq_true,decide_eq_true_iff,Int.toNat_natCast] at hd;exact hd.2
 rw[zI (by rw[qR];exact hi),QZ hi,Rl];intro j hj e;obtain⟨hx,CT⟩:=pt_in hF (hp▸hi);obtain⟨hy,CS⟩:=pt_in hF (hp▸hj)
 have e2:(jE s q).getD j 0=(jE s q).getD i 0:=by
  have hl:(jE s q).length=ptn s:=ZK s q;have aw:(qc s q).length=ptn s:=by unfold qc;rw[qQ];exact hl
  rw[zI (by omega),zI (by omega)] at e;rw[zI (by omega),zI (by omega)];exact(JU (jE s q) (by omega) (by omega)).1 e
 rw[key j hj,key i hi] at e2;have CN:=QJ hF hS hx CT hq;have iJ:=QJ hF hS hy CS hq;rw[e2,CN] at iJ;have AK:i % (K+1)=j % (K+1):=by omega
 rw[QP _ _ _ _ _ _ (hp▸hj)];rw[AK] at e2 So;exact dcd_law hF hS ho hy (an _ hy) (hm _ hy) CS hq hv e2.symm So
end
end
section
theorem kz{f:List Int->Int}:∀ {l:List (List Int)} {p:Option (List Int)},qv f p l=0->∀v∈l,f v=0
 | [],_,_,v,hv=>by cases hv
 | u::l,p,h,v,hv=>by
  rw[qv] at h
  split at h
  . rename_i h1;exact absurd h h1
  . rename_i h1
    split at h
    . cases h
    . rcases L9.1 hv with rfl | hv
      . simpa using h1
      . exact kz h v hv
theorem jK{t:Tk}:∀ {q:Option Cs} {l:List Cs},xV t q l=0->∀c∈l,xK t.n t.outs c=0
 | _,[],_,c,hc=>by cases hc
 | q,d::l,h,c,hc=>by
  rw[xV] at h
  split at h
  . rename_i h1;exact absurd h h1
  . rename_i h1
    rcases L9.1 hc with rfl | hc
    . have h2:xB t q c=0:=by simpa using h1
      unfold xB at h2
      split at h2
      . rename_i h3;exact absurd h2 h3
      . split at h2
        . cases h2
        . exact h2
    . exact jK h c hc
theorem Jn{v:List Int}{n m:Int}(h:zA v n m=0):(v.length:Int)=n:=by
 unfold zA at h
 split at h
 . cases h
 rename_i h1;simpa using h1
theorem task_alw{t:Tk}(h:zX t=0){c:Cs}(hc:c∈t.cases)(f:Int):∀u∈yV c f,(u.length:Int)=t.n:=by
 unfold zX at h
 split at h
 . cases h
 split at h
 . cases h
 have h4:=jK (by unfold yE at h;rwa[LT] at h) c hc;unfold xK at h4
 split at h4
 . cases h4
 split at h4
 . rename_i h5;exact absurd h4 h5
 rename_i h5;have h6:qa (fun v=>zA v t.n t.outs) c.out=0:=by simpa using h5
 have ho:∀u∈c.out,(u.length:Int)=t.n:=fun u hu=>Jn (kz (f:=fun v=>zA v t.n t.outs) h6 u hu)
 intro u hu;unfold yV at hu
 split at hu
 . have h7:=kz h4 u hu
   unfold xJ at h7
   split at h7
   . rename_i h8;exact ho u h8
   cases h7
 exact ho u hu
theorem kM{s:Sy}{K N:Nat}(hF:Fine s K N){x:Exn}(hx:x∈s.xs):∃f:Nat,yf x=(f:Int)/\f<2^N:=by
 obtain⟨hl,hr⟩:=hF.word x hx
 cases K with
 | zero=>exact⟨0,by rw[ql hl];rfl,Nat.two_pow_pos N⟩
 | succ k=>
  rw[qm hl];have hm:=hr _ (Ld (show k<x.word.length by omega));obtain⟨_,_,_,h1⟩:=xI hm.1;unfold yS at h1;rw[hm.2] at h1
  split at h1
  . cases h1
  . split at h1
    . cases h1
    . rename_i h2
      obtain⟨f,hf⟩:=Lr (show 0<=(x.word[k]'(by omega)).f by omega);refine⟨f,hf,?_⟩;rw[hf] at h2;have h4:((2^N:Nat):Int)=2^N:=by push_cast;rfl
      have h5:=Nat.one_le_two_pow (n:=N);simp only[Int.toNat_natCast] at h2;omega
theorem Q3{p:Pb}{K N:Nat}(dI:zX p.t=0)(hF:Fine (zz p) K N)(hS:Sees (zz p) K N):∀y∈(zz p).xs,∀u∈yV ((zz p).p.t.cases.getD y.c.toNat default) (yf y),u.length=N:=by
 intro y hy u hu;obtain⟨c,hc,aa,_⟩:=hS.cs y hy;rw[hc,Lj,zI aa] at hu;have h1:=task_alw (t:=p.t) dI (Ld aa) (yf y) u hu;have h2:p.t.n=(N:Int):=hF.pn;omega
theorem dcd_all{p:Pb}{K N:Nat}(dI:zX p.t=0)(hF:Fine (zz p) K N)(hS:Sees (zz p) K N){out:List Int}(h1:xf (zz p) out=0)(h2:xX (zz p) N K out<0) :
  FrmOk (zz p).vs (zz p).p.t.outs out/\(∀x∈(zz p).xs,xz (zz p) K out x=Ar)/\kp (zz p) K out=(Ar,0,0) /\
  ∀q,q<N->∀v:Int,0<=v->∀i,i<ptn (zz p)->(jL (zz p) out ⟨5,(q:Int),0,v,0⟩).getD i As=Ar->(je (ptn (zz p)) (qc (zz p) q) (qg (zz p) K q v (zz p).xs)).getD i As=Ar:=
 ⟨uB h1,vG h2,Yk (vG h2),fun _ hq _ hv _ hi hd=>dcd_known hF hS (uB h1) (vG h2) (Q3 dI hF hS) hq hv hi hd⟩
end
end Go.Proofs.YtjjcgpfljidbhaaGreat
