/- Merged. -/
import Derived.Test.YtjedjoeidcbffaaGreatDoorEe
import Derived.Laws.MakeOwn
import Derived.ChangeArms
import Derived.Shelf.Vars
open Go.Proofs.Tryz
open Go.Value renaming int->O,slice->I,bool->Aj,agg->Ak,pointer->Al
open Go.IntKind renaming i64->U
open Option renaming none->Z,some->J
open Go.Obj renaming cells->Ai
open Go.Ending renaming returned->Am
open Go.Proofs.Tryz renaming prog->Aq,underlying41->Sg,underlying38->Sh
open Go.RowKit renaming Below->Ar,intOf->Au,Hid->Aw
open Go renaming Calls->As,Value->Ax
open Bool renaming true->AA,false->AC
open Go.DataW renaming trod_bool->Rj
namespace Go.Proofs.YtjedjoeidcbffaaGreatDoor
abbrev PK:=@Nat.le_of_lt
abbrev Pu:=@Go.Proofs.Tryz.underlying46
abbrev Nz:=@List.foldl_cons
abbrev PI:=@Go.Proofs.Tryz.underlying4
abbrev SH:=@Go.MakeChecks.laidMetH_plain
abbrev Ph:=@List.getElem_take
abbrev N4:=@List.mem_take_iff_getElem
abbrev Sk:=@Go.Proofs.Tryz.func148
abbrev Sn:=@List.pairwise_map
abbrev RM:=@List.length_filter_le
abbrev Sp:=@List.ext_getElem?
abbrev P6:=@List.getElem?_set
set_option maxRecDepth 100000
set_option maxHeartbeats 4000000
section
open Go.RowKit Go.Shelf
attribute [local go_sem] Oper.semAt_some
def RetBt(p:Pb)(A:Bb)(kc:Nat)(SV:Bb)(ks:Nat)(w:Ba)(e:Ending)(w':Ba):Prop:=
 ∃AV kv AE ke,e=Am (Ak #[O U p.t.n,O U p.t.ins,O U p.t.outs,I A p.t.cases.length kc,O U p.a.n,I SV p.a.sts.length ks,O U p.k,O U p.t.n,.slice AV (zK p (zD p)).1.length kv,.slice AE (zK p (zD p)).2.length ke]) /\
  OwnV w' w.heap.size (.slice AV (zK p (zD p)).1.length kv) (zK p (zD p)).1/\OwnX JN (fun k=>w.heap.size<=k) w' w.heap.size (.slice AE (zK p (zD p)).2.length ke) (zK p (zD p)).2/\Ar w.heap.size w w'
theorem QX(p:Pb)(hf:xz p)(nN:zY p=0)(iV:yx p<=60)(A:Bb)(kc:Nat)(SV:Bb)(ks:Nat)(w:Ba)(hA:CAt w w.heap.size A p.t.cases)(hS:SAt w w.heap.size SV p.a.sts) :
  As Aq 78 #[.agg (p.vs A kc SV ks)] w (RetBt p A kc SV ks w):=by
 obtain⟨mP,su,mQ,tR,Ig⟩:=yf nN;obtain⟨K,hK⟩:=Lp tR;obtain⟨sF,cU,fl⟩:=xJ mP;have Ts:K<=6:=by omega
 have sE:yx p=yw p.a K 0*p.t.cases.length:=by unfold yx;rw[hK];rfl
 have IF:yw p.a K 0<=60:=by
  have:=RI (yw p.a K 0) sF;omega
 obtain⟨hz,aK⟩:zQ p.a p.a.sts=0/\1<=p.a.sts.length:=⟨(xv hf.1.2 su).1,(xv hf.1.2 su).2.1⟩;obtain⟨N,hN⟩:=Lp (show 0<=p.t.n by omega);have nj:=zH hf;have KY:=zH su;have El:=zH mQ;have HTI:=zH (wi mP);obtain⟨w1,ab,d0,d1,d2,aX,dj⟩:=jT w (p.vs A kc SV ks) #[O U 0,O U 0,O U 0,I Z 0 0,O U 0,I Z 0 0,O U 0,O U 0,I Z 0 0,I Z 0 0] #[O U p.t.n,O U p.t.ins,O U p.t.outs,I A p.t.cases.length kc,O U p.a.n,I SV p.a.sts.length ks,O U p.k,O U p.t.n,I Z 0 0,I Z 0 0] 29 35 35;have M9:=QJ p.a SV ks hz hf.1.2 K Ts 0 w1 (by by_cases h:K=0;exact .inl h;exact .inr ⟨by omega,by omega⟩) (by rw[xe];omega) ((hS.keep dj).more dj.size);have HFR:=zH M9;have HA:=zH hA;have HS:=zH hS;have cu:=zH dj;have bK:=zH d0;have cN:=zH d1;have nk:=zH d2;have ai:=zH ab;have pd:=zH hK;have ff:=zH hN;have UR:=zH sE;have H60:=zH iV;have UV:=zH sF;have EX:1<=N/\N<=5:=by omega
 clear ab d0 d1 d2 dj hA hS hf hK hN sE iV nN mP su mQ tR Ig cU fl hz aK M9 sF;unfold Pb.vs at ai bK ⊢;go_enter func78,ntmps78;go_wp2_with fail;rw[ai.out];have M9:=HFR.out;unfold jP at HFR;rw[<-pd.out] at M9;refine M9.mono ?_;rintro e wr ⟨v,rfl,hW,hb⟩;have aQ:=cu.out.size;obtain⟨ae,lW⟩:=Ki (zT p.a K 0);rw[lW] at hW;obtain⟨AW,cw,rfl,hWD⟩:=WdsAt.of (bs:=w.heap.size+1+1) hW (by omega) rfl;obtain⟨SC,IQ⟩:∃SC:Ax->Ax->Array Ax,SC=fun V E=>#[O U p.t.n,O U p.t.ins,O U p.t.outs,I A p.t.cases.length kc,O U p.a.n,I SV p.a.sts.length ks,O U p.k,O U p.t.n,V,E]:=⟨_,rfl⟩
 obtain⟨WR,rfl⟩:∃x,x=wr:=⟨_,rfl⟩;obtain⟨D,hD⟩:∃D,D=WR.heap.size:=⟨_,rfl⟩;have hDb:w.heap.size+3<=D:=by have:=hb.size;omega
 have H0:Aw (Bt D (w.heap.size+1+1) SC WR [] [] (I Z 0 0) (I Z 0 0) WR):=
  ⟨Wrote.refl _ _,by omega,by omega,by omega,by rw[IQ];exact Lb hb (by omega) nk.out,OwnV.nil _ _,OwnX.nil _ _ _ _,fun k e=>(by cases e)⟩
 have KZ:Aw (WR.heap[w.heap.size]?=J (Ai #[O U p.t.n,O U p.t.ins,O U p.t.outs,I A p.t.cases.length kc,O U p.a.n,I SV p.a.sts.length ks,O U p.k] 29 (0,0))):=Lb hb (by omega) bK.out;have HP1:Aw (WR.heap[w.heap.size+1]?=J (Ai #[O U 0,O U 0,O U 0,I Z 0 0,O U 0,I Z 0 0,O U 0,O U 0,I Z 0 0,I Z 0 0] 35 (0,0))):=Lb hb (by omega) cN.out;have HBR:Aw (Ar w.heap.size w WR):=cu.out.trans (hb.mono (by omega));have Eg:=zH hWD;rw[<-hD] at Eg;have tz:=zH IQ;have nf:=zH lW;have sf:=zH hD;have sH:p.t.cases.length<=30:=nj.out.1.1.1;have pR:ae.length<=60:=by rw[<-lW,xe];exact IF
 have Ha:Aw (∀x∈ae,x.length<=6):=fun x hx=>by rw[<-lW] at hx;rw[xW p.a K 0 x hx];exact Ts
 clear hW hb IQ lW hD hWD bK cN nk ai cu HFR M9 aQ aX;go_wp2_with fail
 go_loopw [5] (fun i wx=>∃(c:Nat) (V E:Ax),c<=p.t.cases.length/\i=O U (c:Int)/\Aw (Bt D (w.heap.size+1+1) SC WR (zK p (pcs ae c)).1 (zK p (pcs ae c)).2 V E wx)) (fun i _=>p.t.cases.length-(Au i).toNat)
 case atStart=>exact⟨0,_,_,by omega,rfl,H0.out⟩
 clear H0;obtain⟨c,V0,E0,hc,rfl,iZ⟩:=hrel;have hbig:=iZ.out.big;have eJ:∀k,k<D->k≠w.heap.size+1+1->wr.heap[k]?=WR.heap[k]?:=fun k h1 h2=>iZ.out.wr.block k (by have:=sf.out;omega) h2
 have P0:=(eJ _ (by omega) (by omega)).trans KZ.out;have p0:wr.cell? ⟨w.heap.size,0,Z⟩=J (O U p.t.n):=zh P0 0 rfl;have p3:wr.cell? ⟨w.heap.size,3,Z⟩=J (I A p.t.cases.length kc):=zh P0 3 rfl;have p6:wr.cell? ⟨w.heap.size,6,Z⟩=J (O U p.k):=zh P0 6 rfl
 by_cases hcM:c<p.t.cases.length
 case neg=>
  obtain rfl:c=p.t.cases.length:=by omega
  have SJ:p.t.cases.length*ae.length<=60:=by have h1:=UR.out;have h2:=H60.out;have h3:=congrArg List.length nf.out;rw[xe] at h3;rw[h3,Pv] at h1;omega
  obtain⟨AV,kv,rfl,_⟩:=iZ.out.tb.form (by have:=Yq p ae (by have:=ff.out;omega) Ha.out p.t.cases.length SJ;omega);obtain⟨AE,ke,rfl,_,_,_⟩:=iZ.out.out.form yc;have bJ:=(eJ (w.heap.size+1) (by omega) (by omega)).trans HP1.out;have bN:=iZ.out.sys;rw[tz.out] at bN;have s0:wr.cell? ⟨w.heap.size+1+1,0,Z⟩=J (O U p.t.n):=zh bN 0 rfl;have s1:wr.cell? ⟨w.heap.size+1+1,1,Z⟩=J (O U p.t.ins):=zh bN 1 rfl;have s2:wr.cell? ⟨w.heap.size+1+1,2,Z⟩=J (O U p.t.outs):=zh bN 2 rfl;have s3:wr.cell? ⟨w.heap.size+1+1,3,Z⟩=J (I A p.t.cases.length kc):=zh bN 3 rfl;have s4:wr.cell? ⟨w.heap.size+1+1,4,Z⟩=J (O U p.a.n):=zh bN 4 rfl;have s5:wr.cell? ⟨w.heap.size+1+1,5,Z⟩=J (I SV p.a.sts.length ks):=zh bN 5 rfl;have s6:wr.cell? ⟨w.heap.size+1+1,6,Z⟩=J (O U p.k):=zh bN 6 rfl;have s7:wr.cell? ⟨w.heap.size+1+1,7,Z⟩=J (O U p.t.n):=zh bN 7 rfl;have s8:wr.cell? ⟨w.heap.size+1+1,8,Z⟩=J (.slice AV (zK p (pcs ae p.t.cases.length)).1.length kv):=zh bN 8 rfl;have s9:wr.cell? ⟨w.heap.size+1+1,9,Z⟩=J (.slice AE (zK p (pcs ae p.t.cases.length)).2.length ke):=zh bN 9 rfl;have y0:wr.cell? ⟨w.heap.size+1,0,Z⟩=J (O U 0):=zh bJ 0 rfl;have f0:=zi bJ 0;have y1:wr.cell? ⟨w.heap.size+1,1,Z⟩=J (O U 0):=zh bJ 1 rfl;have f1:=zi bJ 1;have y2:wr.cell? ⟨w.heap.size+1,2,Z⟩=J (O U 0):=zh bJ 2 rfl;have f2:=zi bJ 2
  have y3:wr.cell? ⟨w.heap.size+1,3,Z⟩=J (I Z 0 0):=zh bJ 3 rfl;have f3:=zi bJ 3;have y4:wr.cell? ⟨w.heap.size+1,4,Z⟩=J (O U 0):=zh bJ 4 rfl;have f4:=zi bJ 4;have y5:wr.cell? ⟨w.heap.size+1,5,Z⟩=J (I Z 0 0):=zh bJ 5 rfl;have f5:=zi bJ 5;have y6:wr.cell? ⟨w.heap.size+1,6,Z⟩=J (O U 0):=zh bJ 6 rfl;have f6:=zi bJ 6;have y7:wr.cell? ⟨w.heap.size+1,7,Z⟩=J (O U 0):=zh bJ 7 rfl;have f7:=zi bJ 7;have y8:wr.cell? ⟨w.heap.size+1,8,Z⟩=J (I Z 0 0):=zh bJ 8 rfl;have f8:=zi bJ 8;have y9:wr.cell? ⟨w.heap.size+1,9,Z⟩=J (I Z 0 0):=zh bJ 9 rfl;have f9:=zi bJ 9;have Cw:=zH iZ.out;have aL:Ar w.heap.size w wr:=HBR.out.trans (iZ.out.wr.below (by have:=HBR.out.size;omega) (fun k h1 h2=>by have h3:k=w.heap.size+1+1:=h2;omega));obtain⟨k1,k2,k3,k4,k5⟩:=xX (O U p.t.n) (O U p.t.ins) (O U p.t.outs) (I A p.t.cases.length kc) (O U p.a.n) (I SV p.a.sts.length ks) (O U p.k) (O U p.t.n) (.slice AV (zK p (pcs ae p.t.cases.length)).1.length kv) (.slice AE (zK p (pcs ae p.t.cases.length)).2.length ke) bJ aL (by omega:w.heap.size<=w.heap.size+1)
  obtain⟨WF,ft⟩:=Ki (((((((((((wr.setCell ⟨w.heap.size+1,0,Z⟩ (O U p.t.n)).setCell ⟨w.heap.size+1,1,Z⟩ (O U p.t.ins)).setCell ⟨w.heap.size+1,2,Z⟩ (O U p.t.outs)).setCell ⟨w.heap.size+1,3,Z⟩ (I A p.t.cases.length kc)).setCell ⟨w.heap.size+1,4,Z⟩ (O U p.a.n)).setCell ⟨w.heap.size+1,5,Z⟩ (I SV p.a.sts.length ks)).setCell ⟨w.heap.size+1,6,Z⟩ (O U p.k)).setCell ⟨w.heap.size+1,7,Z⟩ (O U p.t.n)).setCell ⟨w.heap.size+1,8,Z⟩ (.slice AV (zK p (pcs ae p.t.cases.length)).1.length kv)).setCell ⟨w.heap.size+1,9,Z⟩ (.slice AE (zK p (pcs ae p.t.cases.length)).2.length ke)));rw[ft] at k1 k2 k3 k4 k5;have K1:=zH k1;have K2:=zH k2;have K4:=zH k4;have K5:=zH k5;have ru:=zH ft;clear bJ bN P0 aL k1 k2 k3 k4 k5 ft;go_wp2_with fail;rw[ru.out];obtain⟨z0,z1,z2,z3,z4,z5,z6,z7,z8,z9⟩:=zN K1.out;refine LG (v:=Ak #[O U p.t.n,O U p.t.ins,O U p.t.outs,I A p.t.cases.length kc,O U p.a.n,I SV p.a.sts.length ks,O U p.k,O U p.t.n,.slice AV (zK p (pcs ae p.t.cases.length)).1.length kv,.slice AE (zK p (pcs ae p.t.cases.length)).2.length ke]) (by simp[results,results78,go_sem,z0,z1,z2,z3,z4,z5,z6,z7,z8,z9]) rfl ?_;have nN:zD p=pcs ae p.t.cases.length:=by rw[Jj,<-nf.out,show p.k.toNat=K by have:=pd.out;omega]
  unfold RetBt;rw[nN];have aQ:=Cw.out.big;refine⟨AV,kv,AE,ke,rfl,?_,?_,K2.out⟩
  . exact(Cw.out.tb.of_same fun k hk=>K4.out k (by have:=(Cw.out.tb.lt' k hk).1;omega)).low (by omega)
  exact(OwnX.mono yc (Cw.out.out.keep yc ⟨by have:=K5.out;omega,fun k hs _=>K4.out k (by omega)⟩ fun k hk=>K4.out k (by have:=(Cw.out.out.lt k hk).1;omega)) fun k _ hs=>(by omega)).low (by omega)
 have hc1:(c:Int)<(p.t.cases.length:Int):=by omega
 have Hd:=zH eJ;clear eJ P0;go_wp2_with fail;obtain⟨wo,rfl⟩:∃x,x=wr:=⟨_,rfl⟩
 go_loopw [6] (fun i wx=>∃(j:Nat) (V E:Ax),j<=ae.length/\i=O U (j:Int)/\Aw (Bt D (w.heap.size+1+1) SC WR (zK p (pcw ae c j)).1 (zK p (pcw ae c j)).2 V E wx)) (fun i _=>ae.length-(Au i).toNat)
 case atStart=>exact⟨0,V0,E0,by omega,rfl,by rw[pcw_zero];exact iZ.out⟩
 obtain⟨j,V1,E1,hj,rfl,mN⟩:=hrel
 by_cases hjW:j<ae.length
 case neg=>
  obtain rfl:j=ae.length:=by omega
  have HBe:=zH (by have h:=mN.out;rw[pcw_end] at h;exact h);clear mN;go_wp2_with fail
  go_roundw
  case rel=>exact⟨c+1,V1,E1,by omega,by go_num,HBe.out⟩
  simp[Au];omega
 obtain⟨gw,A2,c2,eAW,fD,ib,nz,nB,tf⟩:=Eg.out j hjW;subst eAW;have hKp:KeepB (fun k=>k<D/\k≠w.heap.size+1+1) WR wr:=mN.out.wr.keep fun k _ hs=>hs.2
 have Ew:wr.cell? ⟨gw,j,Z⟩=J (I A2 ae[j].length c2):=kU hKp ⟨ib,by omega⟩ nz
 have fh:c*ae.length+j<60:=by
  have h1:=UR.out;have h2:=H60.out;have h3:=congrArg List.length nf.out;rw[xe] at h3;rw[h3,Pv] at h1;have h4:=RT ae.length (show c+1<=p.t.cases.length by omega);rw[Nat.succ_mul] at h4;omega
 obtain⟨OH,oK⟩:=Qe p ae (by have:=ff.out;omega) Ha.out c j (by omega) (by omega);have cD:=qz p (pcw ae c j) (c,ae[j]);rw[<-pcw_succ ae c j hjW] at cD;obtain⟨word,nn⟩:=Ki (ae[j]);rw[nn] at Ew nB cD nz tf;have oz:word∈zT p.a K 0:=by rw[nf.out,<-nn];exact Ld hjW
 have mO:=xW p.a K 0 word oz
 have ru:Aw (∀r∈word,yD r=0/\r.n=(N:Int)):=fun r hr=>by
  obtain⟨m,hm,rfl⟩:=jR p.a K 0 word oz r hr;obtain⟨z1,z2,_⟩:=qq (xv nj.out.1.2 KY.out).1 m hm;exact⟨z1,by rw[z2,<-El.out,ff.out]⟩
 obtain⟨AE,ke,rfl,_,_,_⟩:=mN.out.out.form yc;obtain⟨lj,Hy⟩:=Ki ((zK p (pcw ae c j)).1);obtain⟨te,Hx⟩:=Ki ((zK p (pcw ae c j)).2);rw[Hy,Hx] at cD mN;rw[Hy] at OH;rw[Hx] at oK;have t9:yt p c=p.t.cases[c].inp:=by unfold yt;rw[Lk,Ln hcM];rfl
 have Uw:Aw (zK p (pcw ae c (j+1))=((stQ lj N p.t.cases[c].inp word (K+1)).1,te++[⟨(c:Int),word,(stQ lj N p.t.cases[c].inp word (K+1)).2⟩])):=by
  rw[cD];show(_,_)=_;rw[t9,mO,show p.t.n.toNat=N by have:=ff.out;omega]
  rfl
 obtain⟨bc,oc,A0,c0,A1',c1',A2',c2',eA,hbcl,II,_,_,hIn,_,_⟩:=HA.out.row c hcM;subst eA;have Iw:p.t.cases[c].inp.length=N:=by have h1:=HTI.out _ (Ld hcM);have:=ff.out;omega
 obtain⟨inp,EK⟩:=Ki (p.t.cases[c].inp);rw[EK] at II hIn Uw Iw;have pf:=zH hIn;have HGW:=zH nz;have HC0:=zH II;have dk:=zH nB;have KQ:=zH tf;clear tf;have UN:=zH Iw;have sP:Aw (te.length<60):=by show te.length<60;omega
 have Eh:=zH OH;have Uo:=zH mO;have rN:(j:Int)<(ae.length:Int):=by omega
 have hgwl:gw<wr.heap.size:=by have:=mN.out.big;omega
 clear Iw EK cD t9 hIn II nB nz hKp Hy Hx nn oz oK OH mO;go_wp2_with fail;clear Ew;obtain⟨W1,eO,x1,aK,bP⟩:=zk wr #[O U c,I A2 word.length c2,I Z 0 0] 58;rw[eO];have UC:Aw (Bq D (w.heap.size+1+1) wr.heap.size SC WR c (I A2 word.length c2) lj te [] [] V1 (I AE te.length ke) (I Z 0 0) (I Z 0 0) W1):=Bt.start mN.out bP x1;clear eO x1 aK bP mN;obtain⟨bx,bk⟩:∃bx,bx=wr.heap.size:=⟨_,rfl⟩;rw[<-bk] at UC ⊢;clear bk
 go_loopw [8] (fun i wx=>∃(k:Nat) (V Y:Ax),k<=K+1/\i=O U (k:Int)/\Aw (Bq D (w.heap.size+1+1) bx SC WR c (I A2 word.length c2) (stQ lj N inp word k).1 te (stQ lj N inp word k).2 [] V (I AE te.length ke) Y (I Z 0 0) wx)) (fun i _=>K+1-(Au i).toNat)
 case atStart=>exact⟨0,V1,_,by omega,rfl,UC.out⟩
 clear UC;obtain⟨k,V2,Y2,hk,rfl,HQ⟩:=hrel;have hbig:=HQ.out.big;have P0:=(HQ.out.wr.block _ (by have:=sf.out;omega) (by omega)).trans KZ.out;have p0:wr.cell? ⟨w.heap.size,0,Z⟩=J (O U p.t.n):=zh P0 0 rfl;have p3:wr.cell? ⟨w.heap.size,3,Z⟩=J (I (J ⟨bc,oc,Z⟩) p.t.cases.length kc):=zh P0 3 rfl;have p6:wr.cell? ⟨w.heap.size,6,Z⟩=J (O U p.k):=zh P0 6 rfl;clear P0
 by_cases PZ:k<=K
 case neg=>
  have HKQ:Aw (k=K+1):=by show k=K+1;omega
  have eU:¬((k:Int)<=p.k):=by have:=pd.out;omega
  obtain⟨AY,ky,rfl,_,_,_⟩:=HQ.out.vw.form xx;have bN:=HQ.out.sys;rw[tz.out] at bN;have ip:=zH bN;have s9:wr.cell? ⟨w.heap.size+1+1,9,Z⟩=J (I AE te.length ke):=zh bN 9 rfl;have f9:=zi bN 9;have x0:wr.cell? ⟨bx,0,Z⟩=J (O U c):=zh HQ.out.x 0 rfl;have x1:wr.cell? ⟨bx,1,Z⟩=J (I A2 word.length c2):=zh HQ.out.x 1 rfl;have x2:wr.cell? ⟨bx,2,Z⟩=J (.slice AY (stQ lj N inp word k).2.length ky):=zh HQ.out.x 2 rfl;have pO:=zH (zy wr (Ai #[O U c,I A2 word.length c2,.slice AY (stQ lj N inp word k).2.length ky] 58));have lg:=zH (HQ.out.out.below yc (ye wr (Ai #[O U c,I A2 word.length c2,.slice AY (stQ lj N inp word k).2.length ky] 58)) (Le _));have SO:=HQ.out.bsl;have hbsw:w.heap.size+1+1<wr.heap.size:=by omega
  have SN:=HQ.out.bxl;clear bN;go_wp2_with (at_builtin;obtain⟨bz,aP,nA,cK⟩:=lg.out;refine xb kXn_ok rfl (.tmp 110) (.tmp 112) rfl D (I AE te.length ke) te.length bz.flatten rfl nA wr.heap.size #[O U c,I A2 word.length c2,.slice AY (stQ lj N inp word k).2.length ky] rfl pO.out rfl (by simp[Value.oneCell']) (Lz (PK sP.out) (by decide)) (by simp;omega) _ rfl ?_;intro g' cap w7 nK lQ fJ tW;have b7:=(lQ.block _ (by simp;omega) (fun e=>lg.out.ne SO e.symm)).trans (yU ip.out _);have c7:=zh b7 9 rfl;have fr7:=zi b7 9;have HDN:=zH (Bq.done HQ.out (ye wr _) aP cK rfl rfl dk.out KQ.out nK lQ fJ (by rw[tz.out];rfl));clear nK lQ fJ aP cK nA b7)
  go_roundw
  case rel=>exact⟨j+1,V2,_,by omega,by go_num,by rw[Uw.out,<-HKQ.out];exact HDN.out⟩
  simp[Au];omega
 have eU:(k:Int)<=p.k:=by have:=pd.out;omega
 have hkw:k<=6:=by omega
 obtain⟨vk,Dr⟩:=Ki ((stQ lj N inp word k).1);obtain⟨yk,mu⟩:=Ki ((stQ lj N inp word k).2);obtain⟨f,hf⟩:=Ki (fQ inp word yk k);have fY:=stQ_len lj N inp word k;have dI:=stQ_few lj N inp word k;have Ot:=stQ_row lj N inp word k;have ME:=stQ_succ lj N inp word k;rw[Dr,mu] at HQ;rw[mu] at fY Ot;rw[Dr] at dI;rw[Dr,mu,hf] at ME;have HSS:=zH ME;have HYR:=zH Ot;have WS:=zH fY
 have fW:Aw (vk.length<=2100+30):=by
  have h1:=LU hkw EX.2;have h2:=Eh.out;show vk.length<=2130;omega
 have Cx:=zH hf;clear Dr mu hf fY dI Ot ME;obtain⟨AY,ky,rfl,_,_,_⟩:=HQ.out.vw.form xx;go_wp2_with fail;clear p0 p3 p6
 go_loopw [9,10] (fun l i wx=>∃(q:Nat) (V:Ax),q<=N/\i=O U (q:Int)/\Aw (Bq D (w.heap.size+1+1) bx SC WR c (I A2 word.length c2) (yH f vk q).1 te yk (yH f vk q).2 V (I AE te.length ke) (I AY yk.length ky) l wx)) (fun _ i _=>N-(Au i).toNat)
 case atStart=>exact⟨0,V2,by omega,rfl,HQ.out⟩
 clear HQ;obtain⟨q,V3,hq,rfl,HQ⟩:=hrel;have hbig:=HQ.out.big;have P0:=(HQ.out.wr.block _ (by have:=sf.out;omega) (by omega)).trans KZ.out;have p0:wr.cell? ⟨w.heap.size,0,Z⟩=J (O U p.t.n):=zh P0 0 rfl;have p3:wr.cell? ⟨w.heap.size,3,Z⟩=J (I (J ⟨bc,oc,Z⟩) p.t.cases.length kc):=zh P0 3 rfl;clear P0;obtain⟨AL,kl,eL,hkl1,hkl2,_⟩:=HQ.out.row.form;subst eL
 by_cases EA:q<N
 case neg=>
  have HQQ:Aw (q=N):=by show q=N;omega
  have VP:¬((q:Int)<p.t.n):=by have:=ff.out;omega
  have x2:wr.cell? ⟨bx,2,Z⟩=J (I AY yk.length ky):=zh HQ.out.x 2 rfl;have pO:=zH (zy wr (Ai #[.slice AL (yH f vk q).2.length kl] 36));have lg:=zH (HQ.out.vw.below xx (ye wr (Ai #[.slice AL (yH f vk q).2.length kl] 36)) (Le _));have SN:=HQ.out.bxl;have hbxD:=HQ.out.hx;go_wp2_with (at_builtin;obtain⟨bz,aP,nA,cK⟩:=lg.out;refine xb Jy rfl (.tmp 104) (.tmp 106) rfl D (I AY yk.length ky) yk.length bz.flatten rfl nA wr.heap.size #[.slice AL (yH f vk q).2.length kl] rfl pO.out rfl (by simp[Value.oneCell']) (by rw[WS.out];omega) (by simp;omega) _ rfl ?_;intro g' cap w7 nK lQ fJ tW;have b7:=(lQ.block bx (by simp;omega) (fun e=>(HQ.out.nY bx e.symm).1 rfl)).trans (yU HQ.out.x _);have c7:=zh b7 2 rfl;have fr7:=zi b7 2;have mL:=zH (Bq.close HQ.out (ye wr _) aP cK nK lQ fJ);clear nK lQ fJ aP cK nA b7)
  go_roundw
  case rel=>exact⟨k+1,V3,_,by omega,by go_num,by rw[HSS.out,<-HQQ.out];exact mL.out⟩
  simp[Au];omega
 have VP:(q:Int)<p.t.n:=by have:=ff.out;omega
 have mY:Ar w.heap.size w wr:=HBR.out.trans (HQ.out.wr.below (by have:=HBR.out.size;omega) (fun k h1 h2=>by have h3:k=w.heap.size+1+1:=h2;omega));have nz:=(mY.cell (p:=⟨bc,oc+c*3,Z⟩) hbcl).trans HC0.out;have hqi:q<inp.length:=by have:=UN.out;omega
 obtain⟨bi,oi,eI,hbil,Wl⟩:=pf.out.at_ q hqi;subst eI;have hiw:=(mY.cell (p:=⟨bi,oi+q,Z⟩) hbil).trans Wl;obtain⟨iv,hiv⟩:=Ki (inp[q]);rw[hiv] at hiw;have HIV:Aw (inp.getD q 0=iv):=by show _=_;rw[Lk,Ln hqi,<-hiv];rfl
 have pX:(0:Int)<=(q:Int):=by omega
 have pW:(q:Int)<(inp.length:Int):=by omega
 have tp:(0:Int)<=(c:Int):=by omega
 have Cz:=zH (first_any q iv wr);have HPO:=zH (stQ_few lj N inp word k);have SN:=HQ.out.bxl;clear mY Wl hiv;go_wp2_with fail;refine Cz.out.mono ?_;rintro e w5 ⟨rfl,aA⟩;obtain⟨W6,CQ,b6,lY,CY⟩:=zk w5 (xr q iv).cells 111;have cX:Ar wr.heap.size wr W6:=Lc aA CY;have lL:=aA.size;have Ha:=zH CQ;have fA:=zH cX;have pi:=zH b6;unfold Vw.cells at Ha;unfold Vw.cells;clear Cz aA CQ b6 CY cX nz hiw p0 p3;go_simp;rename_i mZ;refine mZ _ _ ?_;clear mZ;refine L8 rfl fun K5 cM=>?_
 go_simp;refine cM _ _ ?_;clear cM K5;refine L8 rfl fun K5 cM=>?_
 go_simp;rw[Ha.out];refine cM _ _ ?_;clear cM K5 Ha;rcases Nw k with dh | Ir
 case' inl=>
  have Wa:¬((0:Int)<(k:Int)):=by omega
  have Hm:Aw (f q=xr q iv):=by
   show f q=_;rw[<-Cx.out,dh];show xr q (inp.getD q 0)=_;rw[HIV.out]
  rw[<-Hm.out] at pi;have pi:Aw (W6.heap[w5.heap.size]?=J (Ai (f q).cells 111 (0,0))):=pi;obtain⟨W9,tr⟩:=Ki W6;rw[tr] at fA pi ⊢;clear tr Hm dh
 case' inr=>
  obtain⟨k',fm⟩:∃k',k=k'+1:=⟨k-1,by omega⟩;have Wa:(0:Int)<(k:Int):=by omega
  have Pz:IntKind.i64.wrap ((k:Int)-1)=(k':Int):=by rw[Ls];omega
  have Iu:k'<word.length:=by have:=Uo.out;omega
  have It:k'<yk.length:=by have:=WS.out;omega
  have Hm:Aw (f q=qy word[k'] k q yk[k']):=by
   show f q=_;rw[<-Cx.out,fm];show qy (word.getD k' default) (k'+1) q (yk.getD k' [])=_;rw[Lk,Ln Iu,Lk,Ln It]
   rfl
  have Q6:=HQ.out.on fA.out;have hR6:RAtS (fun k=>w.heap.size+1+1<k/\k<D) W6 A2 word:=dk.out.keep (Q6.wr.keep fun k _ hs e=>by have h3:k=w.heap.size+1+1:=e;omega);have MA:W6.cell? ⟨gw,j,Z⟩=J (I A2 word.length c2):=kU (S:=fun k=>w.heap.size+1+1<k/\k<D) (Q6.wr.keep fun k _ hs e=>by have h3:k=w.heap.size+1+1:=e;omega) ⟨fD,ib⟩ HGW.out;obtain⟨br,or_,TE,ay,r0,r1,r2,r3,r4,r5,r6⟩:=hR6.rat.row k' Iu;subst TE;obtain⟨AYx,kyx,eY,_,_,hYc⟩:=Q6.vw.form xx
  cases eY
  obtain⟨gy,eAY,_,hgy,VL⟩:=hYc (by omega);subst eAY;obtain⟨cs,⟨A3,c3,rfl,lA⟩,ah⟩:=VL k' It;have hy6:W6.cell? ⟨gy,k',Z⟩=J (I A3 yk[k'].length c3):=by simpa[cIs,kIs] using ah 0 _ rfl
  have x6:W6.cell? ⟨bx,2,Z⟩=J (I (J ⟨gy,0,Z⟩) yk.length ky):=zh Q6.x 2 rfl;have i8:=HYR.out k' It;obtain⟨row,aR⟩:=Ki (yk[k']);obtain⟨rd,DB⟩:=Ki (word[k']);have DA:=ru.out word[k'] (Ld Iu);rw[aR] at hy6 lA i8 Hm;rw[DB] at r0 r1 r2 r3 r4 r5 r6 DA Hm;have hhs:=ZE (kX DA.1).2.2.1 q (by omega);have sR:=zH (fun (X:Ba) (hX:Ar W6.heap.size W6 X)=>seen_any rd k q (by omega) hhs A3 c3 row (by rw[DA.2,i8]) (by omega) X ((lA.iat.keep hX).more hX.size));have hk'0:(0:Int)<=(k':Int):=by omega
  have hk'1:(k':Int)<(word.length:Int):=by omega
  have hk'2:(k':Int)<(yk.length:Int):=by omega
  have hjp:(0:Int)<=(j:Int):=by omega
  have HKS:=zH fm;have h11l:w5.heap.size<W6.heap.size:=zj pi.out;clear Ir fm Q6 hR6 hYc VL ah lA aR DB DA hhs i8;go_wp2_with fail
  go_still_tail 17,(by kernel_rfl)
  change wpList _ _ _ _ _ W6.drew;obtain⟨W7,rj⟩:∃W7,W7=W6.drew:=⟨_,rfl⟩;have pQ:Aw (Ar W6.heap.size W6 W7):=by rw[rj];exact(Ll _ _).drew
  rw[<-rj];clear rj r0 r1 r2 r3 r4 r5 r6 MA hy6 x6;go_wp2_with fail;refine(sR.out W7 pQ.out).mono ?_;rintro e w8 ⟨rfl,dQ⟩;obtain⟨vv,hvv⟩:=Ki (qy rd k q row);rw[hvv] at Hm ⊢;have IN:Ar W6.heap.size W6 w8:=Lc pQ.out dQ;have b8:=Lb IN h11l pi.out;unfold Vw.cells at b8;obtain⟨k1,k2⟩:=vw_store8 vv b8 (Lc fA.out IN) (by omega:wr.heap.size<=w5.heap.size);obtain⟨W9,tr⟩:=Ki (((((((((w8.setCell ⟨w5.heap.size,0,Z⟩ (O U vv.p)).setCell ⟨w5.heap.size,1,Z⟩ (O U vv.r)).setCell ⟨w5.heap.size,2,Z⟩ (O U vv.i)).setCell ⟨w5.heap.size,3,Z⟩ (O U vv.h0)).setCell ⟨w5.heap.size,4,Z⟩ (O U vv.h1)).setCell ⟨w5.heap.size,5,Z⟩ (O U vv.h2)).setCell ⟨w5.heap.size,6,Z⟩ (O U vv.h3)).setCell ⟨w5.heap.size,7,Z⟩ (O U vv.h4)));rw[tr] at k1 k2;have HW9:=zH tr;have y0:w8.cell? ⟨w5.heap.size,0,Z⟩=J (O U (xr q iv).p):=zh b8 0 rfl;have fr0:=zi b8 0;have y1:w8.cell? ⟨w5.heap.size,1,Z⟩=J (O U (xr q iv).r):=zh b8 1 rfl;have fr1:=zi b8 1;have y2:w8.cell? ⟨w5.heap.size,2,Z⟩=J (O U (xr q iv).i):=zh b8 2 rfl;have fr2:=zi b8 2;have y3:w8.cell? ⟨w5.heap.size,3,Z⟩=J (O U (xr q iv).h0):=zh b8 3 rfl;have fr3:=zi b8 3;have y4:w8.cell? ⟨w5.heap.size,4,Z⟩=J (O U (xr q iv).h1):=zh b8 4 rfl;have fr4:=zi b8 4;have y5:w8.cell? ⟨w5.heap.size,5,Z⟩=J (O U (xr q iv).h2):=zh b8 5 rfl;have fr5:=zi b8 5
  have y6:w8.cell? ⟨w5.heap.size,6,Z⟩=J (O U (xr q iv).h3):=zh b8 6 rfl;have fr6:=zi b8 6;have y7:w8.cell? ⟨w5.heap.size,7,Z⟩=J (O U (xr q iv).h4):=zh b8 7 rfl;have fr7:=zi b8 7;have pi:Aw (W9.heap[w5.heap.size]?=J (Ai (f q).cells 111 (0,0))):=by rw[Hm.out];exact k1
  have fA:Aw (Ar wr.heap.size wr W9):=k2;clear IN b8 k1 k2 tr hvv dQ sR pQ Hm;unfold Vw.cells;go_simp;rename_i mZ;refine mZ _ _ ?_;refine L8 rfl fun K5 cM=>?_
  go_simp;rw[HW9.out];refine cM _ _ ?_;clear HW9 HKS Wa Pz y0 y1 y2 y3 y4 y5 y6 y7 fr0 fr1 fr2 fr3 fr4 fr5 fr6 fr7
 all_goals
  have Q9:=HQ.out.on fA.out;have DA:=jC f vk q;have OS:=qn f vk q;obtain⟨AV,kv,eV,hT⟩:=Q9.tb.form (by have:=fW.out;omega);subst eV;have KW:=zH (put_any p.t.n AV kv (yH f vk q).1 (f q) W9 hT (by have:=fW.out;omega));have bN:=Q9.sys;rw[tz.out] at bN;have s7:W9.cell? ⟨w.heap.size+1+1,7,Z⟩=J (O U p.t.n):=zh bN 7 rfl;have s8:W9.cell? ⟨w.heap.size+1+1,8,Z⟩=J (.slice AV (yH f vk q).1.length kv):=zh bN 8 rfl;have UB:=zH Q9;have HRL2:=zH OS;obtain⟨v,hv⟩:=Ki (f q);have HFQ:=zH hv;rw[hv] at KW pi;have x0:W9.cell? ⟨w5.heap.size,0,Z⟩=J (O U v.p):=zh pi.out 0 rfl;have x1:W9.cell? ⟨w5.heap.size,1,Z⟩=J (O U v.r):=zh pi.out 1 rfl;have x2:W9.cell? ⟨w5.heap.size,2,Z⟩=J (O U v.i):=zh pi.out 2 rfl;have x3:W9.cell? ⟨w5.heap.size,3,Z⟩=J (O U v.h0):=zh pi.out 3 rfl;have x4:W9.cell? ⟨w5.heap.size,4,Z⟩=J (O U v.h1):=zh pi.out 4 rfl;have x5:W9.cell? ⟨w5.heap.size,5,Z⟩=J (O U v.h2):=zh pi.out 5 rfl;have x6:W9.cell? ⟨w5.heap.size,6,Z⟩=J (O U v.h3):=zh pi.out 6 rfl;have x7:W9.cell? ⟨w5.heap.size,7,Z⟩=J (O U v.h4):=zh pi.out 7 rfl;clear hv DA OS hT bN Q9;go_wp2_with fail
  all_goals first | (exfalso;omega) | skip
  refine KW.out.mono ?_;rintro e iu OY;obtain⟨A3,k3,rfl,M4,Tb,bn⟩:=put_out OY UB.out.tb UB.out.big;have Ms:=Lc fA.out bn;have bN:=(HQ.out.on Ms).sys;rw[tz.out] at bN;have s7:iu.cell? ⟨w.heap.size+1+1,7,Z⟩=J (O U p.t.n):=zh bN 7 rfl;have s8:iu.cell? ⟨w.heap.size+1+1,8,Z⟩=J (.slice AV (yH f vk q).1.length kv):=zh bN 8 rfl;have f7:=zi bN 7;have f8:=zi bN 8;have HS10:=zH bN;obtain⟨Hp,Dq⟩:=Ki ((qu (yH f vk q).1 v).1);obtain⟨iz,hiz⟩:=Ki ((qu (yH f vk q).1 v).2);rw[Dq] at M4 Tb;have pI:=zH Dq;have HIZ:=zH hiz;have fw:=zH M4;have HV3:=zH Tb;have td:=zH Ms;have oO:=Ms.size;have SO:=HQ.out.bsl;rw[Dq,hiz];clear OY M4 Tb bn Ms bN Dq hiz KW x0 x1 x2 x3 x4 x5 x6 x7 pi;obtain⟨Fc,S9,WK,tP,Kk⟩:=zk iu #[O U p.t.n,I A3 Hp.length k3] 32;have Up:=zH S9;have CC:Aw (Ar wr.heap.size wr Fc):=td.out.trans (Kk.mono oO);have t0:Fc.cell? ⟨iu.heap.size,0,Z⟩=J (O U p.t.n):=zh WK 0 rfl;have t1:Fc.cell? ⟨iu.heap.size,1,Z⟩=J (I A3 Hp.length k3):=zh WK 1 rfl;have bN:=(HQ.out.on CC.out).sys;rw[tz.out] at bN;have e7:Fc.cell? ⟨w.heap.size+1+1,7,Z⟩=J (O U p.t.n):=zh bN 7 rfl;have e8:Fc.cell? ⟨w.heap.size+1+1,8,Z⟩=J (.slice AV (yH f vk q).1.length kv):=zh bN 8 rfl;have fe7:=zi bN 7;have fe8:=zi bN 8;have hbs11:w.heap.size+1+1<Fc.heap.size:=by omega
  have KX:=zH (Bq.put HQ.out CC.out (u:=O U p.t.n) (fw.out.of_same fun k hk=>Kk.block k (fw.out.lt' k hk).2) (fun k hk=>by
   rcases HV3.out k hk with e | e
   . exact .inl e
   . exact .inr (by have:=fA.out.size;omega)) (by rw[tz.out];rfl) (by rw[tz.out];rfl))
  obtain⟨TM,DU⟩:=Ki ((Fc.setCell ⟨w.heap.size+1+1,7,Z⟩ (O U p.t.n)).setCell ⟨w.heap.size+1+1,8,Z⟩ (I A3 Hp.length k3));rw[DU] at KX;have HY10:=zH DU;have OK:TM.heap.size=Fc.heap.size:=by rw[<-DU];simp
  have Hk:Aw ((TM.alloc (Ai #[O U iz] 3)).heap[iu.heap.size+1]?=J (Ai #[O U iz] 3 (0,0))):=by show _=_;rw[<-tP,<-OK];exact zy TM _
  have HRN:=zH (KX.out.row.alloc (Ai #[O U iz] 3));have HDY:=zH KX.out.big
  have Dd:Aw (yH f vk (q+1)=(Hp,(yH f vk q).2++[iz])):=by
   show(_,_)=_;rw[HFQ.out,pI.out,HIZ.out]
  clear S9 WK Kk bN DU s7 s8 f7 f8 HS10 fw HV3 pI HIZ HFQ UB;go_simp;rename_i mZ;refine mZ _ _ ?_;clear mZ;refine L8 rfl fun K5 cM=>?_
  go_simp;refine cM _ _ ?_;clear cM K5;refine L8 rfl fun K5 cM=>?_
  go_simp;refine cM _ _ ?_;clear cM K5;refine L8 rfl fun K5 cM=>?_
  go_simp;refine cM _ _ ?_;clear cM K5;refine L8 rfl fun K5 cM=>?_
  go_simp;refine cM _ _ ?_;clear cM K5;refine L8 rfl fun K5 cM=>?_
  go_simp;rw[Up.out];refine cM _ _ ?_;clear cM K5 Up;have HRL3:Aw ((yH f vk q).2.length<=1000000000):=by show _<=_;rw[HRL2.out];omega
  have HDZ:Aw (D<=(TM.alloc (Ai #[O U iz] 3)).heap.size):=by show _<=_;have:=HDY.out;simp;omega
  go_wp2_with (at_builtin;go_loud (rw[HY10.out];refine xb Y3 rfl (.tmp 99) (.tmp 101) rfl D (.slice AL (yH f vk q).2.length kl) (yH f vk q).2.length ((yH f vk q).2.map (O U)) rfl HRN.out (iu.heap.size+1) #[O U iz] rfl Hk.out rfl (by simp[Value.oneCell']) HRL3.out HDZ.out _ rfl ?_;intro g' cap w12 nK lQ fJ tW;have HPS:=zH (Bq.push KX.out (ye TM _) nK lQ fJ);clear nK lQ fJ))
  go_roundw
  case rel=>exact⟨q+1,_,by omega,by go_num,by rw[Dd.out];exact HPS.out⟩
  case measure=>simp[Au];omega
end
section
open Go.RowKit
attribute [local go_sem] Oper.semAt_some
theorem num_many{p:Pb}(h:zY p=0):4096<YQ p↔4096<yx p:=by
 obtain⟨mP,_⟩:=yf h;obtain⟨h1,_⟩:=xJ mP;have e:yx p=p.t.cases.length*yw p.a p.k.toNat 0:=by unfold yx;rw[Pv]
 rw[e];exact sat_mul 4096 p.t.cases.length (yw p.a p.k.toNat 0) h1
theorem rbuild_any(p:Pb)(hf:xz p)(A:Bb)(kc:Nat)(SV:Bb)(ks:Nat)(w:Ba)(hA:CAt w w.heap.size A p.t.cases)(hS:SAt w w.heap.size SV p.a.sts) :
  As Aq 39 #[.agg (p.vs A kc SV ks)] w (RetSys (yj p) w):=by
 have HC:=zH (fun (w':Ba) (h1:CAt w' w'.heap.size A p.t.cases) (h2:SAt w' w'.heap.size SV p.a.sts)=>vj p hf.1 A kc SV ks w' h1 h2)
 have HN:=zH (fun (w':Ba) (h0:zY p=0) (h:SAt w' w'.heap.size SV p.a.sts)=>
  gj p hf.1 (xv hf.1.2 (yf h0).2.1).1 (xv hf.1.2 (yf h0).2.1).2.1 p.k.toNat 4096 (by have:=(yf h0).2.2.2.1;omega) (by have:=(yf h0).2.2.2.2;omega) (by decide) A kc SV ks w' h)
 have HB:=zH (fun (h0:zY p=0) (iV:yx p<=60) (w':Ba) (h1:CAt w' w'.heap.size A p.t.cases) (h2:SAt w' w'.heap.size SV p.a.sts)=>QX p hf h0 iV A kc SV ks w' h1 h2);have oh:=zH (@xy p);have fy:=zH (@qd p);have Ci:=zH (@kg p);have Cl:=zH (@num_many p);have nj:=zH hf.2;obtain⟨R,hR⟩:=Ki (yj p);rw[hR] at oh fy Ci ⊢;obtain⟨w1,ab,d0,d1,aK,bP⟩:=yV w (p.vs A kc SV ks) #[O U 0,O U 0,O U 0,I Z 0 0,O U 0,I Z 0 0,O U 0,O U 0,I Z 0 0,I Z 0 0] 29 35;have Oh:=zH hA;have HSW:=zH hS;have HA:=zH ((hA.keep bP).more bP.size);have HS:=zH ((hS.keep bP).more bP.size);unfold Pb.vs at ab d0 ⊢;have ai:=zH ab;have bK:=zH d0;have cN:=zH d1;have mN:=zH bP;obtain⟨p0,p1,p2,p3,p4,p5,p6,_⟩:=Kf d0;obtain⟨E,hE⟩:=Ki (zY p);have od:=zH hE;rw[hE] at HC oh;obtain⟨M,hM⟩:=Ki (p.t.cases.length*xA 4096 (yw p.a p.k.toNat 0));have pM:Aw (YQ p=M):=hM;rw[hM] at HN;clear ab d0 d1 bP hA hS hf hR hE hM;go_enter func39,ntmps39;go_wp2_with fail;rw[ai.out];go_wp2_with fail;refine(HC.out w1 HA.out HS.out).mono ?_;rintro e w2 ⟨rfl,ag⟩;have B2:=zH (mN.out.trans (ag.mono (by omega)));have Et:=zH ((HA.out.keep ag).more ag.size);have dS:=zH ((HS.out.keep ag).more ag.size);have eQ:=ag.size;have d0:=La ag bK.out;have d1:=La ag cN.out;have dD:=zH d0;have az:=zH d1;clear ag HC ai bK cN HA HS p0 p1 p2 p3 p4 p5 p6
 obtain⟨p0,p1,p2,p3,p4,p5,p6,_⟩:=Kf d0
 by_cases h0:E=0
 case neg=>
  have hR:=zH (oh.out h0);have e0:(E != 0)=AA:=by simpa using h0
  have y0:=zh d1 0 rfl;have f0:=zi d1 0;have y1:=zh d1 1 rfl;have f1:=zi d1 1;have y2:=zh d1 2 rfl;have f2:=zi d1 2;have y3:=zh d1 3 rfl;have f3:=zi d1 3;have y4:=zh d1 4 rfl;have f4:=zi d1 4;have y5:=zh d1 5 rfl;have f5:=zi d1 5;have y6:=zh d1 6 rfl;have f6:=zi d1 6;have y7:=zh d1 7 rfl;have f7:=zi d1 7;have y8:=zh d1 8 rfl;have f8:=zi d1 8;have y9:=zh d1 9 rfl;have f9:=zi d1 9;obtain⟨k1,k2,k3⟩:=xX (O U 0) (O U 0) (O U 0) (I Z 0 0) (O U 0) (I Z 0 0) (O U 0) (O U 0) (I Z 0 0) (I Z 0 0) d1 B2.out (by omega:w.heap.size<=w.heap.size+1);obtain⟨WF,ft⟩:=Ki (((((((((((w2.setCell ⟨w.heap.size+1,0,Z⟩ (O U 0)).setCell ⟨w.heap.size+1,1,Z⟩ (O U 0)).setCell ⟨w.heap.size+1,2,Z⟩ (O U 0)).setCell ⟨w.heap.size+1,3,Z⟩ (I Z 0 0)).setCell ⟨w.heap.size+1,4,Z⟩ (O U 0)).setCell ⟨w.heap.size+1,5,Z⟩ (I Z 0 0)).setCell ⟨w.heap.size+1,6,Z⟩ (O U 0)).setCell ⟨w.heap.size+1,7,Z⟩ (O U 0)).setCell ⟨w.heap.size+1,8,Z⟩ (I Z 0 0)).setCell ⟨w.heap.size+1,9,Z⟩ (I Z 0 0)));rw[ft] at k1 k2 k3;have Cu:=zH k1;have sd:=zH k2;have Ep:=zH k3;have ru:=zH ft;clear k1 k2 k3 ft;clear fy Ci Cl HN HB nj h0 d0 d1;go_wp2_with fail;rw[ru.out];obtain⟨z0,z1,z2,z3,z4,z5,z6,z7,z8,z9⟩:=zN Cu.out
  refine LG (v:=.tuple #[Ak #[O U 0,O U 0,O U 0,I Z 0 0,O U 0,I Z 0 0,O U 0,O U 0,I Z 0 0,I Z 0 0],O U E]) (by simp[results,results39,go_sem,z0,z1,z2,z3,z4,z5,z6,z7,z8,z9]) rfl ?_;rw[hR.out];exact RetSys.zero _ sd.out
 case pos=>
 subst h0;clear oh;go_wp2_with fail;refine(HN.out w2 od.out dS.out).mono ?_;rintro e w3 ⟨rfl,aj⟩;have B3:=zH (B2.out.trans (aj.mono (by omega)));have lU:=zH ((Et.out.keep aj).more aj.size);have oY:=zH ((dS.out.keep aj).more aj.size);have eK:=aj.size;have d0:=La aj dD.out;have d1:=La aj az.out;have Of:=zH d0;have Cz:=zH d1;clear aj HN dD az Et dS p0 p1 p2 p3 p4 p5 p6
 by_cases hm:4096<M
 case pos=>
  have hR:=zH (fy.out od.out ((Cl.out od.out).1 (by rw[pM.out];exact hm)));have hmi:(4096:Int)<(M:Int):=by omega
  have y0:=zh d1 0 rfl;have f0:=zi d1 0;have y1:=zh d1 1 rfl;have f1:=zi d1 1;have y2:=zh d1 2 rfl;have f2:=zi d1 2;have y3:=zh d1 3 rfl;have f3:=zi d1 3;have y4:=zh d1 4 rfl;have f4:=zi d1 4;have y5:=zh d1 5 rfl;have f5:=zi d1 5;have y6:=zh d1 6 rfl;have f6:=zi d1 6;have y7:=zh d1 7 rfl;have f7:=zi d1 7;have y8:=zh d1 8 rfl;have f8:=zi d1 8;have y9:=zh d1 9 rfl;have f9:=zi d1 9;obtain⟨k1,k2,k3⟩:=xX (O U 0) (O U 0) (O U 0) (I Z 0 0) (O U 0) (I Z 0 0) (O U 0) (O U 0) (I Z 0 0) (I Z 0 0) d1 B3.out (by omega:w.heap.size<=w.heap.size+1);obtain⟨WF,ft⟩:=Ki (((((((((((w3.setCell ⟨w.heap.size+1,0,Z⟩ (O U 0)).setCell ⟨w.heap.size+1,1,Z⟩ (O U 0)).setCell ⟨w.heap.size+1,2,Z⟩ (O U 0)).setCell ⟨w.heap.size+1,3,Z⟩ (I Z 0 0)).setCell ⟨w.heap.size+1,4,Z⟩ (O U 0)).setCell ⟨w.heap.size+1,5,Z⟩ (I Z 0 0)).setCell ⟨w.heap.size+1,6,Z⟩ (O U 0)).setCell ⟨w.heap.size+1,7,Z⟩ (O U 0)).setCell ⟨w.heap.size+1,8,Z⟩ (I Z 0 0)).setCell ⟨w.heap.size+1,9,Z⟩ (I Z 0 0)));rw[ft] at k1 k2 k3;have Cu:=zH k1;have sd:=zH k2;have Ep:=zH k3;have ru:=zH ft;clear k1 k2 k3 ft;clear fy Ci Cl HB nj d0 d1;go_wp2_with fail;rw[ru.out];obtain⟨z0,z1,z2,z3,z4,z5,z6,z7,z8,z9⟩:=zN Cu.out
  refine LG (v:=.tuple #[Ak #[O U 0,O U 0,O U 0,I Z 0 0,O U 0,I Z 0 0,O U 0,O U 0,I Z 0 0,I Z 0 0],O U 17]) (by simp[results,results39,go_sem,z0,z1,z2,z3,z4,z5,z6,z7,z8,z9]) rfl ?_;rw[hR.out];exact RetSys.zero _ sd.out
 case neg=>
 have y':¬(4096<yx p):=fun h=>hm (by rw[<-pM.out];exact(Cl.out od.out).2 h)
 have iV:yx p<=60:=by
  rcases nj.out od.out with h | h
  . exact h
  exact absurd h y'
 have hR:=zH (Ci.out od.out (by omega));have hmi:¬((4096:Int)<(M:Int)):=by omega
 have Vm:=zH (HB.out od.out iV w3 lU.out oY.out);have sX:=zH (Z0 p od.out iV).1;obtain⟨p0,p1,p2,p3,p4,p5,p6,_⟩:=Kf d0;clear fy Ci Cl HB nj y' iV d0 d1 pM;go_wp2_with fail
 all_goals first | (exfalso;omega) | skip
 refine Vm.out.mono ?_;rintro e w4 ⟨AV,kv,AE,ke,rfl,hV,hX,aG⟩;have B4:=zH (B3.out.trans (aG.mono (by omega)));have KS:=zH hV;have KP:=zH hX;have oA:=aG.size;have d1:=La aG Cz.out;have HG1:=zH d1;have Mn:=zH ((lU.out.keep aG).more aG.size);have Db:=zH ((oY.out.keep aG).more aG.size);clear hV hX aG Vm Of Cz p0 p1 p2 p3 p4 p5 p6 d1;obtain⟨W5,dM,b5,lL,nc⟩:=zk w4 #[O U p.t.n,O U p.t.ins,O U p.t.outs,I A p.t.cases.length kc,O U p.a.n,I SV p.a.sts.length ks,O U p.k,O U p.t.n,.slice AV (zK p (zD p)).1.length kv,.slice AE (zK p (zD p)).2.length ke] 35;have d1:=La nc HG1.out;have B5:=zH (B4.out.trans (nc.mono (by omega)));have cj:=zH nc;have nh:=zH dM;obtain⟨x0,x1,x2,x3,x4,x5,x6,x7,x8,x9⟩:=zN b5;have hfv:¬((8192:Int)<((zK p (zD p)).1.length:Int)):=by have:=sX.out;omega
 clear dM nc b5;go_simp;rename_i mZ;refine mZ _ _ ?_;clear mZ;refine L8 rfl fun K5 cM=>?_
 go_simp;refine cM _ _ ?_;clear cM K5;refine L8 rfl fun K5 cM=>?_
 go_simp;rw[nh.out];refine cM _ _ ?_;clear cM K5 nh;have y0:=zh d1 0 rfl;have f0:=zi d1 0;have y1:=zh d1 1 rfl;have f1:=zi d1 1;have y2:=zh d1 2 rfl;have f2:=zi d1 2;have y3:=zh d1 3 rfl;have f3:=zi d1 3;have y4:=zh d1 4 rfl;have f4:=zi d1 4;have y5:=zh d1 5 rfl;have f5:=zi d1 5;have y6:=zh d1 6 rfl;have f6:=zi d1 6;have y7:=zh d1 7 rfl;have f7:=zi d1 7;have y8:=zh d1 8 rfl;have f8:=zi d1 8;have y9:=zh d1 9 rfl;have f9:=zi d1 9;obtain⟨k1,k2,k3⟩:=xX (O U p.t.n) (O U p.t.ins) (O U p.t.outs) (I A p.t.cases.length kc) (O U p.a.n) (I SV p.a.sts.length ks) (O U p.k) (O U p.t.n) (.slice AV (zK p (zD p)).1.length kv) (.slice AE (zK p (zD p)).2.length ke) d1 B5.out (by omega:w.heap.size<=w.heap.size+1);obtain⟨WF,ft⟩:=Ki (((((((((((W5.setCell ⟨w.heap.size+1,0,Z⟩ (O U p.t.n)).setCell ⟨w.heap.size+1,1,Z⟩ (O U p.t.ins)).setCell ⟨w.heap.size+1,2,Z⟩ (O U p.t.outs)).setCell ⟨w.heap.size+1,3,Z⟩ (I A p.t.cases.length kc)).setCell ⟨w.heap.size+1,4,Z⟩ (O U p.a.n)).setCell ⟨w.heap.size+1,5,Z⟩ (I SV p.a.sts.length ks)).setCell ⟨w.heap.size+1,6,Z⟩ (O U p.k)).setCell ⟨w.heap.size+1,7,Z⟩ (O U p.t.n)).setCell ⟨w.heap.size+1,8,Z⟩ (.slice AV (zK p (zD p)).1.length kv)).setCell ⟨w.heap.size+1,9,Z⟩ (.slice AE (zK p (zD p)).2.length ke)));rw[ft] at k1 k2 k3;have Cu:=zH k1;have sd:=zH k2;have Ep:=zH k3;have ru:=zH ft;clear k1 k2 k3 ft;clear d1;go_wp2_with fail;rw[ru.out]
 obtain⟨z0,z1,z2,z3,z4,z5,z6,z7,z8,z9⟩:=zN Cu.out;refine LG (v:=.tuple #[Ak #[O U p.t.n,O U p.t.ins,O U p.t.outs,I A p.t.cases.length kc,O U p.a.n,I SV p.a.sts.length ks,O U p.k,O U p.t.n,.slice AV (zK p (zD p)).1.length kv,.slice AE (zK p (zD p)).2.length ke],O U 0]) (by simp[results,results39,go_sem,z0,z1,z2,z3,z4,z5,z6,z7,z8,z9]) rfl ?_;rw[hR.out];have eJ:∀k,k≠w.heap.size+1->k<w4.heap.size->WF.heap[k]?=w4.heap[k]?:=fun k a b=>(Ep.out.2.1 k a).trans (cj.out.block k b)
 have hz:w4.heap.size<=WF.heap.size:=by have:=cj.out.size;have:=Ep.out.2.2;omega
 obtain⟨AV',kv',eV,hT⟩:=(KS.out.of_same fun k hk=>eJ k (by have:=(KS.out.lt' k hk).1;omega) (KS.out.lt' k hk).2).form (by have:=sX.out;omega)
 cases eV
 obtain⟨AE',ke',eE,_,_,MU,_⟩:=uf (KP.out.keep yc ⟨hz,fun k hs hl=>eJ k (by omega) hl⟩ fun k hk=>eJ k (by have:=(KP.out.lt k hk).1;omega) (KP.out.lt k hk).2)
 cases eE
 exact⟨A,kc,SV,ks,AV,kv,AE,ke,rfl,⟨(Oh.out.keep sd.out).more sd.out.size,(HSW.out.keep sd.out).more sd.out.size,hT.rows,MU⟩,hT.lec,hT.lem,sd.out⟩
theorem rver_any(s:Sy)(hs:LowS s)(hf:xz s.p)(A SV AV AX:Bb)(kc ks kv kx:Nat)(w:Ba)(hS:SyAt w w.heap.size A SV AV AX s) :
  As Aq 62 #[.agg (s.vs_ A kc SV ks AV kv AX kx)] w fun e w'=>e=Am (O U (yh s))/\Ar w.heap.size w w':=by
 obtain⟨w1,ab⟩:=Ki (w.alloc (Ai (s.vs_ A kc SV ks AV kv AX kx) 35));have aY:=zy w (Ai (s.vs_ A kc SV ks AV kv AX kx) 35);have aM:Ar w.heap.size w w1:=by rw[<-ab];exact ye w _
 have eP:w1.heap.size=w.heap.size+1:=by rw[<-ab];simp
 rw[ab] at aY;have mG:=zH (hS.up aM);have HB:=zH (rbuild_any s.p hf A kc SV ks w1 (hS.up aM).fc (hS.up aM).fs);have nF:=zH (gW hs.fp hf);have Cp:=zH hs;have rx:Aw (yh s=if (yj s.p).2≠0 then (yj s.p).2 else if s=(yj s.p).1 then 0 else 3):=rfl
 have cx:=zH (fun (h:(yj s.p).2=0)=>(by
  by_cases h0:zY s.p=0
  case neg=>rw[xy h0] at h;exact absurd h h0
  case pos=>
   by_cases h1:4096<yx s.p
   . rw[qd h0 h1] at h;cases h
   . rw[kg h0 (by omega)];exact⟨rfl,rfl⟩:(yj s.p).1.p=s.p/\(yj s.p).1.n=s.p.t.n))
 unfold Sy.vs_ at ab aY ⊢;unfold Pb.vs at HB;have ai:=zH ab;have cJ:=zH aY;have ch:=zH aM;obtain⟨R,hR⟩:=Ki (yj s.p);rw[hR] at HB nF rx cx;obtain⟨r,hr⟩:=Ki (yh s);rw[hr] at rx ⊢;clear ab aY aM hS hs hf hR hr;go_enter func62,ntmps62;go_wp2_with fail;rw[ai.out];go_wp2_with fail;refine HB.out.mono ?_;rintro e w2 ⟨A2,Dm,T1,Dl,Mu,Ht,Mt,Hs,rfl,Th,sn,oL,ag⟩;obtain⟨T,E⟩:=R;obtain⟨W3,fU,b3,eK,ct⟩:=zk w2 (T.vs_ A2 Dm T1 Dl Mu Ht Mt Hs) 35;have oY:=zH (Th.up ct);have aJ:=zH (ch.out.trans ((Lc ag ct).mono (by omega)));have eQ:=ag.size;have d0:=Lb ct (by omega:w.heap.size<w2.heap.size) (Lb ag (by omega:w.heap.size<w1.heap.size) cJ.out);have Ei:=zH ((mG.out.up ag).up ct);unfold Sy.vs_ at fU b3 ⊢;have io:=zH fU;have sY:=zH b3;clear ag Th sn oL ct fU HB ai mG cJ;dsimp only at rx cx nF oY;go_simp;rename_i mZ;refine mZ _ _ ?_;clear mZ;refine L8 rfl fun K5 cM=>?_
 go_simp;refine cM _ _ ?_;clear cM K5;refine L8 rfl fun K5 cM=>?_
 go_simp;refine cM _ _ ?_;clear cM K5;refine L8 rfl fun K5 cM=>?_
 go_simp;refine cM _ _ ?_;clear cM K5;refine L8 rfl fun K5 cM=>?_
 go_simp;refine cM _ _ ?_;clear cM K5;refine L8 rfl fun K5 cM=>?_
 go_simp;rw[io.out];refine cM _ _ ?_;clear cM K5
 by_cases h0:E=0
 case neg=>
  have e0:(E != 0)=AA:=by simpa using h0
  have hR:Aw (r=E):=rx.out.trans (Li h0);clear rx cx h0 d0 b3;go_wp2_with fail;go_ret;exact⟨zm hR.out.symm,aJ.out⟩
 case pos=>
 subst h0;obtain⟨Tc,DW⟩:=cx.out rfl;have CR:r=if s=T then 0 else 3:=rx.out.trans (Lg (by simp));have H3:Aw (s≠T->r=3):=fun h=>CR.trans (Lg h)
 have H0:Aw (s=T->r=0):=fun h=>CR.trans (Li h)
 have HTP:=zH Tc;have tD:=zH (@sy_eq s T);have Hd:=zH (rsameS_any s T Cp.out nF.out A SV AV AX A2 T1 Mu Mt kc ks kv kx Dm Dl Ht Hs W3 Ei.out oY.out);have x0:W3.cell? ⟨w.heap.size,0,Z⟩=J (O U s.p.t.n):=zh d0 0 rfl;have y0:W3.cell? ⟨w2.heap.size,0,Z⟩=J (O U T.p.t.n):=zh b3 0 rfl;have x1:W3.cell? ⟨w.heap.size,1,Z⟩=J (O U s.p.t.ins):=zh d0 1 rfl;have y1:W3.cell? ⟨w2.heap.size,1,Z⟩=J (O U T.p.t.ins):=zh b3 1 rfl;have x2:W3.cell? ⟨w.heap.size,2,Z⟩=J (O U s.p.t.outs):=zh d0 2 rfl;have y2:W3.cell? ⟨w2.heap.size,2,Z⟩=J (O U T.p.t.outs):=zh b3 2 rfl;have x3:W3.cell? ⟨w.heap.size,3,Z⟩=J (I A s.p.t.cases.length kc):=zh d0 3 rfl;have y3:W3.cell? ⟨w2.heap.size,3,Z⟩=J (I A2 T.p.t.cases.length Dm):=zh b3 3 rfl;have x4:W3.cell? ⟨w.heap.size,4,Z⟩=J (O U s.p.a.n):=zh d0 4 rfl;have y4:W3.cell? ⟨w2.heap.size,4,Z⟩=J (O U T.p.a.n):=zh b3 4 rfl;have x5:W3.cell? ⟨w.heap.size,5,Z⟩=J (I SV s.p.a.sts.length ks):=zh d0 5 rfl;have y5:W3.cell? ⟨w2.heap.size,5,Z⟩=J (I T1 T.p.a.sts.length Dl):=zh b3 5 rfl;have x6:W3.cell? ⟨w.heap.size,6,Z⟩=J (O U s.p.k):=zh d0 6 rfl;have y6:W3.cell? ⟨w2.heap.size,6,Z⟩=J (O U T.p.k):=zh b3 6 rfl;have x7:W3.cell? ⟨w.heap.size,7,Z⟩=J (O U s.n):=zh d0 7 rfl;have y7:W3.cell? ⟨w2.heap.size,7,Z⟩=J (O U T.n):=zh b3 7 rfl
 have x8:W3.cell? ⟨w.heap.size,8,Z⟩=J (I AV s.vs.length kv):=zh d0 8 rfl;have y8:W3.cell? ⟨w2.heap.size,8,Z⟩=J (I Mu T.vs.length Ht):=zh b3 8 rfl;have x9:W3.cell? ⟨w.heap.size,9,Z⟩=J (I AX s.xs.length kx):=zh d0 9 rfl;have y9:W3.cell? ⟨w2.heap.size,9,Z⟩=J (I Mt T.xs.length Hs):=zh b3 9 rfl;unfold Sy.vs_ at Hd;clear Tc DW CR rx cx d0 b3 nF Cp HTP tD;go_wp2_with fail;refine Hd.out.mono ?_;rintro e w4 ⟨rfl,aG⟩;have B4:=zH (aJ.out.trans (aG.mono (by omega)));clear aG Hd x0 x1 x2 x3 x4 x5 x6 x7 x8 x9 y0 y1 y2 y3 y4 y5 y6 y7 y8 y9
 by_cases h2:s=T
 case neg=>
  have hR:=zH (H3.out h2);rw[Lj h2];clear H3 H0 h2;go_wp2_with fail;go_ret;exact⟨zm hR.out.symm,B4.out⟩
 have hR:=zH (H0.out h2);rw[Lm h2];clear H3 H0 h2;go_wp2_with fail;go_ret;exact⟨zm hR.out.symm,B4.out⟩
theorem yJ{s:Sy}(hf:xz s.p)(h:yh s=0):s=yu s.p/\∃K N,Fine s K N:=by
 unfold yh at h
 by_cases h1:(yj s.p).2≠0
 . rw[Li h1] at h;exact absurd h h1
 rw[Lg h1] at h
 by_cases h2:s=(yj s.p).1
 · have h0 : zY s.p = 0 := by
    by_cases h0:zY s.p=0
    . exact h0
    rw[xy h0] at h1;exact absurd h0 h1
   have hm:¬4096<yx s.p:=fun hm=>by rw[qd h0 hm] at h1;exact h1 (by decide)
   rw[kg h0 (by omega)] at h2;obtain⟨K,N,hF⟩:=built_fine hf h0 (by rcases hf.2 h0 with h | h;exact h;exact absurd h hm);exact⟨h2,K,N,by rw[h2];exact hF⟩
 rw[Lg h2] at h;cases h
def xT(bs:List Bool):Array Ax:=(bs.map Aj).toArray
theorem kh(bs:List Bool)(i:Nat)(b:Bool):(xT bs).setIfInBounds i (Aj b)=xT (bs.set i b):=by
 unfold xT;rw[List.setIfInBounds_toArray,So]
theorem qN(bs:List Bool)(i:Nat)(h:i<bs.length):(xT bs)[i]?=J (Aj bs[i]):=by
 unfold xT;simp[h]
def kBo:Kd:=⟨4,46,1,1,Aj AC⟩
theorem kBo_ok:KdOk Aq kBo:=⟨Pu,by kernel_rfl,by rfl,by decide,by decide⟩
theorem made_bools(n:Nat):madeCells #[Aj AC] (n*1)=xT (List.replicate n AC):=by
 unfold madeCells xT;apply Array.ext
 . simp
 intro i h1 h2;simp[Nat.mod_one]
theorem qb(n:Nat)(hn:n<=100000)(W:Ba):(Instr.makeSlice 46 (O U n) (O U n)).run Aq W=.ok (I (J ⟨W.heap.size,0,Z⟩) n n) (W.alloc (Ai (xT (List.replicate n AC)) 4)):=by
 obtain⟨i0,hi,ec,cO,dP⟩:=xu kBo_ok;have hb:i0.bytes=1:=dP;have hs:i0.size=1:=cO;have h:=run_make (P:=Aq) W 46 4 i0 (Aj AC) Pu hi ec U U (n:Int) (n:Int) (by omega) (Int.le_refl _) (by rw[hb];omega) (by omega);rw[h,hs];simp only[Int.toNat_natCast];rw[show(Aj AC).cells=#[Aj AC] from rfl,made_bools]
end
section
open Go.RowKit
def kBl:Kd:=⟨4,46,1,1,Aj AC⟩
theorem kBl_ok:KdOk Aq kBl:=⟨Pu,by kernel_rfl,by rfl,by decide,by decide⟩
section
variable {w w':Ba} {B B':Nat} {A:Bb}
def BAt(w:Ba)(B:Nat)(A:Bb)(bs:List Bool):Prop:=
 0<bs.length->∃b off,A=J ⟨b,off,Z⟩/\b<B/\∀(i:Nat) (hi:i<bs.length),w.cell? ⟨b,off+i,Z⟩=J (Aj bs[i])
theorem BAt.keep{bs:List Bool}(h:BAt w B A bs)(hb:Ar B w w'):BAt w' B A bs:=fun h0=>by
 obtain⟨b,off,e,aa,hc⟩:=h h0;exact⟨b,off,e,aa,fun i hi=>(hb.cell (p:=⟨b,_,Z⟩) aa).trans (hc i hi)⟩
theorem BAt.more{bs:List Bool}(h:BAt w B A bs)(hB:B<=B'):BAt w B' A bs:=fun h0=>by
 obtain⟨b,off,e,aa,hc⟩:=h h0;exact⟨b,off,e,by omega,hc⟩
theorem BAt.at_{bs:List Bool}(h:BAt w B A bs)(i:Nat)(hi:i<bs.length):∃b off,A=J ⟨b,off,Z⟩/\b<B/\w.cell? ⟨b,off+i,Z⟩=J (Aj bs[i]):=by
 obtain⟨b,off,e,aa,hc⟩:=h (by omega);exact⟨b,off,e,aa,hc i hi⟩
def BRow(w:Ba)(g:Nat)(bs:List Bool):Prop:=w.heap[g]?=J (Ai (xT bs) 4 (0,0))
theorem BRow.lt{g:Nat}{bs:List Bool}(h:BRow w g bs):g<w.heap.size:=zj h
theorem BRow.at_{g:Nat}{bs:List Bool}(h:BRow w g bs)(hB:g<B):BAt w B (J ⟨g,0,Z⟩) bs:=fun _=>⟨g,0,rfl,hB,fun i hi=>by rw[LO];exact zh h i (qN bs i hi)⟩
end
end
section
open Go.RowKit
structure Fh where
 op:Int
 p:Int
 o:Int
 v:Int
 g:Int
inductive Fm where
 | mk (h:Fh) (args:List Fm)
def Fm.h:Fm->Fh
 | .mk h _=>h
def Fm.args:Fm->List Fm
 | .mk _ l=>l
instance:Inhabited Fm:=⟨.mk ⟨0,0,0,0,0⟩ []⟩
def usP(op:Int):Bool:=decide (op=1\/op=3\/op=4\/op=5\/op=10)
def usO(op:Int):Bool:=decide (op=3)
def usV(op:Int):Bool:=decide (op=1\/op=2\/op=5\/op=6)
def usG(op:Int):Bool:=decide (op=11\/op=12\/op=13)
def arN(op:Int):Int:=if op=8\/op=9\/op=17 then 2 else if op<=6 then 0 else 1
def mxV(op:Int):Int:=if op=6 then 6 else 7
def xV(n:Nat)(h:Fh)(k:Nat):Int:=
 if h.op<0\/17<h.op then 1 else if (k:Int)≠arN h.op then 15
 else if (usP h.op=AA/\¬(0<=h.p/\h.p<=(n:Int)-1))\/(usO h.op=AA/\¬(0<=h.o/\h.o<=(n:Int)-1))\/(usV h.op=AA/\¬(0<=h.v/\h.v<=mxV h.op))\/(usG h.op=AA/\¬(0<=h.g/\h.g<=(2:Int)^n-1)) then 2
 else if (usP h.op=AC/\h.p≠0)\/(usO h.op=AC/\h.o≠0)\/(usV h.op=AC/\h.v≠0)\/(usG h.op=AC/\h.g≠0) then 3 else 0
def ZW:List Int->Int
 | []=>0
 | e::l=>if e≠0 then e else ZW l
def ZU(n:Nat)(R:Fm->Int)(f:Fm):Int:=if xV n f.h f.args.length≠0 then xV n f.h f.args.length else ZW (f.args.map R)
def kK(n:Nat):Nat->Fm->Int
 | 0=>ZU n fun _=>0
 | d+1=>ZU n (kK n d)
def zX(R:Fm->Nat×Nat)(l:List Fm):Nat×Nat:=l.foldl (fun a x=>(a.1+(R x).1,max a.2 (R x).2)) (1,0)
def yd:Nat->Fm->Nat×Nat
 | 0=>fun f=>((zX (fun _=>(0,0)) f.args).1,(zX (fun _=>(0,0)) f.args).2+1)
 | d+1=>fun f=>((zX (yd d) f.args).1,(zX (yd d) f.args).2+1)
def jk(x:Nat×Nat):Int:=if 128<x.1 then 5 else if 24<x.2 then 12 else 0
def qH(n:Int)(d:Nat)(f:Fm):Int:=if n<1\/5<n then 2 else if jk (yd d f)≠0 then jk (yd d f) else kK n.toNat d f
def FsAt(w:Ba)(B:Nat):Nat->Bb->List Fm->Prop
 | 0,_,l=>l=[]
 | d+1,A,l=>0<l.length->∃b o,A=J ⟨b,o,Z⟩/\b<B/\∀i (hi:i<l.length),∃A' c',
   (∀j v,#[O U l[i].h.op,O U l[i].h.p,O U l[i].h.o,O U l[i].h.v,O U l[i].h.g,I A' l[i].args.length c'][j]?=J v->w.cell? ⟨b,o+i*6+j,Z⟩=J v)/\FsAt w B d A' l[i].args
def Fm.vs(f:Fm)(A:Bb)(c:Nat):Array Ax:=#[O U f.h.op,O U f.h.p,O U f.h.o,O U f.h.v,O U f.h.g,I A f.args.length c]
theorem FsAt.keep:∀ {d:Nat} {w w':Ba} {B:Nat} {A:Bb} {l:List Fm},FsAt w B d A l->Ar B w w'->FsAt w' B d A l
 | 0,_,_,_,_,_,h,_=>h
 | d+1,w,w',B,A,l,h,hb=>fun h0=>by
  obtain⟨b,o,e,aa,hr⟩:=h h0;refine⟨b,o,e,aa,fun i hi=>?_⟩;obtain⟨A',c',h1,h2⟩:=hr i hi;exact⟨A',c',fun j v hv=>(hb.cell aa).trans (h1 j v hv),FsAt.keep h2 hb⟩
theorem FsAt.more:∀ {d:Nat} {w:Ba} {B B':Nat} {A:Bb} {l:List Fm},FsAt w B d A l->B<=B'->FsAt w B' d A l
 | 0,_,_,_,_,_,h,_=>h
 | d+1,w,B,B',A,l,h,hb=>fun h0=>by
  obtain⟨b,o,e,aa,hr⟩:=h h0;refine⟨b,o,e,by omega,fun i hi=>?_⟩;obtain⟨A',c',h1,h2⟩:=hr i hi;exact⟨A',c',h1,FsAt.more h2 hb⟩
def RecAt(w:Ba)(A:Bb)(l:List Fm)(F:Array Ax->Fm->Ba->Prop):Prop:=∀i (hi:i<l.length),∃b o A' c',A=J ⟨b,o,Z⟩/\b<w.heap.size /\
 (∀W,Ar w.heap.size w W->∀j v,(l[i].vs A' c')[j]?=J v->W.cell? ⟨b,o+i*6+j,Z⟩=J v)/\∀X,Ar w.heap.size w X->F (l[i].vs A' c') l[i] X
theorem RecAt.of{d:Nat}{w:Ba}{A:Bb}{l:List Fm}{F:Array Ax->Fm->Ba->Prop}(h:FsAt w w.heap.size (d+1) A l)
  (hF:∀(x:Fm) (A':Bb) (c':Nat) (X:Ba),x∈l->FsAt X X.heap.size d A' x.args->F (x.vs A' c') x X):RecAt w A l F:=fun i hi=>by
 obtain⟨b,o,e,aa,hr⟩:=h (by omega);obtain⟨A',c',h1,h2⟩:=hr i hi;exact⟨b,o,A',c',e,aa,fun W hW j v hv=>(hW.cell aa).trans (h1 j v hv),fun X hX=>hF _ A' c' X (Ld hi) ((h2.keep hX).more hX.size)⟩
theorem RecAt.none{w:Ba}{A:Bb}{l:List Fm}{F:Array Ax->Fm->Ba->Prop}(h:FsAt w w.heap.size 0 A l):RecAt w A l F:=fun i hi=>by
 rw[show l=[] from h] at hi;cases hi
theorem kS(R:Fm->Nat×Nat)(l:List Fm)(x:Fm):zX R (l++[x])=((zX R l).1+(R x).1,max (zX R l).2 (R x).2):=by unfold zX;rw[N2];rfl
theorem wl(R:Fm->Nat×Nat):∀(l:List Fm) (a:Nat×Nat),a.1<=(l.foldl (fun a x=>(a.1+(R x).1,max a.2 (R x).2)) a).1/\a.2<=(l.foldl (fun a x=>(a.1+(R x).1,max a.2 (R x).2)) a).2
 | [],a=>⟨Le _,Le _⟩
 | x::l,a=>by
  have:=wl R l (a.1+(R x).1,max a.2 (R x).2);rw[Nz];dsimp only at this;omega
theorem kR(R:Fm->Nat×Nat)(l:List Fm)(k:Nat):(zX R (l.take k)).1<=(zX R l).1/\(zX R (l.take k)).2<=(zX R l).2:=by
 have h:=wl R (l.drop k) (zX R (l.take k))
 have e:zX R l=(l.drop k).foldl (fun a x=>(a.1+(R x).1,max a.2 (R x).2)) (zX R (l.take k)):=by
  unfold zX;rw[<-N2,P8]
 rw[e];exact h
theorem gd(R:Fm->Nat×Nat)(hR:∀x,(R x).2<=(R x).1):∀(l:List Fm) (a:Nat×Nat),a.2+1<=a.1->(l.foldl (fun a x=>(a.1+(R x).1,max a.2 (R x).2)) a).2+1<=(l.foldl (fun a x=>(a.1+(R x).1,max a.2 (R x).2)) a).1
 | [],_,h=>h
 | x::l,a,h=>by
  rw[Nz];refine gd R hR l _ ?_;have:=hR x;dsimp only;omega
theorem jz:∀(d:Nat) (f:Fm),(yd d f).2<=(yd d f).1
 | 0,f=>gd _ (fun _=>Le _) f.args (1,0) (by decide)
 | d+1,f=>gd _ (jz d) f.args (1,0) (by decide)
theorem jy(R:Fm->Nat×Nat){l:List Fm}{x:Fm}(h:x∈l):(R x).1<=(zX R l).1:=by
 obtain⟨k,hk,rfl⟩:=LI h;have h1:=(kR R l (k+1)).1;rw[Lr hk,kS] at h1;dsimp only at h1;omega
theorem J4(R:Fm->Nat×Nat)(hR:∀x,1<=(R x).1):∀(l:List Fm) (a:Nat×Nat),a.1+l.length<=(l.foldl (fun a x=>(a.1+(R x).1,max a.2 (R x).2)) a).1
 | [],_=>Le _
 | x::l,a=>by
  have:=J4 R hR l (a.1+(R x).1,max a.2 (R x).2);have:=hR x;rw[Nz,LE];dsimp only at *;omega
theorem qf(R:Fm->Nat×Nat)(hR:∀x,1<=(R x).1)(l:List Fm):l.length<=(zX R l).1:=by
 have:1+l.length<=(zX R l).1:=J4 R hR l (1,0);omega
theorem qm:∀(d:Nat) (f:Fm),1<=(yd d f).1
 | 0,f=>(wl _ f.args (1,0)).1
 | _+1,f=>(wl _ f.args (1,0)).1
theorem gS(e:Int)(l:List Int):ZW (e::l)=if e≠0 then e else ZW l:=rfl
theorem QL{l:List Int}(h:∀e∈l,e=0):ZW l=0:=by
 induction l with
 | nil=>rfl
 | cons e l ih=>
  rw[gS,Lg (by simpa using h e (by simp))];exact ih fun x hx=>h x (by simp[hx])
theorem ffsE_at{l:List Int}{k:Nat}(hk:k<l.length)(h0:∀j (hj:j<l.length),j<k->l[j]=0)(h1:l[k]≠0):ZW l=l[k]:=by
 induction l generalizing k with
 | nil=>simp at hk
 | cons e l ih=>
  cases k with
  | zero=>
   simp only[List.getElem_cons_zero] at h1 ⊢;rw[gS,Li h1]
  | succ k=>
   have he:e=0:=h0 0 (by simp) (by omega);simp only[List.getElem_cons_succ] at h1 ⊢;rw[gS,Lg (by simpa using he)];refine ih (by simpa using hk) (fun j hj aa=>?_) h1;have:=h0 (j+1) (by simpa using hj) (by omega);simpa using this
end
section
open Go.RowKit Go.Shelf
attribute [local go_sem] Oper.semAt_some
def jS(op:Int):Bool:=decide (14<=op/\op<=17)
def Q4(R:Fm->Bool)(f:Fm):Bool:=jS f.h.op||f.args.any R
def uE:Nat->Fm->Bool
 | 0=>Q4 fun _=>AC
 | d+1=>Q4 (uE d)
def dualN(op:Int):Int:=if op=8 then 9 else if op=9 then 8 else if op=15 then 16 else if op=16 then 15 else 0
def rowV(op:Int):Array Ax:=#[Aj (usP op),Aj (usO op),Aj (usG op),Aj (decide (10<=op/\op<=13)),Aj (jS op),O U (dualN op)]
def RowTab(w:Ba):Prop:=0<w.heap.size/\∀op:Nat,op<18->∀j v,(rowV (op:Int))[j]?=J v->w.cell? ⟨0,op*6+j,Z⟩=J v
theorem RowTab.keep{w w':Ba}{B:Nat}(h:RowTab w)(hb:Ar B w w')(hB:1<=B):RowTab w':=⟨LF h.1 hb.size,fun op ho j v hv=>(hb.cell (p:=⟨0,op*6+j,Z⟩) (by show 0<B;omega)).trans (h.2 op ho j v hv)⟩
def RetOf(op:Int)(w:Ba)(e:Ending)(w':Ba):Prop:=∃(b0 b1 b2 b3:Bool) (d:Int),e=Am (Ak #[Aj b0,Aj b1,Aj b2,Aj b3,Aj (jS op),O U d])/\Ar w.heap.size w w'
theorem field_r4(b0 b1 b2 b3 t:Bool)(d:Int)(w:Ba):(Instr.field 115 (Ak #[Aj b0,Aj b1,Aj b2,Aj b3,Aj t,O U d]) 4).run Aq w=.ok (Aj t) w:=by kernel_rfl
theorem ofR_any(op:Int)(w:Ba)(hT:RowTab w):As Aq 53 #[O U op] w (RetOf op w):=by
 have l0:=hT.1;go_enter func53,ntmps53
 by_cases h0:op<0
 . have e0:decide (op<0)=AA:=Lm h0
   have hE:jS op=AC:=Lj (by omega);have HE:=zH hE;obtain⟨W,hW,d0,_,hb⟩:=zk w #[Aj AC,Aj AC,Aj AC,Aj AC,Aj AC,O U 0] 115;have HW:=zH hW;clear hW;go_wp2_with fail;rw[HW.out];obtain⟨z0,z1,z2,z3,z4,z5,_⟩:=Kg d0;refine LG (v:=Ak #[Aj AC,Aj AC,Aj AC,Aj AC,Aj AC,O U 0]) (by simp[results,results53,go_sem,z0,z1,z2,z3,z4,z5]) rfl ?_;exact⟨AC,AC,AC,AC,0,by rw[HE.out],hb⟩
 by_cases h1:18<=op
 . have e1:decide (op>=18)=AA:=Lm h1
   have hE:jS op=AC:=Lj (by omega);have HE:=zH hE;obtain⟨W,hW,d0,_,hb⟩:=zk w #[Aj AC,Aj AC,Aj AC,Aj AC,Aj AC,O U 0] 115;have HW:=zH hW;clear hW;go_wp2_with fail;rw[HW.out];obtain⟨z0,z1,z2,z3,z4,z5,_⟩:=Kg d0;refine LG (v:=Ak #[Aj AC,Aj AC,Aj AC,Aj AC,Aj AC,O U 0]) (by simp[results,results53,go_sem,z0,z1,z2,z3,z4,z5]) rfl ?_;exact⟨AC,AC,AC,AC,0,by rw[HE.out],hb⟩
 obtain⟨k,rfl⟩:=Lp (show 0<=op by omega);have hk:k<18:=by omega
 have c0:w.cell? ⟨0,k*6,Z⟩=J (Aj (usP (k:Int))):=hT.2 k hk 0 _ rfl;have c1:w.cell? ⟨0,k*6+1,Z⟩=J (Aj (usO (k:Int))):=hT.2 k hk 1 _ rfl;have c2:w.cell? ⟨0,k*6+2,Z⟩=J (Aj (usG (k:Int))):=hT.2 k hk 2 _ rfl;have c3:w.cell? ⟨0,k*6+3,Z⟩=J (Aj (decide (10<=(k:Int)/\(k:Int)<=13))):=hT.2 k hk 3 _ rfl;have c4:w.cell? ⟨0,k*6+4,Z⟩=J (Aj (jS (k:Int))):=hT.2 k hk 4 _ rfl;have c5:w.cell? ⟨0,k*6+5,Z⟩=J (O U (dualN (k:Int))):=hT.2 k hk 5 _ rfl;obtain⟨b0,ig⟩:=Ki (usP (k:Int));obtain⟨b1,aq⟩:=Ki (usO (k:Int));obtain⟨b2,ag⟩:=Ki (usG (k:Int));obtain⟨b3,aj⟩:∃b,decide (10<=(k:Int)/\(k:Int)<=13)=b:=⟨_,rfl⟩;obtain⟨b4,aG⟩:=Ki (jS (k:Int));obtain⟨b5,aA⟩:=Ki (dualN (k:Int));rw[ig] at c0;rw[aq] at c1;rw[ag] at c2;rw[aj] at c3;rw[aG] at c4;have HE:=zH aG;rw[aA] at c5;obtain⟨W,hW,d0,_,hb⟩:=zk w #[Aj b0,Aj b1,Aj b2,Aj b3,Aj b4,O U b5] 115;have HW:=zH hW;have dh:(0:Int)<=(k:Int):=by omega
 have aW:(k:Int)<18:=by omega
 clear hW ig aq ag aj aG aA hT;go_wp2_with fail;rw[HW.out];obtain⟨z0,z1,z2,z3,z4,z5,_⟩:=Kg d0;refine LG (v:=Ak #[Aj b0,Aj b1,Aj b2,Aj b3,Aj b4,O U b5]) (by simp[results,results53,go_sem,z0,z1,z2,z3,z4,z5]) rfl ?_;exact⟨b0,b1,b2,b3,b5,by rw[HE.out],hb⟩
theorem tem_any{R:Fm->Bool}{l:List Fm}{k:Nat}(hk:k<l.length)(h:R l[k]=AA):l.any R=AA:=NK.2 ⟨_,Ld hk,h⟩
theorem JY{R:Fm->Bool}{l:List Fm}(h:∀j (hj:j<l.length),R l[j]=AC):l.any R=AC:=by
 rw[List.any_eq_false];intro x hx;obtain⟨j,hj,rfl⟩:=LI hx;rw[h j hj];decide
theorem tidx_step(l:List Fm)(R:Fm->Bool)(A:Bb)(c:Nat)(hl:l.length<=1000000)(w:Ba)
  (bU:RecAt w A l fun cs x X=>As Aq 26 #[.agg cs] X fun e w'=>e=Am (Aj (R x))/\Ar X.heap.size X w') :
  As Aq 95 #[I A l.length c,.func (.func 26) #[] #[]] w fun e w'=>∃i:Int,e=Am (O U i)/\decide (0<=i)=l.any R/\Ar w.heap.size w w':=by
 have aB:=zH bU;obtain⟨n,hn⟩:=Ki l.length;have HN:=zH hn;rw[hn] at hl ⊢;go_enter func95,ntmps95;go_wp2_with fail
 go_loopw [8] (fun i wr=>∃k:Nat,k<=n/\i=O U (k:Int)/\Aw (∀j (hj:j<l.length),j<k->R l[j]=AC)/\Aw (Ar w.heap.size w wr)) (fun i _=>n-(Au i).toNat)
 case atStart=>exact⟨0,by omega,rfl,fun j _ h=>absurd h (by omega),Ll _ _⟩
 obtain⟨k,hk,rfl,hz,ay⟩:=hrel
 by_cases aa:k<n
 . have bY:k<l.length:=by have:=HN.out;omega
   obtain⟨bb,o,A',c',eA,aY,ah,ak⟩:=aB.out k bY;subst eA;have Hv:R l[k]=AA->Aw (l.any R=AA):=fun h=>tem_any bY h
   have eM:R l[k]=AC->Aw (∀j (hj:j<l.length),j<k+1->R l[j]=AC):=fun h j hj CO=>by
    by_cases e:j=k
    . subst e;exact h
    . exact hz.out j hj (by omega)
   obtain⟨x,hx⟩:=Ki (l[k]);rw[hx] at ah ak Hv eM;obtain⟨r,hr⟩:=Ki (R x);dsimp only at ak;rw[hr] at ak Hv eM;have HY:=zH Hv;have Z':=zH eM;obtain⟨xh,xl⟩:=x;obtain⟨h0,h1,h2,h3,h4⟩:=xh;have hc:∀j v,#[O U h0,O U h1,O U h2,O U h3,O U h4,I A' xl.length c'][j]?=J v->wr.cell? ⟨bb,o+k*6+j,Z⟩=J v:=ah wr ay.out;have z0:wr.cell? ⟨bb,o+k*6,Z⟩=J (O U h0):=hc 0 _ rfl;have z1:wr.cell? ⟨bb,o+k*6+1,Z⟩=J (O U h1):=hc 1 _ rfl;have z2:wr.cell? ⟨bb,o+k*6+2,Z⟩=J (O U h2):=hc 2 _ rfl;have z3:wr.cell? ⟨bb,o+k*6+3,Z⟩=J (O U h3):=hc 3 _ rfl;have z4:wr.cell? ⟨bb,o+k*6+4,Z⟩=J (O U h4):=hc 4 _ rfl;have z5:wr.cell? ⟨bb,o+k*6+5,Z⟩=J (I A' xl.length c'):=hc 5 _ rfl;have dh:(0:Int)<=(k:Int):=by omega
   have aW:(k:Int)<(n:Int):=by omega
   have HC:=zH (ak wr ay.out);have sV:=zH ay.out;simp only[Fm.vs,Fm.args,Fm.h] at HC;go_wp2_with fail;refine HC.out.mono ?_;rintro e w3 ⟨rfl,aj⟩;have aJ:=zH (Lc sV.out aj);have mO:IntKind.i64.wrap ((k:Int)+1)=((k+1:Nat):Int):=by rw[Ls];omega
   cases r with
   | true=>
    have hA:=HY.out rfl;go_wp2_with fail;go_ret;exact⟨(k:Int),rfl,by rw[hA.out];exact Lm dh,aJ.out⟩
   | false=>
    have hZ:=Z'.out rfl;go_wp2_with fail
    go_roundw
    case rel=>exact⟨k+1,by omega,by go_num,hZ,aJ⟩
    case measure=>simp[Au];omega
 obtain rfl:k=n:=by omega
 have hA:Aw (l.any R=AC):=JY fun j hj=>hz.out j hj (by have:=HN.out;omega)
 go_wp2_with fail;go_ret;exact⟨-1,rfl,by rw[hA.out];decide,ay.out⟩
theorem tcont_step(l:List Fm)(R:Fm->Bool)(A:Bb)(c:Nat)(hl:l.length<=1000000)(w:Ba)
  (bU:RecAt w A l fun cs x X=>As Aq 26 #[.agg cs] X fun e w'=>e=Am (Aj (R x))/\Ar X.heap.size X w') :
  As Aq 54 #[I A l.length c,.func (.func 26) #[] #[]] w fun e w'=>e=Am (Aj (l.any R))/\Ar w.heap.size w w':=by
 have HC:=zH (tidx_step l R A c hl w bU);obtain⟨r,hr⟩:=Ki (l.any R);rw[hr] at HC ⊢;go_enter func54,ntmps54;go_wp2_with fail;refine HC.out.mono ?_;rintro e w3 ⟨i,rfl,hi,aj⟩;have HI:=zH hi;have HB:=zH aj;go_wp2_with fail;go_ret;rw[<-HI.out];exact⟨rfl,HB.out⟩
theorem X6(f:Fm)(R:Fm->Bool)(A:Bb)(c:Nat)(hl:f.args.length<=1000000)(w:Ba)(hT:RowTab w)
  (bU:RecAt w A f.args fun cs x X=>As Aq 26 #[.agg cs] X fun e w'=>e=Am (Aj (R x))/\Ar X.heap.size X w') :
  As Aq 26 #[.agg (f.vs A c)] w fun e w'=>e=Am (Aj (Q4 R f))/\Ar w.heap.size w w':=by
 obtain⟨w1,ab,d0,aK,hB⟩:=zk w (f.vs A c) 41;have HO:=zH (ofR_any f.h.op w1 (hT.keep hB hT.1))
 have HC:=zH (fun (X:Ba) (hX:Ar w.heap.size w X)=>tcont_step f.args R A c hl X (fun i hi=>by
  obtain⟨b,o,A',c',e,hb,h1,h2⟩:=bU i hi
  exact⟨b,o,A',c',e,LF hb hX.size,fun W hW=>h1 W (Lc hX hW),fun Y hY=>h2 Y (Lc hX hY)⟩))
 obtain⟨E,hE⟩:=Ki (Q4 R f);have HE:Aw (E=(jS f.h.op||f.args.any R)):=hE.symm;rw[hE];obtain⟨t,ht⟩:=Ki (jS f.h.op);unfold RetOf at HO;rw[ht] at HO HE;obtain⟨y,hy⟩:=Ki (f.args.any R);rw[hy] at HC HE;unfold Fm.vs at ab d0 ⊢;have ai:=zH ab;have HB:=zH hB;have bK:=zH d0;clear ab d0 hB bU hE hT ht hy;go_enter func26,ntmps26;go_wp2_with fail;rw[ai.out];go_wp2_with fail;refine HO.out.mono ?_;rintro e w2 ⟨b0,b1,b2,b3,d,rfl,ag⟩;have aw:=zH (Lc HB.out ag);have d2:=La ag bK.out;have p5:=zh d2 5 rfl;have sD:=field_r4 b0 b1 b2 b3 t d w2
 cases t with
 | true=>
  have aH:Aw (E=AA):=by rw[Aw,HE.out];rfl
  go_wp2_with fail;go_ret;rw[aH.out];exact⟨rfl,aw.out⟩
 | false=>
  have aH:Aw (E=y):=by rw[Aw,HE.out];rfl
  have sg:=zH (HC.out w2 aw.out);go_wp2_with fail;refine sg.out.mono ?_;rintro e w3 ⟨rfl,aj⟩;have aJ:=zH (Lc aw.out aj);go_wp2_with fail;go_ret;rw[aH.out];exact⟨rfl,aJ.out⟩
theorem X7:∀(d:Nat) (f:Fm) (A:Bb) (c:Nat) (w:Ba),RowTab w->FsAt w w.heap.size d A f.args->(yd d f).1<=1000000 ->
  As Aq 26 #[.agg (f.vs A c)] w fun e w'=>e=Am (Aj (uE d f))/\Ar w.heap.size w w'
 | 0,f,A,c,w,hT,hA,hb=>by
  have h0:f.args=[]:=hA;exact X6 f (fun _=>AC) A c (by rw[h0];decide) w hT (RecAt.none hA)
 | d+1,f,A,c,w,hT,hA,hb=>by
  have h1:(zX (yd d) f.args).1<=1000000:=hb;have h3:=qf (yd d) (qm d) f.args;refine X6 f (uE d) A c (by omega) w hT fun i hi=>?_
  obtain⟨b,o,e,aa,hr⟩:=hA (by omega);obtain⟨A',c',h4,h5⟩:=hr i hi;exact⟨b,o,A',c',e,aa,fun W hW j v hv=>(hW.cell aa).trans (h4 j v hv),fun X hX=>X7 d _ A' c' X (hT.keep hX hT.1) ((h5.keep hX).more hX.size) (Lz (jy (yd d) (Ld hi)) h1)⟩
end
section
open Go.ChangeShapes Go.WideShapes Go.ChangeAt Go.RowKit Go.Deep
section
variable {H:Type} {enc:TypeId×Ax->H} {W:Ba} {base:Nat} {spare:Nat->Bool} {ap:Bool}
theorem Xr:Aq.cellsOf 4=1:=by kernel_rfl
theorem cellsFr:Aq.cellsOf 115=6:=by kernel_rfl
/-- A row of the table. -/
theorem rd_frow{m:Nat}{cs:List Ax}{y:DataW H×List MemPlace}(h:DataW.trod enc Aq W base spare ap m 115 cs=J y) :
  ∃(b0 b1 b2 b3 b4:Bool) (d:Int),cs=[Aj b0,Aj b1,Aj b2,Aj b3,Aj b4,O U d]/\y.1=.agg [.lit (.bool b0),.lit (.bool b1),.lit (.bool b2),.lit (.bool b3),.lit (.bool b4),.lit (.int U d)]:=by
 obtain⟨xs,n,rfl,rfl,hl,ed,hf⟩:=Ni underlying115 h;rw[cellsFr] at hl;have iO:xs.length=6:=ed
 match cs,hl with
 | [c0,c1,c2,c3,c4,c5],_=>
  have f0:=hf 0 _ rfl;have f1:=hf 1 _ rfl;have f2:=hf 2 _ rfl;have f3:=hf 3 _ rfl;have f4:=hf 4 _ rfl;have f5:=hf 5 _ rfl
  match xs,iO with
  | [x0,x1,x2,x3,x4,x5],_=>
   have g0:DataW.trod enc Aq W base spare ap n 4 [c0]=J x0:=by simpa[Xr] using f0
   have g1:DataW.trod enc Aq W base spare ap n 4 [c1]=J x1:=by simpa[Xr] using f1
   have g2:DataW.trod enc Aq W base spare ap n 4 [c2]=J x2:=by simpa[Xr] using f2
   have g3:DataW.trod enc Aq W base spare ap n 4 [c3]=J x3:=by simpa[Xr] using f3
   have g4:DataW.trod enc Aq W base spare ap n 4 [c4]=J x4:=by simpa[Xr] using f4
   have g5:DataW.trod enc Aq W base spare ap n 3 [c5]=J x5:=by simpa[yG] using f5
   obtain⟨b0,e0,rfl⟩:=Rj PI g0;obtain⟨b1,e1,rfl⟩:=Rj PI g1;obtain⟨b2,e2,rfl⟩:=Rj PI g2;obtain⟨b3,e3,rfl⟩:=Rj PI g3;obtain⟨b4,e4,rfl⟩:=Rj PI g4;obtain⟨d,e5,rfl,_⟩:=LP Lx g5
   cases e0;cases e1;cases e2;cases e3;cases e4;cases e5
   exact⟨b0,b1,b2,b3,b4,d,rfl,rfl⟩
end
def rowL(op:Nat):List Lit:=[.bool (usP op),.bool (usO op),.bool (usG op),.bool (decide (10<=(op:Int)/\(op:Int)<=13)),.bool (jS op),.int .i64 (dualN op)]
theorem gRow : Aq.globalNamed "roundtable/formula.rows" = J 0 := by kernel_rfl
theorem tRow:(Aq.globals[0]?).map (·.type)=J 160:=by kernel_rfl
def laidK : List (String × DataW Unit) := [("roundtable/formula.rows", Rows.laid_roundtable_formula_rows)]
theorem row_laid{W:Ba}(h:laidMetH Aq laidK W):RowTab W:=by
 rw[SH _ _ _ (by kernel_rfl)] at h;obtain⟨ps,⟨g0,t0,cs0,f0,p0,q0,mg,Du,OH,oU,_⟩,_⟩:=h;obtain rfl:=NR (gRow.symm.trans mg);obtain rfl:=NR (tRow.symm.trans Du);have hd:DataW.trod _ Aq W 0 _ AC f0 160 cs0.toList=J (.agg ((List.range 18).map fun op=>.agg ((rowL op).map .lit)),p0):=oU;obtain⟨xs,m,_,hx,_,hn,nT⟩:=Sv underlying160 hd;simp only[Prod.mk.injEq,DataW.agg.injEq] at hx
 have key:∀op:Nat,op<18->∀j v,(rowV (op:Int))[j]?=J v->W.cell? ⟨0,op*6+j,Z⟩=J v:=by
  intro op ho j v hv;have h1:=nT op ho;rw[cellsFr,Ln (show op<xs.length by omega)] at h1;obtain⟨b0,b1,b2,b3,b4,d,e1,e2⟩:=rd_frow h1;have h3:((List.range 18).map fun op=>(DataW.agg ((rowL op).map .lit):DataW _))[op]'(by simpa using ho)=(xs.map (·.1))[op]'(by simp;omega):=by simp only[hx.1]
  simp only[List.getElem_map,List.getElem_range] at h3;rw[e2] at h3;simp only[rowL,List.map_cons,List.map_nil,DataW.agg.injEq,List.cons.injEq,DataW.lit.injEq,Lit.bool.injEq,Lit.int.injEq,and_true,true_and] at h3;obtain⟨rfl,rfl,rfl,rfl,rfl,rfl⟩:=h3
  have hj:j<6:=by
   rcases Sm j 6 with h | h
   . exact h
   rw[P7 (by simpa[rowV] using h)] at hv;cases hv
  have h4:(List.take 6 (List.drop (op*6) cs0.toList))[j]?=J v:=by
   rw[e1,<-hv];simp[rowV]
  rw[NU,Li hj,Rp] at h4;rw[World.var?_cell mg OH (op*6+j)];simpa using h4
 refine⟨?_,key⟩;have:=key 0 (by decide) 0 _ rfl;exact PS W _ this
end
section
open Go.ChangeShapes Go.WideShapes Go.ChangeAt Go.RowKit Go.Deep
theorem FsAt.deep:∀ {d:Nat} {w:Ba} {B:Nat} {A:Bb} {l:List Fm},FsAt w B d A l->FsAt w B (d+1) A l
 | 0,_,_,_,l,h=>fun h0=>by
  have e:l=[]:=h;rw[e] at h0;cases h0
 | d+1,w,B,A,l,h=>fun h0=>by
  obtain⟨b,o,e,aa,hr⟩:=h h0;refine⟨b,o,e,aa,fun i hi=>?_⟩;obtain⟨A',c',h1,h2⟩:=hr i hi;exact⟨A',c',h1,FsAt.deep h2⟩
theorem FsAt.deeper{d d':Nat}{w:Ba}{B:Nat}{A:Bb}{l:List Fm}(h:FsAt w B d A l)(hd:d<=d'):FsAt w B d' A l:=by
 induction d' with
 | zero=>have:d=0:=(by omega);subst this;exact h
 | succ k ih=>
  by_cases e:d=k+1
  . subst e;exact h
  . exact(ih (by omega)).deep
section
variable {H:Type} {enc:TypeId×Ax->H} {P:Program} {W:Ba} {base:Nat} {spare:Nat->Bool} {ap:Bool}
theorem open_rowsS{α:Type}[Inhabited α]{t e:TypeId}{fuel:Nat}{cs:List Ax}{x:DataW H×List MemPlace}{s:Nat}(L:List Ax->α->Prop)(ht:P.underlying t=J (.slice e))(hs:P.cellsOf e=s)(h1:0<s)
  (rd:∀(m:Nat) (cs:List Ax) (y:DataW H×List MemPlace),DataW.trod enc P W base spare ap m e cs=J y->xI P e y.1->SizeOf.sizeOf y.1<SizeOf.sizeOf x.1->∃a,L cs a)
  (h:DataW.trod enc P W base spare ap fuel t cs=J x) (hw:xI P t x.1) :
  ∃(A:Bb) (i5:List α) (cap:Nat),cs=[I A i5.length cap]/\i5.length*P.bytesOf e<=reachBytes /\
   (0<i5.length->∃b off,A=J ⟨b,off,Z⟩/\b<W.heap.size/\∀(i:Nat) (hi:i<i5.length),∃cs,L cs i5[i]/\∀(k:Nat) (y:Ax),cs[k]?=J y->W.cell? ⟨b,off+i*s+k,Z⟩=J y):=by
 rcases open_slice ht h with ⟨rfl,_⟩ | ⟨a,len,cap,m,n',D,Pl,rfl,_,hlc,mV,hm,my,hi⟩
 . exact⟨Z,[],0,rfl,by simp,fun h=>absurd h (by simp)⟩
 have Ip:len<=m:=by rw[hm];split<;>omega
 rw[my] at hw rd;obtain⟨hb,aO⟩:=Xf ht hw
 have nT:∀i,i<len->∃(a':α) (cs:List Ax),cs.length=s/\L cs a'/\∀(k:Nat) (y:Ax),cs[k]?=J y->W.cell? (a.add (i*s+k))=J y:=fun i aa=>by
  obtain⟨rm,hc,ht'⟩:=hi i (by omega);rw[hs] at hc;obtain⟨_,aP,bL⟩:=World.cells?_some hc;have dx:D i∈(List.range len).map D:=LZ.2 ⟨i,Py.2 aa,rfl⟩;have aX:=List.sizeOf_lt_of_mem dx;obtain⟨u,hu⟩:=rd _ _ _ ht' (aO _ dx) (by simp only[DataW.slice.sizeOf_spec];omega);refine⟨u,rm,aP,hu,fun k y hk=>?_⟩;have fm:k<s:=by rw[<-aP];exact(Lv.1 hk).1
  rw[<-Go.Deep.add_add,bL k fm,hk]
 obtain⟨i5,sK,has⟩:∃i5:List α,i5.length=len/\∀i (hi:i<i5.length),∃cs:List Ax,cs.length=s/\L cs i5[i]/\∀(k:Nat) (y:Ax),cs[k]?=J y->W.cell? (a.add (i*s+k))=J y:=by
  refine⟨(List.range len).map fun i=>if h:i<len then Classical.choose (nT i h) else default,by simp,fun i hi=>?_⟩;have fR:i<len:=by simpa using hi
  simp only[List.getElem_map,List.getElem_range,fR,dite_true];exact Classical.choose_spec (nT i fR)
 subst sK;have di:i5.length*P.bytesOf e<=reachBytes:=by simpa using hb
 refine⟨J a,i5,cap,rfl,di,fun h0=>?_⟩;obtain⟨c0,rL,_,pB⟩:=has 0 h0;have Fa:=pB 0 _ (Ln (by omega));obtain⟨b,off,Hq⟩:=a;have tN:Hq=Z:=by simpa[Addr.add] using World.cell?_spot Fa
 subst tN;refine⟨b,off,rfl,?_,fun i hi=>?_⟩
 . have:=PS W _ Fa
   simpa[Addr.add] using this
 obtain⟨c1,_,hL,hc1⟩:=has i hi;refine⟨c1,hL,fun k y hk=>?_⟩;have:=hc1 k y hk;rw[add_plain] at this;rw[<-PF] at this;exact this
end
section
variable {H:Type} {enc:TypeId×Ax->H} {W:Ba} {base:Nat} {spare:Nat->Bool} {ap:Bool}
theorem cellsFm:Aq.cellsOf 41=6:=by kernel_rfl
theorem jM:Aq.cellsOf 39=1:=by kernel_rfl
theorem bytesFm:Aq.bytesOf 41=64:=by kernel_rfl
theorem cellsRu:Aq.cellsOf 38=1:=by kernel_rfl
theorem YE:∀(k m:Nat) (cs:List Ax) (y:DataW H×List MemPlace),SizeOf.sizeOf y.1<k->DataW.trod enc Aq W base spare ap m 41 cs=J y->xI Aq 41 y.1 ->
  ∃(f:Fm) (d:Nat) (A:Bb) (c:Nat),cs=(f.vs A c).toList/\f.args.length<=17592186044416/\FsAt W W.heap.size d A f.args
 | 0,_,_,_,hk,_,_=>absurd hk (by omega)
 | k+1,m,cs,y,hk,h,hw=>by
  obtain⟨xs,n,rfl,hx,hl,ed,sD⟩:=Ni Sg h;have hd:y.1=.agg (xs.map (·.1)):=congrArg Prod.fst hx;rw[hd] at hw hk;rw[cellsFm] at hl;have hxl6:xs.length=6:=ed
  match cs,hl with
  | [c0,c1,c2,c3,c4,c5],_=>
   have f0:=sD 0 _ rfl;have f1:=sD 1 _ rfl;have f2:=sD 2 _ rfl;have f3:=sD 3 _ rfl;have f4:=sD 4 _ rfl;have f5:=sD 5 _ rfl
   obtain⟨x0,x1,x2,x3,x4,x5,rfl⟩:∃x0 x1 x2 x3 x4 x5,xs=[x0,x1,x2,x3,x4,x5]:=by
    match xs,hxl6 with
    | [x0,x1,x2,x3,x4,x5],_=>exact⟨x0,x1,x2,x3,x4,x5,rfl⟩
   have g0:DataW.trod enc Aq W base spare ap n 3 [c0]=J x0:=by simpa[yG,jM] using f0
   have g1:DataW.trod enc Aq W base spare ap n 3 [c1]=J x1:=by simpa[yG,jM] using f1
   have g2:DataW.trod enc Aq W base spare ap n 3 [c2]=J x2:=by simpa[yG,jM] using f2
   have g3:DataW.trod enc Aq W base spare ap n 3 [c3]=J x3:=by simpa[yG,jM] using f3
   have g4:DataW.trod enc Aq W base spare ap n 3 [c4]=J x4:=by simpa[yG,jM] using f4
   have g5:DataW.trod enc Aq W base spare ap n 39 [c5]=J x5:=by simpa[yG,jM] using f5
   have w5:xI Aq 39 x5.1:=yQ Sg hw (j:=5) rfl rfl;obtain⟨i0,e0,_⟩:=LP Lx g0;obtain⟨i1,e1,_⟩:=LP Lx g1;obtain⟨i2,e2,_⟩:=LP Lx g2;obtain⟨i3,e3,_⟩:=LP Lx g3;obtain⟨i4,e4,_⟩:=LP Lx g4
   have lL:SizeOf.sizeOf x5.1<k:=by
    have oD:x5.1∈List.map (fun z:DataW H×List MemPlace=>z.1) [x0,x1,x2,x3,x4,x5]:=by simp
    have:=List.sizeOf_lt_of_mem oD;simp only[DataW.agg.sizeOf_spec] at hk;omega
   obtain⟨A,l,c,e5,hby,hA⟩:=open_rowsS (α:=Fm) (fun cs f=>∃(d:Nat) (A:Bb) (c:Nat),cs=(f.vs A c).toList/\FsAt W W.heap.size d A f.args) underlying39 cellsFm (by decide)
    (fun m cs y h hw aX=>by obtain⟨f,d,A,c,e,_,h2⟩:=YE k m cs y (by omega) h hw;exact⟨f,d,A,c,e,h2⟩) g5 w5
   cases e0;cases e1;cases e2;cases e3;cases e4;cases e5
   have aS:l.length<=17592186044416:=by rw[bytesFm] at hby;unfold reachBytes at hby;omega
   by_cases h0:0<l.length
   case neg=>
    have pZ:l=[]:=LA (by omega);refine⟨.mk ⟨i0,i1,i2,i3,i4⟩ l,0,A,c,rfl,aS,?_⟩;show l=[];exact pZ
   obtain⟨b,off,eA,hb,hc⟩:=hA h0
   have key:∀q,q<=l.length->∃D,∀i (hi:i<l.length),i<q->∃A' c',(∀j v,(l[i].vs A' c')[j]?=J v->W.cell? ⟨b,off+i*6+j,Z⟩=J v)/\FsAt W W.heap.size D A' l[i].args:=by
    intro q
    induction q with
    | zero=>exact fun _=>⟨0,fun i _ h=>absurd h (by omega)⟩
    | succ q ih=>
     intro hq;obtain⟨D,hD⟩:=ih (by omega);obtain⟨cs1,⟨d1,A1,k1,rfl,h1⟩,h2⟩:=hc q (by omega);refine⟨max D d1,fun i hi hiq=>?_⟩
     by_cases e:i=q
     . subst e
       exact⟨A1,k1,fun j v hv=>h2 j v (by rw[Array.getElem?_toList];exact hv),h1.deeper (Nat.le_max_right _ _)⟩
     . obtain⟨A',c',a1,a2⟩:=hD i hi (by omega)
       exact⟨A',c',a1,a2.deeper (Nat.le_max_left _ _)⟩
   obtain⟨D,hD⟩:=key l.length (Le _);refine⟨.mk ⟨i0,i1,i2,i3,i4⟩ l,D+1,A,c,rfl,aS,fun _=>⟨b,off,eA,hb,fun i hi=>?_⟩⟩;obtain⟨A',c',a1,a2⟩:=hD i hi hi;exact⟨A',c',a1,a2⟩
theorem ZS{b0:Nat}{v:Ax}{d:DataW H}{ps:List MemPlace}(hv:Value.okWide Aq W .any b0 41 v)(h:DataW.Trod enc Aq W base spare ap 41 v d ps)(hw:xI Aq 41 d) :
  ∃(f:Fm) (dd:Nat) (A:Bb) (c:Nat),v=.agg (f.vs A c)/\f.args.length<=17592186044416/\FsAt W W.heap.size dd A f.args:=by
 obtain⟨cs,rfl,_⟩:=okWide_struct Sg hv;obtain⟨fuel,hf⟩:=h;obtain⟨f,dd,A,c,e,hl,hA⟩:=YE _ _ _ _ (Nat.lt_succ_self _) hf hw;refine⟨f,dd,A,c,?_,hl,hA⟩;have e2:cs.toList=(f.vs A c).toList:=e;rw[Array.toList_inj.1 e2]
theorem Jl{b0:Nat}{v:Ax}{d:DataW H}{ps:List MemPlace}(hv:Value.okWide Aq W .any b0 38 v)(h:DataW.Trod enc Aq W base spare ap 38 v d ps)(hw:xI Aq 38 d) :
  ∃(AR:Bb) (out:List Int) (kr:Nat),v=Ak #[I AR out.length kr]/\out.length<=17592186044416/\IAt W W.heap.size AR out:=by
 obtain⟨cs,rfl,_⟩:=okWide_struct Sh hv;obtain⟨fuel,hf⟩:=h;obtain⟨xs,n,rfl,hx,hl,ed,sD⟩:=Ni Sh hf;have hd:d=.agg (xs.map (·.1)):=congrArg Prod.fst hx;rw[hd] at hw;rw[cellsRu] at hl;have hxl1:xs.length=1:=ed;obtain⟨cl⟩:=cs
 match cl,hl with
 | [c0],_=>
  have f0:=sD 0 _ rfl
  obtain⟨x0,rfl⟩:∃x0,xs=[x0]:=by
   match xs,hxl1 with
   | [x0],_=>exact⟨x0,rfl⟩
  have g0:DataW.trod enc Aq W base spare ap n 36 [c0]=J x0:=by simpa[JM,Value.cells] using f0
  have w0:xI Aq 36 x0.1:=yQ Sh hw (j:=0) rfl rfl;obtain⟨AR,out,kr,e0,hb,hA⟩:=Je g0 w0
  cases e0
  exact⟨AR,out,kr,rfl,hb,hA⟩
end
end
section
section
variable {α:Type} [DecidableEq α]
def qi(mn:List α)(k:α):List α:=if k∈mn then mn else mn++[k]
def yC(l:List α):List α:=l.foldl qi []
theorem qt(l:List α)(k:α):yC (l++[k])=qi (yC l) k:=by simp[yC,List.foldl_append]
theorem mem_uniqF{mn:List α}{k x:α}:x∈qi mn k↔x∈mn\/x=k:=by
 unfold qi
 split
 . rename_i h
   exact⟨.inl,fun h'=>h'.elim id (fun e=>e▸h)⟩
 simp
theorem Qu{x:α}:∀ {l mn:List α},x∈l.foldl qi mn↔x∈mn\/x∈l
 | [],mn=>by simp
 | k::l,mn=>by rw[Nz,Qu,mem_uniqF,LL,or_assoc]
theorem yp{l:List α}{x:α}:x∈yC l↔x∈l:=by unfold yC;rw[Qu];simp
theorem QK:∀(l mn:List α),(l.foldl qi mn).length<=mn.length+l.length
 | [],mn=>by simp
 | k::l,mn=>by
  have h1:(qi mn k).length<=mn.length+1:=by unfold qi;split<;>simp
  have h2:=QK l (qi mn k);rw[Nz,LE];omega
theorem X3(l:List α):(yC l).length<=l.length:=by have:=QK l [];simpa[yC] using this
def yE(l:List α):List Int:=l.map fun k=>((yC l).idxOf k:Int)
theorem yv(l:List α):(yE l).length=l.length:=by simp[yE]
theorem jY(l:List α)(i:Nat)(h:i<l.length):(yE l)[i]'(by rw[yv];exact h)=((yC l).idxOf l[i]:Int):=by simp[yE]
theorem qZ(l:List α)(k:α):yE (l++[k])=yE l++[if k∈l then ((yC l).idxOf k:Int) else ((yC l).length:Int)]:=by
 unfold yE;rw[LM,qt]
 congr 1
 . refine N3 fun x hx=>?_
   unfold qi
   split
   . rfl
   rw[NO,Li (yp.2 hx)]
 simp only[List.map_cons,List.map_nil,List.cons.injEq,and_true];unfold qi
 by_cases h:k∈l
 . rw[Li (yp.2 h),Li h]
 rw[Lg (fun e=>h (yp.1 e)),Lg h,NO,Lg (fun e=>h (yp.1 e))];simp
theorem idxOf_inj{l:List α}{a b:α}(ha:a∈l)(hb:b∈l)(h:l.idxOf a=l.idxOf b):a=b:=by
 have h1:=Sc (Pm ha);have h2:=Sc (Pm hb);rw[<-h1,<-h2]
 congr 1
theorem Qw(l:List α){i j:Nat}(hi:i<l.length)(hj:j<l.length):(yE l)[i]'(by rw[yv];exact hi)=(yE l)[j]'(by rw[yv];exact hj)↔l[i]=l[j]:=by
 rw[jY l i hi,jY l j hj];constructor
 . intro h
   exact idxOf_inj (yp.2 (Ld hi)) (yp.2 (Ld hj)) (by omega)
 intro h;rw[h]
end
theorem lab_kernel{α β:Type}[DecidableEq α][DecidableEq β]{l:List α}{m:List β}(hl:l.length=m.length)
  (h:∀i j (h1:i<l.length) (h2:j<l.length),l[i]=l[j]↔m[i]'(hl▸h1)=m[j]'(hl▸h2)):yE l=yE m:=by
 have key:∀n,n<=l.length->yE (l.take n)=yE (m.take n)/\(yC (l.take n)).length=(yC (m.take n)).length:=by
  intro n
  induction n with
  | zero=>intro _;exact⟨rfl,rfl⟩
  | succ n ih=>
   intro hn;obtain⟨h1,h2⟩:=ih (by omega);have eN:n<l.length:=by omega
   have hnm:n<m.length:=by omega
   rw[Lr eN,Lr hnm,qZ,qZ,qt,qt,h1]
   have hm:l[n]∈l.take n↔m[n]∈m.take n:=by
    constructor
    . intro hx
      obtain⟨j,hj,e⟩:=LI hx;have hj':j<n:=by simp at hj;omega
      rw[Ph] at e;have:=(h j n (by omega) eN).1 e;rw[<-this];exact N4.2 ⟨j,by omega,rfl⟩
    . intro hx
      obtain⟨j,hj,e⟩:=LI hx;have hj':j<n:=by simp at hj;omega
      rw[Ph] at e;have:=(h j n (by omega) eN).2 e;rw[<-this];exact N4.2 ⟨j,by omega,rfl⟩
   unfold qi
   by_cases hx:l[n]∈l.take n
   . have hy:=hm.1 hx
     rw[Li hx,Li hy,Li (yp.2 hx),Li (yp.2 hy)];refine⟨?_,h2⟩
     congr 2
     obtain⟨j,hj,e⟩:=LI hx;have hj':j<n:=by simp at hj;omega
     rw[Ph] at e;have e2:=(h j n (by omega) eN).1 e;have g1:=jY (l.take n) j hj;have g2:=jY (m.take n) j (by simp;omega);rw[Ph,e] at g1;rw[Ph,e2] at g2;rw[<-g1,<-g2]
     congr 1
   . have hy:¬m[n]∈m.take n:=fun e=>hx (hm.2 e)
     rw[Lg hx,Lg hy,Lg (fun e=>hx (yp.1 e)),Lg (fun e=>hy (yp.1 e))];refine⟨?_,by simp[h2]⟩;rw[h2]
 have:=(key l.length (Le _)).1;rwa[LC,hl,LC] at this
theorem least_of{p:Nat->Prop}:∀n,p n->∃m,m<=n/\p m/\∀k,k<m->¬p k:=by
 intro n
 induction n using Nat.strongRecOn with
 | _ n ih=>
  intro hn
  by_cases h:∃k,k<n/\p k
  . obtain⟨k,hk,hp⟩:=h
    obtain⟨m,h1,h2,h3⟩:=ih k hk hp;exact⟨m,by omega,h2,h3⟩
  . exact⟨n,Le _,hn,fun k hk hp=>h ⟨k,hk,hp⟩⟩
end
section
theorem xL{l:List Int}{i:Nat}(h:i<l.length)(d:Int):l.getD i d=l[i]:=by rw[Lk,Ln h];rfl
def yZ(bs:List Bool)(k:Nat):List Bool:=bs.take k++List.replicate (bs.length-k) AC
theorem jJ(bs:List Bool):yZ bs 0=List.replicate bs.length AC:=by simp[yZ]
theorem vE(bs:List Bool):yZ bs bs.length=bs:=by simp[yZ]
theorem vD(bs:List Bool){k:Nat}(hk:k<=bs.length):(yZ bs k).length=bs.length:=by simp[yZ];omega
theorem vC(bs:List Bool){k:Nat}(hk:k<bs.length):(yZ bs k).set k bs[k]=yZ bs (k+1):=by
 unfold yZ;rw[Lr hk,List.set_append_right _ _ (by simp;omega)];rw[show bs.length-k=(bs.length-(k+1))+1 by omega,List.replicate_succ];rw[show k-(bs.take k).length=0 by simp;omega,List.set_cons_zero,Nn]
 rfl
end
section
open Go.RowKit Go.Shelf
attribute [local go_sem] Oper.semAt_some
theorem Jg(n:Nat)(hn:0<n):∀m i,zu n i m=(List.range (m*n)).map fun t=>(i+t / n,t % n)
 | 0,i=>by simp[zu]
 | m+1,i=>by
  rw[zu,Jg n hn m (i+1),Nat.succ_mul,Nat.add_comm (m*n) n,List.range_add,LM,P4]
  congr 1
  . refine N3 fun t ht=>?_
    have:=Py.1 ht;rw[Nat.div_eq_of_lt this,Nat.mod_eq_of_lt this,NS]
  . refine N3 fun t _=>?_
    simp only[Function.comp];rw[Nat.add_div_left _ hn,Nat.add_mod_left]
    congr 1
    omega
theorem kM(n m:Nat)(hn:0<n):(zu n 0 m).length=m*n:=by rw[Jg n hn];simp
theorem prs_at(n m:Nat)(hn:0<n)(i:Nat)(h:i<(zu n 0 m).length):(zu n 0 m)[i]=(i / n,i % n):=by
 have:=Jg n hn m 0;simp only[this,List.getElem_map,List.getElem_range];simp
theorem JO(s:Sy)(A SV AV AX:Bb)(kc ks kv kx:Nat)(w:Ba):As Aq 109 #[.agg (s.vs_ A kc SV ks AV kv AX kx)] w fun e w'=>
  e=Am (.func (.func 148) #[] #[Al (J ⟨w.heap.size,0,Z⟩)])/\w.alloc (Ai (s.vs_ A kc SV ks AV kv AX kx) 35)=w':=by
 unfold Sy.vs_;go_enter func109,ntmps109;go_wp2;go_ret;exact⟨rfl,rfl⟩
structure PtC(C:Array Ax)(K M:Nat)(AX:Bb)(kx:Nat):Prop where
 c6:C[6]?=J (O U (K:Int))
 c9:C[9]?=J (I AX M kx)
theorem hU(C:Array Ax)(K M:Nat)(hK:K<=100)(hM:M<=100)(AX:Bb)(kx:Nat)(hC:PtC C K M AX kx)(bs:Nat)(w:Ba)(hb:w.heap[bs]?=J (Ai C 35 (0,0))) :
  Iter Aq 148 #[Al (J ⟨bs,0,Z⟩)] (fun x:Nat×Nat=>#[Ak #[O U x.1,O U x.2]]) (fun k=>k=bs) (zu (K+1) 0 M) w:=fun n hn l Ah Jx W hW hJ hJx hY h0=>by
 have mX:bs<w.heap.size:=(Lu.1 hb).1;have fj:=(hW.block bs mX).trans hb;have HY:=zH hY;have c9:=zh fj 9 hC.c9;have UY:=zH hC.c6;have H0:=zH h0;have KZ:=zH fj;have hpW:bs<W.heap.size:=LF mX hW.size;refine callsIn_of_wp Sk rfl trivial ?_ rfl;simp only[ntmps148,List.size_toArray,List.length_cons,List.length_nil,Nat.reduceAdd,Nat.reduceSub,Array.replicate_succ,Array.replicate_zero,List.push_toArray,List.append_toArray,List.nil_append,List.cons_append];gi_wp2
 gi_loopw [8] (fun q wr=>∃s:Nat,s<=M/\q=O U (s:Int)/\∃pre:List { x:Nat×Nat // x∈zu (K+1) 0 M },Aw (pre.map (·.1)++zu (K+1) s (M-s)=zu (K+1) 0 M)/\Aw (Ah pre wr)/\Aw (wr.heap[bs]?=J (Ai C 35 (0,0)))/\W.heap.size<=wr.heap.size) (fun q _=>M-(Au q).toNat)
 case atStart=>exact⟨0,by omega,rfl,[],by simp[Aw],H0,KZ,Le _⟩
 case round=>
  obtain⟨s,hs,rfl,pre,lM,mh,CU,aX⟩:=hrel
  by_cases aa:s<M
  · have tn : zu (K + 1) s (M - s) = xt (K + 1) s 0 ++ zu (K + 1) (s + 1) (M - (s + 1)) := by
     rw[show M-s=(M-(s+1))+1 by omega,zu];unfold xt;rw[Nc]
    have HP:Aw (pre.map (·.1)++(xt (K+1) s 0++zu (K+1) (s+1) (M-(s+1)))=zu (K+1) 0 M):=by rw[<-tn];exact lM.out
    have q6:=zh CU.out 6 UY.out;have ab:IntKind.i64.wrap ((K:Int)+1)=(K:Int)+1:=by rw[Ls];omega
    gi_wp2_with fail
    gi_loopw [15] (fun q wr=>∃j:Nat,j<=K+1/\q=O U (j:Int)/\∃pre:List { x:Nat×Nat // x∈zu (K+1) 0 M },Aw (pre.map (·.1)++(xt (K+1) s j++zu (K+1) (s+1) (M-(s+1)))=zu (K+1) 0 M)/\Aw (Ah pre wr)/\Aw (wr.heap[bs]?=J (Ai C 35 (0,0)))/\W.heap.size<=wr.heap.size) (fun q _=>K+1-(Au q).toNat)
    case atStart=>exact⟨0,by omega,rfl,pre,HP,mh,CU,aX⟩
    case round=>
     obtain⟨j,hj,rfl,pre,lM,mh,CU,aX⟩:=hrel
     by_cases cq:j<K+1
     · have ti : pre.map (·.1) ++ ((s, j) :: (xt (K + 1) s (j + 1) ++ zu (K + 1) (s + 1) (M - (s + 1)))) = zu (K + 1) 0 M := by
        have:=lM.out;rw[wt cq,Ns] at this;exact this
       have dx:(s,j)∈zu (K+1) 0 M:=by rw[<-ti];simp
       have aS:pre.length<(zu (K+1) 0 M).length:=by
        have:=congrArg List.length ti;simp only[List.length_append,List.length_map,List.length_cons] at this;omega
       obtain⟨fn,tmps,assign,body,hy,hR⟩:=HY.out pre ⟨(s,j),dx⟩ _ mh.out aS;dsimp only at hy
       have Hh:Aw ((pre++[(⟨(s,j),dx⟩:{ x:Nat×Nat // x∈zu (K+1) 0 M })]).map (·.1)++(xt (K+1) s (j+1)++zu (K+1) (s+1) (M-(s+1)))=zu (K+1) 0 M):=by
        rw[LM,Nn];exact ti
       have HR:=zH hR;gi_wp2_with fail;refine HR.out.mono ?_;rintro e W3 (⟨rfl,Tv,rM⟩ | ⟨rfl,AT⟩)
       . have aK:wr.heap.size<=W3.heap.size:=rM.size
         have P3:=zH ((rM.same bs rfl (by omega)).trans CU.out);have J3:=zH Tv;have iP:W.heap.size<=W3.heap.size:=by omega
         gi_wp2_with fail
         go_roundw
         case rel=>exact⟨j+1,by omega,by go_num,_,Hh,J3,P3,iP⟩
         case measure=>simp[Au];omega
       . gi_wp2_with fail
         refine LG (Sd rfl _ _ _) rfl ?_;refine⟨⟨_,rfl⟩,.inr ⟨_,?_,AT⟩⟩;exact⟨_,Hh.out⟩
     . obtain rfl:j=K+1:=by omega
       have HP:Aw (pre.map (·.1)++zu (K+1) (s+1) (M-(s+1))=zu (K+1) 0 M):=by have:=lM.out;rwa[Zn,Nq] at this
       gi_wp2_with fail
       go_roundw
       case rel=>exact⟨s+1,by omega,by go_num,pre,HP,mh,CU,aX⟩
       case measure=>simp[Au];omega
  . obtain rfl:M=s:=by omega
    have HP:Aw (pre.map (·.1)=zu (K+1) 0 M):=by have:=lM.out;rwa[N0,zu,Nr] at this
    gi_wp2_with fail
    go_end0
    exact⟨⟨_,rfl⟩,.inl ⟨pre,HP.out,mh.out⟩⟩
end
section
open Go.RowKit Go.Shelf
theorem wz{w:Ba}{base:Nat}{v:Ax}{xs:List Int}(h:Own w base v xs){k:Nat}{cs:Array Ax}{t:TypeId}(hk:w.heap[k]?=J (Ai cs t (0,0)))(ht:t≠3):v.ownBlock≠J k:=by
 intro e;rcases h.2 with ⟨rfl,_⟩ | ⟨g,cap,cur,rfl,_,hg,_⟩
 . cases e
 simp only[Value.ownBlock,Option.some.injEq] at e;subst e;rw[hk] at hg
 cases hg
 exact ht rfl
theorem vY{w:Ba}{base:Nat}{v:Ax}{xs:List Int}(h:Own w base v xs):∀r,v.ownBlock=J r->base<=r/\∀o,w.heap[r]?=J o->o.isCells=AA:=by
 intro r hr;refine⟨(h.lt r hr).1,fun o ho=>?_⟩;rcases h.2 with ⟨rfl,_⟩ | ⟨g,cap,cur,rfl,_,hg,_⟩
 . cases hr
 simp only[Value.ownBlock,Option.some.injEq] at hr;subst hr;rw[hg] at ho
 cases ho
 rfl
end
section
open Go.RowKit Go.Shelf
attribute [local go_sem] Oper.semAt_some
theorem Q8{α:Type}:∀ {l m:List α},l.Nodup->(∀x∈l,x∈m)->l.length<=m.length
 | [],_,_,_=>by simp
 | a::l,m,hn,h=>by
  classical
  obtain⟨h1,h2⟩:=PQ.1 hn;have ha:a∈m:=h a (by simp)
  have:=Q8 (l:=l) (m:=m.erase a) h2 (fun x hx=>by
   have bj:x≠a:=by rintro rfl;exact h1 hx
   exact(List.mem_erase_of_ne bj).2 (h x (by simp[hx])))
  rw[List.length_erase_of_mem ha] at this;have nM:0<m.length:=List.length_pos_of_mem ha;simp only[List.length_cons];omega
theorem MapOf.count{κ:Type}{enc:κ->Ax}(inj:∀a b,enc a=enc b->a=b){w:Ba}{b n:Nat}{f:κ->Option Ax}{l:List κ}(h:MapOf enc w b n f)(hn:l.Nodup)(hf:∀k,(∃v,f k=J v)↔k∈l) :
  ∃es bG,w.heap[b]?=J (.map es bG)/\es.size=l.length:=by
 obtain⟨es,bG,hb,_,hp,h1,h2⟩:=h;refine⟨es,bG,hb,?_⟩;have e1:(es.toList.map (·.key)).Nodup:=Sn.2 hp;have e2:(l.map enc).Nodup:=Sn.2 (hn.imp fun iA e=>iA (inj _ _ e))
 have g1:=Q8 e1 (m:=l.map enc) (fun x hx=>by
  obtain⟨e,he,rfl⟩:=LZ.1 hx;obtain⟨k,hk,hv⟩:=h1 e he
  exact LZ.2 ⟨k,(hf k).1 ⟨_,hv⟩,hk.symm⟩)
 have g2:=Q8 e2 (m:=es.toList.map (·.key)) (fun x hx=>by
  obtain⟨k,hk,rfl⟩:=LZ.1 hx;obtain⟨v,hv⟩:=(hf k).2 hk;obtain⟨e,he,re,_⟩:=h2 k v hv
  exact LZ.2 ⟨e,he,re⟩)
 simp at g1 g2;omega
def gE(l:List Int):Int->Option Ax:=fun k=>if k∈l then J (O U (l.idxOf k:Int)) else Z
theorem numG_nil:gE []=fun _=>Z:=by funext k;simp[gE]
theorem numG_put{l:List Int}{k:Int}(h:k∉l):xH (gE l) k (O U (l.length:Int))=gE (l++[k]):=by
 funext x
 unfold xH gE
 by_cases e:x=k
 . subst e
   rw[Li rfl,Li (by simp),NO,Lg h];simp
 rw[Lg e]
 by_cases hx:x∈l
 . rw[Li hx,Li (by simp[hx]),NO,Li hx]
 rw[Lg hx,Lg (by simp[hx,e])]
theorem Zx{α:Type}[DecidableEq α]:∀(l mn:List α),mn.Nodup->(l.foldl qi mn).Nodup
 | [],_,h=>h
 | k::l,mn,h=>by
  rw[Nz];refine Zx l _ ?_;unfold qi
  split
  . exact h
  . rename_i hk
    exact List.nodup_append.2 ⟨h,by simp,fun a ha b hb=>by rw[L4] at hb;subst hb;rintro rfl;exact hk ha⟩
theorem Zw{α:Type}[DecidableEq α](l:List α):(yC l).Nodup:=Zx l [] List.nodup_nil
theorem numG_count{w:Ba}{b n:Nat}{us:List Int}(h:MapOf (O U) w b n (gE us))(hu:us.Nodup):∃es bG,w.heap[b]?=J (.map es bG)/\es.size=us.length:=
 h.count (fun a b e=>by injection e) hu (fun k=>by
  unfold gE
  by_cases hk:k∈us
  . simp[hk]
  . simp[hk])
theorem Own.same{w w':Ba}{base:Nat}{v:Ax}{xs:List Int}(h:Own w base v xs)(hs:∀k,base<=k->k<w.heap.size->w'.heap[k]?=w.heap[k]?):Own w' base v xs:=by
 refine⟨h.1,?_⟩;rcases h.2 with hn | ⟨g,cap,cur,hv,hb,hg,rest⟩
 . exact .inl hn
 exact .inr ⟨g,cap,cur,hv,hb,(hs g hb (zj hg)).trans hg,rest⟩
structure NbIn(B:Nat)(S:Array Ax)(F:Ax)(R:Nat->Prop)(us ls:List Int)(w W:Ba):Prop where
 wrote:Wrote R w W
 b0:W.heap[B]?=J (Ai S 35 (0,0))
 b1:W.heap[B+1]?=J (Ai #[F] 165 (0,0))
 b3:W.heap[B+1+1+1]?=J (Ai #[.map (J (B+1+1))] 214 (0,0))
 b5:W.heap[B+1+1+1+1+1]?=J (Ai S 35 (0,0))
 hm:∃m,MapOf (O U) W (B+1+1) m (gE us)
 box:∃P c,W.heap[B+1+1+1+1]?=J (Ai #[I P ls.length c] 36 (0,0))/\Own W (B+6) (I P ls.length c) ls
 sz:B+6<=W.heap.size
section
variable {B:Nat} {S:Array Ax} {F:Ax} {R:Nat->Prop} {us ls:List Int} {w W W':Ba}
theorem NbIn.turn{row:Option Nat}(h:NbIn B S F R us ls w W)(hw:w.heap.size<=B)(hg:W.grownBy W' row)(hr:∀r,row=J r->B+6<=r/\∃o:Obj,W.heap[r]?=J o/\o.isCells=AC):NbIn B S F R us ls w W':=by
 obtain⟨P,c,hb,ho⟩:=h.box;obtain⟨m,hm⟩:=h.hm;have aX:=h.sz;have old:∀k,k<B+6->W'.heap[k]?=W.heap[k]?:=fun k hk=>hg.block k (by omega) (fun e=>by have:=(hr k e.symm).1;omega)
 refine⟨h.wrote.trans (Wrote.of_grown (R:=fun k=>w.heap.size<=k) hg (fun k e hk=>by have:=(hr k e).1;omega)) (fun k h1 h2=>by omega),(old B (by omega)).trans h.b0,(old _ (by omega)).trans h.b1,(old _ (by omega)).trans h.b3,(old _ (by omega)).trans h.b5,⟨m,hm.same (old _ (by omega))⟩,⟨P,c,(old _ (by omega)).trans hb,ho.kept hg ?_⟩,Lz aX hg.size⟩;rcases e:(I P ls.length c).ownBlock with _ | g
 . exact .inl rfl
 refine .inr fun e2=>?_
 obtain⟨o,h1,h2⟩:=(hr g e2.symm).2;have:=(vY ho g e).2 o h1;rw[this] at h2;cases h2
theorem NbIn.call(h:NbIn B S F R us ls w W)(hw:Wrote R W W')(hR:∀k,R k->k<B):NbIn B S F R us ls w W':=by
 obtain⟨P,c,hb,ho⟩:=h.box;obtain⟨m,hm⟩:=h.hm;have aX:=h.sz;have old:∀k,B<=k->k<W.heap.size->W'.heap[k]?=W.heap[k]?:=fun k hk hl=>hw.block k hl (fun e=>by have:=hR k e;omega)
 exact⟨h.wrote.trans hw (fun _ _ h=>h),(old B (by omega) (by omega)).trans h.b0,(old _ (by omega) (by omega)).trans h.b1,(old _ (by omega) (by omega)).trans h.b3,(old _ (by omega) (by omega)).trans h.b5,⟨m,hm.same (old _ (by omega) (by omega))⟩,⟨P,c,(old _ (by omega) (by omega)).trans hb,ho.same fun k hk hl=>old k (by omega) hl⟩,Lz aX hw.size⟩
theorem NbIn.put{Om:List Int}{m:Nat}(h:NbIn B S F R us ls w W)(hw:w.heap.size<=B)(hg:W.grownBy W' (J (B+1+1)))(hm:MapOf (O U) W' (B+1+1) m (gE Om)):NbIn B S F R Om ls w W':=by
 obtain⟨P,c,hb,ho⟩:=h.box;have aX:=h.sz;have old:∀k,k<W.heap.size->k≠B+1+1->W'.heap[k]?=W.heap[k]?:=fun k hk hl=>hg.block k hk (fun e=>hl (by cases e;rfl))
 exact⟨h.wrote.trans (Wrote.of_grown (R:=fun k=>w.heap.size<=k) hg (fun k e hk=>by cases e;omega)) (fun k h1 h2=>by omega),(old B (by omega) (by omega)).trans h.b0,(old _ (by omega) (by omega)).trans h.b1,(old _ (by omega) (by omega)).trans h.b3,(old _ (by omega) (by omega)).trans h.b5,⟨m,hm⟩,⟨P,c,(old _ (by omega) (by omega)).trans hb,ho.same fun k hk hl=>old k hl (by omega)⟩,Lz aX hg.size⟩
theorem NbIn.push{P P2:Bb}{c c2:Nat}{u:Int}{W1:Ba}(h:NbIn B S F R us ls w W)(hw:w.heap.size<=B)(hb:W.heap[B+1+1+1+1]?=J (Ai #[I P ls.length c] 36 (0,0)))(ho:Own W (B+6) (I P ls.length c) ls)
  (mR:Own W1 (B+6) (I P2 (ls.length+1) c2) (ls++[u])) (hg:W.grownBy W1 (I P ls.length c).ownBlock) :
  NbIn B S F R us (ls++[u]) w (W1.setCell ⟨B+1+1+1+1,0,Z⟩ (I P2 (ls.length+1) c2)):=by
 obtain⟨m,hm⟩:=h.hm;have aX:=h.sz;have lc:=ho.lt;have aK:=hg.size;have tI:∀k,k<B+6->W1.heap[k]?=W.heap[k]?:=fun k hk=>hg.block k (by omega) (fun e=>by have:=(lc k e.symm).1;omega)
 have aq:=(tI _ (by omega)).trans hb;obtain⟨x1,x2,x3⟩:=kI aq (I P2 (ls.length+1) c2);have old:∀k,k<B+6->k≠B+1+1+1+1->(W1.setCell ⟨B+1+1+1+1,0,Z⟩ (I P2 (ls.length+1) c2)).heap[k]?=W.heap[k]?:=fun k hk bj=>(x3 k bj).trans (tI k hk)
 refine⟨?_,(old B (by omega) (by omega)).trans h.b0,(old _ (by omega) (by omega)).trans h.b1,(old _ (by omega) (by omega)).trans h.b3,(old _ (by omega) (by omega)).trans h.b5,⟨m,hm.same (old _ (by omega) (by omega))⟩,⟨P2,c2,by rw[Lw];exact x1,by rw[Lw];exact mR.same fun k hk _=>x3 k (by omega)⟩,by rw[show(W1.setCell ⟨B+1+1+1+1,0,Z⟩ (I P2 (ls.length+1) c2)).heap.size=W1.heap.size by simp[World.setCell]];omega⟩;have a1:Wrote (fun k=>w.heap.size<=k) W W1:=Wrote.of_grown hg (fun k e hk=>by have:=(lc k e).1;omega);have a2:Wrote (fun k=>w.heap.size<=k) W1 (W1.setCell ⟨B+1+1+1+1,0,Z⟩ (I P2 (ls.length+1) c2)):=Wrote.of_grown (zV W1 _ 0 _) (fun k e hk=>by cases e;omega);exact h.wrote.trans (a1.trans a2 (fun _ _ h=>h)) (fun k h1 h2=>by omega)
theorem NbIn.keeps{P:Bb}{c:Nat}{W1:Ba}(h:NbIn B S F R us ls w W)(hb:W.heap[B+1+1+1+1]?=J (Ai #[I P ls.length c] 36 (0,0)))(ho:Own W (B+6) (I P ls.length c) ls)
  (hg:W.grownBy W1 (I P ls.length c).ownBlock) (v:Ax):KeepsFrom (B+6) W (W1.setCell ⟨B+1+1+1+1,0,Z⟩ v)/\KeepB (fun k=>k=B+1+1+1+1+1) W (W1.setCell ⟨B+1+1+1+1,0,Z⟩ v):=by
 have lc:=ho.lt;have aX:=h.sz;have aK:=hg.size;have aq:=(hg.block (B+1+1+1+1) (by omega) (fun e=>by have:=(lc _ e.symm).1;omega)).trans hb;obtain⟨x1,x2,x3⟩:=kI aq v;refine⟨⟨by simp[World.setCell];omega,fun k o hk aW mR=>?_⟩,⟨by simp[World.setCell];omega,fun k hk hl=>?_⟩⟩
 . refine(x3 k (by omega)).trans ((hg.block k (zj aW) (fun e=>?_)).trans aW)
   have:=(vY ho k e.symm).2 o aW;rw[this] at mR;cases mR
 subst hk;exact(x3 _ (by omega)).trans (hg.block _ (by omega) (fun e=>by have:=(lc _ e.symm).1;omega))
end
end
section
open Go.RowKit Go.Shelf
attribute [local go_sem] Oper.semAt_some
theorem Jo(s:Sy)(K M:Nat)(hK:K<=100)(hM:M<=100)(hk:s.p.k=(K:Int))(hx:s.xs.length=M)(A SV AV AX:Bb)(kc ks kv kx:Nat)(kf:Nat)(kb:Array Ax)(ek:Enters Aq kf)(key:Nat×Nat->Int)
  (R:Nat->Prop) (Ah:Ba->Prop) (w:Ba) (hR:∀k,R k->k<w.heap.size) (mh:Ah w) (hJ:∀W W',Ah W->Wrote (fun k=>w.heap.size<=k) W W'->Ah W')
  (lq:∀x∈zu (K+1) 0 M,∀W,Ah W->w.heap.size<=W.heap.size->As Aq kf (#[Ak #[O U x.1,O U x.2]]++kb) W fun e w'=>e=Am (O U (key x))/\Ah w'/\Wrote R W w') :
  As Aq 97 #[.agg (s.vs_ A kc SV ks AV kv AX kx),.func (.func kf) #[] kb] w fun e w'=>∃v,e=Am v/\Own w' w.heap.size v (yE ((zu (K+1) 0 M).map key))/\Ah w'/\Wrote R w w':=by
 have hC:PtC (s.vs_ A kc SV ks AV kv AX kx) K M AX kx:=⟨by unfold Sy.vs_;rw[<-hk];rfl,by unfold Sy.vs_;rw[<-hx];rfl⟩
 have aS:(zu (K+1) 0 M).length<=20000:=by
  rw[kM (K+1) M (by omega)];exact Lz (LU hM (show K+1<=101 by omega)) (by decide)
 have lh:=zH (fun (bs:Nat) (W:Ba) (hb:W.heap[bs]?=J (Ai (s.vs_ A kc SV ks AV kv AX kx) 35 (0,0)))=>hU (s.vs_ A kc SV ks AV kv AX kx) K M hK hM AX kx hC bs W hb);have sj:=zH (fun (W:Ba)=>JO s A SV AV AX kc ks kv kx W);have Cr:=zH lq;have HJ:=zH hJ;have HJ0:=zH mh;have hz:∀W:Ba,(zeroValue 3).run Aq W=.ok (O U 0) W:=fun W=>by kernel_rfl
 have ht:Aq.underlying 214=J (.map 3 3):=underlying214;have lm:=@run_makeMap Aq;obtain⟨L,hL⟩:=Ki (zu (K+1) 0 M);rw[hL] at lh Cr aS ⊢;unfold Sy.vs_ at lh sj ⊢;clear lq hJ mh hL hC hk hx;refine xm func97 rfl ?_;simp only[ntmps97,List.size_toArray,List.length_cons,List.length_nil,Nat.reduceAdd,Nat.reduceSub,Array.replicate_succ,Array.replicate_zero,List.push_toArray,List.append_toArray,List.nil_append,List.cons_append];go_wp2_with fail;refine(sj.out _).mono ?_;rintro e w2 ⟨rfl,bZ⟩;obtain⟨S,hS⟩:∃S,S=#[O U s.p.t.n,O U s.p.t.ins,O U s.p.t.outs,I A s.p.t.cases.length kc,O U s.p.a.n,I SV s.p.a.sts.length ks,O U s.p.k,O U s.n,I AV s.vs.length kv,I AX s.xs.length kx]:=⟨_,rfl⟩;rw[<-hS] at bZ lh
 have IX:NbIn w.heap.size S (.func (.func kf) #[] kb) R [] [] w w2/\Wrote (fun k=>w.heap.size<=k) w w2:=by
  obtain⟨a1,h1,x1,y1,z1⟩:=zk w S 35;rw[h1] at bZ;obtain⟨a2,h2,x2,y2,z2⟩:=zk a1 #[.func (.func kf) #[] kb] 165;rw[h2] at bZ;obtain⟨a3,h3⟩:=Ki (a2.alloc (.map #[] 0));have m3:MapOf (O U) a3 a2.heap.size 0 (fun _=>Z):=by rw[<-h3];exact MapOf.made a2
  have y3:a3.heap.size=a2.heap.size+1:=by rw[<-h3];simp
  have z3:Ar a2.heap.size a2 a3:=by rw[<-h3];exact ye _ _
  rw[h3] at bZ;obtain⟨a4,h4,x4,y4,z4⟩:=zk a3 #[.map (J (w.heap.size+1+1))] 214;rw[h4] at bZ;obtain⟨a5,h5,x5,y5,z5⟩:=zk a4 #[I Z 0 0] 36;rw[h5] at bZ;obtain⟨a6,h6,x6,y6,z6⟩:=zk a5 S 35;rw[h6] at bZ;subst bZ;rw[y1] at x2 y2;rw[y2] at m3 y3;rw[y3] at x4 y4;rw[y4] at x5 y5;rw[y5] at x6 y6
  have w1:Wrote (fun k=>w.heap.size<=k) w a6:=by
   have b1:=(Wrote.of_below (R:=fun k=>w.heap.size<=k) z1).trans (Wrote.of_below (R:=fun k=>w.heap.size<=k) z2) (fun _ _ h=>h);have b2:=(b1.trans (Wrote.of_below (R:=fun k=>w.heap.size<=k) z3) (fun _ _ h=>h)).trans (Wrote.of_below (R:=fun k=>w.heap.size<=k) z4) (fun _ _ h=>h);exact((b2.trans (Wrote.of_below (R:=fun k=>w.heap.size<=k) z5) (fun _ _ h=>h)).trans (Wrote.of_below (R:=fun k=>w.heap.size<=k) z6) (fun _ _ h=>h))
  refine⟨⟨w1.more (fun k h1 h2=>by omega),?_,?_,?_,x6,⟨0,?_⟩,⟨Z,0,?_,Own.nil _ _⟩,by omega⟩,w1⟩
  . exact Lb z6 (by omega) (Lb z5 (by omega) (Lb z4 (by omega) (Lb z3 (by omega) (Lb z2 (by omega) x1))))
  . exact Lb z6 (by omega) (Lb z5 (by omega) (Lb z4 (by omega) (Lb z3 (by omega) x2)))
  . exact Lb z6 (by omega) (Lb z5 (by omega) x4)
  . rw[numG_nil]
    exact m3.same (Lb z6 (by omega) (Lb z5 (by omega) (z4.block _ (by omega))))
  exact Lb z6 (by omega) x5
 have dw:w2.heap.size=w.heap.size+6:=by rw[<-bZ];simp
 have Od:Aw (Ah w2):=HJ.out w w2 HJ0.out IX.2;have Ma:=zH (lh.out (w.heap.size+1+1+1+1+1) w2 IX.1.b5);have HN:=zH IX.1;go_wp2_with fail
 refine jv rfl (Pg Sk (by kernel_rfl) rfl) Ma.out (by rintro x rfl;omega) (fun _=>rfl)
  (fun (pre:List { x:Nat×Nat // x∈L }) (X:Ba)=>NbIn w.heap.size S (.func (.func kf) #[] kb) R (yC (pre.map fun x=>key x.1)) (yE (pre.map fun x=>key x.1)) w X/\Ah X)
  (fun _ _ _=>False)
  ?hI (fun _ _ _ _ _ h _ _=>h)
  ⟨HN.out,Od.out⟩ (fun x=>#[O U x.1,O U x.2]) 164 ?a1 ?assign ?body ?done ?stop (fun _ _ h=>by have:=h.1.sz;omega)
 case hI=>
  intro pre X X' row hX hg hr;refine⟨hX.1.turn (Le _) hg (fun r e=>⟨by have:=(hr r e).1;omega,(hr r e).2⟩),HJ.out X X' hX.2 (Wrote.of_grown hg fun k e hk=>by have:=(hr k e).1;omega)⟩
 case assign=>
  intro l pre x X K' hI hK;obtain⟨g',mU⟩:∃g',g'=X.heap.size:=⟨_,rfl⟩;have HK:=zH (hK g' mU ⟨hI.1.turn (Le _) (row:=Z) ⟨rfl,rfl,rfl,by simp,fun k hk _=>N9 X _ k hk⟩ (fun r e=>by cases e),HJ.out X _ hI.2 (Wrote.of_below (ye X _))⟩);have HG:=zH mU;gi_wp2;rw[<-HG.out];exact HK.out
 case body=>
  intro l pre x g W3 hg lw hI aa;obtain⟨us,fF⟩:∃us,yC (pre.map fun x=>key x.1)=us:=⟨_,rfl⟩;obtain⟨ls,pu⟩:∃ls,yE (pre.map fun x=>key x.1)=ls:=⟨_,rfl⟩;have aU:ls.length<=20000:=by rw[<-pu,yv,LJ];omega
  have MC:us.Nodup:=by rw[<-fF];exact Zw _
  obtain⟨kk,CN⟩:=Ki (key x.1);have Hz:yC ((pre++[x]).map fun x=>key x.1)=qi us kk:=by rw[LM,L5,NE,qt,fF,CN]
  have Io:yE ((pre++[x]).map fun x=>key x.1)=ls++[if kk∈us then (us.idxOf kk:Int) else (us.length:Int)]:=by
   rw[LM,L5,NE,qZ,fF,pu,CN]
   congr 2
   by_cases h:kk∈us
   . rw[Li h,Li (yp.1 (fF▸h))]
   rw[Lg h,Lg (fun e=>h (fF▸yp.2 e))]
  rw[fF,pu] at hI;have ak:=Cr.out x.1 x.2 W3 hI.2 (by have:=hI.1.sz;omega);rw[CN] at ak;have HC:=zH ak;have Em:=zH hI.1;have iB:=zH Hz;have mI:=zH Io;have HUN:=zH MC;have q1:=zh hI.1.b1 0 rfl;obtain⟨g0,g1,_⟩:=Ka lw;gi_wp2_with fail;refine⟨trivial,?_⟩;rw[ek];refine⟨fun _=>by omega,(Sz l ((Se (n:=6)).2 HC.out)).mono ?_⟩;rintro e W4 ⟨rfl,M6,fN⟩;have oe:=zH (Em.out.call fN hR);have UL:=zH M6;have mp:=zH fN;have q3:=zh oe.out.b3 0 rfl;obtain⟨m,hm⟩:=oe.out.hm;have dl:=hm.look2 yL ht (hz W4) kk;have Co:=zH hm
  by_cases dm:kk∈us
  case pos=>
   have hf:gE us kk=J (O U (us.idxOf kk:Int)):=Li dm;rw[hf] at dl;simp only[Option.getD_some,Option.isSome_some] at dl;have tY:=Co.out.look yL ht (hz W4) kk;rw[hf] at tY;simp only[Option.getD_some] at tY;have hu:qi us kk=us:=Li dm;have sQ:Aw (yC ((pre++[x]).map fun x=>key x.1)=us):=iB.out.trans hu;have Cq:Aw (yE ((pre++[x]).map fun x=>key x.1)=ls++[(us.idxOf kk:Int)]):=mI.out.trans (by rw[Li dm]);have iB:=sQ;have mI:=Cq;obtain⟨P,c,bk,ho⟩:=oe.out.box;have aV:=zH bk;have HO:=zH ho;have q4:=zh bk 0 rfl
   gi_wp2_with (gi_at_builtin; go_must (refine ul rfl _ _ rfl (w.heap.size + 6) (I P ls.length c) ls (us.idxOf kk : Int) rfl HO.out rfl (by omega) (by have := oe.out.sz; omega) ?_); intro v' W6 aI iI cX
                obtain⟨A6,k6,rfl,h61,h62,_⟩:=aI.form;have pF:=(iI.block (w.heap.size+1+1+1+1) (zj aV.out) (fun e=>wz HO.out aV.out (by decide) e.symm)).trans aV.out;have q6:=zh pF 0 rfl;have f6:=zi pF 0;have rB:=zH aI;have pg:=zH iI
                clear pF aI iI cX)
   have py:=oe.out.keeps aV.out HO.out pg.out (I A6 (ls.length+1) k6);have DC:=oe.out.push (Le _) aV.out HO.out (by have:=rB.out;simpa using this) pg.out;refine⟨((show KeepsFrom w2.heap.size W3 W4 from⟨mp.out.size,fun k o hk aW _=>(mp.out.block k (zj aW) (fun e=>by have:=hR k e;omega)).trans aW⟩)).trans (dw▸py.1),((show KeepB (fun k=>k=w.heap.size+1+1+1+1+1) W3 W4 from⟨mp.out.size,fun k hk hl=>mp.out.block k hl (fun e=>by have:=hR k e;omega)⟩)).trans py.2,?_,?_⟩
   . rw[iB.out,mI.out]
     exact DC
   have a2:Wrote (fun k=>w.heap.size<=k) W4 W6:=Wrote.of_grown pg.out (fun k e hk=>by have:=(HO.out.lt k e).1;omega);have a3:Wrote (fun k=>w.heap.size<=k) W6 (W6.setCell ⟨w.heap.size+1+1+1+1,0,Z⟩ (I A6 (ls.length+1) k6)):=Wrote.of_grown (zV W6 _ 0 _) (fun k e hk=>by cases e;omega);exact HJ.out _ _ UL.out (a2.trans a3 (fun _ _ h=>h))
  have hf:gE us kk=Z:=Lg dm;rw[hf] at dl;simp only[Option.getD_none,Option.isSome_none] at dl;have hu:qi us kk=us++[kk]:=Lg dm;have sQ:Aw (yC ((pre++[x]).map fun x=>key x.1)=us++[kk]):=iB.out.trans hu;have Cq:Aw (yE ((pre++[x]).map fun x=>key x.1)=ls++[(us.length:Int)]):=mI.out.trans (by rw[Lg dm]);obtain⟨es,bG,Wh,DP⟩:=numG_count Co.out HUN.out;obtain⟨W5,fH,oD,dv⟩:=Co.out.put yL ht kk (O U (us.length:Int));rw[numG_put dm] at oD;have pc:=zH (oe.out.put (Le _) dv oD);have tY:=oD.look yL ht (hz W5) kk
  have hf5:gE (us++[kk]) kk=J (O U (us.length:Int)):=by
   unfold gE;rw[Li (by simp),NO,Lg dm];simp
  rw[hf5] at tY;simp only[Option.getD_some] at tY;have HJ5:=zH (HJ.out W4 W5 UL.out (Wrote.of_grown dv fun k e hk=>by cases e;omega))
  have nh:Aw (KeepsFrom w2.heap.size W4 W5/\KeepB (fun k=>k=w.heap.size+1+1+1+1+1) W4 W5):=by
   refine⟨⟨dv.size,fun k o hk aW _=>(dv.block k (zj aW) (fun e=>by cases e;omega)).trans aW⟩,⟨dv.size,fun k hk hl=>dv.block k hl (fun e=>by cases e;omega)⟩⟩
  have q35:=zh pc.out.b3 0 rfl;obtain⟨P,c,bk,ho⟩:=pc.out.box;have aV:=zH bk;have HO:=zH ho;have q4:=zh bk 0 rfl;have iB:=sQ;have mI:=Cq
  have px:(Builtin.len_ #[214] 3 #[.map (J (w.heap.size+1+1))]).run Aq W4=.ok (O U (us.length:Int)) W4:=by
   rw[<-DP];exact run_len_map W4 _ _ _ es bG (by kernel_rfl) Wh
  gi_wp2_with (gi_at_builtin; go_must (refine ul rfl _ _ rfl (w.heap.size + 6) (I P ls.length c) ls (us.length : Int) rfl HO.out rfl (by omega) (by have := pc.out.sz; omega) ?_); intro v' W6 aI iI cX
               obtain⟨A6,k6,rfl,h61,h62,_⟩:=aI.form;have pF:=(iI.block (w.heap.size+1+1+1+1) (zj aV.out) (fun e=>wz HO.out aV.out (by decide) e.symm)).trans aV.out;have q6:=zh pF 0 rfl;have f6:=zi pF 0;have rB:=zH aI;have pg:=zH iI
               clear pF aI iI cX)
  have py:=pc.out.keeps aV.out HO.out pg.out (I A6 (ls.length+1) k6);have DC:=pc.out.push (Le _) aV.out HO.out (by have:=rB.out;simpa using this) pg.out;refine⟨(((show KeepsFrom w2.heap.size W3 W4 from⟨mp.out.size,fun k o hk aW _=>(mp.out.block k (zj aW) (fun e=>by have:=hR k e;omega)).trans aW⟩)).trans nh.out.1).trans (dw▸py.1),(((show KeepB (fun k=>k=w.heap.size+1+1+1+1+1) W3 W4 from⟨mp.out.size,fun k hk hl=>mp.out.block k hl (fun e=>by have:=hR k e;omega)⟩)).trans nh.out.2).trans py.2,?_,?_⟩
  . rw[iB.out,mI.out]
    exact DC
  have a2:Wrote (fun k=>w.heap.size<=k) W5 W6:=Wrote.of_grown pg.out (fun k e hk=>by have:=(HO.out.lt k e).1;omega);have a3:Wrote (fun k=>w.heap.size<=k) W6 (W6.setCell ⟨w.heap.size+1+1+1+1,0,Z⟩ (I A6 (ls.length+1) k6)):=Wrote.of_grown (zV W6 _ 0 _) (fun k e hk=>by cases e;omega);exact HJ.out _ _ HJ5.out (a2.trans a3 (fun _ _ h=>h))
 case done=>
  intro D ys W hD nI hI mi;have sx:ys.map (fun x=>key x.1)=L.map key:=by rw[show ys.map (fun x=>key x.1)=(ys.map (·.1)).map key by rw[P4];rfl,nI]
  rw[sx] at hI;obtain⟨hN,hJW⟩:=hI;obtain⟨P,c,bk,ho⟩:=hN.box;have q4:=zh bk 0 rfl;have HN9:=zH hN;have HO:=zH ho;have HJ9:=zH hJW;have Di:=zH mi;go_wp2_with fail;refine xP (B:=w2.heap.size) (w:=W) (show Marks w2.heap.size _ W from⟨[D],rfl,by simp,fun r hr=>by rw[L4] at hr;subst hr;exact⟨hD,Di.out⟩⟩) (v:=.slice P (yE (L.map key)).length c) (fun W=>by kernel_rfl) ?_;intro X hS;have hb:Ar w2.heap.size W X:=hS.below;refine⟨_,rfl,(HO.out.shut hS).low (by omega),HJ.out W X HJ9.out ⟨hb.os,hb.tape,hb.output,hb.size,fun k hk hn=>hb.block k (by omega)⟩,HN9.out.wrote.trans (R':=fun k=>w2.heap.size<=k) ⟨hb.os,hb.tape,hb.output,hb.size,fun k hk hn=>hb.block k (by omega)⟩ (fun k h1 h2=>by omega)⟩
 intro D c pre W _ _ h;exact h.elim
end
section
theorem nodup_idx{α:Type}{l:List α}(h:l.Nodup){i j:Nat}(hi:i<l.length)(hj:j<l.length)(e:l[i]=l[j]):i=j:=by
 have hp:=PM.1 h;rcases Nat.lt_trichotomy i j with g | g | g
 . exact absurd e (hp i j hi hj g)
 . exact g
 exact absurd e.symm (hp j i hj hi g)
def xw(x:Exn)(k q:Nat):Int:=(x.views.getD k []).getD q 0
structure Sees(s:Sy)(K N:Nat):Prop where
 nodup:s.vs.Nodup
 v0:∀x∈s.xs,∀q,q<N->At s.vs (xw x 0 q) (xr q ((yt s.p x.c.toNat).getD q 0))
 vk:∀x∈s.xs,∀k,k<K->∀q,q<N->At s.vs (xw x (k+1) q) (qy (x.word.getD k default) (k+1) q (x.views.getD k []))
 prs:s.xs.map (fun x=>(x.c.toNat,x.word))=zD s.p
 cs:∀x∈s.xs,∃c:Nat,x.c=(c:Int)/\c<s.p.t.cases.length/\x.word∈zT s.p.a K 0
theorem JS{p:Pb}{Mx:List Vw}{c:Nat}{word:List Rd}{x:Exn}{vs:List Vw}(h:XFin p Mx c word x vs)(k:Nat)(hk:k<=word.length):x.views.getD k []=uh vs p.t.n.toNat (yt p c) word k:=by
 rw[h.hv];exact jW _ _ _ _ _ k hk
theorem xfin_at{p:Pb}{Mx:List Vw}{c:Nat}{word:List Rd}{x:Exn}{vs:List Vw}(h:XFin p Mx c word x vs)(k q:Nat)(hk:k<=word.length)(hq:q<p.t.n.toNat):At Mx (xw x k q) (fV vs p.t.n.toNat (yt p c) word k q):=by
 obtain⟨us,fF⟩:=h.ht;unfold xw;rw[JS h k hk,fF];exact(vX vs p.t.n.toNat (yt p c) word word.length k q hk hq).mono
theorem Xv{p:Pb}{K N:Nat}(hF:Fine (yu p) K N):Sees (yu p) K N:=by
 obtain⟨f1,f2,f3⟩:=Yr p (zD p);have IY:p.t.n.toNat=N:=by have:p.t.n=(N:Int):=hF.pn;omega
 have mZ:p.k.toNat=K:=by have:p.k=(K:Int):=hF.k;omega
 have lM:∀y∈zD p,y.2.length=K/\y.1<p.t.cases.length/\y.2∈zT p.a K 0:=fun y hy=>by
  unfold zD at hy;obtain⟨d,hd,hy⟩:=NJ.1 hy;obtain⟨w',lX,rfl⟩:=LZ.1 hy;rw[mZ] at lX;exact⟨xW p.a _ 0 w' lX,by simpa using hd,lX⟩
 have hx:∀x∈(yu p).xs,∃y∈zD p,∃vs,XFin p (yu p).vs y.1 y.2 x vs:=fun x hx=>by
  obtain⟨i,hi,e⟩:=LI hx;have tl:i<(zD p).length:=by rw[<-qI p (zD p)];exact hi
  obtain⟨x',vs,Mz,hh⟩:=f1 i tl
  have:x=x':=by
   have h3:(zK p (zD p)).2[i]?=J x:=(Ln (l:=(yu p).xs) hi).trans (congrArg J e);exact NR (h3.symm.trans Mz)
  subst this;exact⟨_,Ld tl,vs,hh⟩
 refine⟨f3,fun x hm q hq=>?_,fun x hm k hk q hq=>?_,?_,fun x hm=>?_⟩
 . obtain⟨y,hy,vs,hh⟩:=hx x hm
   have h:=xfin_at hh 0 q (NF _) (by omega);rw[hh.hc,Lo];exact h
 . obtain⟨y,hy,vs,hh⟩:=hx x hm
   have hl:=(lM y hy).1;have h:=xfin_at hh (k+1) q (by omega) (by omega);rw[JS hh k (by omega),hh.hw];exact h
 . show(zK p (zD p)).2.map _=zD p
   refine NZ (by rw[LJ,qI]) fun i h1 h2=>?_
   obtain⟨x',vs,Mz,hh⟩:=f1 i h2;rw[LS];obtain⟨h3,h4⟩:=Lv.1 Mz;rw[h4,hh.hc,hh.hw,Lo]
 obtain⟨y,hy,vs,hh⟩:=hx x hm;exact⟨y.1,hh.hc,(lM y hy).2.1,by rw[hh.hw];exact(lM y hy).2.2⟩
section
variable {s:Sy} {K N:Nat}
theorem Sees.pr(h:Sees s K N){x:Exn}(hx:x∈s.xs){k q:Nat}(hk:k<=K)(hq:q<N):∃v,At s.vs (xw x k q) v/\v.p=(q:Int)/\v.r=(k:Int):=by
 cases k with
 | zero=>exact⟨_,h.v0 x hx q hq,rfl,rfl⟩
 | succ k=>exact⟨_,h.vk x hx k (by omega) q hq,rfl,rfl⟩
end
end
section
open Go.RowKit Go.Shelf
attribute [local go_sem] Oper.semAt_some
theorem zt{α:Type}{l:List α}{i:Nat}(h:i<l.length)(d:α):l.getD i d=l[i]:=by rw[Lk,Ln h];rfl
def jr(s:Sy)(q:Nat):List Int:=(zu (s.p.k.toNat+1) 0 s.xs.length).map fun x=>xw (s.xs.getD x.1 default) x.2 q
def yB(s:Sy)(q:Nat):List Int:=yE (jr s q)
def clsE(s:Sy)(p:Int):List Int×Int:=if yh s≠0 then ([],yh s) else if p<0\/s.n<=p then ([],2) else (yB s p.toNat,0)
def RetOE(xs:List Int)(n:Int)(w:Ba)(e:Ending)(w':Ba):Prop:=∃A c,e=Am (.tuple #[I A xs.length c,O U n])/\Own w' w.heap.size (I A xs.length c) xs/\Ar w.heap.size w w'
theorem Z1(s:Sy)(q:Nat):(jr s q).length=s.xs.length*(s.p.k.toNat+1):=by unfold jr;rw[LJ,kM _ _ (by omega)]
theorem keyL_at(s:Sy)(q i:Nat)(h:i<(jr s q).length):(jr s q)[i]=xw (s.xs.getD (i / (s.p.k.toNat+1)) default) (i % (s.p.k.toNat+1)) q:=by
 have h2:i<(zu (s.p.k.toNat+1) 0 s.xs.length).length:=by have:=h;unfold jr at this;simpa using this
 have:(jr s q)[i]=xw (s.xs.getD ((zu (s.p.k.toNat+1) 0 s.xs.length)[i]).1 default) ((zu (s.p.k.toNat+1) 0 s.xs.length)[i]).2 q:=by unfold jr;exact LS ..
 rw[this,prs_at _ _ (by omega)]
theorem cls1_any(s:Sy)(K N:Nat)(hF:Fine s K N)(e k q:Nat)(he:e<s.xs.length)(hk:k<=K)(hq:q<N)(A SV AV AX:Bb)(kc ks kv kx bs bp:Nat)(w:Ba)(hX:XAt w w.heap.size AX s.xs)
  (hb:w.heap[bs]?=J (Ai (s.vs_ A kc SV ks AV kv AX kx) 35 (0,0))) (hp:w.heap[bp]?=J (Ai #[O U (q:Int)] 3 (0,0))) :
  As Aq 98 #[Ak #[O U (e:Int),O U (k:Int)],Al (J ⟨bs,0,Z⟩),Al (J ⟨bp,0,Z⟩)] w fun r w'=>r=Am (O U (xw s.xs[e] k q))/\Ar w.heap.size w w':=by
 obtain⟨w1,ab,d0,aK,hB⟩:=zk w #[O U (e:Int),O U (k:Int)] 164;have mw:=Ld he;obtain⟨dI,aR⟩:=hF.views _ mw;obtain⟨bx,ox,A1,c1,A2,c2,eX,bk,x0,x1,x2,ii,sN⟩:=(hX.keep hB).row e he;subst eX;obtain⟨x,hx⟩:∃x,x=s.xs[e]:=⟨_,rfl⟩;rw[<-hx] at dI aR x2 sN ⊢;obtain⟨bl,ol,A3,c3,eL,aL,y1,hI⟩:=sN.at_ k (by omega);subst eL;obtain⟨hl,nM⟩:=aR _ (Ld (by omega:k<x.views.length));have rI:∀row,x.views[k]'(by omega)=row->xw x k q=row.getD q 0:=fun row hr=>by unfold xw;rw[zt (by omega:k<x.views.length),hr]
 obtain⟨row,pk⟩:=Ki (x.views[k]'(by omega));rw[rI row pk];rw[pk] at y1 hI hl;obtain⟨b4,o4,e4,aG,z4⟩:=hI.at_ q (by omega);subst e4;have fZ:row[q]'(by omega)=row.getD q 0:=by rw[Lk,Ln (by omega)];rfl
 rw[fZ] at z4;obtain⟨u,hu⟩:=Ki (row.getD q 0);rw[hu] at z4 ⊢;obtain⟨nv,oQ⟩:=Ki x.views.length;rw[oQ] at x2 dI;obtain⟨nr,Ik⟩:=Ki row.length;rw[Ik] at y1 hl;have ai:=zH ab;have HB:=zH hB;obtain⟨g0,g1,_⟩:=Ka d0;have p0:=zh (La hB hp) 0 rfl;have p9:w1.cell? ⟨bs,9,Z⟩=J (I (J ⟨bx,ox,Z⟩) s.xs.length kx):=zh (La hB hb) 9 rfl;have h1:(0:Int)<=(e:Int):=by omega
 have h2:(e:Int)<(s.xs.length:Int):=by omega
 have h3:(0:Int)<=(k:Int):=by omega
 have h4:(k:Int)<(nv:Int):=by omega
 have h5:(0:Int)<=(q:Int):=by omega
 have h6:(q:Int)<(nr:Int):=by omega
 clear ab d0 hB hX hb hp hF fZ hu oQ Ik hx ii sN hI nM aR mw rI pk x0 x1 hl dI;go_enter func98,ntmps98;go_wp2_with fail;rw[ai.out];go_quiet (fail);go_wp2_with fail;go_ret;exact⟨rfl,zP HB.out _⟩
theorem Zc{w w':Ba}(h:Wrote (fun _=>False) w w'):Ar w.heap.size w w':=⟨h.os,h.tape,h.output,h.size,fun k hk=>h.block k hk (fun h=>h)⟩
theorem classes_any(s:Sy)(hs:LowS s)(hf:xz s.p)(p:Int)(A SV AV AX:Bb)(kc ks kv kx:Nat)(w:Ba)(hS:SyAt w w.heap.size A SV AV AX s) :
  As Aq 56 #[.agg (s.vs_ A kc SV ks AV kv AX kx),O U p] w (RetOE (clsE s p).1 (clsE s p).2 w):=by
 obtain⟨w1,ab,d0,d1,aK,hB⟩:=yV w (s.vs_ A kc SV ks AV kv AX kx) #[O U p] 35 3;have HV:=zH (wh s hs hf A SV AV AX kc ks kv kx w1 (hS.up hB));have mG:=zH (hS.up hB);have HE:Aw (clsE s p=if yh s≠0 then ([],yh s) else if p<0\/s.n<=p then ([],2) else (yB s p.toNat,0)):=rfl;have nD:=zH (fun h=>yJ hf h)
 have Cm:=zH (fun (K N q:Nat) (hF:Fine s K N) (hq:q<N) (X:Ba) (hX:SyAt X X.heap.size A SV AV AX s) (bs bp:Nat) (hb:X.heap[bs]?=J (Ai (s.vs_ A kc SV ks AV kv AX kx) 35 (0,0))) (hp:X.heap[bp]?=J (Ai #[O U (q:Int)] 3 (0,0)))=>
  Jo s K s.xs.length (by have:=hF.k6;omega) (by have:=hF.lx;omega) hF.k rfl A SV AV AX kc ks kv kx 98 #[Al (J ⟨bs,0,Z⟩),Al (J ⟨bp,0,Z⟩)]
   (Pg func98 (by kernel_rfl) rfl) (fun x=>xw (s.xs.getD x.1 default) x.2 q) (fun _=>False)
   (fun W=>XAt W X.heap.size AX s.xs/\W.heap[bs]?=J (Ai (s.vs_ A kc SV ks AV kv AX kx) 35 (0,0))/\W.heap[bp]?=J (Ai #[O U (q:Int)] 3 (0,0))/\X.heap.size<=W.heap.size) X (fun _ h=>h.elim)
   ⟨hX.fx,hb,hp,Le _⟩
   (fun W W' h hw=>by
    have aL:Ar X.heap.size W W':=⟨hw.os,hw.tape,hw.output,hw.size,fun k hk=>hw.block k (by have:=h.2.2.2;omega) (fun h2=>by omega)⟩
    exact⟨h.1.keep aL,Lb aL (zj hb) h.2.1,Lb aL (zj hp) h.2.2.1,Lz h.2.2.2 hw.size⟩)
   (fun x hx W hJ hW=>by
    obtain⟨_,h1,h2⟩:=qC _ _ x hx;have he:x.1<s.xs.length:=by omega
    have:=cls1_any s K N hF x.1 x.2 q he (by omega) hq A SV AV AX kc ks kv kx bs bp W (hJ.1.more hJ.2.2.2) hJ.2.1 hJ.2.2.1;refine this.mono ?_;rintro r w' ⟨rfl,di⟩;rw[zt he]
    refine⟨rfl,⟨hJ.1.keep (di.mono hJ.2.2.2),La di hJ.2.1,La di hJ.2.2.1,Lz hJ.2.2.2 di.size⟩,Wrote.of_below di⟩))
 have mJ:=zH (fun (K q:Nat) (h:s.p.k=(K:Int))=>(by unfold yB jr;rw[h];rfl:yB s q=yE ((zu (K+1) 0 s.xs.length).map fun x=>xw (s.xs.getD x.1 default) x.2 q)));obtain⟨R,hR⟩:=Ki (clsE s p);obtain⟨r,hr⟩:=Ki (yh s);rw[hr] at HV HE nD;rw[hR] at HE ⊢;unfold Sy.vs_ at ab d0 HV Cm ⊢;have ai:=zH ab;have HB:=zH hB;have HD:=zH d0;have cN:=zH d1;have p5:=zh d0 5 rfl;have p6:=zh d0 6 rfl;have p7:=zh d0 7 rfl;have p8:=zh d0 8 rfl;have p9:=zh d0 9 rfl;clear ab d0 d1 hB hS hr hR hs hf;go_enter func56,ntmps56;go_wp2_with fail;rw[ai.out];go_wp2_with fail;refine HV.out.mono ?_;rintro e w2 ⟨rfl,ag⟩;have aw:=zH (HB.out.trans (ag.mono (by omega)));have dS:=zH (mG.out.up ag);have d0:=Lb ag (by omega:w.heap.size<w1.heap.size) HD.out;have d1:=Lb ag (by omega:w.heap.size+1<w1.heap.size) cN.out;clear p5 p6 p7 p8 p9 ag HV ai mG HD cN
 by_cases h0:r=0
 case neg=>
  have hR:Aw (R=([],r)):=HE.out.trans (Li h0);have e0:(r != 0)=AA:=by simpa using h0
  clear HE nD h0 d0 d1 Cm mJ;go_wp2_with fail
  go_ret2
  rw[hR.out];exact⟨Z,0,rfl,Own.nil _ _,aw.out⟩
 case pos=>
 subst h0;obtain⟨fi,K,N,hF⟩:=nD.out rfl;clear fi;have ij:R=if p<0\/s.n<=p then ([],2) else (yB s p.toNat,0):=HE.out.trans (Lg (by simp));have hn:=hF.n;have h5:=hF.n5;rw[hn] at ij;have au:=zH ij;have Cx:=zH hF;have sf:=zH d0;have q0:=zh d1 0 rfl;have q7:w2.cell? ⟨w.heap.size,7,Z⟩=J (O U (N:Int)):=by rw[<-hn];exact zh d0 7 rfl
 have cN:=zH d1;clear HE nD ij hF d0 d1 hn
 by_cases h1:p<0
 case pos=>
  have hR:Aw (R=([],2)):=au.out.trans (Li (.inl h1));clear au Cm mJ;go_wp2_with fail
  go_ret2
  rw[hR.out];exact⟨Z,0,rfl,Own.nil _ _,aw.out⟩
 case neg=>
 obtain⟨q,rfl⟩:=Lp (show 0<=p by omega);have e1:(decide ((q:Int)<0))=AC:=by simp
 by_cases h2:q<N
 case neg=>
  have hR:Aw (R=([],2)):=au.out.trans (Li (.inr (by omega)));have e2:(decide ((N:Int)<=(q:Int)))=AA:=by simp;omega
  have h3:(N:Int)<=(q:Int):=by omega
  clear au Cm mJ;go_wp2_with fail
  go_ret2
  rw[hR.out];exact⟨Z,0,rfl,Own.nil _ _,aw.out⟩
 have hR:Aw (R=(yB s q,0)):=au.out.trans (Lg (by omega));have HC:=zH (Cm.out K N q Cx.out h2 w2 dS.out w.heap.size (w.heap.size+1) sf.out cN.out);have bY:=mJ.out K q Cx.out.k;have hn:=Cx.out.n;rw[<-bY,hn] at HC;obtain⟨p0,p1,p2,p3,p4,p5,p6,_⟩:=Kf sf.out;have p8:=zh sf.out 8 rfl;have p9:=zh sf.out 9 rfl;clear au Cm mJ dS bY Cx hn;go_wp2_with fail
 all_goals first | (exfalso;omega) | skip
 refine HC.out.mono ?_;rintro e w3 ⟨v,rfl,ho,_,dV⟩;have HO:=zH ho;have aj:=Zc dV;have aJ:=zH (Lc aw.out aj);obtain⟨A6,k6,rfl,_,_,_⟩:=HO.out.form;go_wp2_with fail
 go_ret2
 rw[hR.out];exact⟨A6,k6,rfl,HO.out.low aw.out.size,aJ.out⟩
end
section
open Go.RowKit
theorem IAt.sameB{w w':Ba}{B:Nat}{A:Bb}{xs:List Int}(h:IAt w B A xs)(hb:∀k,k<B->w'.heap[k]?=w.heap[k]?):IAt w' B A xs:=fun h0=>by
 obtain⟨b,off,e,aa,hc⟩:=h h0;exact⟨b,off,e,aa,fun i hi=>(LH (hb b aa)).trans (hc i hi)⟩
theorem cnt_pos{a:Ad}(h:zQ a a.sts=0):∀(k:Nat) (s:Int),0<=s->s<a.sts.length->1<=yw a k s
 | 0,_,_,_=>Le _
 | k+1,s,h0,h1=>by
  have hl:s.toNat<a.sts.length:=by omega
  have he:a.at_ s=a.sts[s.toNat]:=by unfold Ad.at_;rw[Lk,Ln hl];rfl
  obtain⟨z1,z2⟩:=vh h _ (Ld hl)
  obtain⟨m,r,hm⟩:∃m r,a.sts[s.toNat]=m::r:=by
   cases hc:a.sts[s.toNat] with
   | nil=>rw[hc] at z1;simp at z1
   | cons m r=>exact⟨m,r,rfl⟩
  have In:m∈a.mvs:=NI.2 ⟨_,Ld hl,by rw[hm];simp⟩;obtain⟨_,_,z3,z4⟩:=qq h m In;have:=cnt_pos h k m.to z3 z4;unfold yw;rw[he,hm,L5,RB];omega
theorem xs_pos{s:Sy}(hf:xz s.p)(h:yh s=0):1<=s.xs.length:=by
 obtain⟨e,_⟩:=yJ hf h
 have h0:zY s.p=0:=by
  unfold yh at h
  by_cases h1:(yj s.p).2≠0
  . rw[Li h1] at h;exact absurd h h1
  by_cases h0:zY s.p=0
  . exact h0
  rw[xy h0] at h1;exact absurd h0 h1
 obtain⟨mP,su,_⟩:=yf h0;obtain⟨hc,_⟩:=xJ mP;rw[e];show 1<=(zK s.p (zD s.p)).2.length;have ha:=su;unfold qQ at ha
 have fh:zQ s.p.a s.p.a.sts=0/\1<=s.p.a.sts.length:=by
  split at ha
  . cases ha
  split at ha
  . cases ha
  rename_i h3
  split at ha
  . rename_i h4;exact absurd ha h4
  rename_i h4;exact⟨by simpa using h4,by omega⟩
 have:=cnt_pos fh.1 s.p.k.toNat 0 (Int.le_refl _) (by omega);rw[qI,Jj,Z2,xe];exact LU hc this
end
section
def ptn(s:Sy):Nat:=s.xs.length*(s.p.k.toNat+1)
def psG(s:Sy)(g:Int):List Nat:=zS g.toNat s.n.toNat
def yn(s:Sy)(g:Int):Int:=if yh s≠0 then yh s else if g<0\/2^s.n.toNat<=g then 2 else 0
def yi(s:Sy)(g:Int)(set:List Bool):Int:=if yn s g≠0 then yn s g else if set.length≠ptn s then 15 else 0
theorem jL(s:Sy)(q:Nat):(yB s q).length=ptn s:=by unfold yB;rw[yv,Z1];rfl
theorem psG_len(s:Sy)(g:Int):(psG s g).length<=s.n.toNat:=by unfold psG zS;exact Lz (RM _ _) (by simp)
theorem Xb{s:Sy}{g:Int}{set:List Bool}(h:yi s g set=0):yn s g=0/\set.length=ptn s:=by
 unfold yi at h
 by_cases h1:yn s g=0
 . rw[Lg (by simpa using h1)] at h
   refine⟨h1,?_⟩
   by_cases h2:set.length=ptn s
   . exact h2
   rw[Li h2] at h;cases h
 rw[Li h1] at h;exact absurd h h1
theorem ww{s:Sy}{g:Int}(h:yn s g=0):yh s=0/\0<=g/\g<2^s.n.toNat:=by
 unfold yn at h
 by_cases h1:yh s=0
 . rw[Lg (by simpa using h1)] at h
   refine⟨h1,?_⟩
   by_cases h2:g<0\/2^s.n.toNat<=g
   . rw[Li h2] at h;cases h
   omega
 rw[Li h1] at h;exact absurd h h1
theorem Qh{s:Sy}{g:Int}(hf:xz s.p)(h:yn s g=0):1<=ptn s/\ptn s<=700/\(psG s g).length<=5:=by
 obtain⟨h1,_,_⟩:=ww h;obtain⟨_,K,N,hF⟩:=yJ hf h1;have hx:=xs_pos hf h1;have hn:=hF.n;have fl:=hF.n5;have hk:=hF.k;have oF:=hF.k6;have tV:=hF.lx;refine⟨?_,?_,?_⟩
 . have:=LU hx (show 1<=s.p.k.toNat+1 by omega)
   unfold ptn;omega
 . have:=LU tV (show s.p.k.toNat+1<=7 by omega)
   unfold ptn;omega
 have:=psG_len s g;omega
end
section
open Go.RowKit
attribute [local go_sem] Oper.semAt_some
def okV(v:List Int):Bool:=decide (v.length<=10)
def okX(x:Exn):Bool:=decide (x.word.length<=10)&&decide (x.views.length<=10)&&x.views.all okV
def wP(s:Sy):Bool:=qR s.p&&decide (s.vs.length<=600)&&decide (s.xs.length<=70)&&s.xs.all okX
theorem jc{s:Sy}(hl:LowSy s)(h:wP s=AA):xz s.p/\¬(3<s.p.t.n/\s.p.t.n<=5)/\LowS s/\s.vs.length<=600/\s.xs.length<=70:=by
 unfold wP at h;simp only[Bool.and_eq_true,decide_eq_true_eq] at h;obtain⟨⟨⟨h1,h2⟩,h3⟩,_⟩:=h;obtain⟨f1,f2⟩:=few_x h1;exact⟨f1,f2,⟨hl.fp,by omega,by omega,hl.fe⟩,h2,h3⟩
theorem okX_word{x:Exn}(h:¬x.word.length<=10):okX x=AC:=by unfold okX;rw[Lj h];rfl
theorem okX_views{x:Exn}(h:¬x.views.length<=10):okX x=AC:=by unfold okX;rw[Lj h,Bool.and_false];rfl
theorem okX_all{x:Exn}(h1:x.word.length<=10)(h2:x.views.length<=10):okX x=x.views.all okV:=by unfold okX;rw[Lm h1,Lm h2];rfl
theorem fewS_any(s:Sy)(hl:LowSy s)(A SV AV AX:Bb)(kc ks kv kx:Nat)(w:Ba)(hS:SyAt w w.heap.size A SV AV AX s) :
  As Aq 4 #[.agg (s.vs_ A kc SV ks AV kv AX kx)] w fun e w'=>e=Am (Aj (wP s))/\Ar w.heap.size w w':=by
 obtain⟨w1,ab⟩:=Ki (w.alloc (Ai (s.vs_ A kc SV ks AV kv AX kx) 35));have aY:=zy w (Ai (s.vs_ A kc SV ks AV kv AX kx) 35);have aM:Ar w.heap.size w w1:=by rw[<-ab];exact ye w _
 have eP:w1.heap.size=w.heap.size+1:=by rw[<-ab];simp
 rw[ab] at aY;have HF:=zH (few_any s.p hl.fp A kc SV ks w1 (hS.up aM).fc (hS.up aM).fs);have HX:=zH (hS.up aM).fx;have dI:=hl.fv;have ed:=hl.fx;have HLX:=zH hl.fe;have NM:Aw (wP s=(qR s.p&&decide (s.vs.length<=600)&&decide (s.xs.length<=70)&&s.xs.all okX)):=rfl;obtain⟨r,hr⟩:=Ki (wP s);rw[hr] at NM ⊢;obtain⟨b,hb⟩:=Ki (qR s.p);rw[hb] at HF NM;unfold Pb.vs at HF;unfold Sy.vs_ at ab aY ⊢;have ai:=zH ab;have cJ:=zH aY;have ch:=zH aM;clear ab aY aM hS hl hr hb;go_enter func4,ntmps4;go_wp2_with fail;rw[ai.out];go_wp2_with fail;refine HF.out.mono ?_;rintro e w2 ⟨rfl,ag⟩;have aw:=zH (ch.out.trans (ag.mono (by omega)));have d0:=Lb ag (by omega:w.heap.size<w1.heap.size) cJ.out;have bK:=zH d0;have HX2:=zH ((HX.out.keep ag).more ag.size);have eQ:=ag.size;have x8:=zh d0 8 rfl;have x9:=zh d0 9 rfl
 cases b with
 | false=>
  have AS:Aw (r=AC):=NM.out;go_wp2_with fail
  all_goals
   go_ret;exact⟨zn AS.out.symm,aw.out⟩
 | true=>
 by_cases h8:s.vs.length<=600
 case neg=>
  have AS:Aw (r=AC):=NM.out.trans (by rw[Lj h8];rfl);go_wp2_with fail
  all_goals first | (exfalso;omega) | skip
  all_goals
   go_ret;exact⟨zn AS.out.symm,aw.out⟩
 case pos=>
 by_cases h9:s.xs.length<=70
 case neg=>
  have AS:Aw (r=AC):=NM.out.trans (by rw[Lj h9,Bool.and_false];rfl);go_wp2_with fail
  all_goals first | (exfalso;omega) | skip
  all_goals
   go_ret;exact⟨zn AS.out.symm,aw.out⟩
 case pos=>
 have HR:Aw (r=(s.xs.drop 0).all okX):=NM.out.trans (by rw[Lm h8,Lm h9,Nc];rfl);go_wp2_with fail
 all_goals first | (exfalso;omega) | skip
 go_loopw [3] (fun i wr=>∃k:Nat,k<=s.xs.length/\i=O U (k:Int)/\Aw (r=(s.xs.drop k).all okX)/\Aw (Ar w2.heap.size w2 wr)) (fun i _=>s.xs.length-(Au i).toNat)
 case atStart=>exact⟨0,by omega,rfl,HR,Ll _ _⟩
 obtain⟨k,hk,rfl,HR,hb⟩:=hrel;have d0:=Lb hb.out (by omega:w.heap.size<w2.heap.size) bK.out;have x9:=zh d0 9 rfl
 by_cases aa:k<s.xs.length
 case neg=>
  obtain rfl:k=s.xs.length:=by omega
  have Ti:Aw (r=AA):=HR.out.trans (by rw[NB];rfl);clear HR;go_wp2_with fail;go_ret;exact⟨zn Ti.out.symm,aw.out.trans (hb.out.mono (by omega))⟩
 obtain⟨bx,ox,A1,c1,A2,c2,eA,bk,y0,y1,y2,_,hL⟩:=(HX2.out.keep hb.out).row k aa;subst eA;obtain⟨x,hx⟩:=Ki (s.xs[k]);have rI:=HLX.out _ (Ld aa);have tn:s.xs.drop k=x::s.xs.drop (k+1):=by rw[LB aa,hx]
 have rZ:Aw (r=(okX x&&(s.xs.drop (k+1)).all okX)):=HR.out.trans (by rw[tn];rfl);rw[hx] at y0 y1 y2 hL rI;obtain⟨hxw1,hxw2,Ov⟩:=rI;have HXW:=zH Ov;have aX:=hb.out.size;have hbxw:bx<wr.heap.size:=by omega
 have dh:(0:Int)<=(k:Int):=by omega
 have aW:(k:Int)<(s.xs.length:Int):=by omega
 obtain⟨W3,fU,b3,eK,ct⟩:=zk wr #[O U x.c,I A1 x.word.length c1,I A2 x.views.length c2] 58;have io:=zH fU;have aJ:=zH (hb.out.trans (ct.mono aX));have sY:=zH b3;have HL:=zH ((hL.more aX).keep ct);have e9:W3.cell? ⟨w.heap.size,9,Z⟩=wr.cell? ⟨w.heap.size,9,Z⟩:=ct.cell (p:=⟨w.heap.size,9,Z⟩) (by show w.heap.size<_;omega);have z1:=zh b3 1 rfl;have z2:=zh b3 2 rfl;have US:=zH (e9.trans x9);clear fU ct b3 hL Ov hx tn HR e9
 by_cases h1:x.word.length<=10
 case neg=>
  have AS:Aw (r=AC):=rZ.out.trans (by rw[okX_word h1];rfl);clear rZ;go_wp2_with fail;rw[io.out];go_wp2_with fail
  all_goals first | (exfalso;omega) | skip
  all_goals
   go_ret;exact⟨zn AS.out.symm,aw.out.trans (aJ.out.mono (by omega))⟩
 case pos=>
 by_cases h2:x.views.length<=10
 case neg=>
  have AS:Aw (r=AC):=rZ.out.trans (by rw[okX_views h2];rfl);clear rZ;go_wp2_with fail;rw[io.out];go_wp2_with fail
  all_goals first | (exfalso;omega) | skip
  all_goals
   go_ret;exact⟨zn AS.out.symm,aw.out.trans (aJ.out.mono (by omega))⟩
 case pos=>
 have ND:Aw (r=((x.views.drop 0).all okV&&(s.xs.drop (k+1)).all okX)):=rZ.out.trans (by rw[okX_all h1 h2,Nc]);clear rZ;go_wp2_with fail;rw[io.out];go_wp2_with fail
 all_goals first | (exfalso;omega) | skip
 obtain⟨bE,hbE⟩:=Ki wr.heap.size;rw[hbE] at sY ⊢;obtain⟨wo,rfl⟩:∃y,y=wr:=⟨_,rfl⟩
 go_loopw [5] (fun i wx=>∃j n:Nat,j<=x.views.length/\i=O U (j:Int)/\wx=W3.drewN n/\Aw (r=((x.views.drop j).all okV&&(s.xs.drop (k+1)).all okX))) (fun i _=>x.views.length-(Au i).toNat)
 case atStart=>exact⟨0,0,by omega,rfl,rfl,ND⟩
 obtain⟨j,n,hj,rfl,rfl,ND⟩:=hrel;have z2:(W3.drewN n).cell? ⟨bE,2,Z⟩=J (I A2 x.views.length c2):=zh sY.out 2 rfl
 by_cases cq:j<x.views.length
 case neg=>
  obtain rfl:j=x.views.length:=by omega
  have Ti:Aw (r=(s.xs.drop (k+1)).all okX):=ND.out.trans (by rw[NB];rfl);clear ND;go_wp2_with fail
  go_roundw
  case rel=>exact⟨k+1,by omega,by go_num,Ti,zP aJ.out n⟩
  simp[Au];omega
 obtain⟨bl,ol,A3,c3,eA,aL,v0,_⟩:=HL.out.at_ j cq;subst eA;obtain⟨v,hv⟩:=Ki (x.views[j]);have hvl3:=HXW.out _ (Ld cq);have tn:x.views.drop j=v::x.views.drop (j+1):=by rw[LB cq,hv]
 have rZ:Aw (r=((okV v&&(x.views.drop (j+1)).all okV)&&(s.xs.drop (k+1)).all okX)):=ND.out.trans (by rw[tn];rfl);rw[hv] at v0 hvl3;have v1:(W3.drewN n).cell? ⟨bl,ol+j,Z⟩=J (I A3 v.length c3):=v0;have CP:(0:Int)<=(j:Int):=by omega
 have rN:(j:Int)<(x.views.length:Int):=by omega
 clear tn hv v0 ND
 by_cases h3:v.length<=10
 case neg=>
  have AS:Aw (r=AC):=rZ.out.trans (by unfold okV;rw[Lj h3];rfl);clear rZ;go_wp2_with fail
  all_goals first | (exfalso;omega) | skip
  go_ret;exact⟨zn AS.out.symm,aw.out.trans ((zP aJ.out n).mono (by omega))⟩
 have Ti:Aw (r=((x.views.drop (j+1)).all okV&&(s.xs.drop (k+1)).all okX)):=rZ.out.trans (by rw[show okV v=AA from Lm h3];rfl);clear rZ;go_wp2_with fail
 all_goals first | (exfalso;omega) | skip
 go_roundw
 case rel=>exact⟨j+1,n,by omega,by go_num,rfl,Ti⟩
 simp[Au];omega
end
section
def exMv(p:Int):Mv:=⟨⟨2,p,3,0,0,0,0⟩,0⟩
def exC1:Cs:=⟨[0,0],[[0,0]],[]⟩
def exC2:Cs:=⟨[0,1],[[0,0]],[]⟩
def XQ:Pb:=⟨⟨2,2,1,[exC1,exC2]⟩,⟨2,[[exMv 1,exMv 3]]⟩,1⟩
def yA:Sy:=(yj XQ).1
theorem ex_few:qR XQ=AA:=by decide +kernel
theorem JD:xz XQ:=(few_x ex_few).1
theorem ex_ok:(yj XQ).2=0:=by decide +kernel
theorem ex_low:LowP XQ:=by
 refine⟨⟨by decide,fun c hc=>?_⟩,by decide,fun l hl=>?_⟩
 . have:c=exC1\/c=exC2:=by simpa[XQ] using hc
   rcases this with rfl | rfl
   . refine⟨by decide,by decide,by decide,fun v hv=>?_,fun v hv=>?_⟩
     . have:v=[0,0]:=by simpa[exC1] using hv
       subst this;decide
     simp[exC1] at hv
   refine⟨by decide,by decide,by decide,fun v hv=>?_,fun v hv=>?_⟩
   . have:v=[0,0]:=by simpa[exC2] using hv
     subst this;decide
   simp[exC2] at hv
 have:l=[exMv 1,exMv 3]:=by simpa[XQ] using hl
 subst this;decide
theorem j6:LowS yA:=gW ex_low JD
theorem exs_p:yA.p=XQ:=by decide +kernel
theorem JC:yA.xs.length=4/\yA.n=2:=by decide +kernel
theorem Z9:yh yA=0:=by decide +kernel
theorem jd:xz yA.p:=by rw[exs_p];exact JD
theorem Ya:yB yA 0=[0,1,0,2,0,1,0,3]/\yB yA 1=[0,1,0,1,2,3,2,3]:=by decide +kernel
theorem qw:psG yA 3=[0,1]/\psG yA 2=[1]/\ptn yA=8:=by decide +kernel
theorem exs_read:yn yA 3=0/\yn yA 2=0:=by
 unfold yn;rw[Z9];decide +kernel
def yq:List Bool:=[AC,AC,AC,AC,AA,AA,AA,AA]
theorem ud:yi yA 3 yq=0/\yi yA 2 yq=0:=by
 unfold yi;rw[exs_read.1,exs_read.2,qw.2.2];decide
def wQ(q:Nat):List Int:=if q=0 then [0,1,0,2,0,1,0,3] else if q=1 then [0,1,0,1,2,3,2,3] else []
end
section
theorem hear_row{r:Rd}(h:xj r=0)(p:Nat)(hp:p<5):qj r.n p (r.h p)=0:=by
 unfold xj at h
 split at h
 . cases h
 have key : ∀ k, k <= 5 -> yY r (5 - k) k = 0 -> ∀ q, k <= q -> q < 5 -> qj r.n q (r.h q) = 0 := by
  intro k hk
  induction hm:5-k generalizing k with
  | zero=>intro _ q h1 h2;omega
  | succ m ih=>
   intro hz q h1 h2;unfold yY at hz
   split at hz
   . rename_i bj;exact absurd hz bj
   . rename_i bj
     by_cases e:q=k
     . subst e;simpa using bj
     . exact ih (k+1) (by omega) (by omega) hz q (by omega) h2
 exact key 0 (by omega) h p (by omega) hp
theorem QE{r:Rd}{N:Nat}(h:yD r=0)(hn:r.n=(N:Int))(h5:N<=5){q:Nat}(hq:q<N):∃m:Nat,r.h q=(m:Int)/\m<2^N/\m.testBit q=AA:=by
 have h1:=hear_row (kX h).2.2.1 q (by omega);unfold qj at h1;rw[Lg (by omega)] at h1
 split at h1
 . cases h1
 rename_i hb
 split at h1
 . rename_i ht
   rw[hn,Lo] at hb;obtain⟨m,hm⟩:=Lp (show 0<=r.h q by omega);rw[hm] at hb ht ⊢;have hp:=Nat.two_pow_pos N;exact⟨m,rfl,by omega,by simpa using ht⟩
 cases h1
section
variable {s:Sy} {K N:Nat}
theorem Fine.row(hF:Fine s K N){x:Exn}(hx:x∈s.xs){k:Nat}(hk:k<=K):(x.views.getD k []).length=N/\∀i∈x.views.getD k [],0<=i/\i<s.vs.length:=by
 obtain⟨hl,h⟩:=hF.views x hx;have iH:k<x.views.length:=by omega
 rw[Lk,Ln iH];exact h _ (Ld iH)
theorem Fine.round(hF:Fine s K N){x:Exn}(hx:x∈s.xs){k:Nat}(hk:k<K):yD (x.word.getD k default)=0/\(x.word.getD k default).n=(N:Int):=by
 obtain⟨hl,h⟩:=hF.word x hx;have iH:k<x.word.length:=by omega
 rw[Lk,Ln iH];exact h _ (Ld iH)
end
end
section
open Go.RowKit
theorem made_row(n:Nat):madeCells #[O U 0] (n*1)=((List.replicate n 0).map (O U)).toArray:=by
 unfold madeCells;apply Array.ext
 . simp
 intro i h1 h2;simp[Nat.mod_one]
theorem gJ(n:Nat)(hn:n<=100000)(W:Ba):(Instr.makeSlice 36 (O U n) (O U n)).run Aq W=.ok (I (J ⟨W.heap.size,0,Z⟩) n n) (W.alloc (Ai ((List.replicate n 0).map (O U)).toArray 3)):=by
 obtain⟨i0,hi,ec,cO,dP⟩:=xu Y3;have hb:i0.bytes=8:=dP;have hs:i0.size=1:=cO;have h:=run_make (P:=Aq) W 36 3 i0 (O U 0) Nm hi ec U U (n:Int) (n:Int) (by omega) (Int.le_refl _) (by rw[hb];omega) (by omega);rw[h,hs];simp only[Int.toNat_natCast];rw[show(O U 0).cells=#[O U 0] from rfl,made_row]
theorem repeatN_any(n b:Nat)(h1:1<=n)(h5:n<=100000)(u:Int)(w:Ba)(hb:w.heap[b]?=J (Ai #[O U u] 3 (0,0))) :
  As Aq 45 #[I (J ⟨b,0,Z⟩) 1 1,O U n] w fun e w'=>∃g,e=Am (I (J ⟨g,0,Z⟩) n n)/\w.heap.size<=g/\RowAt w' g (List.replicate n u)/\Ar w.heap.size w w':=by
 have eq:=gJ n h5;obtain⟨ar,pC⟩:∃ar:List Ax,(List.replicate n 0).map (O U)=ar:=⟨_,rfl⟩;rw[pC] at eq;have sK:ar.length=n:=by rw[<-pC];simp
 have hc:=zh hb 0 rfl;have aL:=zj hb;have hm:=Tryz.bits_Mul 1 n (by omega) (by omega) w;have e1:(1*n / 18446744073709551616:Nat)=0:=by omega
 have e2:(1*n % 18446744073709551616:Nat)=n:=by omega
 rw[e1,e2] at hm;have MI:¬(n:Int)<0:=by omega
 go_enter func45,ntmps45;go_wp2_with fail;refine hm.mono ?_;rintro e w1 ⟨rfl,ab⟩;obtain rfl:=ab;obtain⟨W0,dN,b0,aX,ce⟩:=zk w1 ar.toArray 3;have hx:W0.cell? ⟨b,0,Z⟩=J (O U u):=(ce.cell (p:=⟨b,0,Z⟩) aL).trans hc;have BB:=zH ce;have BX:=zH b0;have HX:=zH hx;go_wp2_with ((refine R9 rfl (.tmp 31) (.tmp 32) 36 36 rfl 3 Nm wk (J ⟨w1.heap.size,0,Z⟩) (J ⟨b,0,Z⟩) n n 1 1 rfl rfl w1.heap.size 0 ar 3 BX.out [O U u] (by simp[Nat.min_def];omega) (fun _=>⟨rfl,_,rfl,Jn HX.out⟩) (by simp;omega) (by simp[Value.oneCell']) w1.heap.size w1 BB.out (Le _) ?_);intro w2 ef ag);obtain⟨g,hg⟩:=Ki w1.heap.size;have s1:=qX (cur:=ar) (x:=O U u) (k:=0) (m:=1) (n:=n) sK (by simp) (by omega);have S1:=zH s1;have tC:=zH hg;rw[hg] at ef ag ⊢
 go_loopw [8] (fun l wr=>∃(k:Nat) (cur:List Ax),1<=k/\k<=n/\l=O U k/\Aw (cur.length=n)/\Aw (cur.take k=List.replicate k (O U u))/\Aw (wr.heap[g]?=J (Ai cur.toArray 3 (0,0)))/\Ar g w1 wr) (fun l _=>n-(Au l).toNat)
 case atStart=>exact⟨1,splice ar 0 [O U u],by omega,h1,rfl,S1.out.2,S1.out.1,ef,ag⟩
 obtain⟨k,cur,aW,MN,rfl,aP,AD,ah,iT⟩:=hrel
 by_cases aa:k<n
 . clear S1 ef ag
   have dh:(0:Int)<=(k:Int):=by omega
   have iH:(k:Int)<=(n:Int):=by omega
   have bj:¬n=k:=by omega
   go_upto_region 9 with fail
   obtain⟨d,hd⟩:=Ki (n-k);obtain⟨m,hm⟩:=Ki (Nat.min k d);have lO:min k d=m:=hm;have po:1<=m:=by omega
   have fC:k+m<=n:=by omega
   have V7:m<=k:=by omega
   have oM:∀j v,(List.replicate m (O U u))[j]?=J v->wr.cell? ((⟨g,0,Z⟩:Addr).add j)=J v:=by
    intro j v hj;have P5:j<m:=by have:=(Lv.1 hj).1;simpa using this
    rw[NY,Li P5] at hj
    cases hj
    rw[Pn,LO];refine zh ah.out j ?_;rw[RN];have h2:=congrArg (fun l=>l[j]?) AD.out;simp only[List.getElem?_take,List.getElem?_replicate] at h2;rwa[Li (by omega),Li (by omega)] at h2
   have SP:=zH (qX (cur:=cur) (x:=O U u) (k:=k) (m:=m) (n:=n) aP.out AD.out fC);have Ch:=zH oM;have HM:=zH hm;have mr:=zH iT;have aK:IntKind.i64.wrap ((k:Int)+(m:Int))=(k:Int)+(m:Int):=SG _ (by omega);have mG:=zH aK;clear oM hm iT aK
   go_region_law ((refine Sr (by rfl) (.tmp 41) (.tmp 44) 36 36 (by rfl) 3 Nm wk (J ⟨g,k,Z⟩) (J ⟨g,0,Z⟩) d d k n (by simp[go_sem]) (by simp[go_sem]) g k cur 3 ah.out (List.replicate m (O U u)) (by rw[LQ];exact HM.out.symm) (fun _=>⟨rfl,_,rfl,Ch.out⟩) (by rw[LQ,aP.out];exact fC) (by intro v hv;rw[RD hv];rfl) g w1 mr.out.drew (Le _) ?_;intro w3 mA aj;rw[LQ]))
   all_goals
    rw[mG.out];go_wp2_with fail
    go_frame
    go_roundw
    case rel=>
     (repeat apply Exists.intro)
     exact⟨⟨k+m,splice cur k (List.replicate m (O U u)),by omega,by omega,rfl,SP.out.2,SP.out.1,mA,aj⟩,by first | rfl | (go_frame;rfl) | (simp[Act.put];done)⟩
    case measure=>simp[Au];omega
 obtain rfl:k=n:=by omega
 go_wp2_with fail;go_ret;refine⟨g,rfl,by have:=tC.out;omega,?_,by have:=tC.out;rw[this];exact iT⟩;unfold RowAt;have e:=AD.out;rw[Nd (by have:=aP.out;omega)] at e;rw[ah.out,e];simp
end
section
open Go.RowKit Go.Shelf
attribute [local go_sem] Oper.semAt_some
theorem shl_one{N:Nat}(h:N<=5):(2^((N:Int)).toNat:Int)=((2^N:Nat):Int):=by
 obtain rfl | rfl | rfl | rfl | rfl | rfl:N=0\/N=1\/N=2\/N=3\/N=4\/N=5:=by omega
 all_goals rfl
theorem own_on{W W9:Ba}{base:Nat}{A:Bb}{n c:Nat}{xs:List Int}(ho:Own W base (I A n c) xs)(h:∀k,base<=k->k<W.heap.size->W9.heap[k]?=W.heap[k]?):IAt W9 W.heap.size A xs:=fun h0=>by
 obtain⟨A',c',e',_,_,hI⟩:=ho.form;simp only[Value.slice.injEq] at e';obtain⟨Kn,-,-⟩:=e';subst Kn;obtain⟨b,off,e,aa,hc⟩:=hI h0;subst e;have hb:=(ho.lt b rfl).1;exact⟨b,off,rfl,aa,fun i hi=>(LH (h b hb aa)).trans (hc i hi)⟩
def Xz(xs:List Int)(w:Ba)(e:Ending)(w':Ba):Prop:=∃A c,e=Am (I A xs.length c)/\Own w' w.heap.size (I A xs.length c) xs/\Ar w.heap.size w w'
theorem rlabels_any(A:Bb)(cap:Nat)(am:List Int)(hl:am.length<=100000)(w:Ba)(hA:IAt w w.heap.size A am) :
  As Aq 157 #[I A am.length cap] w (Xz (yE am) w):=by
 have HA:=zH hA;go_enter func157,ntmps157;go_wp2_with fail
 go_loopw [3,4,5] (fun o nx i wr=>∃k:Nat,k<=am.length/\i=O U (k:Int)/\nx=O U (((yC (am.take k)).length:Nat):Int)/\Aw (Own wr w.heap.size o (yE (am.take k)))/\Aw (Ar w.heap.size w wr)) (fun _ _ i _=>am.length-(Au i).toNat)
 case atStart=>exact⟨0,by omega,rfl,rfl,Own.nil _ _,Ll _ _⟩
 obtain⟨k,hk,rfl,rfl,HO,hb⟩:=hrel;obtain⟨Ao,co,rfl,_,_,M7⟩:=HO.out.form;have aU:(yE (am.take k)).length=k:=by rw[yv];simp;omega
 rw[aU] at HO ⊢
 by_cases aa:k<am.length
 . have so:(yC (am.take k)).length<=100000:=by have:=X3 (am.take k);simp at this;omega
   obtain⟨b,off,eA,aL,z0⟩:=(HA.out.keep hb.out).at_ k aa;subst eA;obtain⟨y,hy⟩:=Ki (am[k]);rw[hy] at z0;have HI:=zH (HA.out.keep hb.out);have UM:=zH M7;have HKY:=zH hy;have bY:(k:Int)<(am.length:Int):=by omega
   have eo:=qZ (am.take k) y;have fF:=qt (am.take k) y;have iG:am.take k++[y]=am.take (k+1):=by rw[Lr aa,hy]
   rw[iG] at eo fF;have ni:=zH eo;have Ur:=zH fF;have aQ:b<wr.heap.size:=by have:=hb.out.size;omega
   obtain⟨NX,pE⟩:=Ki ((yC (am.take k)).length);rw[pE] at so ⊢;have pL:=zH pE;obtain⟨wo,Oy⟩:∃wo,wo=wr:=⟨_,rfl⟩;rw[<-Oy] at HO hb HI UM z0 aQ ⊢;clear M7 eo fF iG aU pE Oy;have hk00:(0:Int)<=(k:Int):=by omega
   go_wp2_with fail
   go_loopw [6,7] (fun lb j wq=>∃m q:Nat,m<=k/\j=O U (m:Int)/\Aw (wq=wo.drewN q)/\((lb=O U (-1)/\Aw (∀i,i<m->am.getD i 0≠y))\/∃x:Nat,lb=O U (x:Int)/\Aw (y∈am.take k/\x=(yC (am.take k)).idxOf y/\x<=100000))) (fun _ j _=>k-(Au j).toNat)
   case atStart=>exact⟨0,0,by omega,rfl,rfl,.inl ⟨rfl,fun i hi=>absurd hi (by omega)⟩⟩
   obtain⟨m,q,hm,rfl,hw,oE⟩:=hrel;rcases oE with ⟨rfl,eM⟩ | ⟨x,rfl,hx⟩
   . by_cases eq:m<k
     . obtain⟨b1,On,TF,SS,z1⟩:=HI.out.at_ m (by omega)
       cases TF
       obtain⟨b2,off2,TE,iT,z2⟩:=UM.out.at_ m (by rw[yv];simp;omega);subst TE;have nz:Aw (∀p,wr.cell? p=wo.cell? p):=fun p=>by rw[hw.out];rfl
       have u0:=(nz.out _).trans z0;have u1:=(nz.out _).trans z1;have u2:=(nz.out _).trans z2;obtain⟨t,ht⟩:=Ki (am[m]'(by omega));rw[ht] at u1
       have Ip:(yE (am.take k))[m]'(by rw[yv];simp;omega)=(((yC (am.take k)).idxOf t:Nat):Int):=by
        rw[jY _ m (by simp;omega)];rw[Ph,ht]
       rw[Ip] at u2;have lO:(0:Int)<=(m:Int):=by omega
       have po:(m:Int)<(k:Int):=by omega
       have fC:(m:Int)<(am.length:Int):=by omega
       have hgm:am.getD m 0=t:=by rw[xL (by omega)];exact ht
       have HGM:=zH hgm
       have htm:t∈am.take k:=by
        rw[<-ht];exact N4.2 ⟨m,by omega,rfl⟩
       have tx:=zH htm;obtain⟨ix,DM⟩:=Ki ((yC (am.take k)).idxOf t);rw[DM] at u2;have tB:=zH DM
       by_cases H8:t=y
       . subst H8
         have hxx:Aw (t∈am.take k/\ix=(yC (am.take k)).idxOf t/\ix<=100000):=⟨tx.out,tB.out.symm,by
          have h1:=Pm (yp.2 tx.out);rw[tB.out] at h1;have h2:=pL.out
          omega⟩
         go_wp2_with fail;go_quiet (fail);go_wp2_with fail
         go_roundw
         case rel=>exact⟨m+1,q+nq,by omega,by go_num,by rw[Aw,hw.out,je],.inr ⟨ix,rfl,hxx⟩⟩
         simp[Au];omega
       have oR : Aw (∀ i, i < m + 1 -> am.getD i 0 ≠ y) := fun i hi => by
        by_cases e:i=m
        . subst e;rw[HGM.out];exact H8
        . exact eM.out i (by omega)
       go_wp2_with fail;go_quiet (fail);go_wp2_with fail
       go_roundw
       case rel=>exact⟨m+1,q+nq,by omega,by go_num,by rw[Aw,hw.out,je],.inl ⟨rfl,oR⟩⟩
       simp[Au];omega
     obtain rfl:m=k:=by omega
     have O5:y∉am.take m:=fun dm=>by
      obtain⟨i,hi,e⟩:=N4.1 dm;exact eM.out i (by omega) (by rw[xL (by omega)];exact e)
     have dS:Aw (yE (am.take (m+1))=yE (am.take m)++[(NX:Int)]):=by rw[Aw,ni.out,Lg O5,pL.out]
     have iB:Aw ((yC (am.take (m+1))).length=NX+1):=by
      rw[Aw,Ur.out];unfold qi;rw[Lg (fun e=>O5 (yp.1 e)),Lw,pL.out];rfl
     have DY:Aw (Own wr w.heap.size (I Ao m co) (yE (am.take m))):=by rw[hw.out];exact HO.out.drewN q
     have aA:Aw (Ar w.heap.size w wr):=by rw[hw.out];exact zP hb.out q
     have nP:(yE (am.take m)).length<=100000:=by rw[yv];simp;omega
     go_wp2_with (at_builtin;go_must (refine xd rfl _ _ rfl w.heap.size (I Ao m co) _ (NX:Int) rfl DY.out rfl (by omega) aA.out.size ?_);intro v' w5 aI fD aq)
     go_roundw
     case rel=>exact⟨m+1,by omega,by go_num,by rw[iB.out];go_num,by rw[dS.out];exact aI,aA.out.trans aq⟩
     simp[Au];omega
   have dS:Aw (yE (am.take (k+1))=yE (am.take k)++[(x:Int)]):=by rw[Aw,ni.out,Li hx.out.1,hx.out.2.1]
   have iB:Aw ((yC (am.take (k+1))).length=NX):=by
    rw[Aw,Ur.out];unfold qi;rw[Li (yp.2 hx.out.1),pL.out]
   have DY:Aw (Own wr w.heap.size (I Ao k co) (yE (am.take k))):=by rw[hw.out];exact HO.out.drewN q
   have aA:Aw (Ar w.heap.size w wr):=by rw[hw.out];exact zP hb.out q
   have nP:(yE (am.take k)).length<=100000:=by rw[yv];simp;omega
   have oK:¬(x:Int)<0:=by omega
   by_cases eq:m<k
   . have po:(m:Int)<(k:Int):=by omega
     go_wp2_with (at_builtin;go_must (refine xd rfl _ _ rfl w.heap.size (I Ao k co) _ (x:Int) rfl DY.out rfl (by omega) aA.out.size ?_);intro v' w5 aI fD aq)
     go_roundw
     case rel=>exact⟨k+1,by omega,by go_num,by rw[iB.out],by rw[dS.out];exact aI,aA.out.trans aq⟩
     simp[Au];omega
   have po:¬(m:Int)<(k:Int):=by omega
   go_wp2_with (at_builtin;go_must (refine xd rfl _ _ rfl w.heap.size (I Ao k co) _ (x:Int) rfl DY.out rfl (by omega) aA.out.size ?_);intro v' w5 aI fD aq)
   go_roundw
   case rel=>exact⟨k+1,by omega,by go_num,by rw[iB.out],by rw[dS.out];exact aI,aA.out.trans aq⟩
   simp[Au];omega
 obtain rfl:k=am.length:=by omega
 have tu:=HO.out;rw[LC] at tu;have HO9:=zH tu;go_wp2_with fail;go_ret;refine⟨Ao,co,by rw[yv];rfl,?_,hb.out⟩;rw[yv];exact HO9.out
def vg(a b:List Int)(k:Nat):List Int:=a.take k++b.drop k
theorem Qr(a b:List Int):vg a b 0=b:=by simp[vg]
theorem midL_all{a b:List Int}(h:a.length=b.length){k:Nat}(hk:k=b.length):vg a b k=a:=by subst hk;simp[vg,<-h]
theorem wG{a b:List Int}(h:a.length=b.length)(k:Nat):(vg a b k).length=b.length:=by simp[vg];omega
theorem Jv{a b:List Int}(h:a.length=b.length){k:Nat}(hk:k<b.length):(vg a b k)[k]'(by rw[wG h];exact hk)=b[k]:=by
 unfold vg;rw[N5 (by simp;omega)];simp[show min k a.length=k by omega]
theorem midL_get{a b:List Int}(h:a.length=b.length){k:Nat}(hk:k<=b.length)(i:Nat):(vg a b k)[i]?=if i<k then a[i]? else b[i]?:=by
 unfold vg
 by_cases e:i<k
 . rw[Li e,LY (by simp;omega),NU,Li e]
 rw[Lg e,LW (by simp;omega),Rp]
 congr 1
 simp;omega
theorem YU{a b:List Int}(h:a.length=b.length){k:Nat}(hk:k<b.length):(vg a b k).set k (a[k]'(by omega))=vg a b (k+1):=by
 refine Sp fun i=>?_
 rw[P6,midL_get h (by omega),midL_get h (by omega),wG h]
 by_cases e:k=i
 . subst e
   rw[Li rfl,Li hk,Li (by omega),Ln]
 rw[Lg e]
 by_cases e2:i<k
 . rw[Li e2,Li (by omega)]
 rw[Lg e2,Lg (by omega)]
theorem Qs{a b:List Int}(h:a.length=b.length){k:Nat}(hk:k<b.length)(e:a[k]'(by omega)=b[k]):vg a b k=vg a b (k+1):=by
 rw[<-YU h hk,e,<-Jv h hk];exact(List.set_getElem_self _).symm
theorem RowAt.iat{w:Ba}{g:Nat}{xs:List Int}(h:RowAt w g xs):IAt w w.heap.size (J ⟨g,0,Z⟩) xs:=fun _=>⟨g,0,rfl,h.lt,fun i hi=>by rw[LO];exact h.cell i hi⟩
end
end Go.Proofs.YtjedjoeidcbffaaGreatDoor
