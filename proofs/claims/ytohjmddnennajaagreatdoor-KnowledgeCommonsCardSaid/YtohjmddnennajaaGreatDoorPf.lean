/- Parts BtC RBld RVer Hav Rel CmnS FmlP TemA OpenR LabP BfsP RfP PtsA Box PtsB PtsN Sees PtsC CmnA CmnG CmnP FewS ExF39 Det RepN CmnR Rf36 CmnC CmnD. -/
import Derived.Test.YtohjmddnennajaaGreatDoorProg
import Derived.Test.YtohjmddnennajaaGreatDoorPe
import Derived.Test.YtohjmddnennajaaGreatDoorPd
import Derived.Test.YtohjmddnennajaaGreatDoorPc
import Derived.Deep.QuietTactic
import Derived.BigQuiet
import Derived.Laws.MakeOwn
import Derived.Test.YtohjmddnennajaaGreatDoorPa
import Derived.ChangeArms
import Derived.LaidMore
import Derived.Shelf.Vars
import Derived.Test.YtohjmddnennajaaGreatDoorPb
import Derived.Laws.EntriesVeiled
import Derived.Laws.CopyOwn
import Derived.Deep.RegionLaw
import Derived.StillTactics
import Derived.IntWalk
import Derived.Deep.DeepCutAuto
import Derived.Maps.RangeWalk
import Derived.Carry
import Derived.Deep.LoopGhost

namespace Go.Proofs.YtohjmddnennajaaGreatDoor
abbrev PT:=@Nat.le_of_lt
abbrev PC:=@Go.Proofs.Tryz.results33
abbrev NM:=@Go.Proofs.Tryz.underlying36
abbrev Pc:=@List.foldl_cons
abbrev Sd:=@Go.Proofs.Tryz.results65
abbrev Pw:=@Go.DataW.trod_bool
abbrev Pj:=@Go.Proofs.Tryz.underlying4
abbrev Sg:=@Go.MakeChecks.laidMetH_plain
abbrev RL:=@Go.Proofs.Tryz.func141
abbrev Sh:=@List.mem_take_iff_getElem
abbrev RP:=@List.getElem?_set
set_option maxRecDepth 100000
set_option maxHeartbeats 4000000
section
open Go.RowKit Go.Shelf
attribute [local go_sem] Oper.semAt_some
def RetBt(p:Pb)(A:Bb)(kc:Nat)(SV:Bb)(ks:Nat)(w:Ba)(e:Ending)(w':Ba):Prop:=
 ∃AV kv AE ke,e=.returned (.agg #[.int .i64 p.t.n,.int .i64 p.t.ins,.int .i64 p.t.outs,.slice A p.t.cases.length kc,.int .i64 p.a.n,.slice SV p.a.sts.length ks,.int .i64 p.k,.int .i64 p.t.n,.slice AV (zC p (zx p)).1.length kv,.slice AE (zC p (zx p)).2.length ke]) /\
  OwnV w' w.heap.size (.slice AV (zC p (zx p)).1.length kv) (zC p (zx p)).1/\OwnX XN (fun k=>w.heap.size<=k) w' w.heap.size (.slice AE (zC p (zx p)).2.length ke) (zC p (zx p)).2/\Below w.heap.size w w'
theorem Xa(p:Pb)(hf:yR p)(hpe:zU p=0)(h60:ye p<=60)(A:Bb)(kc:Nat)(SV:Bb)(ks:Nat)(w:Ba)(hA:CAt w w.heap.size A p.t.cases)(hS:SAt w w.heap.size SV p.a.sts) :
  Calls Tryz.prog 55 #[.agg (p.vs A kc SV ks)] w (RetBt p A kc SV ks w):=by
 obtain⟨hpt,hpa,hpn,hpk0,hpk6⟩:=zX hpe;obtain⟨K,hK⟩:=Lr hpk0;obtain⟨hcs1,hn1,hn5⟩:=xg hpt;have hK6:K<=6:=by omega
 have hexT:ye p=yd p.a K 0*p.t.cases.length:=by unfold ye;rw[hK];rfl
 have hcnt:yd p.a K 0<=60:=by
  have:=Rj (yd p.a K 0) hcs1;omega
 obtain⟨hz,hs1⟩:zI p.a p.a.sts=0/\1<=p.a.sts.length:=⟨(yU hf.1.2 hpa).1,(yU hf.1.2 hpa).2.1⟩;obtain⟨N,hN⟩:=Lr (show 0<=p.t.n by omega);have HFX:=zH hf;have HPA:=zH hpa;have HPN:=zH hpn;have HTI:=zH (hU hpt);obtain⟨w1,hw1,d0,d1,d2,hsz,hBw⟩:=kX w (p.vs A kc SV ks) #[.int .i64 0,.int .i64 0,.int .i64 0,.slice none 0 0,.int .i64 0,.slice none 0 0,.int .i64 0,.int .i64 0,.slice none 0 0,.slice none 0 0] #[.int .i64 p.t.n,.int .i64 p.t.ins,.int .i64 p.t.outs,.slice A p.t.cases.length kc,.int .i64 p.a.n,.slice SV p.a.sts.length ks,.int .i64 p.k,.int .i64 p.t.n,.slice none 0 0,.slice none 0 0] 29 35 35;have hFR:=YY p.a SV ks hz hf.1.2 K hK6 0 w1 (by by_cases h:K=0;exact .inl h;exact .inr ⟨by omega,by omega⟩) (by rw[yF];omega) ((hS.keep hBw).more hBw.size);have HFR:=zH hFR;have HA:=zH hA;have HS:=zH hS;have HBW:=zH hBw;have HD0:=zH d0;have HD1:=zH d1;have HD2:=zH d2;have HW1:=zH hw1;have HKE:=zH hK;have HNN:=zH hN;have HEX:=zH hexT;have H60:=zH h60;have HCS:=zH hcs1;have hN1:1<=N/\N<=5:=by omega
 clear hw1 d0 d1 d2 hBw hA hS hf hK hN hexT h60 hpe hpt hpa hpn hpk0 hpk6 hn1 hn5 hz hs1 hFR hcs1;unfold Pb.vs at HW1 HD0 ⊢;go_enter Tryz.func55,Tryz.ntmps55;go_wp2_with fail;rw[HW1.out];have hFR:=HFR.out;unfold kT at HFR;rw[<-HKE.out] at hFR;refine hFR.mono ?_;rintro e wr ⟨v,rfl,hW,hb⟩;have hbw:=HBW.out.size;obtain⟨words,hwords⟩:=Ki (zJ p.a K 0);rw[hwords] at hW;obtain⟨AW,cw,rfl,hWD⟩:=WdsAt.of (bs:=w.heap.size+1+1) hW (by omega) rfl;obtain⟨SC,hSC⟩:∃SC:Value->Value->Array Value,SC=fun V E=>#[.int .i64 p.t.n,.int .i64 p.t.ins,.int .i64 p.t.outs,.slice A p.t.cases.length kc,.int .i64 p.a.n,.slice SV p.a.sts.length ks,.int .i64 p.k,.int .i64 p.t.n,V,E]:=⟨_,rfl⟩
 obtain⟨WR,rfl⟩:∃x,x=wr:=⟨_,rfl⟩;obtain⟨D,hD⟩:∃D,D=WR.heap.size:=⟨_,rfl⟩;have hDb:w.heap.size+3<=D:=by have:=hb.size;omega
 have H0:Hid (Bt D (w.heap.size+1+1) SC WR [] [] (.slice none 0 0) (.slice none 0 0) WR):=
  ⟨Wrote.refl _ _,by omega,by omega,by omega,by rw[hSC];exact Lb hb (by omega) HD2.out,OwnV.nil _ _,OwnX.nil _ _ _ _,fun k e=>(by cases e)⟩
 have HP0:Hid (WR.heap[w.heap.size]?=some (.cells #[.int .i64 p.t.n,.int .i64 p.t.ins,.int .i64 p.t.outs,.slice A p.t.cases.length kc,.int .i64 p.a.n,.slice SV p.a.sts.length ks,.int .i64 p.k] 29 (0,0))):=Lb hb (by omega) HD0.out;have HP1:Hid (WR.heap[w.heap.size+1]?=some (.cells #[.int .i64 0,.int .i64 0,.int .i64 0,.slice none 0 0,.int .i64 0,.slice none 0 0,.int .i64 0,.int .i64 0,.slice none 0 0,.slice none 0 0] 35 (0,0))):=Lb hb (by omega) HD1.out;have HBR:Hid (Below w.heap.size w WR):=HBW.out.trans (hb.mono (by omega));have HWD:=zH hWD;rw[<-hD] at HWD;have HSC:=zH hSC;have HWE:=zH hwords;have HDD:=zH hD;have hc30:p.t.cases.length<=30:=HFX.out.1.1.1;have hwl:words.length<=60:=by rw[<-hwords,yF];exact hcnt
 have HW6:Hid (∀x∈words,x.length<=6):=fun x hx=>by rw[<-hwords] at hx;rw[xy p.a K 0 x hx];exact hK6
 clear hW hb hSC hwords hD hWD HD0 HD1 HD2 HW1 HBW HFR hFR hbw hsz;go_wp2_with fail
 go_loopw [5] (fun i wx=>∃(c:Nat) (V E:Value),c<=p.t.cases.length/\i=.int .i64 (c:Int)/\Hid (Bt D (w.heap.size+1+1) SC WR (zC p (pcs words c)).1 (zC p (pcs words c)).2 V E wx)) (fun i _=>p.t.cases.length-(intOf i).toNat)
 case atStart=>exact⟨0,_,_,by omega,rfl,H0.out⟩
 case round=>
  clear H0;obtain⟨c,V0,E0,hc,rfl,HB0⟩:=hrel;have hbig:=HB0.out.big;have hsame:∀k,k<D->k≠w.heap.size+1+1->wr.heap[k]?=WR.heap[k]?:=fun k h1 h2=>HB0.out.wr.block k (by have:=HDD.out;omega) h2
  have P0:=(hsame _ (by omega) (by omega)).trans HP0.out;have p0:wr.cell? ⟨w.heap.size,0,none⟩=some (.int .i64 p.t.n):=zh P0 0 rfl;have p3:wr.cell? ⟨w.heap.size,3,none⟩=some (.slice A p.t.cases.length kc):=zh P0 3 rfl;have p6:wr.cell? ⟨w.heap.size,6,none⟩=some (.int .i64 p.k):=zh P0 6 rfl
  by_cases hcM:c<p.t.cases.length
  case neg=>
   obtain rfl:c=p.t.cases.length:=by omega
   have hcs60:p.t.cases.length*words.length<=60:=by have h1:=HEX.out;have h2:=H60.out;have h3:=congrArg List.length HWE.out;rw[yF] at h3;rw[h3,Po] at h1;omega
   obtain⟨AV,kv,rfl,_⟩:=HB0.out.tb.form (by have:=Zh p words (by have:=HNN.out;omega) HW6.out p.t.cases.length hcs60;omega);obtain⟨AE,ke,rfl,_,_,_⟩:=HB0.out.out.form zR;have hres:=(hsame (w.heap.size+1) (by omega) (by omega)).trans HP1.out;have hsys:=HB0.out.sys;rw[HSC.out] at hsys;have s0:wr.cell? ⟨w.heap.size+1+1,0,none⟩=some (.int .i64 p.t.n):=zh hsys 0 rfl;have s1:wr.cell? ⟨w.heap.size+1+1,1,none⟩=some (.int .i64 p.t.ins):=zh hsys 1 rfl;have s2:wr.cell? ⟨w.heap.size+1+1,2,none⟩=some (.int .i64 p.t.outs):=zh hsys 2 rfl;have s3:wr.cell? ⟨w.heap.size+1+1,3,none⟩=some (.slice A p.t.cases.length kc):=zh hsys 3 rfl;have s4:wr.cell? ⟨w.heap.size+1+1,4,none⟩=some (.int .i64 p.a.n):=zh hsys 4 rfl;have s5:wr.cell? ⟨w.heap.size+1+1,5,none⟩=some (.slice SV p.a.sts.length ks):=zh hsys 5 rfl;have s6:wr.cell? ⟨w.heap.size+1+1,6,none⟩=some (.int .i64 p.k):=zh hsys 6 rfl;have s7:wr.cell? ⟨w.heap.size+1+1,7,none⟩=some (.int .i64 p.t.n):=zh hsys 7 rfl;have s8:wr.cell? ⟨w.heap.size+1+1,8,none⟩=some (.slice AV (zC p (pcs words p.t.cases.length)).1.length kv):=zh hsys 8 rfl;have s9:wr.cell? ⟨w.heap.size+1+1,9,none⟩=some (.slice AE (zC p (pcs words p.t.cases.length)).2.length ke):=zh hsys 9 rfl;have y0:wr.cell? ⟨w.heap.size+1,0,none⟩=some (.int .i64 0):=zh hres 0 rfl;have f0:=zi hres 0;have y1:wr.cell? ⟨w.heap.size+1,1,none⟩=some (.int .i64 0):=zh hres 1 rfl;have f1:=zi hres 1;have y2:wr.cell? ⟨w.heap.size+1,2,none⟩=some (.int .i64 0):=zh hres 2 rfl;have f2:=zi hres 2
   have y3:wr.cell? ⟨w.heap.size+1,3,none⟩=some (.slice none 0 0):=zh hres 3 rfl;have f3:=zi hres 3;have y4:wr.cell? ⟨w.heap.size+1,4,none⟩=some (.int .i64 0):=zh hres 4 rfl;have f4:=zi hres 4;have y5:wr.cell? ⟨w.heap.size+1,5,none⟩=some (.slice none 0 0):=zh hres 5 rfl;have f5:=zi hres 5;have y6:wr.cell? ⟨w.heap.size+1,6,none⟩=some (.int .i64 0):=zh hres 6 rfl;have f6:=zi hres 6;have y7:wr.cell? ⟨w.heap.size+1,7,none⟩=some (.int .i64 0):=zh hres 7 rfl;have f7:=zi hres 7;have y8:wr.cell? ⟨w.heap.size+1,8,none⟩=some (.slice none 0 0):=zh hres 8 rfl;have f8:=zi hres 8;have y9:wr.cell? ⟨w.heap.size+1,9,none⟩=some (.slice none 0 0):=zh hres 9 rfl;have f9:=zi hres 9;have HFN:=zH HB0.out;have hbl:Below w.heap.size w wr:=HBR.out.trans (HB0.out.wr.below (by have:=HBR.out.size;omega) (fun k h1 h2=>by have h3:k=w.heap.size+1+1:=h2;omega));obtain⟨k1,k2,k3,k4,k5⟩:=xz (.int .i64 p.t.n) (.int .i64 p.t.ins) (.int .i64 p.t.outs) (.slice A p.t.cases.length kc) (.int .i64 p.a.n) (.slice SV p.a.sts.length ks) (.int .i64 p.k) (.int .i64 p.t.n) (.slice AV (zC p (pcs words p.t.cases.length)).1.length kv) (.slice AE (zC p (pcs words p.t.cases.length)).2.length ke) hres hbl (by omega:w.heap.size<=w.heap.size+1)
   obtain⟨WF,hWF⟩:=Ki (((((((((((wr.setCell ⟨w.heap.size+1,0,none⟩ (.int .i64 p.t.n)).setCell ⟨w.heap.size+1,1,none⟩ (.int .i64 p.t.ins)).setCell ⟨w.heap.size+1,2,none⟩ (.int .i64 p.t.outs)).setCell ⟨w.heap.size+1,3,none⟩ (.slice A p.t.cases.length kc)).setCell ⟨w.heap.size+1,4,none⟩ (.int .i64 p.a.n)).setCell ⟨w.heap.size+1,5,none⟩ (.slice SV p.a.sts.length ks)).setCell ⟨w.heap.size+1,6,none⟩ (.int .i64 p.k)).setCell ⟨w.heap.size+1,7,none⟩ (.int .i64 p.t.n)).setCell ⟨w.heap.size+1,8,none⟩ (.slice AV (zC p (pcs words p.t.cases.length)).1.length kv)).setCell ⟨w.heap.size+1,9,none⟩ (.slice AE (zC p (pcs words p.t.cases.length)).2.length ke)));rw[hWF] at k1 k2 k3 k4 k5;have K1:=zH k1;have K2:=zH k2;have K4:=zH k4;have K5:=zH k5;have HWF:=zH hWF;clear hres hsys P0 hbl k1 k2 k3 k4 k5 hWF;go_wp2_with fail;rw[HWF.out];obtain⟨z0,z1,z2,z3,z4,z5,z6,z7,z8,z9⟩:=zB K1.out;refine L1 (v:=.agg #[.int .i64 p.t.n,.int .i64 p.t.ins,.int .i64 p.t.outs,.slice A p.t.cases.length kc,.int .i64 p.a.n,.slice SV p.a.sts.length ks,.int .i64 p.k,.int .i64 p.t.n,.slice AV (zC p (pcs words p.t.cases.length)).1.length kv,.slice AE (zC p (pcs words p.t.cases.length)).2.length ke]) (by simp[results,Tryz.results55,go_sem,z0,z1,z2,z3,z4,z5,z6,z7,z8,z9]) rfl ?_;have hpe:zx p=pcs words p.t.cases.length:=by rw[Xp,<-HWE.out,show p.k.toNat=K by have:=HKE.out;omega]
   unfold RetBt;rw[hpe];have hbw:=HFN.out.big;refine⟨AV,kv,AE,ke,rfl,?_,?_,K2.out⟩
   . exact(HFN.out.tb.of_same fun k hk=>K4.out k (by have:=(HFN.out.tb.lt' k hk).1;omega)).low (by omega)
   . exact(OwnX.mono zR (HFN.out.out.keep zR ⟨by have:=K5.out;omega,fun k hs _=>K4.out k (by omega)⟩ fun k hk=>K4.out k (by have:=(HFN.out.out.lt k hk).1;omega)) fun k _ hs=>(by omega)).low (by omega)
  case pos=>
   have hc1:(c:Int)<(p.t.cases.length:Int):=by omega
   have HSM:=zH hsame;clear hsame P0;go_wp2_with fail;obtain⟨wo,rfl⟩:∃x,x=wr:=⟨_,rfl⟩
   go_loopw [6] (fun i wx=>∃(j:Nat) (V E:Value),j<=words.length/\i=.int .i64 (j:Int)/\Hid (Bt D (w.heap.size+1+1) SC WR (zC p (pcw words c j)).1 (zC p (pcw words c j)).2 V E wx)) (fun i _=>words.length-(intOf i).toNat)
   case atStart=>exact⟨0,V0,E0,by omega,rfl,by rw[Qp];exact HB0.out⟩
   case round=>
    obtain⟨j,V1,E1,hj,rfl,HB1⟩:=hrel
    by_cases hjW:j<words.length
    case neg=>
     obtain rfl:j=words.length:=by omega
     have HBe:=zH (by have h:=HB1.out;rw[pcw_end] at h;exact h);clear HB1;go_wp2_with fail
     go_roundw
     case rel=>exact⟨c+1,V1,E1,by omega,by go_num,HBe.out⟩
     case measure=>simp[intOf];omega
    case pos=>
     obtain⟨gw,A2,c2,eAW,hg1,hg2,hcw,hR2,hwc⟩:=HWD.out j hjW;subst eAW;have hKp:KeepB (fun k=>k<D/\k≠w.heap.size+1+1) WR wr:=HB1.out.wr.keep fun k _ hs=>hs.2
     have hw0:wr.cell? ⟨gw,j,none⟩=some (.slice A2 words[j].length c2):=qP hKp ⟨hg2,by omega⟩ hcw
     have hst:c*words.length+j<60:=by
      have h1:=HEX.out;have h2:=H60.out;have h3:=congrArg List.length HWE.out;rw[yF] at h3;rw[h3,Po] at h1;have h4:=PK words.length (show c+1<=p.t.cases.length by omega);rw[Nat.succ_mul] at h4;omega
     obtain⟨hv0,hx0⟩:=YD p words (by have:=HNN.out;omega) HW6.out c j (by omega) (by omega);have hrs:=qr p (pcw words c j) (c,words[j]);rw[<-pcw_succ words c j hjW] at hrs;obtain⟨word,hword⟩:=Ki (words[j]);rw[hword] at hw0 hR2 hrs hcw hwc;have hwm:word∈zJ p.a K 0:=by rw[HWE.out,<-hword];exact Ld hjW
     have hwk:=xy p.a K 0 word hwm
     have HWF:Hid (∀r∈word,yi r=0/\r.n=(N:Int)):=fun r hr=>by
      obtain⟨m,hm,rfl⟩:=kV p.a K 0 word hwm r hr;obtain⟨z1,z2,_⟩:=xT (yU HFX.out.1.2 HPA.out).1 m hm;exact⟨z1,by rw[z2,<-HPN.out,HNN.out]⟩
     obtain⟨AE,ke,rfl,_,_,_⟩:=HB1.out.out.form zR;obtain⟨vs0,hvs0⟩:=Ki ((zC p (pcw words c j)).1);obtain⟨xs0,hxs0⟩:=Ki ((zC p (pcw words c j)).2);rw[hvs0,hxs0] at hrs HB1;rw[hvs0] at hv0;rw[hxs0] at hx0;have hinp:yt p c=p.t.cases[c].inp:=by unfold yt;rw[Lj,Lm hcM];rfl
     have HRUN:Hid (zC p (pcw words c (j+1))=((stQ vs0 N p.t.cases[c].inp word (K+1)).1,xs0++[⟨(c:Int),word,(stQ vs0 N p.t.cases[c].inp word (K+1)).2⟩])):=by
      rw[hrs];show(_,_)=_;rw[hinp,hwk,show p.t.n.toNat=N by have:=HNN.out;omega]
      rfl
     obtain⟨bc,oc,A0,c0,A1',c1',A2',c2',eA,hbcl,hcc0,_,_,hIn,_,_⟩:=HA.out.row c hcM;subst eA;have hinl:p.t.cases[c].inp.length=N:=by have h1:=HTI.out _ (Ld hcM);have:=HNN.out;omega
     obtain⟨inp,hinpe⟩:=Ki (p.t.cases[c].inp);rw[hinpe] at hcc0 hIn HRUN hinl;have HIN:=zH hIn;have HGW:=zH hcw;have HC0:=zH hcc0;have HR2:=zH hR2;have HWC:=zH hwc;clear hwc;have HIL:=zH hinl;have HX0:Hid (xs0.length<60):=by show xs0.length<60;omega
     have HV0:=zH hv0;have HWK:=zH hwk;have hj1:(j:Int)<(words.length:Int):=by omega
     have hgwl:gw<wr.heap.size:=by have:=HB1.out.big;omega
     clear hinl hinpe hrs hinp hIn hcc0 hR2 hcw hKp hvs0 hxs0 hword hwm hx0 hv0 hwk;go_wp2_with fail;clear hw0;obtain⟨W1,hW1,x1,hs1,hB1⟩:=zn wr #[.int .i64 c,.slice A2 word.length c2,.slice none 0 0] 56;rw[hW1];have HQ0:Hid (Bq D (w.heap.size+1+1) wr.heap.size SC WR c (.slice A2 word.length c2) vs0 xs0 [] [] V1 (.slice AE xs0.length ke) (.slice none 0 0) (.slice none 0 0) W1):=Bt.start HB1.out hB1 x1;clear hW1 x1 hs1 hB1 HB1;obtain⟨bx,hbx⟩:∃bx,bx=wr.heap.size:=⟨_,rfl⟩;rw[<-hbx] at HQ0 ⊢;clear hbx
     go_loopw [8] (fun i wx=>∃(k:Nat) (V Y:Value),k<=K+1/\i=.int .i64 (k:Int)/\Hid (Bq D (w.heap.size+1+1) bx SC WR c (.slice A2 word.length c2) (stQ vs0 N inp word k).1 xs0 (stQ vs0 N inp word k).2 [] V (.slice AE xs0.length ke) Y (.slice none 0 0) wx)) (fun i _=>K+1-(intOf i).toNat)
     case atStart=>exact⟨0,V1,_,by omega,rfl,HQ0.out⟩
     case round=>
      clear HQ0;obtain⟨k,V2,Y2,hk,rfl,HQ⟩:=hrel;have hbig:=HQ.out.big;have P0:=(HQ.out.wr.block _ (by have:=HDD.out;omega) (by omega)).trans HP0.out;have p0:wr.cell? ⟨w.heap.size,0,none⟩=some (.int .i64 p.t.n):=zh P0 0 rfl;have p3:wr.cell? ⟨w.heap.size,3,none⟩=some (.slice (some ⟨bc,oc,none⟩) p.t.cases.length kc):=zh P0 3 rfl;have p6:wr.cell? ⟨w.heap.size,6,none⟩=some (.int .i64 p.k):=zh P0 6 rfl;clear P0
      by_cases hkK:k<=K
      case neg=>
       have HKQ:Hid (k=K+1):=by show k=K+1;omega
       have hle:¬((k:Int)<=p.k):=by have:=HKE.out;omega
       obtain⟨AY,ky,rfl,_,_,_⟩:=HQ.out.vw.form yQ;have hsys:=HQ.out.sys;rw[HSC.out] at hsys;have HSY:=zH hsys;have s9:wr.cell? ⟨w.heap.size+1+1,9,none⟩=some (.slice AE xs0.length ke):=zh hsys 9 rfl;have f9:=zi hsys 9;have x0:wr.cell? ⟨bx,0,none⟩=some (.int .i64 c):=zh HQ.out.x 0 rfl;have x1:wr.cell? ⟨bx,1,none⟩=some (.slice A2 word.length c2):=zh HQ.out.x 1 rfl;have x2:wr.cell? ⟨bx,2,none⟩=some (.slice AY (stQ vs0 N inp word k).2.length ky):=zh HQ.out.x 2 rfl;have HG4:=zH (zw wr (.cells #[.int .i64 c,.slice A2 word.length c2,.slice AY (stQ vs0 N inp word k).2.length ky] 56));have HO4:=zH (HQ.out.out.below zR (zW wr (.cells #[.int .i64 c,.slice A2 word.length c2,.slice AY (stQ vs0 N inp word k).2.length ky] 56)) (Le _));have hbsl:=HQ.out.bsl;have hbsw:w.heap.size+1+1<wr.heap.size:=by omega
       have hbxl:=HQ.out.bxl;clear hsys;go_wp2_with (at_builtin;obtain⟨css,hcl,hcr,hcs⟩:=HO4.out;refine xx kXn_ok rfl (.tmp 110) (.tmp 112) rfl D (.slice AE xs0.length ke) xs0.length css.flatten rfl hcr wr.heap.size #[.int .i64 c,.slice A2 word.length c2,.slice AY (stQ vs0 N inp word k).2.length ky] rfl HG4.out rfl (by simp[Value.oneCell']) (Lz (PT HX0.out) (by decide)) (by simp;omega) _ rfl ?_;intro g' cap w7 hr7 hg7 hat7 hlt7;have b7:=(hg7.block _ (by simp;omega) (fun e=>HO4.out.ne hbsl e.symm)).trans (yM HSY.out _);have c7:=zh b7 9 rfl;have fr7:=zi b7 9;have HDN:=zH (Bq.done HQ.out (zW wr _) hcl hcs rfl rfl HR2.out HWC.out hr7 hg7 hat7 (by rw[HSC.out];rfl));clear hr7 hg7 hat7 hcl hcs hcr b7)
       go_roundw
       case rel=>exact⟨j+1,V2,_,by omega,by go_num,by rw[HRUN.out,<-HKQ.out];exact HDN.out⟩
       case measure=>simp[intOf];omega
      case pos=>
       have hle:(k:Int)<=p.k:=by have:=HKE.out;omega
       have hkw:k<=6:=by omega
       obtain⟨vk,hvk⟩:=Ki ((stQ vs0 N inp word k).1);obtain⟨yk,hyk⟩:=Ki ((stQ vs0 N inp word k).2);obtain⟨f,hf⟩:=Ki (fQ inp word yk k);have hyl:=stQ_len vs0 N inp word k;have hvl:=stQ_few vs0 N inp word k;have hyr:=stQ_row vs0 N inp word k;have hss:=stQ_succ vs0 N inp word k;rw[hvk,hyk] at HQ;rw[hyk] at hyl hyr;rw[hvk] at hvl;rw[hvk,hyk,hf] at hss;have HSS:=zH hss;have HYR:=zH hyr;have HYL:=zH hyl
       have HVL:Hid (vk.length<=2100+30):=by
        have h1:=LO hkw hN1.2;have h2:=HV0.out;show vk.length<=2130;omega
       have HFF:=zH hf;clear hvk hyk hf hyl hvl hyr hss;obtain⟨AY,ky,rfl,_,_,_⟩:=HQ.out.vw.form yQ;go_wp2_with fail;clear p0 p3 p6
       go_loopw [9,10] (fun l i wx=>∃(q:Nat) (V:Value),q<=N/\i=.int .i64 (q:Int)/\Hid (Bq D (w.heap.size+1+1) bx SC WR c (.slice A2 word.length c2) (yl f vk q).1 xs0 yk (yl f vk q).2 V (.slice AE xs0.length ke) (.slice AY yk.length ky) l wx)) (fun _ i _=>N-(intOf i).toNat)
       case atStart=>exact⟨0,V2,by omega,rfl,HQ.out⟩
       case round=>
        clear HQ;obtain⟨q,V3,hq,rfl,HQ⟩:=hrel;have hbig:=HQ.out.big;have P0:=(HQ.out.wr.block _ (by have:=HDD.out;omega) (by omega)).trans HP0.out;have p0:wr.cell? ⟨w.heap.size,0,none⟩=some (.int .i64 p.t.n):=zh P0 0 rfl;have p3:wr.cell? ⟨w.heap.size,3,none⟩=some (.slice (some ⟨bc,oc,none⟩) p.t.cases.length kc):=zh P0 3 rfl;clear P0;obtain⟨AL,kl,eL,hkl1,hkl2,_⟩:=HQ.out.row.form;subst eL
        by_cases hqN:q<N
        case neg=>
         have HQQ:Hid (q=N):=by show q=N;omega
         have hqn:¬((q:Int)<p.t.n):=by have:=HNN.out;omega
         have x2:wr.cell? ⟨bx,2,none⟩=some (.slice AY yk.length ky):=zh HQ.out.x 2 rfl;have HG4:=zH (zw wr (.cells #[.slice AL (yl f vk q).2.length kl] 44));have HO4:=zH (HQ.out.vw.below yQ (zW wr (.cells #[.slice AL (yl f vk q).2.length kl] 44)) (Le _));have hbxl:=HQ.out.bxl;have hbxD:=HQ.out.hx;go_wp2_with (at_builtin;obtain⟨css,hcl,hcr,hcs⟩:=HO4.out;refine xx XB rfl (.tmp 104) (.tmp 106) rfl D (.slice AY yk.length ky) yk.length css.flatten rfl hcr wr.heap.size #[.slice AL (yl f vk q).2.length kl] rfl HG4.out rfl (by simp[Value.oneCell']) (by rw[HYL.out];omega) (by simp;omega) _ rfl ?_;intro g' cap w7 hr7 hg7 hat7 hlt7;have b7:=(hg7.block bx (by simp;omega) (fun e=>(HQ.out.nY bx e.symm).1 rfl)).trans (yM HQ.out.x _);have c7:=zh b7 2 rfl;have fr7:=zi b7 2;have HCL:=zH (Bq.close HQ.out (zW wr _) hcl hcs hr7 hg7 hat7);clear hr7 hg7 hat7 hcl hcs hcr b7)
         go_roundw
         case rel=>exact⟨k+1,V3,_,by omega,by go_num,by rw[HSS.out,<-HQQ.out];exact HCL.out⟩
         case measure=>simp[intOf];omega
        case pos=>
         have hqn:(q:Int)<p.t.n:=by have:=HNN.out;omega
         have hbel:Below w.heap.size w wr:=HBR.out.trans (HQ.out.wr.below (by have:=HBR.out.size;omega) (fun k h1 h2=>by have h3:k=w.heap.size+1+1:=h2;omega));have hcw:=(hbel.cell (p:=⟨bc,oc+c*3,none⟩) hbcl).trans HC0.out;have hqi:q<inp.length:=by have:=HIL.out;omega
         obtain⟨bi,oi,eI,hbil,hci⟩:=HIN.out.at_ q hqi;subst eI;have hiw:=(hbel.cell (p:=⟨bi,oi+q,none⟩) hbil).trans hci;obtain⟨iv,hiv⟩:=Ki (inp[q]);rw[hiv] at hiw;have HIV:Hid (inp.getD q 0=iv):=by show _=_;rw[Lj,Lm hqi,<-hiv];rfl
         have hq0:(0:Int)<=(q:Int):=by omega
         have hq1:(q:Int)<(inp.length:Int):=by omega
         have hcp:(0:Int)<=(c:Int):=by omega
         have HF1:=zH (first_any q iv wr);have HPO:=zH (stQ_few vs0 N inp word k);have hbxl:=HQ.out.bxl;clear hbel hci hiv;go_wp2_with fail;refine HF1.out.mono ?_;rintro e w5 ⟨rfl,hb5⟩;obtain⟨W6,hW6,b6,hs6,hB6⟩:=zn w5 (yP q iv).cells 128;have hb6:Below wr.heap.size wr W6:=Lc hb5 hB6;have hs5:=hb5.size;have HW6:=zH hW6;have HB6:=zH hb6;have H11:=zH b6;unfold Vw.cells at HW6;unfold Vw.cells;clear HF1 hb5 hW6 b6 hB6 hb6 hcw hiw p0 p3;go_simp;rename_i hKK;refine hKK _ _ ?_;clear hKK;refine LW rfl fun K5 hK5=>?_
         go_simp;refine hK5 _ _ ?_;clear hK5 K5;refine LW rfl fun K5 hK5=>?_
         go_simp;rw[HW6.out];refine hK5 _ _ ?_;clear hK5 K5 HW6;rcases Nu k with hk0 | hkp
         case' inl=>
          have hkt:¬((0:Int)<(k:Int)):=by omega
          have HFV:Hid (f q=yP q iv):=by
           show f q=_;rw[<-HFF.out,hk0];show yP q (inp.getD q 0)=_;rw[HIV.out]
          rw[<-HFV.out] at H11;have H11:Hid (W6.heap[w5.heap.size]?=some (.cells (f q).cells 128 (0,0))):=H11;obtain⟨W9,hW9⟩:=Ki W6;rw[hW9] at HB6 H11 ⊢;clear hW9 HFV hk0
         case' inr=>
          obtain⟨k',hk'⟩:∃k',k=k'+1:=⟨k-1,by omega⟩;have hkt:(0:Int)<(k:Int):=by omega
          have hksub:IntKind.i64.wrap ((k:Int)-1)=(k':Int):=by rw[Lp];omega
          have hk'w:k'<word.length:=by have:=HWK.out;omega
          have hk'y:k'<yk.length:=by have:=HYL.out;omega
          have HFV:Hid (f q=ql word[k'] k q yk[k']):=by
           show f q=_;rw[<-HFF.out,hk'];show ql (word.getD k' default) (k'+1) q (yk.getD k' [])=_;rw[Lj,Lm hk'w,Lj,Lm hk'y]
           rfl
          have Q6:=HQ.out.on HB6.out;have hR6:RAtS (fun k=>w.heap.size+1+1<k/\k<D) W6 A2 word:=HR2.out.keep (Q6.wr.keep fun k _ hs e=>by have h3:k=w.heap.size+1+1:=e;omega);have hw6:W6.cell? ⟨gw,j,none⟩=some (.slice A2 word.length c2):=qP (S:=fun k=>w.heap.size+1+1<k/\k<D) (Q6.wr.keep fun k _ hs e=>by have h3:k=w.heap.size+1+1:=e;omega) ⟨hg1,hg2⟩ HGW.out;obtain⟨br,or_,eA2,hbr,r0,r1,r2,r3,r4,r5,r6⟩:=hR6.rat.row k' hk'w;subst eA2;obtain⟨AYx,kyx,eY,_,_,hYc⟩:=Q6.vw.form yQ
          cases eY
          obtain⟨gy,eAY,_,hgy,hyc⟩:=hYc (by omega);subst eAY;obtain⟨cs,⟨A3,c3,rfl,hI3⟩,hcell⟩:=hyc k' hk'y;have hy6:W6.cell? ⟨gy,k',none⟩=some (.slice A3 yk[k'].length c3):=by simpa[cIs,kIs] using hcell 0 _ rfl
          have x6:W6.cell? ⟨bx,2,none⟩=some (.slice (some ⟨gy,0,none⟩) yk.length ky):=zh Q6.x 2 rfl;have hrl:=HYR.out k' hk'y;obtain⟨row,hrow⟩:=Ki (yk[k']);obtain⟨rd,hrd⟩:=Ki (word[k']);have hrf:=HWF.out word[k'] (Ld hk'w);rw[hrow] at hy6 hI3 hrl HFV;rw[hrd] at r0 r1 r2 r3 r4 r5 r6 hrf HFV;have hhs:=wZ (qR hrf.1).2.2.1 q (by omega);have HSE:=zH (fun (X:Ba) (hX:Below W6.heap.size W6 X)=>seen_any rd k q (by omega) hhs A3 c3 row (by rw[hrf.2,hrl]) (by omega) X ((hI3.iat.keep hX).more hX.size));have hk'0:(0:Int)<=(k':Int):=by omega
          have hk'1:(k':Int)<(word.length:Int):=by omega
          have hk'2:(k':Int)<(yk.length:Int):=by omega
          have hjp:(0:Int)<=(j:Int):=by omega
          have HKS:=zH hk';have h11l:w5.heap.size<W6.heap.size:=zj H11.out;clear hkp hk' Q6 hR6 hYc hyc hcell hI3 hrow hrd hrf hhs hrl;go_wp2_with fail
          go_still_tail 17,(by kernel_rfl)
          change wpList _ _ _ _ _ W6.drew;obtain⟨W7,hW7⟩:∃W7,W7=W6.drew:=⟨_,rfl⟩;have HB7:Hid (Below W6.heap.size W6 W7):=by rw[hW7];exact(Lo _ _).drew
          rw[<-hW7];clear hW7 r0 r1 r2 r3 r4 r5 r6 hw6 hy6 x6;go_wp2_with fail;refine(HSE.out W7 HB7.out).mono ?_;rintro e w8 ⟨rfl,hb8⟩;obtain⟨vv,hvv⟩:=Ki (ql rd k q row);rw[hvv] at HFV ⊢;have hb68:Below W6.heap.size W6 w8:=Lc HB7.out hb8;have b8:=Lb hb68 h11l H11.out;unfold Vw.cells at b8;obtain⟨k1,k2⟩:=vw_store8 vv b8 (Lc HB6.out hb68) (by omega:wr.heap.size<=w5.heap.size);obtain⟨W9,hW9⟩:=Ki (((((((((w8.setCell ⟨w5.heap.size,0,none⟩ (.int .i64 vv.p)).setCell ⟨w5.heap.size,1,none⟩ (.int .i64 vv.r)).setCell ⟨w5.heap.size,2,none⟩ (.int .i64 vv.i)).setCell ⟨w5.heap.size,3,none⟩ (.int .i64 vv.h0)).setCell ⟨w5.heap.size,4,none⟩ (.int .i64 vv.h1)).setCell ⟨w5.heap.size,5,none⟩ (.int .i64 vv.h2)).setCell ⟨w5.heap.size,6,none⟩ (.int .i64 vv.h3)).setCell ⟨w5.heap.size,7,none⟩ (.int .i64 vv.h4)));rw[hW9] at k1 k2;have HW9:=zH hW9;have y0:w8.cell? ⟨w5.heap.size,0,none⟩=some (.int .i64 (yP q iv).p):=zh b8 0 rfl;have fr0:=zi b8 0;have y1:w8.cell? ⟨w5.heap.size,1,none⟩=some (.int .i64 (yP q iv).r):=zh b8 1 rfl;have fr1:=zi b8 1;have y2:w8.cell? ⟨w5.heap.size,2,none⟩=some (.int .i64 (yP q iv).i):=zh b8 2 rfl;have fr2:=zi b8 2;have y3:w8.cell? ⟨w5.heap.size,3,none⟩=some (.int .i64 (yP q iv).h0):=zh b8 3 rfl;have fr3:=zi b8 3;have y4:w8.cell? ⟨w5.heap.size,4,none⟩=some (.int .i64 (yP q iv).h1):=zh b8 4 rfl;have fr4:=zi b8 4;have y5:w8.cell? ⟨w5.heap.size,5,none⟩=some (.int .i64 (yP q iv).h2):=zh b8 5 rfl;have fr5:=zi b8 5
          have y6:w8.cell? ⟨w5.heap.size,6,none⟩=some (.int .i64 (yP q iv).h3):=zh b8 6 rfl;have fr6:=zi b8 6;have y7:w8.cell? ⟨w5.heap.size,7,none⟩=some (.int .i64 (yP q iv).h4):=zh b8 7 rfl;have fr7:=zi b8 7;have H11:Hid (W9.heap[w5.heap.size]?=some (.cells (f q).cells 128 (0,0))):=by rw[HFV.out];exact k1
          have HB6:Hid (Below wr.heap.size wr W9):=k2;clear hb68 b8 k1 k2 hW9 hvv hb8 HSE HB7 HFV;unfold Vw.cells;go_simp;rename_i hKK;refine hKK _ _ ?_;refine LW rfl fun K5 hK5=>?_
          go_simp;rw[HW9.out];refine hK5 _ _ ?_;clear HW9 HKS hkt hksub y0 y1 y2 y3 y4 y5 y6 y7 fr0 fr1 fr2 fr3 fr4 fr5 fr6 fr7
         all_goals
          have Q9:=HQ.out.on HB6.out;have hrf:=kI f vk q;have hrl2:=xR f vk q;obtain⟨AV,kv,eV,hT⟩:=Q9.tb.form (by have:=HVL.out;omega);subst eV;have HPU:=zH (put_any p.t.n AV kv (yl f vk q).1 (f q) W9 hT (by have:=HVL.out;omega));have hsys:=Q9.sys;rw[HSC.out] at hsys;have s7:W9.cell? ⟨w.heap.size+1+1,7,none⟩=some (.int .i64 p.t.n):=zh hsys 7 rfl;have s8:W9.cell? ⟨w.heap.size+1+1,8,none⟩=some (.slice AV (yl f vk q).1.length kv):=zh hsys 8 rfl;have HQ9:=zH Q9;have HRL2:=zH hrl2;obtain⟨v,hv⟩:=Ki (f q);have HFQ:=zH hv;rw[hv] at HPU H11;have x0:W9.cell? ⟨w5.heap.size,0,none⟩=some (.int .i64 v.p):=zh H11.out 0 rfl;have x1:W9.cell? ⟨w5.heap.size,1,none⟩=some (.int .i64 v.r):=zh H11.out 1 rfl;have x2:W9.cell? ⟨w5.heap.size,2,none⟩=some (.int .i64 v.i):=zh H11.out 2 rfl;have x3:W9.cell? ⟨w5.heap.size,3,none⟩=some (.int .i64 v.h0):=zh H11.out 3 rfl;have x4:W9.cell? ⟨w5.heap.size,4,none⟩=some (.int .i64 v.h1):=zh H11.out 4 rfl;have x5:W9.cell? ⟨w5.heap.size,5,none⟩=some (.int .i64 v.h2):=zh H11.out 5 rfl;have x6:W9.cell? ⟨w5.heap.size,6,none⟩=some (.int .i64 v.h3):=zh H11.out 6 rfl;have x7:W9.cell? ⟨w5.heap.size,7,none⟩=some (.int .i64 v.h4):=zh H11.out 7 rfl;clear hv hrf hrl2 hT hsys Q9;go_wp2_with fail
          all_goals first | (exfalso;omega) | skip
          refine HPU.out.mono ?_;rintro e w10 hput;obtain⟨A3,k3,rfl,hO3,hV3,hb10⟩:=put_out hput HQ9.out.tb HQ9.out.big;have B10:=Lc HB6.out hb10;have hsys:=(HQ.out.on B10).sys;rw[HSC.out] at hsys;have s7:w10.cell? ⟨w.heap.size+1+1,7,none⟩=some (.int .i64 p.t.n):=zh hsys 7 rfl;have s8:w10.cell? ⟨w.heap.size+1+1,8,none⟩=some (.slice AV (yl f vk q).1.length kv):=zh hsys 8 rfl;have f7:=zi hsys 7;have f8:=zi hsys 8;have HS10:=zH hsys;obtain⟨vs',hvs'⟩:=Ki ((qg (yl f vk q).1 v).1);obtain⟨iz,hiz⟩:=Ki ((qg (yl f vk q).1 v).2);rw[hvs'] at hO3 hV3;have HVS:=zH hvs';have HIZ:=zH hiz;have HO3:=zH hO3;have HV3:=zH hV3;have HB10:=zH B10;have hs10:=B10.size;have hbsl:=HQ.out.bsl;rw[hvs',hiz];clear hput hO3 hV3 hb10 B10 hsys hvs' hiz HPU x0 x1 x2 x3 x4 x5 x6 x7 H11;obtain⟨W11,hW11,b11,hs11,hB11⟩:=zn w10 #[.int .i64 p.t.n,.slice A3 vs'.length k3] 32;have HW11:=zH hW11;have HB11:Hid (Below wr.heap.size wr W11):=HB10.out.trans (hB11.mono hs10);have t0:W11.cell? ⟨w10.heap.size,0,none⟩=some (.int .i64 p.t.n):=zh b11 0 rfl;have t1:W11.cell? ⟨w10.heap.size,1,none⟩=some (.slice A3 vs'.length k3):=zh b11 1 rfl;have hsys:=(HQ.out.on HB11.out).sys;rw[HSC.out] at hsys;have e7:W11.cell? ⟨w.heap.size+1+1,7,none⟩=some (.int .i64 p.t.n):=zh hsys 7 rfl;have e8:W11.cell? ⟨w.heap.size+1+1,8,none⟩=some (.slice AV (yl f vk q).1.length kv):=zh hsys 8 rfl;have fe7:=zi hsys 7;have fe8:=zi hsys 8;have hbs11:w.heap.size+1+1<W11.heap.size:=by omega
          have HPT:=zH (Bq.put HQ.out HB11.out (u:=.int .i64 p.t.n) (HO3.out.of_same fun k hk=>hB11.block k (HO3.out.lt' k hk).2) (fun k hk=>by
           rcases HV3.out k hk with e | e
           . exact .inl e
           . exact .inr (by have:=HB6.out.size;omega)) (by rw[HSC.out];rfl) (by rw[HSC.out];rfl))
          obtain⟨Y10,hY10⟩:=Ki ((W11.setCell ⟨w.heap.size+1+1,7,none⟩ (.int .i64 p.t.n)).setCell ⟨w.heap.size+1+1,8,none⟩ (.slice A3 vs'.length k3));rw[hY10] at HPT;have HY10:=zH hY10;have hsz10:Y10.heap.size=W11.heap.size:=by rw[<-hY10];simp
          have HGN:Hid ((Y10.alloc (.cells #[.int .i64 iz] 3)).heap[w10.heap.size+1]?=some (.cells #[.int .i64 iz] 3 (0,0))):=by show _=_;rw[<-hs11,<-hsz10];exact zw Y10 _
          have HRN:=zH (HPT.out.row.alloc (.cells #[.int .i64 iz] 3));have HDY:=zH HPT.out.big
          have HRW:Hid (yl f vk (q+1)=(vs',(yl f vk q).2++[iz])):=by
           show(_,_)=_;rw[HFQ.out,HVS.out,HIZ.out]
          clear hW11 b11 hB11 hsys hY10 s7 s8 f7 f8 HS10 HO3 HV3 HVS HIZ HFQ HQ9;go_simp;rename_i hKK;refine hKK _ _ ?_;clear hKK;refine LW rfl fun K5 hK5=>?_
          go_simp;refine hK5 _ _ ?_;clear hK5 K5;refine LW rfl fun K5 hK5=>?_
          go_simp;refine hK5 _ _ ?_;clear hK5 K5;refine LW rfl fun K5 hK5=>?_
          go_simp;refine hK5 _ _ ?_;clear hK5 K5;refine LW rfl fun K5 hK5=>?_
          go_simp;refine hK5 _ _ ?_;clear hK5 K5;refine LW rfl fun K5 hK5=>?_
          go_simp;rw[HW11.out];refine hK5 _ _ ?_;clear hK5 K5 HW11;have HRL3:Hid ((yl f vk q).2.length<=1000000000):=by show _<=_;rw[HRL2.out];omega
          have HDZ:Hid (D<=(Y10.alloc (.cells #[.int .i64 iz] 3)).heap.size):=by show _<=_;have:=HDY.out;simp;omega
          go_wp2_with (at_builtin;go_loud (rw[HY10.out];refine xx ZG rfl (.tmp 99) (.tmp 101) rfl D (.slice AL (yl f vk q).2.length kl) (yl f vk q).2.length ((yl f vk q).2.map (Value.int .i64)) rfl HRN.out (w10.heap.size+1) #[.int .i64 iz] rfl HGN.out rfl (by simp[Value.oneCell']) HRL3.out HDZ.out _ rfl ?_;intro g' cap w12 hr7 hg7 hat7 hlt7;have HPS:=zH (Bq.push HPT.out (zW Y10 _) hr7 hg7 hat7);clear hr7 hg7 hat7))
          go_roundw
          case rel=>exact⟨q+1,_,by omega,by go_num,by rw[HRW.out];exact HPS.out⟩
          case measure=>simp[intOf];omega
end
section
open Go.RowKit
attribute [local go_sem] Oper.semAt_some
theorem Qt{p:Pb}(h:zU p=0):4096<Zz p↔4096<ye p:=by
 obtain⟨hpt,_⟩:=zX h;obtain⟨h1,_⟩:=xg hpt;have e:ye p=p.t.cases.length*yd p.a p.k.toNat 0:=by unfold ye;rw[Po]
 rw[e];exact sat_mul 4096 p.t.cases.length (yd p.a p.k.toNat 0) h1
theorem JE(p:Pb)(hf:yR p)(A:Bb)(kc:Nat)(SV:Bb)(ks:Nat)(w:Ba)(hA:CAt w w.heap.size A p.t.cases)(hS:SAt w w.heap.size SV p.a.sts) :
  Calls Tryz.prog 33 #[.agg (p.vs A kc SV ks)] w (RetSys (zY p) w):=by
 have HC:=zH (fun (w':Ba) (h1:CAt w' w'.heap.size A p.t.cases) (h2:SAt w' w'.heap.size SV p.a.sts)=>jo p hf.1 A kc SV ks w' h1 h2)
 have HN:=zH (fun (w':Ba) (h0:zU p=0) (h:SAt w' w'.heap.size SV p.a.sts)=>
  uB p hf.1 (yU hf.1.2 (zX h0).2.1).1 (yU hf.1.2 (zX h0).2.1).2.1 p.k.toNat 4096 (by have:=(zX h0).2.2.2.1;omega) (by have:=(zX h0).2.2.2.2;omega) (by decide) A kc SV ks w' h)
 have HB:=zH (fun (h0:zU p=0) (h60:ye p<=60) (w':Ba) (h1:CAt w' w'.heap.size A p.t.cases) (h2:SAt w' w'.heap.size SV p.a.sts)=>Xa p hf h0 h60 A kc SV ks w' h1 h2);have HBad:=zH (@xm p);have HMany:=zH (@xF p);have HOk:=zH (@qv p);have HNM:=zH (@Qt p);have HFX:=zH hf.2;obtain⟨R,hR⟩:=Ki (zY p);rw[hR] at HBad HMany HOk ⊢;obtain⟨w1,hw1,d0,d1,hs1,hB1⟩:=yB w (p.vs A kc SV ks) #[.int .i64 0,.int .i64 0,.int .i64 0,.slice none 0 0,.int .i64 0,.slice none 0 0,.int .i64 0,.int .i64 0,.slice none 0 0,.slice none 0 0] 29 35;have HAW:=zH hA;have HSW:=zH hS;have HA:=zH ((hA.keep hB1).more hB1.size);have HS:=zH ((hS.keep hB1).more hB1.size);unfold Pb.vs at hw1 d0 ⊢;have HW1:=zH hw1;have HD0:=zH d0;have HD1:=zH d1;have HB1:=zH hB1;obtain⟨p0,p1,p2,p3,p4,p5,p6,_⟩:=Kf d0;obtain⟨E,hE⟩:=Ki (zU p);have HPE:=zH hE;rw[hE] at HC HBad;obtain⟨M,hM⟩:=Ki (p.t.cases.length*yW 4096 (yd p.a p.k.toNat 0));have HMM:Hid (Zz p=M):=hM;rw[hM] at HN;clear hw1 d0 d1 hB1 hA hS hf hR hE hM;go_enter Tryz.func33,Tryz.ntmps33;go_wp2_with fail;rw[HW1.out];go_wp2_with fail;refine(HC.out w1 HA.out HS.out).mono ?_;rintro e w2 ⟨rfl,hb2⟩;have B2:=zH (HB1.out.trans (hb2.mono (by omega)));have HA2:=zH ((HA.out.keep hb2).more hb2.size);have HS2:=zH ((HS.out.keep hb2).more hb2.size);have hs2:=hb2.size;have d0:=La hb2 HD0.out;have d1:=La hb2 HD1.out;have HE0:=zH d0;have HE1:=zH d1;clear hb2 HC HW1 HD0 HD1 HA HS p0 p1 p2 p3 p4 p5 p6;obtain⟨p0,p1,p2,p3,p4,p5,p6,_⟩:=Kf d0
 by_cases h0:E=0
 case neg=>
  have hR:=zH (HBad.out h0);have e0:(E != 0)=true:=by simpa using h0
  have y0:=zh d1 0 rfl;have f0:=zi d1 0;have y1:=zh d1 1 rfl;have f1:=zi d1 1;have y2:=zh d1 2 rfl;have f2:=zi d1 2;have y3:=zh d1 3 rfl;have f3:=zi d1 3;have y4:=zh d1 4 rfl;have f4:=zi d1 4;have y5:=zh d1 5 rfl;have f5:=zi d1 5;have y6:=zh d1 6 rfl;have f6:=zi d1 6;have y7:=zh d1 7 rfl;have f7:=zi d1 7;have y8:=zh d1 8 rfl;have f8:=zi d1 8;have y9:=zh d1 9 rfl;have f9:=zi d1 9;obtain⟨k1,k2,k3⟩:=xz (.int .i64 0) (.int .i64 0) (.int .i64 0) (.slice none 0 0) (.int .i64 0) (.slice none 0 0) (.int .i64 0) (.int .i64 0) (.slice none 0 0) (.slice none 0 0) d1 B2.out (by omega:w.heap.size<=w.heap.size+1);obtain⟨WF,hWF⟩:=Ki (((((((((((w2.setCell ⟨w.heap.size+1,0,none⟩ (.int .i64 0)).setCell ⟨w.heap.size+1,1,none⟩ (.int .i64 0)).setCell ⟨w.heap.size+1,2,none⟩ (.int .i64 0)).setCell ⟨w.heap.size+1,3,none⟩ (.slice none 0 0)).setCell ⟨w.heap.size+1,4,none⟩ (.int .i64 0)).setCell ⟨w.heap.size+1,5,none⟩ (.slice none 0 0)).setCell ⟨w.heap.size+1,6,none⟩ (.int .i64 0)).setCell ⟨w.heap.size+1,7,none⟩ (.int .i64 0)).setCell ⟨w.heap.size+1,8,none⟩ (.slice none 0 0)).setCell ⟨w.heap.size+1,9,none⟩ (.slice none 0 0)));rw[hWF] at k1 k2 k3;have HK1:=zH k1;have HK2:=zH k2;have HK3:=zH k3;have HWF:=zH hWF;clear k1 k2 k3 hWF;clear HMany HOk HNM HN HB HFX h0 d0 d1;go_wp2_with fail;rw[HWF.out];obtain⟨z0,z1,z2,z3,z4,z5,z6,z7,z8,z9⟩:=zB HK1.out
  refine L1 (v:=.tuple #[.agg #[.int .i64 0,.int .i64 0,.int .i64 0,.slice none 0 0,.int .i64 0,.slice none 0 0,.int .i64 0,.int .i64 0,.slice none 0 0,.slice none 0 0],.int .i64 E]) (by simp[results,Tryz.results33,go_sem,z0,z1,z2,z3,z4,z5,z6,z7,z8,z9]) rfl ?_;rw[hR.out];exact RetSys.zero _ HK2.out
 case pos=>
 subst h0;clear HBad;go_wp2_with fail;refine(HN.out w2 HPE.out HS2.out).mono ?_;rintro e w3 ⟨rfl,hb3⟩;have B3:=zH (B2.out.trans (hb3.mono (by omega)));have HA3:=zH ((HA2.out.keep hb3).more hb3.size);have HS3:=zH ((HS2.out.keep hb3).more hb3.size);have hs3:=hb3.size;have d0:=La hb3 HE0.out;have d1:=La hb3 HE1.out;have HF0:=zH d0;have HF1:=zH d1;clear hb3 HN HE0 HE1 HA2 HS2 p0 p1 p2 p3 p4 p5 p6
 by_cases hm:4096<M
 case pos=>
  have hR:=zH (HMany.out HPE.out ((HNM.out HPE.out).1 (by rw[HMM.out];exact hm)));have hmi:(4096:Int)<(M:Int):=by omega
  have y0:=zh d1 0 rfl;have f0:=zi d1 0;have y1:=zh d1 1 rfl;have f1:=zi d1 1;have y2:=zh d1 2 rfl;have f2:=zi d1 2;have y3:=zh d1 3 rfl;have f3:=zi d1 3;have y4:=zh d1 4 rfl;have f4:=zi d1 4;have y5:=zh d1 5 rfl;have f5:=zi d1 5;have y6:=zh d1 6 rfl;have f6:=zi d1 6;have y7:=zh d1 7 rfl;have f7:=zi d1 7;have y8:=zh d1 8 rfl;have f8:=zi d1 8;have y9:=zh d1 9 rfl;have f9:=zi d1 9;obtain⟨k1,k2,k3⟩:=xz (.int .i64 0) (.int .i64 0) (.int .i64 0) (.slice none 0 0) (.int .i64 0) (.slice none 0 0) (.int .i64 0) (.int .i64 0) (.slice none 0 0) (.slice none 0 0) d1 B3.out (by omega:w.heap.size<=w.heap.size+1);obtain⟨WF,hWF⟩:=Ki (((((((((((w3.setCell ⟨w.heap.size+1,0,none⟩ (.int .i64 0)).setCell ⟨w.heap.size+1,1,none⟩ (.int .i64 0)).setCell ⟨w.heap.size+1,2,none⟩ (.int .i64 0)).setCell ⟨w.heap.size+1,3,none⟩ (.slice none 0 0)).setCell ⟨w.heap.size+1,4,none⟩ (.int .i64 0)).setCell ⟨w.heap.size+1,5,none⟩ (.slice none 0 0)).setCell ⟨w.heap.size+1,6,none⟩ (.int .i64 0)).setCell ⟨w.heap.size+1,7,none⟩ (.int .i64 0)).setCell ⟨w.heap.size+1,8,none⟩ (.slice none 0 0)).setCell ⟨w.heap.size+1,9,none⟩ (.slice none 0 0)));rw[hWF] at k1 k2 k3;have HK1:=zH k1;have HK2:=zH k2;have HK3:=zH k3;have HWF:=zH hWF;clear k1 k2 k3 hWF;clear HMany HOk HNM HB HFX d0 d1;go_wp2_with fail;rw[HWF.out];obtain⟨z0,z1,z2,z3,z4,z5,z6,z7,z8,z9⟩:=zB HK1.out
  refine L1 (v:=.tuple #[.agg #[.int .i64 0,.int .i64 0,.int .i64 0,.slice none 0 0,.int .i64 0,.slice none 0 0,.int .i64 0,.int .i64 0,.slice none 0 0,.slice none 0 0],.int .i64 17]) (by simp[results,Tryz.results33,go_sem,z0,z1,z2,z3,z4,z5,z6,z7,z8,z9]) rfl ?_;rw[hR.out];exact RetSys.zero _ HK2.out
 case neg=>
 have hex:¬(4096<ye p):=fun h=>hm (by rw[<-HMM.out];exact(HNM.out HPE.out).2 h)
 have h60:ye p<=60:=by
  rcases HFX.out HPE.out with h | h
  . exact h
  . exact absurd h hex
 have hR:=zH (HOk.out HPE.out (by omega));have hmi:¬((4096:Int)<(M:Int)):=by omega
 have HB':=zH (HB.out HPE.out h60 w3 HA3.out HS3.out);have HFW:=zH (gJ p HPE.out h60).1;obtain⟨p0,p1,p2,p3,p4,p5,p6,_⟩:=Kf d0;clear HMany HOk HNM HB HFX hex h60 d0 d1 HMM;go_wp2_with fail
 all_goals first | (exfalso;omega) | skip
 refine HB'.out.mono ?_;rintro e w4 ⟨AV,kv,AE,ke,rfl,hV,hX,hb4⟩;have B4:=zH (B3.out.trans (hb4.mono (by omega)));have HVO:=zH hV;have HXO:=zH hX;have hs4:=hb4.size;have d1:=La hb4 HF1.out;have HG1:=zH d1;have HA4:=zH ((HA3.out.keep hb4).more hb4.size);have HS4:=zH ((HS3.out.keep hb4).more hb4.size);clear hV hX hb4 HB' HF0 HF1 p0 p1 p2 p3 p4 p5 p6 d1;obtain⟨W5,hW5,b5,hs5,hB5⟩:=zn w4 #[.int .i64 p.t.n,.int .i64 p.t.ins,.int .i64 p.t.outs,.slice A p.t.cases.length kc,.int .i64 p.a.n,.slice SV p.a.sts.length ks,.int .i64 p.k,.int .i64 p.t.n,.slice AV (zC p (zx p)).1.length kv,.slice AE (zC p (zx p)).2.length ke] 35;have d1:=La hB5 HG1.out;have B5:=zH (B4.out.trans (hB5.mono (by omega)));have HB5:=zH hB5;have HW5:=zH hW5;obtain⟨x0,x1,x2,x3,x4,x5,x6,x7,x8,x9⟩:=zB b5;have hfv:¬((8192:Int)<((zC p (zx p)).1.length:Int)):=by have:=HFW.out;omega
 clear hW5 hB5 b5;go_simp;rename_i hKK;refine hKK _ _ ?_;clear hKK;refine LW rfl fun K5 hK5=>?_
 go_simp;refine hK5 _ _ ?_;clear hK5 K5;refine LW rfl fun K5 hK5=>?_
 go_simp;rw[HW5.out];refine hK5 _ _ ?_;clear hK5 K5 HW5;have y0:=zh d1 0 rfl;have f0:=zi d1 0;have y1:=zh d1 1 rfl;have f1:=zi d1 1;have y2:=zh d1 2 rfl;have f2:=zi d1 2;have y3:=zh d1 3 rfl;have f3:=zi d1 3;have y4:=zh d1 4 rfl;have f4:=zi d1 4;have y5:=zh d1 5 rfl;have f5:=zi d1 5;have y6:=zh d1 6 rfl;have f6:=zi d1 6;have y7:=zh d1 7 rfl;have f7:=zi d1 7;have y8:=zh d1 8 rfl;have f8:=zi d1 8;have y9:=zh d1 9 rfl;have f9:=zi d1 9;obtain⟨k1,k2,k3⟩:=xz (.int .i64 p.t.n) (.int .i64 p.t.ins) (.int .i64 p.t.outs) (.slice A p.t.cases.length kc) (.int .i64 p.a.n) (.slice SV p.a.sts.length ks) (.int .i64 p.k) (.int .i64 p.t.n) (.slice AV (zC p (zx p)).1.length kv) (.slice AE (zC p (zx p)).2.length ke) d1 B5.out (by omega:w.heap.size<=w.heap.size+1);obtain⟨WF,hWF⟩:=Ki (((((((((((W5.setCell ⟨w.heap.size+1,0,none⟩ (.int .i64 p.t.n)).setCell ⟨w.heap.size+1,1,none⟩ (.int .i64 p.t.ins)).setCell ⟨w.heap.size+1,2,none⟩ (.int .i64 p.t.outs)).setCell ⟨w.heap.size+1,3,none⟩ (.slice A p.t.cases.length kc)).setCell ⟨w.heap.size+1,4,none⟩ (.int .i64 p.a.n)).setCell ⟨w.heap.size+1,5,none⟩ (.slice SV p.a.sts.length ks)).setCell ⟨w.heap.size+1,6,none⟩ (.int .i64 p.k)).setCell ⟨w.heap.size+1,7,none⟩ (.int .i64 p.t.n)).setCell ⟨w.heap.size+1,8,none⟩ (.slice AV (zC p (zx p)).1.length kv)).setCell ⟨w.heap.size+1,9,none⟩ (.slice AE (zC p (zx p)).2.length ke)));rw[hWF] at k1 k2 k3;have HK1:=zH k1;have HK2:=zH k2;have HK3:=zH k3;have HWF:=zH hWF;clear k1 k2 k3 hWF;clear d1;go_wp2_with fail;rw[HWF.out]
 obtain⟨z0,z1,z2,z3,z4,z5,z6,z7,z8,z9⟩:=zB HK1.out;refine L1 (v:=.tuple #[.agg #[.int .i64 p.t.n,.int .i64 p.t.ins,.int .i64 p.t.outs,.slice A p.t.cases.length kc,.int .i64 p.a.n,.slice SV p.a.sts.length ks,.int .i64 p.k,.int .i64 p.t.n,.slice AV (zC p (zx p)).1.length kv,.slice AE (zC p (zx p)).2.length ke],.int .i64 0]) (by simp[results,Tryz.results33,go_sem,z0,z1,z2,z3,z4,z5,z6,z7,z8,z9]) rfl ?_;rw[hR.out];have hsame:∀k,k≠w.heap.size+1->k<w4.heap.size->WF.heap[k]?=w4.heap[k]?:=fun k a b=>(HK3.out.2.1 k a).trans (HB5.out.block k b)
 have hz:w4.heap.size<=WF.heap.size:=by have:=HB5.out.size;have:=HK3.out.2.2;omega
 obtain⟨AV',kv',eV,hT⟩:=(HVO.out.of_same fun k hk=>hsame k (by have:=(HVO.out.lt' k hk).1;omega) (HVO.out.lt' k hk).2).form (by have:=HFW.out;omega)
 cases eV
 obtain⟨AE',ke',eE,_,_,hXA,_⟩:=jX (HXO.out.keep zR ⟨hz,fun k hs hl=>hsame k (by omega) hl⟩ fun k hk=>hsame k (by have:=(HXO.out.lt k hk).1;omega) (HXO.out.lt k hk).2)
 cases eE
 exact⟨A,kc,SV,ks,AV,kv,AE,ke,rfl,⟨(HAW.out.keep HK2.out).more HK2.out.size,(HSW.out.keep HK2.out).more HK2.out.size,hT.rows,hXA⟩,hT.lec,hT.lem,HK2.out⟩
theorem rver_any(s:Sy)(hs:LowS s)(hf:yR s.p)(A SV AV AX:Bb)(kc ks kv kx:Nat)(w:Ba)(hS:SyAt w w.heap.size A SV AV AX s) :
  Calls Tryz.prog 73 #[.agg (s.vs_ A kc SV ks AV kv AX kx)] w fun e w'=>e=.returned (.int .i64 (zV s))/\Below w.heap.size w w':=by
 obtain⟨w1,hw1⟩:=Ki (w.alloc (.cells (s.vs_ A kc SV ks AV kv AX kx) 35));have hbb:=zw w (.cells (s.vs_ A kc SV ks AV kv AX kx) 35);have hb01:Below w.heap.size w w1:=by rw[<-hw1];exact zW w _
 have hsz1:w1.heap.size=w.heap.size+1:=by rw[<-hw1];simp
 rw[hw1] at hbb;have HS1:=zH (hS.up hb01);have HB:=zH (JE s.p hf A kc SV ks w1 (hS.up hb01).fc (hS.up hb01).fs);have HLB:=zH (wh hs.fp hf);have HLS:=zH hs;have HVE:Hid (zV s=if (zY s.p).2≠0 then (zY s.p).2 else if s=(zY s.p).1 then 0 else 3):=rfl
 have HBO:=zH (fun (h:(zY s.p).2=0)=>(by
  by_cases h0:zU s.p=0
  case neg=>rw[xm h0] at h;exact absurd h h0
  case pos=>
   by_cases h1:4096<ye s.p
   . rw[xF h0 h1] at h;cases h
   . rw[qv h0 (by omega)];exact⟨rfl,rfl⟩:(zY s.p).1.p=s.p/\(zY s.p).1.n=s.p.t.n))
 unfold Sy.vs_ at hw1 hbb ⊢;unfold Pb.vs at HB;have HW1:=zH hw1;have HBB:=zH hbb;have HB01:=zH hb01;obtain⟨p0,p1,p2,p3,p4,p5,p6,_⟩:=Kf hbb;obtain⟨R,hR⟩:=Ki (zY s.p);rw[hR] at HB HLB HVE HBO;obtain⟨r,hr⟩:=Ki (zV s);rw[hr] at HVE ⊢;clear hw1 hbb hb01 hS hs hf hR hr;go_enter Tryz.func73,Tryz.ntmps73;go_wp2_with fail;rw[HW1.out];go_wp2_with fail;refine HB.out.mono ?_;rintro e w2 ⟨A2,kc2,SV2,ks2,AV2,kv2,AX2,kx2,rfl,hS2,hv1,hv2,hb2⟩;obtain⟨T,E⟩:=R;obtain⟨W3,hW3,b3,hs3,hB3⟩:=zn w2 (T.vs_ A2 kc2 SV2 ks2 AV2 kv2 AX2 kx2) 35;have HS3:=zH (hS2.up hB3);have HB3:=zH (HB01.out.trans ((Lc hb2 hB3).mono (by omega)));have hs2:=hb2.size;have d0:=Lb hB3 (by omega:w.heap.size<w2.heap.size) (Lb hb2 (by omega:w.heap.size<w1.heap.size) HBB.out);have HS13:=zH ((HS1.out.up hb2).up hB3);unfold Sy.vs_ at hW3 b3 ⊢;have HW3:=zH hW3;have HD0:=zH d0;have HD3:=zH b3;clear hb2 hS2 hv1 hv2 hB3 hW3 HB HW1 p0 p1 p2 p3 p4 p5 p6 HS1 HBB;dsimp only at HVE HBO HLB HS3;go_simp;rename_i hKK;refine hKK _ _ ?_;clear hKK;refine LW rfl fun K5 hK5=>?_
 go_simp;refine hK5 _ _ ?_;clear hK5 K5;refine LW rfl fun K5 hK5=>?_
 go_simp;refine hK5 _ _ ?_;clear hK5 K5;refine LW rfl fun K5 hK5=>?_
 go_simp;refine hK5 _ _ ?_;clear hK5 K5;refine LW rfl fun K5 hK5=>?_
 go_simp;refine hK5 _ _ ?_;clear hK5 K5;refine LW rfl fun K5 hK5=>?_
 go_simp;rw[HW3.out];refine hK5 _ _ ?_;clear hK5 K5
 by_cases h0:E=0
 case neg=>
  have e0:(E != 0)=true:=by simpa using h0
  have hR:Hid (r=E):=HVE.out.trans (Lh h0);clear HVE HBO h0 d0 b3;go_wp2_with fail;go_ret;exact⟨zk hR.out.symm,HB3.out⟩
 case pos=>
 subst h0;obtain⟨hTp,hTn⟩:=HBO.out rfl;have hVE:r=if s=T then 0 else 3:=HVE.out.trans (Lg (by simp));have H3:Hid (s≠T->r=3):=fun h=>hVE.trans (Lg h)
 have H0:Hid (s=T->r=0):=fun h=>hVE.trans (Lh h)
 have HTP:=zH hTp;have HEQ:=zH (@sy_eq s T);have HSM:=zH (Jr s T HLS.out HLB.out A SV AV AX A2 SV2 AV2 AX2 kc ks kv kx kc2 ks2 kv2 kx2 W3 HS13.out HS3.out);have x0:W3.cell? ⟨w.heap.size,0,none⟩=some (.int .i64 s.p.t.n):=zh d0 0 rfl;have y0:W3.cell? ⟨w2.heap.size,0,none⟩=some (.int .i64 T.p.t.n):=zh b3 0 rfl;have x1:W3.cell? ⟨w.heap.size,1,none⟩=some (.int .i64 s.p.t.ins):=zh d0 1 rfl;have y1:W3.cell? ⟨w2.heap.size,1,none⟩=some (.int .i64 T.p.t.ins):=zh b3 1 rfl;have x2:W3.cell? ⟨w.heap.size,2,none⟩=some (.int .i64 s.p.t.outs):=zh d0 2 rfl;have y2:W3.cell? ⟨w2.heap.size,2,none⟩=some (.int .i64 T.p.t.outs):=zh b3 2 rfl;have x3:W3.cell? ⟨w.heap.size,3,none⟩=some (.slice A s.p.t.cases.length kc):=zh d0 3 rfl;have y3:W3.cell? ⟨w2.heap.size,3,none⟩=some (.slice A2 T.p.t.cases.length kc2):=zh b3 3 rfl;have x4:W3.cell? ⟨w.heap.size,4,none⟩=some (.int .i64 s.p.a.n):=zh d0 4 rfl;have y4:W3.cell? ⟨w2.heap.size,4,none⟩=some (.int .i64 T.p.a.n):=zh b3 4 rfl;have x5:W3.cell? ⟨w.heap.size,5,none⟩=some (.slice SV s.p.a.sts.length ks):=zh d0 5 rfl;have y5:W3.cell? ⟨w2.heap.size,5,none⟩=some (.slice SV2 T.p.a.sts.length ks2):=zh b3 5 rfl;have x6:W3.cell? ⟨w.heap.size,6,none⟩=some (.int .i64 s.p.k):=zh d0 6 rfl;have y6:W3.cell? ⟨w2.heap.size,6,none⟩=some (.int .i64 T.p.k):=zh b3 6 rfl;have x7:W3.cell? ⟨w.heap.size,7,none⟩=some (.int .i64 s.n):=zh d0 7 rfl;have y7:W3.cell? ⟨w2.heap.size,7,none⟩=some (.int .i64 T.n):=zh b3 7 rfl
 have x8:W3.cell? ⟨w.heap.size,8,none⟩=some (.slice AV s.vs.length kv):=zh d0 8 rfl;have y8:W3.cell? ⟨w2.heap.size,8,none⟩=some (.slice AV2 T.vs.length kv2):=zh b3 8 rfl;have x9:W3.cell? ⟨w.heap.size,9,none⟩=some (.slice AX s.xs.length kx):=zh d0 9 rfl;have y9:W3.cell? ⟨w2.heap.size,9,none⟩=some (.slice AX2 T.xs.length kx2):=zh b3 9 rfl;unfold Sy.vs_ at HSM;clear hTp hTn hVE HVE HBO d0 b3 HLB HLS HTP HEQ;go_wp2_with fail;refine HSM.out.mono ?_;rintro e w4 ⟨rfl,hb4⟩;have B4:=zH (HB3.out.trans (hb4.mono (by omega)));clear hb4 HSM x0 x1 x2 x3 x4 x5 x6 x7 x8 x9 y0 y1 y2 y3 y4 y5 y6 y7 y8 y9
 by_cases h2:s=T
 case neg=>
  have hR:=zH (H3.out h2);rw[Li h2];clear H3 H0 h2;go_wp2_with fail;go_ret;exact⟨zk hR.out.symm,B4.out⟩
 case pos=>
  have hR:=zH (H0.out h2);rw[Lk h2];clear H3 H0 h2;go_wp2_with fail;go_ret;exact⟨zk hR.out.symm,B4.out⟩
theorem yn{s:Sy}(hf:yR s.p)(h:zV s=0):s=kD s.p/\∃K N,Fine s K N:=by
 unfold zV at h
 by_cases h1:(zY s.p).2≠0
 . rw[Lh h1] at h;exact absurd h h1
 . rw[Lg h1] at h
   by_cases h2:s=(zY s.p).1
   · have h0 : zU s.p = 0 := by
      by_cases h0:zU s.p=0
      . exact h0
      . rw[xm h0] at h1;exact absurd h0 h1
     have hm:¬4096<ye s.p:=fun hm=>by rw[xF h0 hm] at h1;exact h1 (by decide)
     rw[qv h0 (by omega)] at h2;obtain⟨K,N,hF⟩:=built_fine hf h0 (by rcases hf.2 h0 with h | h;exact h;exact absurd h hm);exact⟨h2,K,N,by rw[h2];exact hF⟩
   . rw[Lg h2] at h;cases h
def xv(bs:List Bool):Array Value:=(bs.map Value.bool).toArray
theorem qw(bs:List Bool)(i:Nat)(b:Bool):(xv bs).setIfInBounds i (.bool b)=xv (bs.set i b):=by
 unfold xv;rw[List.setIfInBounds_toArray,RO]
theorem qi(bs:List Bool)(i:Nat)(h:i<bs.length):(xv bs)[i]?=some (.bool bs[i]):=by
 unfold xv;simp[h]
def kBo:Kd:=⟨4,36,1,1,.bool false⟩
theorem kBo_ok:KdOk Tryz.prog kBo:=⟨NM,by kernel_rfl,by rfl,by decide,by decide⟩
theorem JY(n:Nat):madeCells #[.bool false] (n*1)=xv (List.replicate n false):=by
 unfold madeCells xv;apply Array.ext
 . simp
 . intro i h1 h2
   simp[Nat.mod_one]
theorem xC(n:Nat)(hn:n<=100000)(W:Ba):(Instr.makeSlice 36 (.int .i64 n) (.int .i64 n)).run Tryz.prog W=.ok (.slice (some ⟨W.heap.size,0,none⟩) n n) (W.alloc (.cells (xv (List.replicate n false)) 4)):=by
 obtain⟨i0,hi,hz0,hz1,hz2⟩:=yT kBo_ok;have hb:i0.bytes=1:=hz2;have hs:i0.size=1:=hz1;have h:=run_make (P:=Tryz.prog) W 36 4 i0 (.bool false) NM hi hz0 .i64 .i64 (n:Int) (n:Int) (by omega) (Int.le_refl _) (by rw[hb];omega) (by omega);rw[h,hs];simp only[Int.toNat_natCast];rw[show(Value.bool false).cells=#[.bool false] from rfl,JY]
end
section
open Go.RowKit
def kBl:Kd:=⟨4,36,1,1,.bool false⟩
theorem kBl_ok:KdOk Tryz.prog kBl:=⟨NM,by kernel_rfl,by rfl,by decide,by decide⟩
section
variable {w w':Ba} {B B':Nat} {A:Bb}
def BAt(w:Ba)(B:Nat)(A:Bb)(bs:List Bool):Prop:=
 0<bs.length->∃b off,A=some ⟨b,off,none⟩/\b<B/\∀(i:Nat) (hi:i<bs.length),w.cell? ⟨b,off+i,none⟩=some (.bool bs[i])
theorem BAt.keep{bs:List Bool}(h:BAt w B A bs)(hb:Below B w w'):BAt w' B A bs:=fun h0=>by
 obtain⟨b,off,e,hlt,hc⟩:=h h0;exact⟨b,off,e,hlt,fun i hi=>(hb.cell (p:=⟨b,_,none⟩) hlt).trans (hc i hi)⟩
theorem BAt.more{bs:List Bool}(h:BAt w B A bs)(hB:B<=B'):BAt w B' A bs:=fun h0=>by
 obtain⟨b,off,e,hlt,hc⟩:=h h0;exact⟨b,off,e,by omega,hc⟩
theorem BAt.at_{bs:List Bool}(h:BAt w B A bs)(i:Nat)(hi:i<bs.length):∃b off,A=some ⟨b,off,none⟩/\b<B/\w.cell? ⟨b,off+i,none⟩=some (.bool bs[i]):=by
 obtain⟨b,off,e,hlt,hc⟩:=h (by omega);exact⟨b,off,e,hlt,hc i hi⟩
def BRow(w:Ba)(g:Nat)(bs:List Bool):Prop:=w.heap[g]?=some (.cells (xv bs) 4 (0,0))
theorem BRow.lt{g:Nat}{bs:List Bool}(h:BRow w g bs):g<w.heap.size:=zj h
theorem BRow.at_{g:Nat}{bs:List Bool}(h:BRow w g bs)(hB:g<B):BAt w B (some ⟨g,0,none⟩) bs:=fun _=>⟨g,0,rfl,hB,fun i hi=>by rw[LH];exact zh h i (qi bs i hi)⟩
end
end
section
open Go.RowKit
structure Fh where
 op:Int
 p:Int
 o:Int
 v:Int
 g:Int
inductive Fm where
 | mk (h:Fh) (args:List Fm)
def Fm.h:Fm->Fh
 | .mk h _=>h
def Fm.args:Fm->List Fm
 | .mk _ l=>l
instance:Inhabited Fm:=⟨.mk ⟨0,0,0,0,0⟩ []⟩
def usP(op:Int):Bool:=decide (op=1\/op=3\/op=4\/op=5\/op=10)
def usO(op:Int):Bool:=decide (op=3)
def usV(op:Int):Bool:=decide (op=1\/op=2\/op=5\/op=6)
def usG(op:Int):Bool:=decide (op=11\/op=12\/op=13)
def arN(op:Int):Int:=if op=8\/op=9\/op=17 then 2 else if op<=6 then 0 else 1
def mxV(op:Int):Int:=if op=6 then 6 else 7
def qL(n:Nat)(h:Fh)(k:Nat):Int:=
 if h.op<0\/17<h.op then 1 else if (k:Int)≠arN h.op then 15
 else if (usP h.op=true/\¬(0<=h.p/\h.p<=(n:Int)-1))\/(usO h.op=true/\¬(0<=h.o/\h.o<=(n:Int)-1))\/(usV h.op=true/\¬(0<=h.v/\h.v<=mxV h.op))\/(usG h.op=true/\¬(0<=h.g/\h.g<=(2:Int)^n-1)) then 2
 else if (usP h.op=false/\h.p≠0)\/(usO h.op=false/\h.o≠0)\/(usV h.op=false/\h.v≠0)\/(usG h.op=false/\h.g≠0) then 3 else 0
def Ym:List Int->Int
 | []=>0
 | e::l=>if e≠0 then e else Ym l
def Qu(n:Nat)(R:Fm->Int)(f:Fm):Int:=if qL n f.h f.args.length≠0 then qL n f.h f.args.length else Ym (f.args.map R)
def kK(n:Nat):Nat->Fm->Int
 | 0=>Qu n fun _=>0
 | d+1=>Qu n (kK n d)
def yZ(R:Fm->Nat×Nat)(l:List Fm):Nat×Nat:=l.foldl (fun a x=>(a.1+(R x).1,max a.2 (R x).2)) (1,0)
def xI:Nat->Fm->Nat×Nat
 | 0=>fun f=>((yZ (fun _=>(0,0)) f.args).1,(yZ (fun _=>(0,0)) f.args).2+1)
 | d+1=>fun f=>((yZ (xI d) f.args).1,(yZ (xI d) f.args).2+1)
def gI(x:Nat×Nat):Int:=if 128<x.1 then 5 else if 24<x.2 then 12 else 0
def qW(n:Int)(d:Nat)(f:Fm):Int:=if n<1\/5<n then 2 else if gI (xI d f)≠0 then gI (xI d f) else kK n.toNat d f
def FsAt(w:Ba)(B:Nat):Nat->Bb->List Fm->Prop
 | 0,_,l=>l=[]
 | d+1,A,l=>0<l.length->∃b o,A=some ⟨b,o,none⟩/\b<B/\∀i (hi:i<l.length),∃A' c',
   (∀j v,#[Value.int .i64 l[i].h.op,.int .i64 l[i].h.p,.int .i64 l[i].h.o,.int .i64 l[i].h.v,.int .i64 l[i].h.g,.slice A' l[i].args.length c'][j]?=some v->w.cell? ⟨b,o+i*6+j,none⟩=some v)/\FsAt w B d A' l[i].args
def Fm.vs(f:Fm)(A:Bb)(c:Nat):Array Value:=#[.int .i64 f.h.op,.int .i64 f.h.p,.int .i64 f.h.o,.int .i64 f.h.v,.int .i64 f.h.g,.slice A f.args.length c]
theorem FsAt.keep:∀ {d:Nat} {w w':Ba} {B:Nat} {A:Bb} {l:List Fm},FsAt w B d A l->Below B w w'->FsAt w' B d A l
 | 0,_,_,_,_,_,h,_=>h
 | d+1,w,w',B,A,l,h,hb=>fun h0=>by
  obtain⟨b,o,e,hlt,hr⟩:=h h0;refine⟨b,o,e,hlt,fun i hi=>?_⟩;obtain⟨A',c',h1,h2⟩:=hr i hi;exact⟨A',c',fun j v hv=>(hb.cell hlt).trans (h1 j v hv),FsAt.keep h2 hb⟩
theorem FsAt.more:∀ {d:Nat} {w:Ba} {B B':Nat} {A:Bb} {l:List Fm},FsAt w B d A l->B<=B'->FsAt w B' d A l
 | 0,_,_,_,_,_,h,_=>h
 | d+1,w,B,B',A,l,h,hb=>fun h0=>by
  obtain⟨b,o,e,hlt,hr⟩:=h h0;refine⟨b,o,e,by omega,fun i hi=>?_⟩;obtain⟨A',c',h1,h2⟩:=hr i hi;exact⟨A',c',h1,FsAt.more h2 hb⟩
def RecAt(w:Ba)(A:Bb)(l:List Fm)(F:Array Value->Fm->Ba->Prop):Prop:=∀i (hi:i<l.length),∃b o A' c',A=some ⟨b,o,none⟩/\b<w.heap.size /\
 (∀W,Below w.heap.size w W->∀j v,(l[i].vs A' c')[j]?=some v->W.cell? ⟨b,o+i*6+j,none⟩=some v)/\∀X,Below w.heap.size w X->F (l[i].vs A' c') l[i] X
theorem RecAt.of{d:Nat}{w:Ba}{A:Bb}{l:List Fm}{F:Array Value->Fm->Ba->Prop}(h:FsAt w w.heap.size (d+1) A l)
  (hF:∀(x:Fm) (A':Bb) (c':Nat) (X:Ba),x∈l->FsAt X X.heap.size d A' x.args->F (x.vs A' c') x X):RecAt w A l F:=fun i hi=>by
 obtain⟨b,o,e,hlt,hr⟩:=h (by omega);obtain⟨A',c',h1,h2⟩:=hr i hi;exact⟨b,o,A',c',e,hlt,fun W hW j v hv=>(hW.cell hlt).trans (h1 j v hv),fun X hX=>hF _ A' c' X (Ld hi) ((h2.keep hX).more hX.size)⟩
theorem RecAt.none{w:Ba}{A:Bb}{l:List Fm}{F:Array Value->Fm->Ba->Prop}(h:FsAt w w.heap.size 0 A l):RecAt w A l F:=fun i hi=>by
 rw[show l=[] from h] at hi;cases hi
theorem YB(R:Fm->Nat×Nat)(l:List Fm)(x:Fm):yZ R (l++[x])=((yZ R l).1+(R x).1,max (yZ R l).2 (R x).2):=by unfold yZ;rw[N1];rfl
theorem vS(R:Fm->Nat×Nat):∀(l:List Fm) (a:Nat×Nat),a.1<=(l.foldl (fun a x=>(a.1+(R x).1,max a.2 (R x).2)) a).1/\a.2<=(l.foldl (fun a x=>(a.1+(R x).1,max a.2 (R x).2)) a).2
 | [],a=>⟨Le _,Le _⟩
 | x::l,a=>by
  have:=vS R l (a.1+(R x).1,max a.2 (R x).2);rw[Pc];dsimp only at this;omega
theorem YA(R:Fm->Nat×Nat)(l:List Fm)(k:Nat):(yZ R (l.take k)).1<=(yZ R l).1/\(yZ R (l.take k)).2<=(yZ R l).2:=by
 have h:=vS R (l.drop k) (yZ R (l.take k))
 have e:yZ R l=(l.drop k).foldl (fun a x=>(a.1+(R x).1,max a.2 (R x).2)) (yZ R (l.take k)):=by
  unfold yZ;rw[<-N1,PG]
 rw[e];exact h
theorem uy(R:Fm->Nat×Nat)(hR:∀x,(R x).2<=(R x).1):∀(l:List Fm) (a:Nat×Nat),a.2+1<=a.1->(l.foldl (fun a x=>(a.1+(R x).1,max a.2 (R x).2)) a).2+1<=(l.foldl (fun a x=>(a.1+(R x).1,max a.2 (R x).2)) a).1
 | [],_,h=>h
 | x::l,a,h=>by
  rw[Pc];refine uy R hR l _ ?_;have:=hR x;dsimp only;omega
theorem YC:∀(d:Nat) (f:Fm),(xI d f).2<=(xI d f).1
 | 0,f=>uy _ (fun _=>Le _) f.args (1,0) (by decide)
 | d+1,f=>uy _ (YC d) f.args (1,0) (by decide)
theorem Zf(R:Fm->Nat×Nat){l:List Fm}{x:Fm}(h:x∈l):(R x).1<=(yZ R l).1:=by
 obtain⟨k,hk,rfl⟩:=LQ h;have h1:=(YA R l (k+1)).1;rw[Lu hk,YB] at h1;dsimp only at h1;omega
theorem XX(R:Fm->Nat×Nat)(hR:∀x,1<=(R x).1):∀(l:List Fm) (a:Nat×Nat),a.1+l.length<=(l.foldl (fun a x=>(a.1+(R x).1,max a.2 (R x).2)) a).1
 | [],_=>Le _
 | x::l,a=>by
  have:=XX R hR l (a.1+(R x).1,max a.2 (R x).2);have:=hR x;rw[Pc,LE];dsimp only at *;omega
theorem ux(R:Fm->Nat×Nat)(hR:∀x,1<=(R x).1)(l:List Fm):l.length<=(yZ R l).1:=by
 have:1+l.length<=(yZ R l).1:=XX R hR l (1,0);omega
theorem Zg:∀(d:Nat) (f:Fm),1<=(xI d f).1
 | 0,f=>(vS _ f.args (1,0)).1
 | _+1,f=>(vS _ f.args (1,0)).1
theorem uX(e:Int)(l:List Int):Ym (e::l)=if e≠0 then e else Ym l:=rfl
theorem ffsE_none{l:List Int}(h:∀e∈l,e=0):Ym l=0:=by
 induction l with
 | nil=>rfl
 | cons e l ih=>
  rw[uX,Lg (by simpa using h e (by simp))];exact ih fun x hx=>h x (by simp[hx])
theorem ffsE_at{l:List Int}{k:Nat}(hk:k<l.length)(h0:∀j (hj:j<l.length),j<k->l[j]=0)(h1:l[k]≠0):Ym l=l[k]:=by
 induction l generalizing k with
 | nil=>simp at hk
 | cons e l ih=>
  cases k with
  | zero=>
   simp only[List.getElem_cons_zero] at h1 ⊢;rw[uX,Lh h1]
  | succ k=>
   have he:e=0:=h0 0 (by simp) (by omega);simp only[List.getElem_cons_succ] at h1 ⊢;rw[uX,Lg (by simpa using he)];refine ih (by simpa using hk) (fun j hj hlt=>?_) h1;have:=h0 (j+1) (by simpa using hj) (by omega);simpa using this
end
section
open Go.RowKit Go.Shelf
attribute [local go_sem] Oper.semAt_some
def gB(op:Int):Bool:=decide (14<=op/\op<=17)
def temS(R:Fm->Bool)(f:Fm):Bool:=gB f.h.op||f.args.any R
def Ya:Nat->Fm->Bool
 | 0=>temS fun _=>false
 | d+1=>temS (Ya d)
def dualN(op:Int):Int:=if op=8 then 9 else if op=9 then 8 else if op=15 then 16 else if op=16 then 15 else 0
def rowV(op:Int):Array Value:=#[.bool (usP op),.bool (usO op),.bool (usG op),.bool (decide (10<=op/\op<=13)),.bool (gB op),.int .i64 (dualN op)]
def RowTab(w:Ba):Prop:=0<w.heap.size/\∀op:Nat,op<18->∀j v,(rowV (op:Int))[j]?=some v->w.cell? ⟨0,op*6+j,none⟩=some v
theorem RowTab.keep{w w':Ba}{B:Nat}(h:RowTab w)(hb:Below B w w')(hB:1<=B):RowTab w':=⟨LC h.1 hb.size,fun op ho j v hv=>(hb.cell (p:=⟨0,op*6+j,none⟩) (by show 0<B;omega)).trans (h.2 op ho j v hv)⟩
def RetOf(op:Int)(w:Ba)(e:Ending)(w':Ba):Prop:=∃(b0 b1 b2 b3:Bool) (d:Int),e=.returned (.agg #[.bool b0,.bool b1,.bool b2,.bool b3,.bool (gB op),.int .i64 d])/\Below w.heap.size w w'
theorem field_r4(b0 b1 b2 b3 t:Bool)(d:Int)(w:Ba):(Instr.field 132 (.agg #[.bool b0,.bool b1,.bool b2,.bool b3,.bool t,.int .i64 d]) 4).run Tryz.prog w=.ok (.bool t) w:=by kernel_rfl
theorem ofR_any(op:Int)(w:Ba)(hT:RowTab w):Calls Tryz.prog 65 #[.int .i64 op] w (RetOf op w):=by
 have l0:=hT.1;go_enter Tryz.func65,Tryz.ntmps65
 by_cases h0:op<0
 . have e0:decide (op<0)=true:=Lk h0
   have hE:gB op=false:=Li (by omega);have HE:=zH hE;obtain⟨W,hW,d0,_,hb⟩:=zn w #[.bool false,.bool false,.bool false,.bool false,.bool false,.int .i64 0] 132;have HW:=zH hW;clear hW;go_wp2_with fail;rw[HW.out];obtain⟨z0,z1,z2,z3,z4,z5,_⟩:=Kg d0;refine L1 (v:=.agg #[.bool false,.bool false,.bool false,.bool false,.bool false,.int .i64 0]) (by simp[results,Tryz.results65,go_sem,z0,z1,z2,z3,z4,z5]) rfl ?_;exact⟨false,false,false,false,0,by rw[HE.out],hb⟩
 have e0:decide (op<0)=false:=Li h0
 by_cases h1:18<=op
 . have e1:decide (op>=18)=true:=Lk h1
   have hE:gB op=false:=Li (by omega);have HE:=zH hE;obtain⟨W,hW,d0,_,hb⟩:=zn w #[.bool false,.bool false,.bool false,.bool false,.bool false,.int .i64 0] 132;have HW:=zH hW;clear hW;go_wp2_with fail;rw[HW.out];obtain⟨z0,z1,z2,z3,z4,z5,_⟩:=Kg d0;refine L1 (v:=.agg #[.bool false,.bool false,.bool false,.bool false,.bool false,.int .i64 0]) (by simp[results,Tryz.results65,go_sem,z0,z1,z2,z3,z4,z5]) rfl ?_;exact⟨false,false,false,false,0,by rw[HE.out],hb⟩
 have e1:decide (op>=18)=false:=Li (by omega);obtain⟨k,rfl⟩:=Lr (show 0<=op by omega);have hk:k<18:=by omega
 have c0:w.cell? ⟨0,k*6,none⟩=some (.bool (usP (k:Int))):=hT.2 k hk 0 _ rfl;have c1:w.cell? ⟨0,k*6+1,none⟩=some (.bool (usO (k:Int))):=hT.2 k hk 1 _ rfl;have c2:w.cell? ⟨0,k*6+2,none⟩=some (.bool (usG (k:Int))):=hT.2 k hk 2 _ rfl;have c3:w.cell? ⟨0,k*6+3,none⟩=some (.bool (decide (10<=(k:Int)/\(k:Int)<=13))):=hT.2 k hk 3 _ rfl;have c4:w.cell? ⟨0,k*6+4,none⟩=some (.bool (gB (k:Int))):=hT.2 k hk 4 _ rfl;have c5:w.cell? ⟨0,k*6+5,none⟩=some (.int .i64 (dualN (k:Int))):=hT.2 k hk 5 _ rfl;obtain⟨b0,hb0⟩:=Ki (usP (k:Int));obtain⟨b1,hb1⟩:=Ki (usO (k:Int));obtain⟨b2,hb2⟩:=Ki (usG (k:Int));obtain⟨b3,hb3⟩:∃b,decide (10<=(k:Int)/\(k:Int)<=13)=b:=⟨_,rfl⟩;obtain⟨b4,hb4⟩:=Ki (gB (k:Int));obtain⟨b5,hb5⟩:=Ki (dualN (k:Int));rw[hb0] at c0;rw[hb1] at c1;rw[hb2] at c2;rw[hb3] at c3;rw[hb4] at c4;have HE:=zH hb4;rw[hb5] at c5;obtain⟨W,hW,d0,_,hb⟩:=zn w #[.bool b0,.bool b1,.bool b2,.bool b3,.bool b4,.int .i64 b5] 132;have HW:=zH hW;have hk0:(0:Int)<=(k:Int):=by omega
 have hk1:(k:Int)<18:=by omega
 clear hW hb0 hb1 hb2 hb3 hb4 hb5 hT;go_wp2_with fail;rw[HW.out];obtain⟨z0,z1,z2,z3,z4,z5,_⟩:=Kg d0;refine L1 (v:=.agg #[.bool b0,.bool b1,.bool b2,.bool b3,.bool b4,.int .i64 b5]) (by simp[results,Tryz.results65,go_sem,z0,z1,z2,z3,z4,z5]) rfl ?_;exact⟨b0,b1,b2,b3,b5,by rw[HE.out],hb⟩
theorem tem_any{R:Fm->Bool}{l:List Fm}{k:Nat}(hk:k<l.length)(h:R l[k]=true):l.any R=true:=List.any_eq_true.2 ⟨_,Ld hk,h⟩
theorem tem_none{R:Fm->Bool}{l:List Fm}(h:∀j (hj:j<l.length),R l[j]=false):l.any R=false:=by
 rw[List.any_eq_false];intro x hx;obtain⟨j,hj,rfl⟩:=LQ hx;rw[h j hj];decide
theorem tidx_step(l:List Fm)(R:Fm->Bool)(A:Bb)(c:Nat)(hl:l.length<=1000000)(w:Ba)
  (hrec:RecAt w A l fun cs x X=>Calls Tryz.prog 39 #[.agg cs] X fun e w'=>e=.returned (.bool (R x))/\Below X.heap.size X w') :
  Calls Tryz.prog 106 #[.slice A l.length c,.func (.func 39) #[] #[]] w fun e w'=>∃i:Int,e=.returned (.int .i64 i)/\decide (0<=i)=l.any R/\Below w.heap.size w w':=by
 have HREC:=zH hrec;obtain⟨n,hn⟩:=Ki l.length;have HN:=zH hn;rw[hn] at hl ⊢;clear hrec hn;go_enter Tryz.func106,Tryz.ntmps106;go_wp2_with fail
 go_loopw [8] (fun i wr=>∃k:Nat,k<=n/\i=.int .i64 (k:Int)/\Hid (∀j (hj:j<l.length),j<k->R l[j]=false)/\Hid (Below w.heap.size w wr)) (fun i _=>n-(intOf i).toNat)
 case atStart=>exact⟨0,by omega,rfl,fun j _ h=>absurd h (by omega),Lo _ _⟩
 case round=>
  obtain⟨k,hk,rfl,hz,hbr⟩:=hrel
  by_cases hlt:k<n
  . have hkl:k<l.length:=by have:=HN.out;omega
    obtain⟨bb,o,A',c',eA,hbb,hcell,hcall⟩:=HREC.out k hkl;subst eA;have hyes:R l[k]=true->Hid (l.any R=true):=fun h=>tem_any hkl h
    have hno:R l[k]=false->Hid (∀j (hj:j<l.length),j<k+1->R l[j]=false):=fun h j hj hjk=>by
     by_cases e:j=k
     . subst e;exact h
     . exact hz.out j hj (by omega)
    obtain⟨x,hx⟩:=Ki (l[k]);rw[hx] at hcell hcall hyes hno;obtain⟨r,hr⟩:=Ki (R x);dsimp only at hcall;rw[hr] at hcall hyes hno;have HY:=zH hyes;have HNO:=zH hno;obtain⟨xh,xl⟩:=x;obtain⟨h0,h1,h2,h3,h4⟩:=xh;have hc:∀j v,#[Value.int .i64 h0,.int .i64 h1,.int .i64 h2,.int .i64 h3,.int .i64 h4,.slice A' xl.length c'][j]?=some v->wr.cell? ⟨bb,o+k*6+j,none⟩=some v:=hcell wr hbr.out;have z0:wr.cell? ⟨bb,o+k*6,none⟩=some (.int .i64 h0):=hc 0 _ rfl;have z1:wr.cell? ⟨bb,o+k*6+1,none⟩=some (.int .i64 h1):=hc 1 _ rfl;have z2:wr.cell? ⟨bb,o+k*6+2,none⟩=some (.int .i64 h2):=hc 2 _ rfl;have z3:wr.cell? ⟨bb,o+k*6+3,none⟩=some (.int .i64 h3):=hc 3 _ rfl;have z4:wr.cell? ⟨bb,o+k*6+4,none⟩=some (.int .i64 h4):=hc 4 _ rfl;have z5:wr.cell? ⟨bb,o+k*6+5,none⟩=some (.slice A' xl.length c'):=hc 5 _ rfl;have hk0:(0:Int)<=(k:Int):=by omega
    have hk1:(k:Int)<(n:Int):=by omega
    have hbw:bb<wr.heap.size:=by have:=hbr.out.size;omega
    have HC:=zH (hcall wr hbr.out);have HHR:=zH hbr.out;simp only[Fm.vs,Fm.args,Fm.h] at HC;clear hcell hcall hx hr hc hbr hyes hno hz;go_wp2_with fail;refine HC.out.mono ?_;rintro e w3 ⟨rfl,hb3⟩;have HB3:=zH (Lc HHR.out hb3);have hwk:IntKind.i64.wrap ((k:Int)+1)=((k+1:Nat):Int):=by rw[Lp];omega
    clear hb3 HC z0 z1 z2 z3 z4 z5 HHR
    cases r with
    | true=>
     have hA:=HY.out rfl;clear HREC HY HNO;go_wp2_with fail;go_ret;exact⟨(k:Int),rfl,by rw[hA.out];exact Lk hk0,HB3.out⟩
    | false=>
     have hZ:=HNO.out rfl;clear HY HNO;go_wp2_with fail
     go_roundw
     case rel=>exact⟨k+1,by omega,by go_num,hZ,HB3⟩
     case measure=>simp[intOf];omega
  . obtain rfl:k=n:=by omega
    have hA:Hid (l.any R=false):=tem_none fun j hj=>hz.out j hj (by have:=HN.out;omega)
    clear HREC hz;go_wp2_with fail;go_ret;exact⟨-1,rfl,by rw[hA.out];decide,hbr.out⟩
theorem Ji(l:List Fm)(R:Fm->Bool)(A:Bb)(c:Nat)(hl:l.length<=1000000)(w:Ba)
  (hrec:RecAt w A l fun cs x X=>Calls Tryz.prog 39 #[.agg cs] X fun e w'=>e=.returned (.bool (R x))/\Below X.heap.size X w') :
  Calls Tryz.prog 66 #[.slice A l.length c,.func (.func 39) #[] #[]] w fun e w'=>e=.returned (.bool (l.any R))/\Below w.heap.size w w':=by
 have HC:=zH (tidx_step l R A c hl w hrec);clear hrec;obtain⟨r,hr⟩:=Ki (l.any R);rw[hr] at HC ⊢;clear hr;go_enter Tryz.func66,Tryz.ntmps66;go_wp2_with fail;refine HC.out.mono ?_;rintro e w3 ⟨i,rfl,hi,hb3⟩;have HI:=zH hi;have HB:=zH hb3;clear hi hb3 HC;go_wp2_with fail;go_ret;rw[<-HI.out];exact⟨rfl,HB.out⟩
theorem Yw(f:Fm)(R:Fm->Bool)(A:Bb)(c:Nat)(hl:f.args.length<=1000000)(w:Ba)(hT:RowTab w)
  (hrec:RecAt w A f.args fun cs x X=>Calls Tryz.prog 39 #[.agg cs] X fun e w'=>e=.returned (.bool (R x))/\Below X.heap.size X w') :
  Calls Tryz.prog 39 #[.agg (f.vs A c)] w fun e w'=>e=.returned (.bool (temS R f))/\Below w.heap.size w w':=by
 obtain⟨w1,hw1,d0,hs1,hB⟩:=zn w (f.vs A c) 66;have HO:=zH (ofR_any f.h.op w1 (hT.keep hB hT.1))
 have HC:=zH (fun (X:Ba) (hX:Below w.heap.size w X)=>Ji f.args R A c hl X (fun i hi=>by
  obtain⟨b,o,A',c',e,hb,h1,h2⟩:=hrec i hi
  exact⟨b,o,A',c',e,LC hb hX.size,fun W hW=>h1 W (Lc hX hW),fun Y hY=>h2 Y (Lc hX hY)⟩))
 obtain⟨E,hE⟩:=Ki (temS R f);have HE:Hid (E=(gB f.h.op||f.args.any R)):=hE.symm;rw[hE];obtain⟨t,ht⟩:=Ki (gB f.h.op);unfold RetOf at HO;rw[ht] at HO HE;obtain⟨y,hy⟩:=Ki (f.args.any R);rw[hy] at HC HE;unfold Fm.vs at hw1 d0 ⊢;have HW1:=zH hw1;have HB:=zH hB;have HD0:=zH d0;have p0:=zh d0 0 rfl;clear hw1 d0 hB hrec hE hT ht hy;go_enter Tryz.func39,Tryz.ntmps39;go_wp2_with fail;rw[HW1.out];go_wp2_with fail;refine HO.out.mono ?_;rintro e w2 ⟨b0,b1,b2,b3,d,rfl,hb2⟩;have HB2:=zH (Lc HB.out hb2);have d2:=La hb2 HD0.out;have p5:=zh d2 5 rfl;have hfd:=field_r4 b0 b1 b2 b3 t d w2;clear hb2 HO HW1 p0 HD0 HB d2
 cases t with
 | true=>
  have hEE:Hid (E=true):=by rw[Hid,HE.out];rfl
  clear HC HE p5;go_wp2_with fail;go_ret;rw[hEE.out];exact⟨rfl,HB2.out⟩
 | false=>
  have hEE:Hid (E=y):=by rw[Hid,HE.out];rfl
  have HCC:=zH (HC.out w2 HB2.out);clear HC HE;go_wp2_with fail;refine HCC.out.mono ?_;rintro e w3 ⟨rfl,hb3⟩;have HB3:=zH (Lc HB2.out hb3);clear hb3 HCC p5;go_wp2_with fail;go_ret;rw[hEE.out];exact⟨rfl,HB3.out⟩
theorem Yx:∀(d:Nat) (f:Fm) (A:Bb) (c:Nat) (w:Ba),RowTab w->FsAt w w.heap.size d A f.args->(xI d f).1<=1000000 ->
  Calls Tryz.prog 39 #[.agg (f.vs A c)] w fun e w'=>e=.returned (.bool (Ya d f))/\Below w.heap.size w w'
 | 0,f,A,c,w,hT,hA,hb=>by
  have h0:f.args=[]:=hA;exact Yw f (fun _=>false) A c (by rw[h0];decide) w hT (RecAt.none hA)
 | d+1,f,A,c,w,hT,hA,hb=>by
  have h1:(yZ (xI d) f.args).1<=1000000:=hb;have h3:=ux (xI d) (Zg d) f.args;refine Yw f (Ya d) A c (by omega) w hT fun i hi=>?_
  obtain⟨b,o,e,hlt,hr⟩:=hA (by omega);obtain⟨A',c',h4,h5⟩:=hr i hi;exact⟨b,o,A',c',e,hlt,fun W hW j v hv=>(hW.cell hlt).trans (h4 j v hv),fun X hX=>Yx d _ A' c' X (hT.keep hX hT.1) ((h5.keep hX).more hX.size) (Lz (Zf (xI d) (Ld hi)) h1)⟩
end
section
open Go.ChangeShapes Go.WideShapes Go.ChangeAt Go.RowKit Go.Deep
section
variable {H:Type} {enc:TypeId×Value->H} {W:Ba} {base:Nat} {spare:Nat->Bool} {held:Bool}
theorem wg:Tryz.prog.cellsOf 4=1:=by kernel_rfl
theorem bytesB:Tryz.prog.bytesOf 4=1:=by kernel_rfl
theorem cellsFr:Tryz.prog.cellsOf 132=6:=by kernel_rfl
/-- A slice of bools. -/
theorem rd_bools{m:Nat}{cs:List Value}{y:DataW H×List MemPlace}(h:DataW.trod enc Tryz.prog W base spare held m 36 cs=some y)(hw:xG Tryz.prog 36 y.1) :
  ∃(A:Bb) (xs:List Bool) (c:Nat),cs=[.slice A xs.length c]/\xs.length<=140737488355328/\BAt W W.heap.size A xs:=by
 obtain⟨A,xs,c,e,_,_,hb,hA⟩:=xK (α:=Bool) (fun cs i=>cs=[.bool i]) NM wg (by decide) (fun m cs y h _=>by obtain⟨i,e,_⟩:=Pw Pj h;exact⟨i,e⟩) h hw;refine⟨A,xs,c,e,?_,fun h0=>?_⟩
 . rw[bytesB] at hb;unfold reachBytes at hb;omega
 . obtain⟨b,off,e,hlt,hc⟩:=hA h0
   refine⟨b,off,e,hlt,fun i hi=>?_⟩;obtain⟨cs,rfl,h2⟩:=hc i hi;have:=h2 0 _ rfl;simpa using this
theorem Yg{b0:Nat}{v:Value}{d:DataW H}{ps:List MemPlace}(_hv:Value.okWide Tryz.prog W .any b0 36 v)(h:DataW.Trod enc Tryz.prog W base spare held 36 v d ps)(hw:xG Tryz.prog 36 d) :
  ∃(A:Bb) (xs:List Bool) (c:Nat),v=.slice A xs.length c/\BAt W W.heap.size A xs:=by
 obtain⟨A0,n0,c0,rfl⟩:=okWide_slice NM _hv;obtain⟨fuel,hf⟩:=h;obtain⟨A,xs,c,e,_,h2⟩:=rd_bools hf hw;refine⟨A,xs,c,?_,h2⟩;have e':[Value.slice A0 n0 c0]=[.slice A xs.length c]:=e;exact List.head_eq_of_cons_eq e'
/-- A row of the table. -/
theorem rd_frow{m:Nat}{cs:List Value}{y:DataW H×List MemPlace}(h:DataW.trod enc Tryz.prog W base spare held m 132 cs=some y) :
  ∃(b0 b1 b2 b3 b4:Bool) (d:Int),cs=[.bool b0,.bool b1,.bool b2,.bool b3,.bool b4,.int .i64 d]/\y.1=.agg [.lit (.bool b0),.lit (.bool b1),.lit (.bool b2),.lit (.bool b3),.lit (.bool b4),.lit (.int .i64 d)]:=by
 obtain⟨xs,n,rfl,rfl,hl,hxl,hf⟩:=Nh Tryz.underlying132 h;rw[cellsFr] at hl;have hxl3:xs.length=6:=hxl
 match cs,hl with
 | [c0,c1,c2,c3,c4,c5],_=>
  have f0:=hf 0 _ rfl;have f1:=hf 1 _ rfl;have f2:=hf 2 _ rfl;have f3:=hf 3 _ rfl;have f4:=hf 4 _ rfl;have f5:=hf 5 _ rfl
  match xs,hxl3 with
  | [x0,x1,x2,x3,x4,x5],_=>
   have g0:DataW.trod enc Tryz.prog W base spare held n 4 [c0]=some x0:=by simpa[wg] using f0
   have g1:DataW.trod enc Tryz.prog W base spare held n 4 [c1]=some x1:=by simpa[wg] using f1
   have g2:DataW.trod enc Tryz.prog W base spare held n 4 [c2]=some x2:=by simpa[wg] using f2
   have g3:DataW.trod enc Tryz.prog W base spare held n 4 [c3]=some x3:=by simpa[wg] using f3
   have g4:DataW.trod enc Tryz.prog W base spare held n 4 [c4]=some x4:=by simpa[wg] using f4
   have g5:DataW.trod enc Tryz.prog W base spare held n 3 [c5]=some x5:=by simpa[yA] using f5
   obtain⟨b0,e0,rfl⟩:=Pw Pj g0;obtain⟨b1,e1,rfl⟩:=Pw Pj g1;obtain⟨b2,e2,rfl⟩:=Pw Pj g2;obtain⟨b3,e3,rfl⟩:=Pw Pj g3;obtain⟨b4,e4,rfl⟩:=Pw Pj g4;obtain⟨d,e5,rfl,_⟩:=LN Lx g5
   cases e0;cases e1;cases e2;cases e3;cases e4;cases e5
   exact⟨b0,b1,b2,b3,b4,d,rfl,rfl⟩
end
def rowL(op:Nat):List Lit:=[.bool (usP op),.bool (usO op),.bool (usG op),.bool (decide (10<=(op:Int)/\(op:Int)<=13)),.bool (gB op),.int .i64 (dualN op)]
theorem gRow : Tryz.prog.globalNamed "roundtable/formula.rows" = some 0 := by kernel_rfl
theorem tRow:(Tryz.prog.globals[0]?).map (·.type)=some 183:=by kernel_rfl
def laidK : List (String × DataW Unit) := [("roundtable/formula.rows", Rows.laid_roundtable_formula_rows)]
theorem row_laid{W:Ba}(h:laidMetH Tryz.prog laidK W):RowTab W:=by
 rw[Sg _ _ _ (by kernel_rfl)] at h;obtain⟨ps,⟨g0,t0,cs0,f0,p0,q0,hg0,ht0,hv0,hd0,_⟩,_⟩:=h;obtain rfl:=NI (gRow.symm.trans hg0);obtain rfl:=NI (tRow.symm.trans ht0);have hd:DataW.trod _ Tryz.prog W 0 _ false f0 183 cs0.toList=some (.agg ((List.range 18).map fun op=>.agg ((rowL op).map .lit)),p0):=hd0;obtain⟨xs,m,_,hx,_,hn,hel⟩:=RZ Tryz.underlying183 hd;simp only[Prod.mk.injEq,DataW.agg.injEq] at hx
 have key:∀op:Nat,op<18->∀j v,(rowV (op:Int))[j]?=some v->W.cell? ⟨0,op*6+j,none⟩=some v:=by
  intro op ho j v hv;have h1:=hel op ho;rw[cellsFr,Lm (show op<xs.length by omega)] at h1;obtain⟨b0,b1,b2,b3,b4,d,e1,e2⟩:=rd_frow h1;have h3:((List.range 18).map fun op=>(DataW.agg ((rowL op).map .lit):DataW _))[op]'(by simpa using ho)=(xs.map (·.1))[op]'(by simp;omega):=by simp only[hx.1]
  simp only[List.getElem_map,List.getElem_range] at h3;rw[e2] at h3;simp only[rowL,List.map_cons,List.map_nil,DataW.agg.injEq,List.cons.injEq,DataW.lit.injEq,Lit.bool.injEq,Lit.int.injEq,and_true,true_and] at h3;obtain⟨rfl,rfl,rfl,rfl,rfl,rfl⟩:=h3
  have hj:j<6:=by
   rcases RN j 6 with h | h
   . exact h
   . rw[Pp (by simpa[rowV] using h)] at hv;cases hv
  have h4:(List.take 6 (List.drop (op*6) cs0.toList))[j]?=some v:=by
   rw[e1,<-hv];simp[rowV]
  rw[NR,Lh hj,PZ] at h4;rw[World.var?_cell hg0 hv0 (op*6+j)];simpa using h4
 refine⟨?_,key⟩;have:=key 0 (by decide) 0 _ rfl;exact Ri W _ this
end
section
section
variable {α:Type} [DecidableEq α]
def qe(acc:List α)(k:α):List α:=if k∈acc then acc else acc++[k]
def yH(l:List α):List α:=l.foldl qe []
theorem kW(l:List α)(k:α):yH (l++[k])=qe (yH l) k:=by simp[yH,List.foldl_append]
theorem mem_uniqF{acc:List α}{k x:α}:x∈qe acc k↔x∈acc\/x=k:=by
 unfold qe
 split
 . rename_i h
   exact⟨.inl,fun h'=>h'.elim id (fun e=>e▸h)⟩
 . simp
theorem YP{x:α}:∀ {l acc:List α},x∈l.foldl qe acc↔x∈acc\/x∈l
 | [],acc=>by simp
 | k::l,acc=>by rw[Pc,YP,mem_uniqF,L5,or_assoc]
theorem xb{l:List α}{x:α}:x∈yH l↔x∈l:=by unfold yH;rw[YP];simp
theorem YZ:∀(l acc:List α),(l.foldl qe acc).length<=acc.length+l.length
 | [],acc=>by simp
 | k::l,acc=>by
  have h1:(qe acc k).length<=acc.length+1:=by unfold qe;split<;>simp
  have h2:=YZ l (qe acc k);rw[Pc,LE];omega
theorem uniqs_len(l:List α):(yH l).length<=l.length:=by have:=YZ l [];simpa[yH] using this
def xr(l:List α):List Int:=l.map fun k=>((yH l).idxOf k:Int)
theorem xq(l:List α):(xr l).length=l.length:=by simp[xr]
theorem labE_at(l:List α)(i:Nat)(h:i<l.length):(xr l)[i]'(by rw[xq];exact h)=((yH l).idxOf l[i]:Int):=by simp[xr]
theorem uR(l:List α)(k:α):xr (l++[k])=xr l++[if k∈l then ((yH l).idxOf k:Int) else ((yH l).length:Int)]:=by
 unfold xr;rw[LI,kW]
 congr 1
 . refine Pt fun x hx=>?_
   unfold qe
   split
   . rfl
   . rw[NF,Lh (xb.2 hx)]
 . simp only[List.map_cons,List.map_nil,List.cons.injEq,and_true]
   unfold qe
   by_cases h:k∈l
   . rw[Lh (xb.2 h),Lh h]
   . rw[Lg (fun e=>h (xb.1 e)),Lg h,NF,Lg (fun e=>h (xb.1 e))]
     simp
end
section
variable {n:Nat} {adj:Nat->Nat->Prop}
end
theorem least_of{p:Nat->Prop}:∀n,p n->∃m,m<=n/\p m/\∀k,k<m->¬p k:=by
 intro n
 induction n using Nat.strongRecOn with
 | _ n ih=>
  intro hn
  by_cases h:∃k,k<n/\p k
  . obtain⟨k,hk,hp⟩:=h
    obtain⟨m,h1,h2,h3⟩:=ih k hk hp;exact⟨m,by omega,h2,h3⟩
  . exact⟨n,Le _,hn,fun k hk hp=>h ⟨k,hk,hp⟩⟩
section
variable {n:Nat} {adj:Nat->Nat->Prop}
end
section
variable {n:Nat} {adj:Nat->Nat->Prop} {src:Nat->Prop} {f g:Nat->Int}
end
end
section
theorem yL{l:List Int}{i:Nat}(h:i<l.length)(d:Int):l.getD i d=l[i]:=by rw[Lj,Lm h];rfl
section
variable {n:Nat} {adj:Nat->Nat->Prop} {src:Nat->Prop}
end
section
variable {n:Nat} {adj:Nat->Nat->Prop}
end
end
section
def yD(bs:List Bool)(k:Nat):List Bool:=bs.take k++List.replicate (bs.length-k) false
theorem kP(bs:List Bool):yD bs 0=List.replicate bs.length false:=by simp[yD]
theorem jD(bs:List Bool):yD bs bs.length=bs:=by simp[yD]
theorem jC(bs:List Bool){k:Nat}(hk:k<=bs.length):(yD bs k).length=bs.length:=by simp[yD];omega
theorem jB(bs:List Bool){k:Nat}(hk:k<bs.length):(yD bs k).set k bs[k]=yD bs (k+1):=by
 unfold yD;rw[Lu hk,List.set_append_right _ _ (by simp;omega)];rw[show bs.length-k=(bs.length-(k+1))+1 by omega,List.replicate_succ];rw[show k-(bs.take k).length=0 by simp;omega,List.set_cons_zero,Na]
 rfl
end
section
open Go.RowKit Go.Shelf
attribute [local go_sem] Oper.semAt_some
theorem Xm(n:Nat)(hn:0<n):∀m i,zr n i m=(List.range (m*n)).map fun t=>(i+t / n,t % n)
 | 0,i=>by simp[zr]
 | m+1,i=>by
  rw[zr,Xm n hn m (i+1),Nat.succ_mul,Nat.add_comm (m*n) n,List.range_add,LI,PU]
  congr 1
  . refine Pt fun t ht=>?_
    have:=Se.1 ht;rw[Nat.div_eq_of_lt this,Nat.mod_eq_of_lt this,Pg]
  . refine Pt fun t _=>?_
    simp only[Function.comp];rw[Nat.add_div_left _ hn,Nat.add_mod_left]
    congr 1
    omega
theorem jS(n m:Nat)(hn:0<n):(zr n 0 m).length=m*n:=by rw[Xm n hn];simp
theorem prs_at(n m:Nat)(hn:0<n)(i:Nat)(h:i<(zr n 0 m).length):(zr n 0 m)[i]=(i / n,i % n):=by
 have:=Xm n hn m 0;simp only[this,List.getElem_map,List.getElem_range];simp
theorem XO(s:Sy)(A SV AV AX:Bb)(kc ks kv kx:Nat)(w:Ba):Calls Tryz.prog 117 #[.agg (s.vs_ A kc SV ks AV kv AX kx)] w fun e w'=>
  e=.returned (.func (.func 141) #[] #[.pointer (some ⟨w.heap.size,0,none⟩)])/\w.alloc (.cells (s.vs_ A kc SV ks AV kv AX kx) 35)=w':=by
 unfold Sy.vs_;go_enter Tryz.func117,Tryz.ntmps117;go_wp2;go_ret;exact⟨rfl,rfl⟩
structure PtC(C:Array Value)(K M:Nat)(AX:Bb)(kx:Nat):Prop where
 c6:C[6]?=some (.int .i64 (K:Int))
 c9:C[9]?=some (.slice AX M kx)
theorem wj(C:Array Value)(K M:Nat)(hK:K<=100)(hM:M<=100)(AX:Bb)(kx:Nat)(hC:PtC C K M AX kx)(bs:Nat)(w:Ba)(hb:w.heap[bs]?=some (.cells C 35 (0,0))) :
  Iter Tryz.prog 141 #[.pointer (some ⟨bs,0,none⟩)] (fun x:Nat×Nat=>#[.agg #[.int .i64 x.1,.int .i64 x.2]]) (fun k=>k=bs) (zr (K+1) 0 M) w:=fun n hn l J Jx W hW hJ hJx hY h0=>by
 have hbp:bs<w.heap.size:=(Ln.1 hb).1;have hp0:=(hW.block bs hbp).trans hb;have HY:=zH hY;have c9:=zh hp0 9 hC.c9;have HC6:=zH hC.c6;have H0:=zH h0;have HP0:=zH hp0;have hpW:bs<W.heap.size:=LC hbp hW.size;clear hY hJ hJx h0 hp0 hb hW hbp hC;refine callsIn_of_wp RL rfl trivial ?_ rfl;simp only[Tryz.ntmps141,List.size_toArray,List.length_cons,List.length_nil,Nat.reduceAdd,Nat.reduceSub,Array.replicate_succ,Array.replicate_zero,List.push_toArray,List.append_toArray,List.nil_append,List.cons_append];gi_wp2
 gi_loopw [8] (fun q wr=>∃s:Nat,s<=M/\q=.int .i64 (s:Int)/\∃pre:List { x:Nat×Nat // x∈zr (K+1) 0 M },Hid (pre.map (·.1)++zr (K+1) s (M-s)=zr (K+1) 0 M)/\Hid (J pre wr)/\Hid (wr.heap[bs]?=some (.cells C 35 (0,0)))/\W.heap.size<=wr.heap.size) (fun q _=>M-(intOf q).toNat)
 case atStart=>exact⟨0,by omega,rfl,[],by simp[Hid],H0,HP0,Le _⟩
 case round=>
  obtain⟨s,hs,rfl,pre,hpr,hJ0,hPr,hsz⟩:=hrel;clear c9 HP0 H0
  by_cases hlt:s<M
  · have hdr : zr (K + 1) s (M - s) = yS (K + 1) s 0 ++ zr (K + 1) (s + 1) (M - (s + 1)) := by
     rw[show M-s=(M-(s+1))+1 by omega,zr];unfold yS;rw[L4]
    have HP:Hid (pre.map (·.1)++(yS (K+1) s 0++zr (K+1) (s+1) (M-(s+1)))=zr (K+1) 0 M):=by rw[<-hdr];exact hpr.out
    have q6:=zh hPr.out 6 HC6.out;have hw1:IntKind.i64.wrap ((K:Int)+1)=(K:Int)+1:=by rw[Lp];omega
    clear hdr hpr;gi_wp2_with fail
    gi_loopw [15] (fun q wr=>∃j:Nat,j<=K+1/\q=.int .i64 (j:Int)/\∃pre:List { x:Nat×Nat // x∈zr (K+1) 0 M },Hid (pre.map (·.1)++(yS (K+1) s j++zr (K+1) (s+1) (M-(s+1)))=zr (K+1) 0 M)/\Hid (J pre wr)/\Hid (wr.heap[bs]?=some (.cells C 35 (0,0)))/\W.heap.size<=wr.heap.size) (fun q _=>K+1-(intOf q).toNat)
    case atStart=>exact⟨0,by omega,rfl,pre,HP,hJ0,hPr,hsz⟩
    case round=>
     clear HP q6 hJ0 hPr hsz;obtain⟨j,hj,rfl,pre,hpr,hJ0,hPr,hsz⟩:=hrel
     by_cases hjl:j<K+1
     · have hp2 : pre.map (·.1) ++ ((s, j) :: (yS (K + 1) s (j + 1) ++ zr (K + 1) (s + 1) (M - (s + 1)))) = zr (K + 1) 0 M := by
        have:=hpr.out;rw[vW hjl,Ng] at this;exact this
       have hmem:(s,j)∈zr (K+1) 0 M:=by rw[<-hp2];simp
       have hlen:pre.length<(zr (K+1) 0 M).length:=by
        have:=congrArg List.length hp2;simp only[List.length_append,List.length_map,List.length_cons] at this;omega
       obtain⟨fn,tmps,assign,body,hy,hR⟩:=HY.out pre ⟨(s,j),hmem⟩ _ hJ0.out hlen;dsimp only at hy
       have HP2:Hid ((pre++[(⟨(s,j),hmem⟩:{ x:Nat×Nat // x∈zr (K+1) 0 M })]).map (·.1)++(yS (K+1) s (j+1)++zr (K+1) (s+1) (M-(s+1)))=zr (K+1) 0 M):=by
        rw[LI,Na];exact hp2
       have HR:=zH hR;have hjI:(j:Int)<(K:Int)+1:=by omega
       clear hp2 hpr hR;gi_wp2_with fail;refine HR.out.mono ?_;rintro e W3 (⟨rfl,hJ3,hk3⟩ | ⟨rfl,hJx3⟩)
       . have hs1:wr.heap.size<=W3.heap.size:=hk3.size
         have P3:=zH ((hk3.same bs rfl (by omega)).trans hPr.out);have J3:=zH hJ3;have hsz3:W.heap.size<=W3.heap.size:=by omega
         clear hk3 hJ3 hs1;gi_wp2_with fail
         go_roundw
         case rel=>exact⟨j+1,by omega,by go_num,_,HP2,J3,P3,hsz3⟩
         case measure=>simp[intOf];omega
       . gi_wp2_with fail
         refine L1 (RG rfl _ _ _) rfl ?_;refine⟨⟨_,rfl⟩,.inr ⟨_,?_,hJx3⟩⟩;exact⟨_,HP2.out⟩
     . obtain rfl:j=K+1:=by omega
       have HP:Hid (pre.map (·.1)++zr (K+1) (s+1) (M-(s+1))=zr (K+1) 0 M):=by have:=hpr.out;rwa[wI,Nc] at this
       have hjI:¬(((K+1:Nat):Int)<(K:Int)+1):=by omega
       clear hpr;gi_wp2_with fail
       go_roundw
       case rel=>exact⟨s+1,by omega,by go_num,pre,HP,hJ0,hPr,hsz⟩
       case measure=>simp[intOf];omega
  . obtain rfl:M=s:=by omega
    have HP:Hid (pre.map (·.1)=zr (K+1) 0 M):=by have:=hpr.out;rwa[NN,zr,Nf] at this
    clear hpr;gi_wp2_with fail
    go_end0
    exact⟨⟨_,rfl⟩,.inl ⟨pre,HP.out,hJ0.out⟩⟩
end
section
open Go.RowKit Go.Shelf
theorem vZ{w:Ba}{base:Nat}{v:Value}{xs:List Int}(h:Own w base v xs){k:Nat}{cs:Array Value}{t:TypeId}(hk:w.heap[k]?=some (.cells cs t (0,0)))(ht:t≠3):v.ownBlock≠some k:=by
 intro e;rcases h.2 with ⟨rfl,_⟩ | ⟨g,cap,cur,rfl,_,hg,_⟩
 . cases e
 . simp only[Value.ownBlock,Option.some.injEq] at e
   subst e;rw[hk] at hg
   cases hg
   exact ht rfl
theorem jT{w:Ba}{base:Nat}{v:Value}{xs:List Int}(h:Own w base v xs):∀r,v.ownBlock=some r->base<=r/\∀o,w.heap[r]?=some o->o.isCells=true:=by
 intro r hr;refine⟨(h.lt r hr).1,fun o ho=>?_⟩;rcases h.2 with ⟨rfl,_⟩ | ⟨g,cap,cur,rfl,_,hg,_⟩
 . cases hr
 . simp only[Value.ownBlock,Option.some.injEq] at hr
   subst hr;rw[hg] at ho
   cases ho
   rfl
end
section
open Go.RowKit Go.Shelf
attribute [local go_sem] Oper.semAt_some
theorem Xi{α:Type}:∀ {l m:List α},l.Nodup->(∀x∈l,x∈m)->l.length<=m.length
 | [],_,_,_=>by simp
 | a::l,m,hn,h=>by
  classical
  obtain⟨h1,h2⟩:=Pv.1 hn;have ha:a∈m:=h a (by simp)
  have:=Xi (l:=l) (m:=m.erase a) h2 (fun x hx=>by
   have hne:x≠a:=by rintro rfl;exact h1 hx
   exact(List.mem_erase_of_ne hne).2 (h x (by simp[hx])))
  rw[List.length_erase_of_mem ha] at this;have hpos:0<m.length:=List.length_pos_of_mem ha;simp only[List.length_cons];omega
theorem MapOf.count{κ:Type}{enc:κ->Value}(inj:∀a b,enc a=enc b->a=b){w:Ba}{b n:Nat}{f:κ->Option Value}{l:List κ}(h:MapOf enc w b n f)(hn:l.Nodup)(hf:∀k,(∃v,f k=some v)↔k∈l) :
  ∃es clock,w.heap[b]?=some (.map es clock)/\es.size=l.length:=by
 obtain⟨es,clock,hb,_,hp,h1,h2⟩:=h;refine⟨es,clock,hb,?_⟩;have e1:(es.toList.map (·.key)).Nodup:=List.pairwise_map.2 hp;have e2:(l.map enc).Nodup:=List.pairwise_map.2 (hn.imp fun hab e=>hab (inj _ _ e))
 have g1:=Xi e1 (m:=l.map enc) (fun x hx=>by
  obtain⟨e,he,rfl⟩:=LX.1 hx;obtain⟨k,hk,hv⟩:=h1 e he
  exact LX.2 ⟨k,(hf k).1 ⟨_,hv⟩,hk.symm⟩)
 have g2:=Xi e2 (m:=es.toList.map (·.key)) (fun x hx=>by
  obtain⟨k,hk,rfl⟩:=LX.1 hx;obtain⟨v,hv⟩:=(hf k).2 hk;obtain⟨e,he,hek,_⟩:=h2 k v hv
  exact LX.2 ⟨e,he,hek⟩)
 simp at g1 g2;omega
def uJ(l:List Int):Int->Option Value:=fun k=>if k∈l then some (.int .i64 (l.idxOf k:Int)) else none
theorem numG_nil:uJ []=fun _=>none:=by funext k;simp[uJ]
theorem numG_put{l:List Int}{k:Int}(h:k∉l):xf (uJ l) k (.int .i64 (l.length:Int))=uJ (l++[k]):=by
 funext x
 unfold xf uJ
 by_cases e:x=k
 . subst e
   rw[Lh rfl,Lh (by simp),NF,Lg h];simp
 . rw[Lg e]
   by_cases hx:x∈l
   . rw[Lh hx,Lh (by simp[hx]),NF,Lh hx]
   . rw[Lg hx,Lg (by simp[hx,e])]
theorem wQ{α:Type}[DecidableEq α]:∀(l acc:List α),acc.Nodup->(l.foldl qe acc).Nodup
 | [],_,h=>h
 | k::l,acc,h=>by
  rw[Pc];refine wQ l _ ?_;unfold qe
  split
  . exact h
  . rename_i hk
    exact List.nodup_append.2 ⟨h,by simp,fun a ha b hb=>by rw[L8] at hb;subst hb;rintro rfl;exact hk ha⟩
theorem wP{α:Type}[DecidableEq α](l:List α):(yH l).Nodup:=wQ l [] List.nodup_nil
theorem JQ{w:Ba}{b n:Nat}{us:List Int}(h:MapOf (Value.int .i64) w b n (uJ us))(hu:us.Nodup):∃es clock,w.heap[b]?=some (.map es clock)/\es.size=us.length:=
 h.count (fun a b e=>by injection e) hu (fun k=>by
  unfold uJ
  by_cases hk:k∈us
  . simp[hk]
  . simp[hk])
theorem Own.same{w w':Ba}{base:Nat}{v:Value}{xs:List Int}(h:Own w base v xs)(hs:∀k,base<=k->k<w.heap.size->w'.heap[k]?=w.heap[k]?):Own w' base v xs:=by
 refine⟨h.1,?_⟩;rcases h.2 with hn | ⟨g,cap,cur,hv,hb,hg,rest⟩
 . exact .inl hn
 . exact .inr ⟨g,cap,cur,hv,hb,(hs g hb (zj hg)).trans hg,rest⟩
structure NbIn(B:Nat)(S:Array Value)(F:Value)(R:Nat->Prop)(us ls:List Int)(w W:Ba):Prop where
 wrote:Wrote R w W
 b0:W.heap[B]?=some (.cells S 35 (0,0))
 b1:W.heap[B+1]?=some (.cells #[F] 160 (0,0))
 b3:W.heap[B+1+1+1]?=some (.cells #[.map (some (B+1+1))] 201 (0,0))
 b5:W.heap[B+1+1+1+1+1]?=some (.cells S 35 (0,0))
 hm:∃m,MapOf (Value.int .i64) W (B+1+1) m (uJ us)
 box:∃P c,W.heap[B+1+1+1+1]?=some (.cells #[.slice P ls.length c] 44 (0,0))/\Own W (B+6) (.slice P ls.length c) ls
 sz:B+6<=W.heap.size
section
variable {B:Nat} {S:Array Value} {F:Value} {R:Nat->Prop} {us ls:List Int} {w W W':Ba}
theorem NbIn.turn{row:Option Nat}(h:NbIn B S F R us ls w W)(hw:w.heap.size<=B)(hg:W.grownBy W' row)(hr:∀r,row=some r->B+6<=r/\∃o:Obj,W.heap[r]?=some o/\o.isCells=false):NbIn B S F R us ls w W':=by
 obtain⟨P,c,hb,ho⟩:=h.box;obtain⟨m,hm⟩:=h.hm;have hsz:=h.sz;have old:∀k,k<B+6->W'.heap[k]?=W.heap[k]?:=fun k hk=>hg.block k (by omega) (fun e=>by have:=(hr k e.symm).1;omega)
 refine⟨h.wrote.trans (Wrote.of_grown (R:=fun k=>w.heap.size<=k) hg (fun k e hk=>by have:=(hr k e).1;omega)) (fun k h1 h2=>by omega),(old B (by omega)).trans h.b0,(old _ (by omega)).trans h.b1,(old _ (by omega)).trans h.b3,(old _ (by omega)).trans h.b5,⟨m,hm.same (old _ (by omega))⟩,⟨P,c,(old _ (by omega)).trans hb,ho.kept hg ?_⟩,Lz hsz hg.size⟩;rcases e:(Value.slice P ls.length c).ownBlock with _ | g
 . exact .inl rfl
 . refine .inr fun e2=>?_
   obtain⟨o,h1,h2⟩:=(hr g e2.symm).2;have:=(jT ho g e).2 o h1;rw[this] at h2;cases h2
theorem NbIn.call(h:NbIn B S F R us ls w W)(hw:Wrote R W W')(hR:∀k,R k->k<B):NbIn B S F R us ls w W':=by
 obtain⟨P,c,hb,ho⟩:=h.box;obtain⟨m,hm⟩:=h.hm;have hsz:=h.sz;have old:∀k,B<=k->k<W.heap.size->W'.heap[k]?=W.heap[k]?:=fun k hk hl=>hw.block k hl (fun e=>by have:=hR k e;omega)
 exact⟨h.wrote.trans hw (fun _ _ h=>h),(old B (by omega) (by omega)).trans h.b0,(old _ (by omega) (by omega)).trans h.b1,(old _ (by omega) (by omega)).trans h.b3,(old _ (by omega) (by omega)).trans h.b5,⟨m,hm.same (old _ (by omega) (by omega))⟩,⟨P,c,(old _ (by omega) (by omega)).trans hb,ho.same fun k hk hl=>old k (by omega) hl⟩,Lz hsz hw.size⟩
theorem NbIn.put{us':List Int}{m:Nat}(h:NbIn B S F R us ls w W)(hw:w.heap.size<=B)(hg:W.grownBy W' (some (B+1+1)))(hm:MapOf (Value.int .i64) W' (B+1+1) m (uJ us')):NbIn B S F R us' ls w W':=by
 obtain⟨P,c,hb,ho⟩:=h.box;have hsz:=h.sz;have old:∀k,k<W.heap.size->k≠B+1+1->W'.heap[k]?=W.heap[k]?:=fun k hk hl=>hg.block k hk (fun e=>hl (by cases e;rfl))
 exact⟨h.wrote.trans (Wrote.of_grown (R:=fun k=>w.heap.size<=k) hg (fun k e hk=>by cases e;omega)) (fun k h1 h2=>by omega),(old B (by omega) (by omega)).trans h.b0,(old _ (by omega) (by omega)).trans h.b1,(old _ (by omega) (by omega)).trans h.b3,(old _ (by omega) (by omega)).trans h.b5,⟨m,hm⟩,⟨P,c,(old _ (by omega) (by omega)).trans hb,ho.same fun k hk hl=>old k hl (by omega)⟩,Lz hsz hg.size⟩
theorem NbIn.push{P P2:Bb}{c c2:Nat}{u:Int}{W1:Ba}(h:NbIn B S F R us ls w W)(hw:w.heap.size<=B)(hb:W.heap[B+1+1+1+1]?=some (.cells #[.slice P ls.length c] 44 (0,0)))(ho:Own W (B+6) (.slice P ls.length c) ls)
  (ho1:Own W1 (B+6) (.slice P2 (ls.length+1) c2) (ls++[u])) (hg:W.grownBy W1 (Value.slice P ls.length c).ownBlock) :
  NbIn B S F R us (ls++[u]) w (W1.setCell ⟨B+1+1+1+1,0,none⟩ (.slice P2 (ls.length+1) c2)):=by
 obtain⟨m,hm⟩:=h.hm;have hsz:=h.sz;have hlo:=ho.lt;have hs1:=hg.size;have old1:∀k,k<B+6->W1.heap[k]?=W.heap[k]?:=fun k hk=>hg.block k (by omega) (fun e=>by have:=(hlo k e.symm).1;omega)
 have hb1:=(old1 _ (by omega)).trans hb;obtain⟨x1,x2,x3⟩:=qI hb1 (.slice P2 (ls.length+1) c2);have old:∀k,k<B+6->k≠B+1+1+1+1->(W1.setCell ⟨B+1+1+1+1,0,none⟩ (.slice P2 (ls.length+1) c2)).heap[k]?=W.heap[k]?:=fun k hk hne=>(x3 k hne).trans (old1 k hk)
 refine⟨?_,(old B (by omega) (by omega)).trans h.b0,(old _ (by omega) (by omega)).trans h.b1,(old _ (by omega) (by omega)).trans h.b3,(old _ (by omega) (by omega)).trans h.b5,⟨m,hm.same (old _ (by omega) (by omega))⟩,⟨P2,c2,by rw[Lv];exact x1,by rw[Lv];exact ho1.same fun k hk _=>x3 k (by omega)⟩,by rw[show(W1.setCell ⟨B+1+1+1+1,0,none⟩ (.slice P2 (ls.length+1) c2)).heap.size=W1.heap.size by simp[World.setCell]];omega⟩;have a1:Wrote (fun k=>w.heap.size<=k) W W1:=Wrote.of_grown hg (fun k e hk=>by have:=(hlo k e).1;omega);have a2:Wrote (fun k=>w.heap.size<=k) W1 (W1.setCell ⟨B+1+1+1+1,0,none⟩ (.slice P2 (ls.length+1) c2)):=Wrote.of_grown (zS W1 _ 0 _) (fun k e hk=>by cases e;omega);exact h.wrote.trans (a1.trans a2 (fun _ _ h=>h)) (fun k h1 h2=>by omega)
theorem NbIn.keeps{P:Bb}{c:Nat}{W1:Ba}(h:NbIn B S F R us ls w W)(hb:W.heap[B+1+1+1+1]?=some (.cells #[.slice P ls.length c] 44 (0,0)))(ho:Own W (B+6) (.slice P ls.length c) ls)
  (hg:W.grownBy W1 (Value.slice P ls.length c).ownBlock) (v:Value):KeepsFrom (B+6) W (W1.setCell ⟨B+1+1+1+1,0,none⟩ v)/\KeepB (fun k=>k=B+1+1+1+1+1) W (W1.setCell ⟨B+1+1+1+1,0,none⟩ v):=by
 have hlo:=ho.lt;have hsz:=h.sz;have hs1:=hg.size;have hb1:=(hg.block (B+1+1+1+1) (by omega) (fun e=>by have:=(hlo _ e.symm).1;omega)).trans hb;obtain⟨x1,x2,x3⟩:=qI hb1 v;refine⟨⟨by simp[World.setCell];omega,fun k o hk hk1 ho1=>?_⟩,⟨by simp[World.setCell];omega,fun k hk hl=>?_⟩⟩
 . refine(x3 k (by omega)).trans ((hg.block k (zj hk1) (fun e=>?_)).trans hk1)
   have:=(jT ho k e.symm).2 o hk1;rw[this] at ho1;cases ho1
 . subst hk
   exact(x3 _ (by omega)).trans (hg.block _ (by omega) (fun e=>by have:=(hlo _ e.symm).1;omega))
end
end
section
open Go.RowKit Go.Shelf
attribute [local go_sem] Oper.semAt_some
theorem Xs(s:Sy)(K M:Nat)(hK:K<=100)(hM:M<=100)(hk:s.p.k=(K:Int))(hx:s.xs.length=M)(A SV AV AX:Bb)(kc ks kv kx:Nat)(kf:Nat)(kb:Array Value)(ek:Enters Tryz.prog kf)(key:Nat×Nat->Int)
  (R:Nat->Prop) (J:Ba->Prop) (w:Ba) (hR:∀k,R k->k<w.heap.size) (hJ0:J w) (hJ:∀W W',J W->Wrote (fun k=>w.heap.size<=k) W W'->J W')
  (hkey:∀x∈zr (K+1) 0 M,∀W,J W->w.heap.size<=W.heap.size->Calls Tryz.prog kf (#[.agg #[.int .i64 x.1,.int .i64 x.2]]++kb) W fun e w'=>e=.returned (.int .i64 (key x))/\J w'/\Wrote R W w') :
  Calls Tryz.prog 89 #[.agg (s.vs_ A kc SV ks AV kv AX kx),.func (.func kf) #[] kb] w fun e w'=>∃v,e=.returned v/\Own w' w.heap.size v (xr ((zr (K+1) 0 M).map key))/\J w'/\Wrote R w w':=by
 have hC:PtC (s.vs_ A kc SV ks AV kv AX kx) K M AX kx:=⟨by unfold Sy.vs_;rw[<-hk];rfl,by unfold Sy.vs_;rw[<-hx];rfl⟩
 have hlen:(zr (K+1) 0 M).length<=20000:=by
  rw[jS (K+1) M (by omega)];exact Lz (LO hM (show K+1<=101 by omega)) (by decide)
 have HIT:=zH (fun (bs:Nat) (W:Ba) (hb:W.heap[bs]?=some (.cells (s.vs_ A kc SV ks AV kv AX kx) 35 (0,0)))=>wj (s.vs_ A kc SV ks AV kv AX kx) K M hK hM AX kx hC bs W hb);have HAL:=zH (fun (W:Ba)=>XO s A SV AV AX kc ks kv kx W);have HKEY:=zH hkey;have HJ:=zH hJ;have HJ0:=zH hJ0;have hz:∀W:Ba,(zeroValue 3).run Tryz.prog W=.ok (.int .i64 0) W:=fun W=>by kernel_rfl
 have ht:Tryz.prog.underlying 201=some (.map 3 3):=Tryz.underlying201;have hmm:=@run_makeMap Tryz.prog;obtain⟨L,hL⟩:=Ki (zr (K+1) 0 M);rw[hL] at HIT HKEY hlen ⊢;unfold Sy.vs_ at HIT HAL ⊢;clear hkey hJ hJ0 hL hC hk hx;refine yK Tryz.func89 rfl ?_;simp only[Tryz.ntmps89,List.size_toArray,List.length_cons,List.length_nil,Nat.reduceAdd,Nat.reduceSub,Array.replicate_succ,Array.replicate_zero,List.push_toArray,List.append_toArray,List.nil_append,List.cons_append];go_wp2_with fail;refine(HAL.out _).mono ?_;rintro e w2 ⟨rfl,hw2⟩;obtain⟨S,hS⟩:∃S,S=#[Value.int .i64 s.p.t.n,.int .i64 s.p.t.ins,.int .i64 s.p.t.outs,.slice A s.p.t.cases.length kc,.int .i64 s.p.a.n,.slice SV s.p.a.sts.length ks,.int .i64 s.p.k,.int .i64 s.n,.slice AV s.vs.length kv,.slice AX s.xs.length kx]:=⟨_,rfl⟩;rw[<-hS] at hw2 HIT
 have hNW:NbIn w.heap.size S (.func (.func kf) #[] kb) R [] [] w w2/\Wrote (fun k=>w.heap.size<=k) w w2:=by
  obtain⟨a1,h1,x1,y1,z1⟩:=zn w S 35;rw[h1] at hw2;obtain⟨a2,h2,x2,y2,z2⟩:=zn a1 #[.func (.func kf) #[] kb] 160;rw[h2] at hw2;obtain⟨a3,h3⟩:=Ki (a2.alloc (.map #[] 0));have m3:MapOf (Value.int .i64) a3 a2.heap.size 0 (fun _=>none):=by rw[<-h3];exact MapOf.made a2
  have y3:a3.heap.size=a2.heap.size+1:=by rw[<-h3];simp
  have z3:Below a2.heap.size a2 a3:=by rw[<-h3];exact zW _ _
  rw[h3] at hw2;obtain⟨a4,h4,x4,y4,z4⟩:=zn a3 #[.map (some (w.heap.size+1+1))] 201;rw[h4] at hw2;obtain⟨a5,h5,x5,y5,z5⟩:=zn a4 #[.slice none 0 0] 44;rw[h5] at hw2;obtain⟨a6,h6,x6,y6,z6⟩:=zn a5 S 35;rw[h6] at hw2;subst hw2;rw[y1] at x2 y2;rw[y2] at m3 y3;rw[y3] at x4 y4;rw[y4] at x5 y5;rw[y5] at x6 y6
  have w1:Wrote (fun k=>w.heap.size<=k) w a6:=by
   have b1:=(Wrote.of_below (R:=fun k=>w.heap.size<=k) z1).trans (Wrote.of_below (R:=fun k=>w.heap.size<=k) z2) (fun _ _ h=>h);have b2:=(b1.trans (Wrote.of_below (R:=fun k=>w.heap.size<=k) z3) (fun _ _ h=>h)).trans (Wrote.of_below (R:=fun k=>w.heap.size<=k) z4) (fun _ _ h=>h);exact((b2.trans (Wrote.of_below (R:=fun k=>w.heap.size<=k) z5) (fun _ _ h=>h)).trans (Wrote.of_below (R:=fun k=>w.heap.size<=k) z6) (fun _ _ h=>h))
  refine⟨⟨w1.more (fun k h1 h2=>by omega),?_,?_,?_,x6,⟨0,?_⟩,⟨none,0,?_,Own.nil _ _⟩,by omega⟩,w1⟩
  . exact Lb z6 (by omega) (Lb z5 (by omega) (Lb z4 (by omega) (Lb z3 (by omega) (Lb z2 (by omega) x1))))
  . exact Lb z6 (by omega) (Lb z5 (by omega) (Lb z4 (by omega) (Lb z3 (by omega) x2)))
  . exact Lb z6 (by omega) (Lb z5 (by omega) x4)
  . rw[numG_nil]
    exact m3.same (Lb z6 (by omega) (Lb z5 (by omega) (z4.block _ (by omega))))
  . exact Lb z6 (by omega) x5
 have hsz2:w2.heap.size=w.heap.size+6:=by rw[<-hw2];simp
 have HJ2:Hid (J w2):=HJ.out w w2 HJ0.out hNW.2;have HIT2:=zH (HIT.out (w.heap.size+1+1+1+1+1) w2 hNW.1.b5);have HN:=zH hNW.1;clear hNW hw2 HIT HAL HJ0 hmm hS;go_wp2_with fail
 refine kE rfl (N0 RL (by kernel_rfl) rfl) HIT2.out (by rintro x rfl;omega) (fun _=>rfl)
  (fun (pre:List { x:Nat×Nat // x∈L }) (X:Ba)=>NbIn w.heap.size S (.func (.func kf) #[] kb) R (yH (pre.map fun x=>key x.1)) (xr (pre.map fun x=>key x.1)) w X/\J X)
  (fun _ _ _=>False)
  ?hI (fun _ _ _ _ _ h _ _=>h)
  ⟨HN.out,HJ2.out⟩ (fun x=>#[.int .i64 x.1,.int .i64 x.2]) 159 ?a1 ?assign ?body ?done ?stop (fun _ _ h=>by have:=h.1.sz;omega)
 case hI=>
  intro pre X X' row hX hg hr;refine⟨hX.1.turn (Le _) hg (fun r e=>⟨by have:=(hr r e).1;omega,(hr r e).2⟩),HJ.out X X' hX.2 (Wrote.of_grown hg fun k e hk=>by have:=(hr k e).1;omega)⟩
 case assign=>
  intro l pre x X K' hI hK;obtain⟨g',hg'⟩:∃g',g'=X.heap.size:=⟨_,rfl⟩;have HK:=zH (hK g' hg' ⟨hI.1.turn (Le _) (row:=none) ⟨rfl,rfl,rfl,by simp,fun k hk _=>NS X _ k hk⟩ (fun r e=>by cases e),HJ.out X _ hI.2 (Wrote.of_below (zW X _))⟩);have HG:=zH hg';clear hK hg' hI;gi_wp2;rw[<-HG.out];exact HK.out
 case body=>
  intro l pre x g W3 hg hgb hI hlt;obtain⟨us,hus⟩:∃us,yH (pre.map fun x=>key x.1)=us:=⟨_,rfl⟩;obtain⟨ls,hls⟩:∃ls,xr (pre.map fun x=>key x.1)=ls:=⟨_,rfl⟩;have hll:ls.length<=20000:=by rw[<-hls,xq,LR];omega
  have hun:us.Nodup:=by rw[<-hus];exact wP _
  obtain⟨kk,hkk⟩:=Ki (key x.1);have hus2:yH ((pre++[x]).map fun x=>key x.1)=qe us kk:=by rw[LI,LT,Ns,kW,hus,hkk]
  have hls2:xr ((pre++[x]).map fun x=>key x.1)=ls++[if kk∈us then (us.idxOf kk:Int) else (us.length:Int)]:=by
   rw[LI,LT,Ns,uR,hus,hls,hkk]
   congr 2
   by_cases h:kk∈us
   . rw[Lh h,Lh (xb.1 (hus▸h))]
   . rw[Lg h,Lg (fun e=>h (hus▸xb.2 e))]
  rw[hus,hls] at hI;have hcall:=HKEY.out x.1 x.2 W3 hI.2 (by have:=hI.1.sz;omega);rw[hkk] at hcall;have HC:=zH hcall;have HN3:=zH hI.1;have HU2:=zH hus2;have HL2:=zH hls2;have HUN:=zH hun;have q1:=zh hI.1.b1 0 rfl;obtain⟨g0,g1,_⟩:=Ka hgb;clear hI hcall hus hls hus2 hls2 hkk hgb hun HKEY HIT2 HN HJ2;gi_wp2_with fail;refine⟨trivial,?_⟩;rw[ek];refine⟨fun _=>by omega,(R9 l ((RH (n:=6)).2 HC.out)).mono ?_⟩;rintro e W4 ⟨rfl,hJ4,hw4⟩;have HN4:=zH (HN3.out.call hw4 hR);have HJ4:=zH hJ4;have HW4:=zH hw4;have q3:=zh HN4.out.b3 0 rfl;obtain⟨m,hm⟩:=HN4.out.hm;have hlk:=hm.look2 yp ht (hz W4) kk;have HM4:=zH hm;clear q1 g0 g1 HC hJ4 hw4 hm
  by_cases hin:kk∈us
  case pos=>
   have hf:uJ us kk=some (.int .i64 (us.idxOf kk:Int)):=Lh hin;rw[hf] at hlk;simp only[Option.getD_some,Option.isSome_some] at hlk;have hlk1:=HM4.out.look yp ht (hz W4) kk;rw[hf] at hlk1;simp only[Option.getD_some] at hlk1;have hu:qe us kk=us:=Lh hin;have HU3:Hid (yH ((pre++[x]).map fun x=>key x.1)=us):=HU2.out.trans hu;have HL3:Hid (xr ((pre++[x]).map fun x=>key x.1)=ls++[(us.idxOf kk:Int)]):=HL2.out.trans (by rw[Lh hin]);clear HU2 HL2;have HU2:=HU3;have HL2:=HL3;clear HU3 HL3 hf hu hin HM4;obtain⟨P,c,hbx,ho⟩:=HN4.out.box;have HBX:=zH hbx;have HO:=zH ho;have q4:=zh hbx 0 rfl;clear hbx ho
   gi_wp2_with (gi_at_builtin; go_must (refine j8 rfl _ _ rfl (w.heap.size + 6) (.slice P ls.length c) ls (us.idxOf kk : Int) rfl HO.out rfl (by omega) (by have := HN4.out.sz; omega) ?_); intro v' W6 hown1 hg6 hb6
                obtain⟨A6,k6,rfl,h61,h62,_⟩:=hown1.form;have h4b:=(hg6.block (w.heap.size+1+1+1+1) (zj HBX.out) (fun e=>vZ HO.out HBX.out (by decide) e.symm)).trans HBX.out;have q6:=zh h4b 0 rfl;have f6:=zi h4b 0;have l6:=zj h4b;have HO6:=zH hown1;have HG6:=zH hg6
                clear h4b hown1 hg6 hb6)
   have hka:=HN4.out.keeps HBX.out HO.out HG6.out (.slice A6 (ls.length+1) k6);have hpu:=HN4.out.push (Le _) HBX.out HO.out (by have:=HO6.out;simpa using this) HG6.out;refine⟨((show KeepsFrom w2.heap.size W3 W4 from⟨HW4.out.size,fun k o hk hk1 _=>(HW4.out.block k (zj hk1) (fun e=>by have:=hR k e;omega)).trans hk1⟩)).trans (hsz2▸hka.1),((show KeepB (fun k=>k=w.heap.size+1+1+1+1+1) W3 W4 from⟨HW4.out.size,fun k hk hl=>HW4.out.block k hl (fun e=>by have:=hR k e;omega)⟩)).trans hka.2,?_,?_⟩
   . rw[HU2.out,HL2.out]
     exact hpu
   . have a2:Wrote (fun k=>w.heap.size<=k) W4 W6:=Wrote.of_grown HG6.out (fun k e hk=>by have:=(HO.out.lt k e).1;omega)
     have a3:Wrote (fun k=>w.heap.size<=k) W6 (W6.setCell ⟨w.heap.size+1+1+1+1,0,none⟩ (.slice A6 (ls.length+1) k6)):=Wrote.of_grown (zS W6 _ 0 _) (fun k e hk=>by cases e;omega);exact HJ.out _ _ HJ4.out (a2.trans a3 (fun _ _ h=>h))
  case neg=>
   have hf:uJ us kk=none:=Lg hin;rw[hf] at hlk;simp only[Option.getD_none,Option.isSome_none] at hlk;have hu:qe us kk=us++[kk]:=Lg hin;have HU3:Hid (yH ((pre++[x]).map fun x=>key x.1)=us++[kk]):=HU2.out.trans hu;have HL3:Hid (xr ((pre++[x]).map fun x=>key x.1)=ls++[(us.length:Int)]):=HL2.out.trans (by rw[Lg hin]);obtain⟨es,clock,hes,hesz⟩:=JQ HM4.out HUN.out;obtain⟨W5,hrun,hm5,hg5⟩:=HM4.out.put yp ht kk (.int .i64 (us.length:Int));rw[numG_put hin] at hm5;have HN5:=zH (HN4.out.put (Le _) hg5 hm5);have HG5:=zH hg5;have HM5:=zH hm5;have hlk1:=hm5.look yp ht (hz W5) kk
   have hf5:uJ (us++[kk]) kk=some (.int .i64 (us.length:Int)):=by
    unfold uJ;rw[Lh (by simp),NF,Lg hin];simp
   rw[hf5] at hlk1;simp only[Option.getD_some] at hlk1;have HJ5:=zH (HJ.out W4 W5 HJ4.out (Wrote.of_grown hg5 fun k e hk=>by cases e;omega))
   have HW5:Hid (KeepsFrom w2.heap.size W4 W5/\KeepB (fun k=>k=w.heap.size+1+1+1+1+1) W4 W5):=by
    refine⟨⟨hg5.size,fun k o hk hk1 _=>(hg5.block k (zj hk1) (fun e=>by cases e;omega)).trans hk1⟩,⟨hg5.size,fun k hk hl=>hg5.block k hl (fun e=>by cases e;omega)⟩⟩
   have q35:=zh HN5.out.b3 0 rfl;obtain⟨P,c,hbx,ho⟩:=HN5.out.box;have HBX:=zH hbx;have HO:=zH ho;have q4:=zh hbx 0 rfl;clear HU2 HL2;have HU2:=HU3;have HL2:=HL3;clear HU3 HL3 hf hu hin HM4 hm5 hg5 hf5 hbx ho
   have hln:(Builtin.len_ #[201] 3 #[.map (some (w.heap.size+1+1))]).run Tryz.prog W4=.ok (.int .i64 (us.length:Int)) W4:=by
    rw[<-hesz];exact run_len_map W4 _ _ _ es clock (by kernel_rfl) hes
   clear hes hesz
   gi_wp2_with (gi_at_builtin; go_must (refine j8 rfl _ _ rfl (w.heap.size + 6) (.slice P ls.length c) ls (us.length : Int) rfl HO.out rfl (by omega) (by have := HN5.out.sz; omega) ?_); intro v' W6 hown1 hg6 hb6
                obtain⟨A6,k6,rfl,h61,h62,_⟩:=hown1.form;have h4b:=(hg6.block (w.heap.size+1+1+1+1) (zj HBX.out) (fun e=>vZ HO.out HBX.out (by decide) e.symm)).trans HBX.out;have q6:=zh h4b 0 rfl;have f6:=zi h4b 0;have l6:=zj h4b;have HO6:=zH hown1;have HG6:=zH hg6
                clear h4b hown1 hg6 hb6)
   have hka:=HN5.out.keeps HBX.out HO.out HG6.out (.slice A6 (ls.length+1) k6);have hpu:=HN5.out.push (Le _) HBX.out HO.out (by have:=HO6.out;simpa using this) HG6.out;refine⟨(((show KeepsFrom w2.heap.size W3 W4 from⟨HW4.out.size,fun k o hk hk1 _=>(HW4.out.block k (zj hk1) (fun e=>by have:=hR k e;omega)).trans hk1⟩)).trans HW5.out.1).trans (hsz2▸hka.1),(((show KeepB (fun k=>k=w.heap.size+1+1+1+1+1) W3 W4 from⟨HW4.out.size,fun k hk hl=>HW4.out.block k hl (fun e=>by have:=hR k e;omega)⟩)).trans HW5.out.2).trans hka.2,?_,?_⟩
   . rw[HU2.out,HL2.out]
     exact hpu
   . have a2:Wrote (fun k=>w.heap.size<=k) W5 W6:=Wrote.of_grown HG6.out (fun k e hk=>by have:=(HO.out.lt k e).1;omega)
     have a3:Wrote (fun k=>w.heap.size<=k) W6 (W6.setCell ⟨w.heap.size+1+1+1+1,0,none⟩ (.slice A6 (ls.length+1) k6)):=Wrote.of_grown (zS W6 _ 0 _) (fun k e hk=>by cases e;omega);exact HJ.out _ _ HJ5.out (a2.trans a3 (fun _ _ h=>h))
 case done=>
  intro D ys W hD hys hI hDk;have hmap:ys.map (fun x=>key x.1)=L.map key:=by rw[show ys.map (fun x=>key x.1)=(ys.map (·.1)).map key by rw[PU];rfl,hys]
  rw[hmap] at hI;obtain⟨hN,hJW⟩:=hI;obtain⟨P,c,hbx,ho⟩:=hN.box;have q4:=zh hbx 0 rfl;have HN9:=zH hN;have HO:=zH ho;have HJ9:=zH hJW;have HDk:=zH hDk;clear hN ho hbx hJW hDk hys hmap;go_wp2_with fail;refine xu (B:=w2.heap.size) (w:=W) (show Marks w2.heap.size _ W from⟨[D],rfl,by simp,fun r hr=>by rw[L8] at hr;subst hr;exact⟨hD,HDk.out⟩⟩) (v:=.slice P (xr (L.map key)).length c) (fun W=>by kernel_rfl) ?_;intro X hS;have hb:Below w2.heap.size W X:=hS.below;refine⟨_,rfl,(HO.out.shut hS).low (by omega),HJ.out W X HJ9.out ⟨hb.os,hb.tape,hb.output,hb.size,fun k hk hn=>hb.block k (by omega)⟩,HN9.out.wrote.trans (R':=fun k=>w2.heap.size<=k) ⟨hb.os,hb.tape,hb.output,hb.size,fun k hk hn=>hb.block k (by omega)⟩ (fun k h1 h2=>by omega)⟩
 case stop=>
  intro D c pre W _ _ h;exact h.elim
end
section
def xw(x:Exn)(k q:Nat):Int:=(x.views.getD k []).getD q 0
structure Sees(s:Sy)(K N:Nat):Prop where
 nodup:s.vs.Nodup
 v0:∀x∈s.xs,∀q,q<N->At s.vs (xw x 0 q) (yP q ((yt s.p x.c.toNat).getD q 0))
 vk:∀x∈s.xs,∀k,k<K->∀q,q<N->At s.vs (xw x (k+1) q) (ql (x.word.getD k default) (k+1) q (x.views.getD k []))
 prs:s.xs.map (fun x=>(x.c.toNat,x.word))=zx s.p
 cs:∀x∈s.xs,∃c:Nat,x.c=(c:Int)/\c<s.p.t.cases.length/\x.word∈zJ s.p.a K 0
theorem XS{p:Pb}{tab:List Vw}{c:Nat}{word:List Rd}{x:Exn}{vs:List Vw}(h:XFin p tab c word x vs)(k:Nat)(hk:k<=word.length):x.views.getD k []=Zm vs p.t.n.toNat (yt p c) word k:=by
 rw[h.hv];exact ja _ _ _ _ _ k hk
theorem xfin_at{p:Pb}{tab:List Vw}{c:Nat}{word:List Rd}{x:Exn}{vs:List Vw}(h:XFin p tab c word x vs)(k q:Nat)(hk:k<=word.length)(hq:q<p.t.n.toNat):At tab (xw x k q) (fV vs p.t.n.toNat (yt p c) word k q):=by
 obtain⟨us,hus⟩:=h.ht;unfold xw;rw[XS h k hk,hus];exact(gK vs p.t.n.toNat (yt p c) word word.length k q hk hq).mono
theorem built_sees{p:Pb}{K N:Nat}(hF:Fine (kD p) K N):Sees (kD p) K N:=by
 obtain⟨f1,f2,f3⟩:=X3 p (zx p);have hNN:p.t.n.toNat=N:=by have:p.t.n=(N:Int):=hF.pn;omega
 have hKK:p.k.toNat=K:=by have:p.k=(K:Int):=hF.k;omega
 have hpr:∀y∈zx p,y.2.length=K/\y.1<p.t.cases.length/\y.2∈zJ p.a K 0:=fun y hy=>by
  unfold zx at hy;obtain⟨d,hd,hy⟩:=NL.1 hy;obtain⟨w',hw',rfl⟩:=LX.1 hy;rw[hKK] at hw';exact⟨xy p.a _ 0 w' hw',by simpa using hd,hw'⟩
 have hx:∀x∈(kD p).xs,∃y∈zx p,∃vs,XFin p (kD p).vs y.1 y.2 x vs:=fun x hx=>by
  obtain⟨i,hi,e⟩:=LQ hx;have hi2:i<(zx p).length:=by rw[<-qf p (zx p)];exact hi
  obtain⟨x',vs,hx',hh⟩:=f1 i hi2
  have:x=x':=by
   have h3:(zC p (zx p)).2[i]?=some x:=(Lm (l:=(kD p).xs) hi).trans (congrArg some e);exact NI (h3.symm.trans hx')
  subst this;exact⟨_,Ld hi2,vs,hh⟩
 refine⟨f3,fun x hm q hq=>?_,fun x hm k hk q hq=>?_,?_,fun x hm=>?_⟩
 . obtain⟨y,hy,vs,hh⟩:=hx x hm
   have h:=xfin_at hh 0 q (NC _) (by omega);rw[hh.hc,Ls];exact h
 . obtain⟨y,hy,vs,hh⟩:=hx x hm
   have hl:=(hpr y hy).1;have h:=xfin_at hh (k+1) q (by omega) (by omega);rw[XS hh k (by omega),hh.hw];exact h
 . show(zC p (zx p)).2.map _=zx p
   refine N6 (by rw[LR,qf]) fun i h1 h2=>?_
   obtain⟨x',vs,hx',hh⟩:=f1 i h2;rw[LZ];obtain⟨h3,h4⟩:=Lq.1 hx';rw[h4,hh.hc,hh.hw,Ls]
 . obtain⟨y,hy,vs,hh⟩:=hx x hm
   exact⟨y.1,hh.hc,(hpr y hy).2.1,by rw[hh.hw];exact(hpr y hy).2.2⟩
section
variable {s:Sy} {K N:Nat}
theorem Sees.pr(h:Sees s K N){x:Exn}(hx:x∈s.xs){k q:Nat}(hk:k<=K)(hq:q<N):∃v,At s.vs (xw x k q) v/\v.p=(q:Int)/\v.r=(k:Int):=by
 cases k with
 | zero=>exact⟨_,h.v0 x hx q hq,rfl,rfl⟩
 | succ k=>exact⟨_,h.vk x hx k (by omega) q hq,rfl,rfl⟩
end
end
section
open Go.RowKit Go.Shelf
attribute [local go_sem] Oper.semAt_some
theorem zt{α:Type}{l:List α}{i:Nat}(h:i<l.length)(d:α):l.getD i d=l[i]:=by rw[Lj,Lm h];rfl
def jy(s:Sy)(q:Nat):List Int:=(zr (s.p.k.toNat+1) 0 s.xs.length).map fun x=>xw (s.xs.getD x.1 default) x.2 q
def yx(s:Sy)(q:Nat):List Int:=xr (jy s q)
def clsE(s:Sy)(p:Int):List Int×Int:=if zV s≠0 then ([],zV s) else if p<0\/s.n<=p then ([],2) else (yx s p.toNat,0)
def RetOE(xs:List Int)(n:Int)(w:Ba)(e:Ending)(w':Ba):Prop:=∃A c,e=.returned (.tuple #[.slice A xs.length c,.int .i64 n])/\Own w' w.heap.size (.slice A xs.length c) xs/\Below w.heap.size w w'
theorem Xl(s:Sy)(q:Nat):(jy s q).length=s.xs.length*(s.p.k.toNat+1):=by unfold jy;rw[LR,jS _ _ (by omega)]
theorem keyL_at(s:Sy)(q i:Nat)(h:i<(jy s q).length):(jy s q)[i]=xw (s.xs.getD (i / (s.p.k.toNat+1)) default) (i % (s.p.k.toNat+1)) q:=by
 have h2:i<(zr (s.p.k.toNat+1) 0 s.xs.length).length:=by have:=h;unfold jy at this;simpa using this
 have:(jy s q)[i]=xw (s.xs.getD ((zr (s.p.k.toNat+1) 0 s.xs.length)[i]).1 default) ((zr (s.p.k.toNat+1) 0 s.xs.length)[i]).2 q:=by unfold jy;exact LZ ..
 rw[this,prs_at _ _ (by omega)]
theorem cls1_any(s:Sy)(K N:Nat)(hF:Fine s K N)(e k q:Nat)(he:e<s.xs.length)(hk:k<=K)(hq:q<N)(A SV AV AX:Bb)(kc ks kv kx bs bp:Nat)(w:Ba)(hX:XAt w w.heap.size AX s.xs)
  (hb:w.heap[bs]?=some (.cells (s.vs_ A kc SV ks AV kv AX kx) 35 (0,0))) (hp:w.heap[bp]?=some (.cells #[.int .i64 (q:Int)] 3 (0,0))) :
  Calls Tryz.prog 90 #[.agg #[.int .i64 (e:Int),.int .i64 (k:Int)],.pointer (some ⟨bs,0,none⟩),.pointer (some ⟨bp,0,none⟩)] w fun r w'=>r=.returned (.int .i64 (xw s.xs[e] k q))/\Below w.heap.size w w':=by
 obtain⟨w1,hw1,d0,hs1,hB⟩:=zn w #[.int .i64 (e:Int),.int .i64 (k:Int)] 159;have hxm:=Ld he;obtain⟨hvl,hrow⟩:=hF.views _ hxm;obtain⟨bx,ox,A1,c1,A2,c2,eX,hbx,x0,x1,x2,hRw,hLv⟩:=(hX.keep hB).row e he;subst eX;obtain⟨x,hx⟩:∃x,x=s.xs[e]:=⟨_,rfl⟩;rw[<-hx] at hvl hrow x2 hLv ⊢;obtain⟨bl,ol,A3,c3,eL,hbl,y1,hI⟩:=hLv.at_ k (by omega);subst eL;obtain⟨hl,hpos⟩:=hrow _ (Ld (by omega:k<x.views.length));have hxw:∀row,x.views[k]'(by omega)=row->xw x k q=row.getD q 0:=fun row hr=>by unfold xw;rw[zt (by omega:k<x.views.length),hr]
 obtain⟨row,hrw⟩:=Ki (x.views[k]'(by omega));rw[hxw row hrw];rw[hrw] at y1 hI hl;obtain⟨b4,o4,e4,hb4,z4⟩:=hI.at_ q (by omega);subst e4;have hval:row[q]'(by omega)=row.getD q 0:=by rw[Lj,Lm (by omega)];rfl
 rw[hval] at z4;obtain⟨u,hu⟩:=Ki (row.getD q 0);rw[hu] at z4 ⊢;obtain⟨nv,hnv⟩:=Ki x.views.length;rw[hnv] at x2 hvl;obtain⟨nr,hnr⟩:=Ki row.length;rw[hnr] at y1 hl;have HW1:=zH hw1;have HB:=zH hB;obtain⟨g0,g1,_⟩:=Ka d0;have p0:=zh (La hB hp) 0 rfl;have p9:w1.cell? ⟨bs,9,none⟩=some (.slice (some ⟨bx,ox,none⟩) s.xs.length kx):=zh (La hB hb) 9 rfl;have h1:(0:Int)<=(e:Int):=by omega
 have h2:(e:Int)<(s.xs.length:Int):=by omega
 have h3:(0:Int)<=(k:Int):=by omega
 have h4:(k:Int)<(nv:Int):=by omega
 have h5:(0:Int)<=(q:Int):=by omega
 have h6:(q:Int)<(nr:Int):=by omega
 have lbs:=zj hb;have lbp:=zj hp;clear hw1 d0 hB hX hb hp hF hval hu hnv hnr hx hRw hLv hI hpos hrow hxm hxw hrw x0 x1 hl hvl;go_enter Tryz.func90,Tryz.ntmps90;go_wp2_with fail;rw[HW1.out];go_quiet (fail);go_wp2_with fail;go_ret;exact⟨rfl,zT HB.out _⟩
theorem wn{w w':Ba}(h:Wrote (fun _=>False) w w'):Below w.heap.size w w':=⟨h.os,h.tape,h.output,h.size,fun k hk=>h.block k hk (fun h=>h)⟩
theorem Q3(s:Sy)(hs:LowS s)(hf:yR s.p)(p:Int)(A SV AV AX:Bb)(kc ks kv kx:Nat)(w:Ba)(hS:SyAt w w.heap.size A SV AV AX s) :
  Calls Tryz.prog 57 #[.agg (s.vs_ A kc SV ks AV kv AX kx),.int .i64 p] w (RetOE (clsE s p).1 (clsE s p).2 w):=by
 obtain⟨w1,hw1,d0,d1,hs1,hB⟩:=yB w (s.vs_ A kc SV ks AV kv AX kx) #[.int .i64 p] 35 3;have HV:=zH (vO s hs hf A SV AV AX kc ks kv kx w1 (hS.up hB));have HS1:=zH (hS.up hB);have HE:Hid (clsE s p=if zV s≠0 then ([],zV s) else if p<0\/s.n<=p then ([],2) else (yx s p.toNat,0)):=rfl;have HVF:=zH (fun h=>yn hf h)
 have HNB:=zH (fun (K N q:Nat) (hF:Fine s K N) (hq:q<N) (X:Ba) (hX:SyAt X X.heap.size A SV AV AX s) (bs bp:Nat) (hb:X.heap[bs]?=some (.cells (s.vs_ A kc SV ks AV kv AX kx) 35 (0,0))) (hp:X.heap[bp]?=some (.cells #[.int .i64 (q:Int)] 3 (0,0)))=>
  Xs s K s.xs.length (by have:=hF.k6;omega) (by have:=hF.lx;omega) hF.k rfl A SV AV AX kc ks kv kx 90 #[.pointer (some ⟨bs,0,none⟩),.pointer (some ⟨bp,0,none⟩)]
   (N0 Tryz.func90 (by kernel_rfl) rfl) (fun x=>xw (s.xs.getD x.1 default) x.2 q) (fun _=>False)
   (fun W=>XAt W X.heap.size AX s.xs/\W.heap[bs]?=some (.cells (s.vs_ A kc SV ks AV kv AX kx) 35 (0,0))/\W.heap[bp]?=some (.cells #[.int .i64 (q:Int)] 3 (0,0))/\X.heap.size<=W.heap.size) X (fun _ h=>h.elim)
   ⟨hX.fx,hb,hp,Le _⟩
   (fun W W' h hw=>by
    have hbl:Below X.heap.size W W':=⟨hw.os,hw.tape,hw.output,hw.size,fun k hk=>hw.block k (by have:=h.2.2.2;omega) (fun h2=>by omega)⟩
    exact⟨h.1.keep hbl,Lb hbl (zj hb) h.2.1,Lb hbl (zj hp) h.2.2.1,Lz h.2.2.2 hw.size⟩)
   (fun x hx W hJ hW=>by
    obtain⟨_,h1,h2⟩:=qc _ _ x hx;have he:x.1<s.xs.length:=by omega
    have:=cls1_any s K N hF x.1 x.2 q he (by omega) hq A SV AV AX kc ks kv kx bs bp W (hJ.1.more hJ.2.2.2) hJ.2.1 hJ.2.2.1;refine this.mono ?_;rintro r w' ⟨rfl,hb'⟩;rw[zt he]
    refine⟨rfl,⟨hJ.1.keep (hb'.mono hJ.2.2.2),La hb' hJ.2.1,La hb' hJ.2.2.1,Lz hJ.2.2.2 hb'.size⟩,Wrote.of_below hb'⟩))
 have HKL:=zH (fun (K q:Nat) (h:s.p.k=(K:Int))=>(by unfold yx jy;rw[h];rfl:yx s q=xr ((zr (K+1) 0 s.xs.length).map fun x=>xw (s.xs.getD x.1 default) x.2 q)));obtain⟨R,hR⟩:=Ki (clsE s p);obtain⟨r,hr⟩:=Ki (zV s);rw[hr] at HV HE HVF;rw[hR] at HE ⊢;unfold Sy.vs_ at hw1 d0 HV HNB ⊢;have HW1:=zH hw1;have HB:=zH hB;have HD:=zH d0;have HD1:=zH d1;obtain⟨p0,p1,p2,p3,p4,p5,p6,p7,p8,p9⟩:=zB d0;clear hw1 d0 d1 hB hS hr hR hs hf;go_enter Tryz.func57,Tryz.ntmps57;go_wp2_with fail;rw[HW1.out];go_wp2_with fail;refine HV.out.mono ?_;rintro e w2 ⟨rfl,hb2⟩;have HB2:=zH (HB.out.trans (hb2.mono (by omega)));have HS2:=zH (HS1.out.up hb2);have d0:=Lb hb2 (by omega:w.heap.size<w1.heap.size) HD.out;have d1:=Lb hb2 (by omega:w.heap.size+1<w1.heap.size) HD1.out;clear p0 p1 p2 p3 p4 p5 p6 p7 p8 p9 hb2 HV HW1 HS1 HD HD1
 by_cases h0:r=0
 case neg=>
  have hR:Hid (R=([],r)):=HE.out.trans (Lh h0);have e0:(r != 0)=true:=by simpa using h0
  clear HE HVF h0 d0 d1 HNB HKL;go_wp2_with fail
  go_ret2
  rw[hR.out];exact⟨none,0,rfl,Own.nil _ _,HB2.out⟩
 case pos=>
 subst h0;obtain⟨hsb,K,N,hF⟩:=HVF.out rfl;clear hsb;have hE2:R=if p<0\/s.n<=p then ([],2) else (yx s p.toNat,0):=HE.out.trans (Lg (by simp));have hn:=hF.n;have h5:=hF.n5;rw[hn] at hE2;have HE2:=zH hE2;have HFF:=zH hF;have HDD:=zH d0;have q0:=zh d1 0 rfl;have q7:w2.cell? ⟨w.heap.size,7,none⟩=some (.int .i64 (N:Int)):=by rw[<-hn];exact zh d0 7 rfl
 have HD1:=zH d1;clear HE HVF hE2 hF d0 d1 hn
 by_cases h1:p<0
 case pos=>
  have hR:Hid (R=([],2)):=HE2.out.trans (Lh (.inl h1));clear HE2 HNB HKL;go_wp2_with fail
  go_ret2
  rw[hR.out];exact⟨none,0,rfl,Own.nil _ _,HB2.out⟩
 case neg=>
 obtain⟨q,rfl⟩:=Lr (show 0<=p by omega);have e1:(decide ((q:Int)<0))=false:=by simp
 by_cases h2:q<N
 case neg=>
  have hR:Hid (R=([],2)):=HE2.out.trans (Lh (.inr (by omega)));have e2:(decide ((N:Int)<=(q:Int)))=true:=by simp;omega
  have h3:(N:Int)<=(q:Int):=by omega
  clear HE2 HNB HKL;go_wp2_with fail
  go_ret2
  rw[hR.out];exact⟨none,0,rfl,Own.nil _ _,HB2.out⟩
 case pos=>
  have hR:Hid (R=(yx s q,0)):=HE2.out.trans (Lg (by omega));have e2:(decide ((N:Int)<=(q:Int)))=false:=by simp;omega
  have h3:¬(N:Int)<=(q:Int):=by omega
  have HC:=zH (HNB.out K N q HFF.out h2 w2 HS2.out w.heap.size (w.heap.size+1) HDD.out HD1.out);have hkl:=HKL.out K q HFF.out.k;have hn:=HFF.out.n;rw[<-hkl,hn] at HC;obtain⟨p0,p1,p2,p3,p4,p5,p6,_⟩:=Kf HDD.out;have p8:=zh HDD.out 8 rfl;have p9:=zh HDD.out 9 rfl;clear HE2 HNB HKL HS2 hkl HFF hn;go_wp2_with fail
  all_goals first | (exfalso;omega) | skip
  refine HC.out.mono ?_;rintro e w3 ⟨v,rfl,ho,_,hw3⟩;have HO:=zH ho;have hb3:=wn hw3;have HB3:=zH (Lc HB2.out hb3);clear ho hw3 hb3 HC p0 p1 p2 p3 p4 p5 p6 q7 p8 p9;obtain⟨A6,k6,rfl,_,_,_⟩:=HO.out.form;go_wp2_with fail
  go_ret2
  rw[hR.out];exact⟨A6,k6,rfl,HO.out.low HB2.out.size,HB3.out⟩
end
section
open Go.RowKit
theorem IAt.sameB{w w':Ba}{B:Nat}{A:Bb}{xs:List Int}(h:IAt w B A xs)(hb:∀k,k<B->w'.heap[k]?=w.heap[k]?):IAt w' B A xs:=fun h0=>by
 obtain⟨b,off,e,hlt,hc⟩:=h h0;exact⟨b,off,e,hlt,fun i hi=>(LA (hb b hlt)).trans (hc i hi)⟩
end
section
open Go.RowKit
theorem cnt_pos{a:Ad}(h:zI a a.sts=0):∀(k:Nat) (s:Int),0<=s->s<a.sts.length->1<=yd a k s
 | 0,_,_,_=>Le _
 | k+1,s,h0,h1=>by
  have hl:s.toNat<a.sts.length:=by omega
  have he:a.at_ s=a.sts[s.toNat]:=by unfold Ad.at_;rw[Lj,Lm hl];rfl
  obtain⟨z1,z2⟩:=jl h _ (Ld hl)
  obtain⟨m,r,hm⟩:∃m r,a.sts[s.toNat]=m::r:=by
   cases hc:a.sts[s.toNat] with
   | nil=>rw[hc] at z1;simp at z1
   | cons m r=>exact⟨m,r,rfl⟩
  have hmv:m∈a.mvs:=NA.2 ⟨_,Ld hl,by rw[hm];simp⟩;obtain⟨_,_,z3,z4⟩:=xT h m hmv;have:=cnt_pos h k m.to z3 z4;unfold yd;rw[he,hm,LT,Re];omega
theorem xs_pos{s:Sy}(hf:yR s.p)(h:zV s=0):1<=s.xs.length:=by
 obtain⟨e,_⟩:=yn hf h
 have h0:zU s.p=0:=by
  unfold zV at h
  by_cases h1:(zY s.p).2≠0
  . rw[Lh h1] at h;exact absurd h h1
  . by_cases h0:zU s.p=0
    . exact h0
    . rw[xm h0] at h1;exact absurd h0 h1
 obtain⟨hpt,hpa,_⟩:=zX h0;obtain⟨hc,_⟩:=xg hpt;rw[e];show 1<=(zC s.p (zx s.p)).2.length;have ha:=hpa;unfold qk at ha
 have hst:zI s.p.a s.p.a.sts=0/\1<=s.p.a.sts.length:=by
  split at ha
  . cases ha
  . split at ha
    . cases ha
    . rename_i h3
      split at ha
      . rename_i h4;exact absurd ha h4
      . rename_i h4
        exact⟨by simpa using h4,by omega⟩
 have:=cnt_pos hst.1 s.p.k.toNat 0 (Int.le_refl _) (by omega);rw[qf,Xp,gL,yF];exact LO hc this
section
variable {B bX bC bM n:Nat} {S:Array Value} {V:Value} {f:Int->Option Value} {fM:Int×Int->Option Value} {pl cl:List Nat} {cls:Nat->List Int} {mem:Int×Int->List Nat} {w W W':Ba}
end
end
section
def ptn(s:Sy):Nat:=s.xs.length*(s.p.k.toNat+1)
def psG(s:Sy)(g:Int):List Nat:=zL g.toNat s.n.toNat
def zZ(s:Sy)(g:Int):Int:=if zV s≠0 then zV s else if g<0\/2^s.n.toNat<=g then 2 else 0
def zN(s:Sy)(g:Int)(set:List Bool):Int:=if zZ s g≠0 then zZ s g else if set.length≠ptn s then 15 else 0
theorem ZX(s:Sy)(q:Nat):(yx s q).length=ptn s:=by unfold yx;rw[xq,Xl];rfl
theorem psG_len(s:Sy)(g:Int):(psG s g).length<=s.n.toNat:=by unfold psG zL;exact Lz (List.length_filter_le _ _) (by simp)
theorem vF{s:Sy}{g:Int}{set:List Bool}(h:zN s g set=0):zZ s g=0/\set.length=ptn s:=by
 unfold zN at h
 by_cases h1:zZ s g=0
 . rw[Lg (by simpa using h1)] at h
   refine⟨h1,?_⟩
   by_cases h2:set.length=ptn s
   . exact h2
   . rw[Lh h2] at h;cases h
 . rw[Lh h1] at h;exact absurd h h1
theorem jq{s:Sy}{g:Int}(h:zZ s g=0):zV s=0/\0<=g/\g<2^s.n.toNat:=by
 unfold zZ at h
 by_cases h1:zV s=0
 . rw[Lg (by simpa using h1)] at h
   refine⟨h1,?_⟩
   by_cases h2:g<0\/2^s.n.toNat<=g
   . rw[Lh h2] at h;cases h
   . omega
 . rw[Lh h1] at h;exact absurd h h1
theorem YF{s:Sy}{g:Int}(hf:yR s.p)(h:zZ s g=0):1<=ptn s/\ptn s<=700/\(psG s g).length<=5:=by
 obtain⟨h1,_,_⟩:=jq h;obtain⟨_,K,N,hF⟩:=yn hf h1;have hx:=xs_pos hf h1;have hn:=hF.n;have hn5:=hF.n5;have hk:=hF.k;have hk6:=hF.k6;have hlx:=hF.lx;refine⟨?_,?_,?_⟩
 . have:=LO hx (show 1<=s.p.k.toNat+1 by omega)
   unfold ptn;omega
 . have:=LO hlx (show s.p.k.toNat+1<=7 by omega)
   unfold ptn;omega
 . have:=psG_len s g
   omega
end
section
open Go.RowKit
attribute [local go_sem] Oper.semAt_some
def okV(v:List Int):Bool:=decide (v.length<=10)
def okX(x:Exn):Bool:=decide (x.word.length<=10)&&decide (x.views.length<=10)&&x.views.all okV
def qF(s:Sy):Bool:=qm s.p&&decide (s.vs.length<=600)&&decide (s.xs.length<=70)&&s.xs.all okX
theorem yV{s:Sy}(hl:LowSy s)(h:qF s=true):yR s.p/\¬(3<s.p.t.n/\s.p.t.n<=5)/\LowS s/\s.vs.length<=600/\s.xs.length<=70:=by
 unfold qF at h;simp only[Bool.and_eq_true,decide_eq_true_eq] at h;obtain⟨⟨⟨h1,h2⟩,h3⟩,_⟩:=h;obtain⟨f1,f2⟩:=few_x h1;exact⟨f1,f2,⟨hl.fp,by omega,by omega,hl.fe⟩,h2,h3⟩
theorem okX_word{x:Exn}(h:¬x.word.length<=10):okX x=false:=by unfold okX;rw[Li h];rfl
theorem okX_views{x:Exn}(h:¬x.views.length<=10):okX x=false:=by unfold okX;rw[Li h,Bool.and_false];rfl
theorem okX_all{x:Exn}(h1:x.word.length<=10)(h2:x.views.length<=10):okX x=x.views.all okV:=by unfold okX;rw[Lk h1,Lk h2];rfl
theorem fewS_any(s:Sy)(hl:LowSy s)(A SV AV AX:Bb)(kc ks kv kx:Nat)(w:Ba)(hS:SyAt w w.heap.size A SV AV AX s) :
  Calls Tryz.prog 4 #[.agg (s.vs_ A kc SV ks AV kv AX kx)] w fun e w'=>e=.returned (.bool (qF s))/\Below w.heap.size w w':=by
 obtain⟨w1,hw1⟩:=Ki (w.alloc (.cells (s.vs_ A kc SV ks AV kv AX kx) 35));have hbb:=zw w (.cells (s.vs_ A kc SV ks AV kv AX kx) 35);have hb01:Below w.heap.size w w1:=by rw[<-hw1];exact zW w _
 have hsz1:w1.heap.size=w.heap.size+1:=by rw[<-hw1];simp
 rw[hw1] at hbb;have HF:=zH (few_any s.p hl.fp A kc SV ks w1 (hS.up hb01).fc (hS.up hb01).fs);have HX:=zH (hS.up hb01).fx;have hvl:=hl.fv;have hxl:=hl.fx;have HLX:=zH hl.fe;have HRB:Hid (qF s=(qm s.p&&decide (s.vs.length<=600)&&decide (s.xs.length<=70)&&s.xs.all okX)):=rfl;obtain⟨r,hr⟩:=Ki (qF s);rw[hr] at HRB ⊢;obtain⟨b,hb⟩:=Ki (qm s.p);rw[hb] at HF HRB;unfold Pb.vs at HF;unfold Sy.vs_ at hw1 hbb ⊢;have HW1:=zH hw1;have HBB:=zH hbb;have HB01:=zH hb01;obtain⟨p0,p1,p2,p3,p4,p5,p6,_⟩:=Kf hbb;clear hw1 hbb hb01 hS hl hr hb;go_enter Tryz.func4,Tryz.ntmps4;go_wp2_with fail;rw[HW1.out];go_wp2_with fail;refine HF.out.mono ?_;rintro e w2 ⟨rfl,hb2⟩;have HB2:=zH (HB01.out.trans (hb2.mono (by omega)));have d0:=Lb hb2 (by omega:w.heap.size<w1.heap.size) HBB.out;have HD0:=zH d0;have HX2:=zH ((HX.out.keep hb2).more hb2.size);have hs2:=hb2.size;have x8:=zh d0 8 rfl;have x9:=zh d0 9 rfl;clear p0 p1 p2 p3 p4 p5 p6 hb2 HF HBB HW1 HX d0
 cases b with
 | false=>
  have hRf:Hid (r=false):=HRB.out;clear HRB;go_wp2_with fail
  all_goals
   go_ret;exact⟨zm hRf.out.symm,HB2.out⟩
 | true=>
 by_cases h8:s.vs.length<=600
 case neg=>
  have hRf:Hid (r=false):=HRB.out.trans (by rw[Li h8];rfl);clear HRB;go_wp2_with fail
  all_goals first | (exfalso;omega) | skip
  all_goals
   go_ret;exact⟨zm hRf.out.symm,HB2.out⟩
 case pos=>
 by_cases h9:s.xs.length<=70
 case neg=>
  have hRf:Hid (r=false):=HRB.out.trans (by rw[Li h9,Bool.and_false];rfl);clear HRB;go_wp2_with fail
  all_goals first | (exfalso;omega) | skip
  all_goals
   go_ret;exact⟨zm hRf.out.symm,HB2.out⟩
 case pos=>
 have HR:Hid (r=(s.xs.drop 0).all okX):=HRB.out.trans (by rw[Lk h8,Lk h9,L4];rfl);clear HRB;go_wp2_with fail
 all_goals first | (exfalso;omega) | skip
 clear x8 x9
 go_loopw [3] (fun i wr=>∃k:Nat,k<=s.xs.length/\i=.int .i64 (k:Int)/\Hid (r=(s.xs.drop k).all okX)/\Hid (Below w2.heap.size w2 wr)) (fun i _=>s.xs.length-(intOf i).toNat)
 case atStart=>exact⟨0,by omega,rfl,HR,Lo _ _⟩
 case round=>
  clear HR;obtain⟨k,hk,rfl,HR,hb⟩:=hrel;have d0:=Lb hb.out (by omega:w.heap.size<w2.heap.size) HD0.out;have x9:=zh d0 9 rfl;clear d0
  by_cases hlt:k<s.xs.length
  case neg=>
   obtain rfl:k=s.xs.length:=by omega
   have hRt:Hid (r=true):=HR.out.trans (by rw[Nm];rfl);clear HR;go_wp2_with fail;go_ret;exact⟨zm hRt.out.symm,HB2.out.trans (hb.out.mono (by omega))⟩
  case pos=>
   obtain⟨bx,ox,A1,c1,A2,c2,eA,hbx,y0,y1,y2,_,hL⟩:=(HX2.out.keep hb.out).row k hlt;subst eA;obtain⟨x,hx⟩:=Ki (s.xs[k]);have hxw:=HLX.out _ (Ld hlt);have hdr:s.xs.drop k=x::s.xs.drop (k+1):=by rw[Ly hlt,hx]
   have HRK:Hid (r=(okX x&&(s.xs.drop (k+1)).all okX)):=HR.out.trans (by rw[hdr];rfl);rw[hx] at y0 y1 y2 hL hxw;obtain⟨hxw1,hxw2,hxw3⟩:=hxw;have HXW:=zH hxw3;have hsz:=hb.out.size;have hbxw:bx<wr.heap.size:=by omega
   have hk0:(0:Int)<=(k:Int):=by omega
   have hk1:(k:Int)<(s.xs.length:Int):=by omega
   obtain⟨W3,hW3,b3,hs3,hB3⟩:=zn wr #[.int .i64 x.c,.slice A1 x.word.length c1,.slice A2 x.views.length c2] 56;have HW3:=zH hW3;have HB3:=zH (hb.out.trans (hB3.mono hsz));have HD3:=zH b3;have HL:=zH ((hL.more hsz).keep hB3);have e9:W3.cell? ⟨w.heap.size,9,none⟩=wr.cell? ⟨w.heap.size,9,none⟩:=hB3.cell (p:=⟨w.heap.size,9,none⟩) (by show w.heap.size<_;omega);have z1:=zh b3 1 rfl;have z2:=zh b3 2 rfl;have HE9:=zH (e9.trans x9);clear hW3 hB3 b3 hL hxw3 hx hdr HR e9
   by_cases h1:x.word.length<=10
   case neg=>
    have hRf:Hid (r=false):=HRK.out.trans (by rw[okX_word h1];rfl);clear HRK;go_wp2_with fail;rw[HW3.out];go_wp2_with fail
    all_goals first | (exfalso;omega) | skip
    all_goals
     go_ret;exact⟨zm hRf.out.symm,HB2.out.trans (HB3.out.mono (by omega))⟩
   case pos=>
   by_cases h2:x.views.length<=10
   case neg=>
    have hRf:Hid (r=false):=HRK.out.trans (by rw[okX_views h2];rfl);clear HRK;go_wp2_with fail;rw[HW3.out];go_wp2_with fail
    all_goals first | (exfalso;omega) | skip
    all_goals
     go_ret;exact⟨zm hRf.out.symm,HB2.out.trans (HB3.out.mono (by omega))⟩
   case pos=>
   have HRJ:Hid (r=((x.views.drop 0).all okV&&(s.xs.drop (k+1)).all okX)):=HRK.out.trans (by rw[okX_all h1 h2,L4]);clear HRK;go_wp2_with fail;rw[HW3.out];go_wp2_with fail
   all_goals first | (exfalso;omega) | skip
   clear z1 z2 y0 y1 y2 x9 HW3;obtain⟨bE,hbE⟩:=Ki wr.heap.size;rw[hbE] at HD3 ⊢;obtain⟨wo,rfl⟩:∃y,y=wr:=⟨_,rfl⟩
   go_loopw [5] (fun i wx=>∃j n:Nat,j<=x.views.length/\i=.int .i64 (j:Int)/\wx=W3.drewN n/\Hid (r=((x.views.drop j).all okV&&(s.xs.drop (k+1)).all okX))) (fun i _=>x.views.length-(intOf i).toNat)
   case atStart=>exact⟨0,0,by omega,rfl,rfl,HRJ⟩
   case round=>
    clear HRJ;obtain⟨j,n,hj,rfl,rfl,HRJ⟩:=hrel;have z2:(W3.drewN n).cell? ⟨bE,2,none⟩=some (.slice A2 x.views.length c2):=zh HD3.out 2 rfl
    by_cases hjl:j<x.views.length
    case neg=>
     obtain rfl:j=x.views.length:=by omega
     have hRt:Hid (r=(s.xs.drop (k+1)).all okX):=HRJ.out.trans (by rw[Nm];rfl);clear HRJ;go_wp2_with fail
     go_roundw
     case rel=>exact⟨k+1,by omega,by go_num,hRt,zT HB3.out n⟩
     case measure=>simp[intOf];omega
    case pos=>
     obtain⟨bl,ol,A3,c3,eA,hbl,v0,_⟩:=HL.out.at_ j hjl;subst eA;obtain⟨v,hv⟩:=Ki (x.views[j]);have hvl3:=HXW.out _ (Ld hjl);have hdr:x.views.drop j=v::x.views.drop (j+1):=by rw[Ly hjl,hv]
     have HRK:Hid (r=((okV v&&(x.views.drop (j+1)).all okV)&&(s.xs.drop (k+1)).all okX)):=HRJ.out.trans (by rw[hdr];rfl);rw[hv] at v0 hvl3;have v1:(W3.drewN n).cell? ⟨bl,ol+j,none⟩=some (.slice A3 v.length c3):=v0;have hj0:(0:Int)<=(j:Int):=by omega
     have hj1:(j:Int)<(x.views.length:Int):=by omega
     clear hdr hv v0 HRJ
     by_cases h3:v.length<=10
     case neg=>
      have hRf:Hid (r=false):=HRK.out.trans (by unfold okV;rw[Li h3];rfl);clear HRK;go_wp2_with fail
      all_goals first | (exfalso;omega) | skip
      go_ret;exact⟨zm hRf.out.symm,HB2.out.trans ((zT HB3.out n).mono (by omega))⟩
     case pos=>
      have hRt:Hid (r=((x.views.drop (j+1)).all okV&&(s.xs.drop (k+1)).all okX)):=HRK.out.trans (by rw[show okV v=true from Lk h3];rfl);clear HRK;go_wp2_with fail
      all_goals first | (exfalso;omega) | skip
      go_roundw
      case rel=>exact⟨j+1,n,by omega,by go_num,rfl,hRt⟩
      case measure=>simp[intOf];omega
end
section
def exMv(p:Int):Mv:=⟨⟨2,p,3,0,0,0,0⟩,0⟩
def exC1:Cs:=⟨[0,0],[[0,0]],[]⟩
def exC2:Cs:=⟨[0,1],[[0,0]],[]⟩
def Yo:Pb:=⟨⟨2,2,1,[exC1,exC2]⟩,⟨2,[[exMv 1,exMv 3]]⟩,1⟩
def yh:Sy:=(zY Yo).1
theorem ex_few:qm Yo=true:=by decide +kernel
theorem XG:yR Yo:=(few_x ex_few).1
theorem ex_ok:(zY Yo).2=0:=by decide +kernel
theorem ex_low:Je Yo:=by
 refine⟨⟨by decide,fun c hc=>?_⟩,by decide,fun l hl=>?_⟩
 . have:c=exC1\/c=exC2:=by simpa[Yo] using hc
   rcases this with rfl | rfl
   . refine⟨by decide,by decide,by decide,fun v hv=>?_,fun v hv=>?_⟩
     . have:v=[0,0]:=by simpa[exC1] using hv
       subst this;decide
     . simp[exC1] at hv
   . refine⟨by decide,by decide,by decide,fun v hv=>?_,fun v hv=>?_⟩
     . have:v=[0,0]:=by simpa[exC2] using hv
       subst this;decide
     . simp[exC2] at hv
 . have:l=[exMv 1,exMv 3]:=by simpa[Yo] using hl
   subst this;decide
theorem jd:LowS yh:=wh ex_low XG
theorem exs_p:yh.p=Yo:=by decide +kernel
theorem XF:yh.xs.length=4/\yh.n=2:=by decide +kernel
theorem gS:zV yh=0:=by decide +kernel
theorem qX:yR yh.p:=by rw[exs_p];exact XG
theorem gT:yx yh 0=[0,1,0,2,0,1,0,3]/\yx yh 1=[0,1,0,1,2,3,2,3]:=by decide +kernel
theorem xX:psG yh 3=[0,1]/\psG yh 2=[1]/\ptn yh=8:=by decide +kernel
theorem QU:zZ yh 3=0/\zZ yh 2=0:=by
 unfold zZ;rw[gS];decide +kernel
def yb:List Bool:=[false,false,false,false,true,true,true,true]
theorem jW:zN yh 3 yb=0/\zN yh 2 yb=0:=by
 unfold zN;rw[QU.1,QU.2,xX.2.2];decide
def um(q:Nat):List Int:=if q=0 then [0,1,0,2,0,1,0,3] else if q=1 then [0,1,0,1,2,3,2,3] else []
end
section
theorem hear_row{r:Rd}(h:yJ r=0)(p:Nat)(hp:p<5):xN r.n p (r.h p)=0:=by
 unfold yJ at h
 split at h
 . cases h
 · have key : ∀ k, k ≤ 5 → yC r (5 - k) k = 0 → ∀ q, k ≤ q → q < 5 → xN r.n q (r.h q) = 0 := by
    intro k hk
    induction hm:5-k generalizing k with
    | zero=>intro _ q h1 h2;omega
    | succ m ih=>
     intro hz q h1 h2;unfold yC at hz
     split at hz
     . rename_i hne;exact absurd hz hne
     . rename_i hne
       by_cases e:q=k
       . subst e;simpa using hne
       . exact ih (k+1) (by omega) (by omega) hz q (by omega) h2
   exact key 0 (by omega) h p (by omega) hp
theorem YT{r:Rd}{N:Nat}(h:yi r=0)(hn:r.n=(N:Int))(h5:N<=5){q:Nat}(hq:q<N):∃m:Nat,r.h q=(m:Int)/\m<2^N/\m.testBit q=true:=by
 have h1:=hear_row (qR h).2.2.1 q (by omega);unfold xN at h1;rw[Lg (by omega)] at h1
 split at h1
 . cases h1
 . rename_i hb
   split at h1
   . rename_i ht
     rw[hn,Ls] at hb;obtain⟨m,hm⟩:=Lr (show 0<=r.h q by omega);rw[hm] at hb ht ⊢;have hp:=Nat.two_pow_pos N;exact⟨m,rfl,by omega,by simpa using ht⟩
   . cases h1
section
variable {s:Sy} {K N:Nat}
theorem Fine.row(hF:Fine s K N){x:Exn}(hx:x∈s.xs){k:Nat}(hk:k<=K):(x.views.getD k []).length=N/\∀i∈x.views.getD k [],0<=i/\i<s.vs.length:=by
 obtain⟨hl,h⟩:=hF.views x hx;have hk2:k<x.views.length:=by omega
 rw[Lj,Lm hk2];exact h _ (Ld hk2)
theorem Fine.round(hF:Fine s K N){x:Exn}(hx:x∈s.xs){k:Nat}(hk:k<K):yi (x.word.getD k default)=0/\(x.word.getD k default).n=(N:Int):=by
 obtain⟨hl,h⟩:=hF.word x hx;have hk2:k<x.word.length:=by omega
 rw[Lj,Lm hk2];exact h _ (Ld hk2)
end
end
section
open Go.RowKit
theorem made_row(n:Nat):madeCells #[.int .i64 0] (n*1)=((List.replicate n 0).map (Value.int .i64)).toArray:=by
 unfold madeCells;apply Array.ext
 . simp
 . intro i h1 h2
   simp[Nat.mod_one]
theorem uO(n:Nat)(hn:n<=100000)(W:Ba):(Instr.makeSlice 44 (.int .i64 n) (.int .i64 n)).run Tryz.prog W=.ok (.slice (some ⟨W.heap.size,0,none⟩) n n) (W.alloc (.cells ((List.replicate n 0).map (Value.int .i64)).toArray 3)):=by
 obtain⟨i0,hi,hz0,hz1,hz2⟩:=yT ZG;have hb:i0.bytes=8:=hz2;have hs:i0.size=1:=hz1;have h:=run_make (P:=Tryz.prog) W 44 3 i0 (.int .i64 0) Nq hi hz0 .i64 .i64 (n:Int) (n:Int) (by omega) (Int.le_refl _) (by rw[hb];omega) (by omega);rw[h,hs];simp only[Int.toNat_natCast];rw[show(Value.int .i64 0).cells=#[.int .i64 0] from rfl,made_row]
theorem Qb(n b:Nat)(h1:1<=n)(h5:n<=100000)(u:Int)(w:Ba)(hb:w.heap[b]?=some (.cells #[.int .i64 u] 3 (0,0))) :
  Calls Tryz.prog 23 #[.slice (some ⟨b,0,none⟩) 1 1,.int .i64 n] w fun e w'=>∃g,e=.returned (.slice (some ⟨g,0,none⟩) n n)/\w.heap.size<=g/\RowAt w' g (List.replicate n u)/\Below w.heap.size w w':=by
 have hmk:=uO n h5;obtain⟨ar,har⟩:∃ar:List Value,(List.replicate n 0).map (Value.int .i64)=ar:=⟨_,rfl⟩;rw[har] at hmk;have hal:ar.length=n:=by rw[<-har];simp
 have hc:=zh hb 0 rfl;have hbl:=zj hb;have hm:=Tryz.bits_Mul 1 n (by omega) (by omega) w;have e1:(1*n / 18446744073709551616:Nat)=0:=by omega
 have e2:(1*n % 18446744073709551616:Nat)=n:=by omega
 rw[e1,e2] at hm;have hn0:¬(n:Int)<0:=by omega
 clear har e1 e2;go_enter Tryz.func23,Tryz.ntmps23;go_wp2_with fail;refine hm.mono ?_;rintro e w1 ⟨rfl,hw1⟩;obtain rfl:=hw1;clear hm;obtain⟨W0,hW0,b0,hsz,hB0⟩:=zn w1 ar.toArray 3;have hx:W0.cell? ⟨b,0,none⟩=some (.int .i64 u):=(hB0.cell (p:=⟨b,0,none⟩) hbl).trans hc;have BB:=zH hB0;have BX:=zH b0;have HX:=zH hx;clear hc hB0 b0 hx hb;go_wp2_with ((refine Rz rfl (.tmp 31) (.tmp 32) 44 44 rfl 3 Nq vR (some ⟨w1.heap.size,0,none⟩) (some ⟨b,0,none⟩) n n 1 1 rfl rfl w1.heap.size 0 ar 3 BX.out [.int .i64 u] (by simp[Nat.min_def];omega) (fun _=>⟨rfl,_,rfl,Xr HX.out⟩) (by simp;omega) (by simp[Value.oneCell']) w1.heap.size w1 BB.out (Le _) ?_);intro w2 hr2 hb2);obtain⟨g,hg⟩:=Ki w1.heap.size;have s1:=qq (cur:=ar) (x:=.int .i64 u) (k:=0) (m:=1) (n:=n) hal (by simp) (by omega);have S1:=zH s1;have HGG:=zH hg;rw[hg] at hr2 hb2 ⊢;clear s1 BX HX BB hW0 hsz hmk hg
 go_loopw [8] (fun l wr=>∃(k:Nat) (cur:List Value),1<=k/\k<=n/\l=.int .i64 k/\Hid (cur.length=n)/\Hid (cur.take k=List.replicate k (.int .i64 u))/\Hid (wr.heap[g]?=some (.cells cur.toArray 3 (0,0)))/\Below g w1 wr) (fun l _=>n-(intOf l).toNat)
 case atStart=>exact⟨1,splice ar 0 [.int .i64 u],by omega,h1,rfl,S1.out.2,S1.out.1,hr2,hb2⟩
 case round=>
  obtain⟨k,cur,hk1,hkn,rfl,hcl,hct,hcell,hbl2⟩:=hrel
  by_cases hlt:k<n
  . clear S1 hr2 hb2
    have hk0:(0:Int)<=(k:Int):=by omega
    have hk2:(k:Int)<=(n:Int):=by omega
    have hne:¬n=k:=by omega
    have hne':¬k=n:=by omega
    go_upto_region 9 with fail
    obtain⟨d,hd⟩:=Ki (n-k);obtain⟨m,hm⟩:=Ki (Nat.min k d);have hm0:min k d=m:=hm;have hm1:1<=m:=by omega
    have hm2:k+m<=n:=by omega
    have hm3:m<=k:=by omega
    clear hm0
    have hsrc:∀j v,(List.replicate m (Value.int .i64 u))[j]?=some v->wr.cell? ((⟨g,0,none⟩:Addr).add j)=some v:=by
     intro j v hj;have hjm:j<m:=by have:=(Lq.1 hj).1;simpa using this
     rw[Nt,Lh hjm] at hj
     cases hj
     rw[N5,LH];refine zh hcell.out j ?_;rw[Ro];have h2:=congrArg (fun l=>l[j]?) hct.out;simp only[List.getElem?_take,List.getElem?_replicate] at h2;rwa[Lh (by omega),Lh (by omega)] at h2
    have SP:=zH (qq (cur:=cur) (x:=Value.int .i64 u) (k:=k) (m:=m) (n:=n) hcl.out hct.out hm2);have HSRC:=zH hsrc;have HM:=zH hm;have HBL2:=zH hbl2;have hs1:IntKind.i64.wrap ((k:Int)+(m:Int))=(k:Int)+(m:Int):=Sf _ (by omega);have HS1:=zH hs1;clear hsrc hm hbl2 hs1
    go_region_law ((refine RU (by rfl) (.tmp 41) (.tmp 44) 44 44 (by rfl) 3 Nq vR (some ⟨g,k,none⟩) (some ⟨g,0,none⟩) d d k n (by simp[go_sem]) (by simp[go_sem]) g k cur 3 hcell.out (List.replicate m (.int .i64 u)) (by rw[LB];exact HM.out.symm) (fun _=>⟨rfl,_,rfl,HSRC.out⟩) (by rw[LB,hcl.out];exact hm2) (by intro v hv;rw[Rg hv];rfl) g w1 HBL2.out.drew (Le _) ?_;intro w3 hr3 hb3;rw[LB]))
    all_goals
     rw[HS1.out];go_wp2_with fail
     go_frame
     go_roundw
     case rel=>
      (repeat apply Exists.intro)
      exact⟨⟨k+m,splice cur k (List.replicate m (.int .i64 u)),by omega,by omega,rfl,SP.out.2,SP.out.1,hr3,hb3⟩,by first | rfl | (go_frame;rfl) | (simp[Act.put];done)⟩
     case measure=>simp[intOf];omega
  . obtain rfl:k=n:=by omega
    go_wp2_with fail;go_ret;refine⟨g,rfl,by have:=HGG.out;omega,?_,by have:=HGG.out;rw[this];exact hbl2⟩;unfold RowAt;have e:=hct.out;rw[Nz (by have:=hcl.out;omega)] at e;rw[hcell.out,e];simp
end
section
open Go.RowKit Go.Shelf
attribute [local go_sem] Oper.semAt_some
theorem shl_one{N:Nat}(h:N<=5):(2^((N:Int)).toNat:Int)=((2^N:Nat):Int):=by
 obtain rfl | rfl | rfl | rfl | rfl | rfl:N=0\/N=1\/N=2\/N=3\/N=4\/N=5:=by omega
 all_goals rfl
theorem own_on{W W9:Ba}{base:Nat}{A:Bb}{n c:Nat}{xs:List Int}(ho:Own W base (.slice A n c) xs)(h:∀k,base<=k->k<W.heap.size->W9.heap[k]?=W.heap[k]?):IAt W9 W.heap.size A xs:=fun h0=>by
 obtain⟨A',c',e',_,_,hI⟩:=ho.form;simp only[Value.slice.injEq] at e';obtain⟨e1',-,-⟩:=e';subst e1';obtain⟨b,off,e,hlt,hc⟩:=hI h0;subst e;have hb:=(ho.lt b rfl).1;exact⟨b,off,rfl,hlt,fun i hi=>(LA (h b hb hlt)).trans (hc i hi)⟩
def RetOw(xs:List Int)(w:Ba)(e:Ending)(w':Ba):Prop:=∃A c,e=.returned (.slice A xs.length c)/\Own w' w.heap.size (.slice A xs.length c) xs/\Below w.heap.size w w'
theorem X8(A:Bb)(cap:Nat)(keys:List Int)(hl:keys.length<=100000)(w:Ba)(hA:IAt w w.heap.size A keys) :
  Calls Tryz.prog 80 #[.slice A keys.length cap] w (RetOw (xr keys) w):=by
 have HA:=zH hA;clear hA;go_enter Tryz.func80,Tryz.ntmps80;go_wp2_with fail
 go_loopw [3,4,5] (fun o nx i wr=>∃k:Nat,k<=keys.length/\i=.int .i64 (k:Int)/\nx=.int .i64 (((yH (keys.take k)).length:Nat):Int)/\Hid (Own wr w.heap.size o (xr (keys.take k)))/\Hid (Below w.heap.size w wr)) (fun _ _ i _=>keys.length-(intOf i).toNat)
 case atStart=>exact⟨0,by omega,rfl,rfl,Own.nil _ _,Lo _ _⟩
 case round=>
  obtain⟨k,hk,rfl,rfl,HO,hb⟩:=hrel;obtain⟨Ao,co,rfl,_,_,hIo⟩:=HO.out.form;have hll:(xr (keys.take k)).length=k:=by rw[xq];simp;omega
  rw[hll] at HO ⊢
  by_cases hlt:k<keys.length
  . have hul:(yH (keys.take k)).length<=100000:=by have:=uniqs_len (keys.take k);simp at this;omega
    obtain⟨b,off,eA,hbl,z0⟩:=(HA.out.keep hb.out).at_ k hlt;subst eA;obtain⟨y,hy⟩:=Ki (keys[k]);rw[hy] at z0;have HI:=zH (HA.out.keep hb.out);have HIO:=zH hIo;have HKY:=zH hy;have hkl:(k:Int)<(keys.length:Int):=by omega
    have hsn:=uR (keys.take k) y;have hus:=kW (keys.take k) y;have htk:keys.take k++[y]=keys.take (k+1):=by rw[Lu hlt,hy]
    rw[htk] at hsn hus;have HSN:=zH hsn;have HUS:=zH hus;have hbw:b<wr.heap.size:=by have:=hb.out.size;omega
    obtain⟨NX,hNX⟩:=Ki ((yH (keys.take k)).length);rw[hNX] at hul ⊢;have HNX:=zH hNX;obtain⟨wo,hwo⟩:∃wo,wo=wr:=⟨_,rfl⟩;rw[<-hwo] at HO hb HI HIO z0 hbw ⊢;clear hIo hsn hus htk hll hNX hwo;have hk00:(0:Int)<=(k:Int):=by omega
    go_wp2_with fail
    go_loopw [6,7] (fun lb j wq=>∃m q:Nat,m<=k/\j=.int .i64 (m:Int)/\Hid (wq=wo.drewN q)/\((lb=.int .i64 (-1)/\Hid (∀i,i<m->keys.getD i 0≠y))\/∃x:Nat,lb=.int .i64 (x:Int)/\Hid (y∈keys.take k/\x=(yH (keys.take k)).idxOf y/\x<=100000))) (fun _ j _=>k-(intOf j).toNat)
    case atStart=>exact⟨0,0,by omega,rfl,rfl,.inl ⟨rfl,fun i hi=>absurd hi (by omega)⟩⟩
    case round=>
     obtain⟨m,q,hm,rfl,hw,hlb⟩:=hrel;rcases hlb with ⟨rfl,hno⟩ | ⟨x,rfl,hx⟩
     . by_cases hmk:m<k
       . obtain⟨b1,off1,eA1,hbl1,z1⟩:=HI.out.at_ m (by omega)
         cases eA1
         obtain⟨b2,off2,eA2,hbl2,z2⟩:=HIO.out.at_ m (by rw[xq];simp;omega);subst eA2;have hcw:Hid (∀p,wr.cell? p=wo.cell? p):=fun p=>by rw[hw.out];rfl
         have u0:=(hcw.out _).trans z0;have u1:=(hcw.out _).trans z1;have u2:=(hcw.out _).trans z2;obtain⟨t,ht⟩:=Ki (keys[m]'(by omega));rw[ht] at u1
         have hlm:(xr (keys.take k))[m]'(by rw[xq];simp;omega)=(((yH (keys.take k)).idxOf t:Nat):Int):=by
          rw[labE_at _ m (by simp;omega)];rw[List.getElem_take,ht]
         rw[hlm] at u2;have hm0:(0:Int)<=(m:Int):=by omega
         have hm1:(m:Int)<(k:Int):=by omega
         have hm2:(m:Int)<(keys.length:Int):=by omega
         have hgm:keys.getD m 0=t:=by rw[yL (by omega)];exact ht
         have HGM:=zH hgm
         have htm:t∈keys.take k:=by
          rw[<-ht];exact Sh.2 ⟨m,by omega,rfl⟩
         have HTM:=zH htm;obtain⟨ix,hix⟩:=Ki ((yH (keys.take k)).idxOf t);rw[hix] at u2;have HIX:=zH hix;clear z1 z2 ht hlm hgm htm hix
         by_cases hty:t=y
         . subst hty
           have hxx:Hid (t∈keys.take k/\ix=(yH (keys.take k)).idxOf t/\ix<=100000):=⟨HTM.out,HIX.out.symm,by
            have h1:=Sa (xb.2 HTM.out);rw[HIX.out] at h1;have h2:=HNX.out
            omega⟩
           clear hno HTM HIX HGM;go_wp2_with fail;go_quiet (fail);go_wp2_with fail
           go_roundw
           case rel=>exact⟨m+1,q+nq,by omega,by go_num,by rw[Hid,hw.out,qY],.inr ⟨ix,rfl,hxx⟩⟩
           case measure=>simp[intOf];omega
         · have hno2 : Hid (∀ i, i < m + 1 → keys.getD i 0 ≠ y) := fun i hi => by
            by_cases e:i=m
            . subst e;rw[HGM.out];exact hty
            . exact hno.out i (by omega)
           clear hno HTM HIX HGM;go_wp2_with fail;go_quiet (fail);go_wp2_with fail
           go_roundw
           case rel=>exact⟨m+1,q+nq,by omega,by go_num,by rw[Hid,hw.out,qY],.inl ⟨rfl,hno2⟩⟩
           case measure=>simp[intOf];omega
       . obtain rfl:m=k:=by omega
         have hny:y∉keys.take m:=fun hin=>by
          obtain⟨i,hi,e⟩:=Sh.1 hin;exact hno.out i (by omega) (by rw[yL (by omega)];exact e)
         have HS2:Hid (xr (keys.take (m+1))=xr (keys.take m)++[(NX:Int)]):=by rw[Hid,HSN.out,Lg hny,HNX.out]
         have HU2:Hid ((yH (keys.take (m+1))).length=NX+1):=by
          rw[Hid,HUS.out];unfold qe;rw[Lg (fun e=>hny (xb.1 e)),Lv,HNX.out];rfl
         have hO5:Hid (Own wr w.heap.size (.slice Ao m co) (xr (keys.take m))):=by rw[hw.out];exact HO.out.drewN q
         have hb5:Hid (Below w.heap.size w wr):=by rw[hw.out];exact zT hb.out q
         have hl5:(xr (keys.take m)).length<=100000:=by rw[xq];simp;omega
         clear hno hny HSN HUS hw HI HIO z0;go_wp2_with (at_builtin;go_must (refine xZ rfl _ _ rfl w.heap.size (.slice Ao m co) _ (NX:Int) rfl hO5.out rfl (by omega) hb5.out.size ?_);intro v' w5 hown1 hg1 hb1)
         go_roundw
         case rel=>exact⟨m+1,by omega,by go_num,by rw[HU2.out];go_num,by rw[HS2.out];exact hown1,hb5.out.trans hb1⟩
         case measure=>simp[intOf];omega
     . have HS2:Hid (xr (keys.take (k+1))=xr (keys.take k)++[(x:Int)]):=by rw[Hid,HSN.out,Lh hx.out.1,hx.out.2.1]
       have HU2:Hid ((yH (keys.take (k+1))).length=NX):=by
        rw[Hid,HUS.out];unfold qe;rw[Lh (xb.2 hx.out.1),HNX.out]
       have hO5:Hid (Own wr w.heap.size (.slice Ao k co) (xr (keys.take k))):=by rw[hw.out];exact HO.out.drewN q
       have hb5:Hid (Below w.heap.size w wr):=by rw[hw.out];exact zT hb.out q
       have hl5:(xr (keys.take k)).length<=100000:=by rw[xq];simp;omega
       have hx0:¬(x:Int)<0:=by omega
       clear hx HSN HUS hw HI HIO z0
       by_cases hmk:m<k
       . have hm1:(m:Int)<(k:Int):=by omega
         go_wp2_with (at_builtin;go_must (refine xZ rfl _ _ rfl w.heap.size (.slice Ao k co) _ (x:Int) rfl hO5.out rfl (by omega) hb5.out.size ?_);intro v' w5 hown1 hg1 hb1)
         go_roundw
         case rel=>exact⟨k+1,by omega,by go_num,by rw[HU2.out],by rw[HS2.out];exact hown1,hb5.out.trans hb1⟩
         case measure=>simp[intOf];omega
       . have hm1:¬(m:Int)<(k:Int):=by omega
         go_wp2_with (at_builtin;go_must (refine xZ rfl _ _ rfl w.heap.size (.slice Ao k co) _ (x:Int) rfl hO5.out rfl (by omega) hb5.out.size ?_);intro v' w5 hown1 hg1 hb1)
         go_roundw
         case rel=>exact⟨k+1,by omega,by go_num,by rw[HU2.out],by rw[HS2.out];exact hown1,hb5.out.trans hb1⟩
         case measure=>simp[intOf];omega
  . obtain rfl:k=keys.length:=by omega
    have hO9:=HO.out;rw[LG] at hO9;have HO9:=zH hO9;clear hO9 HO hlt;go_wp2_with fail;go_ret;refine⟨Ao,co,by rw[xq];rfl,?_,hb.out⟩;rw[xq];exact HO9.out
def ku(a b:List Int)(k:Nat):List Int:=a.take k++b.drop k
theorem jU(a b:List Int):ku a b 0=b:=by simp[ku]
theorem uf{a b:List Int}(h:a.length=b.length){k:Nat}(hk:k=b.length):ku a b k=a:=by subst hk;simp[ku,<-h]
theorem kM{a b:List Int}(h:a.length=b.length)(k:Nat):(ku a b k).length=b.length:=by simp[ku];omega
theorem ue{a b:List Int}(h:a.length=b.length){k:Nat}(hk:k<b.length):(ku a b k)[k]'(by rw[kM h];exact hk)=b[k]:=by
 unfold ku;rw[N9 (by simp;omega)];simp[show min k a.length=k by omega]
theorem QA{a b:List Int}(h:a.length=b.length){k:Nat}(hk:k<=b.length)(i:Nat):(ku a b k)[i]?=if i<k then a[i]? else b[i]?:=by
 unfold ku
 by_cases e:i<k
 . rw[Lh e,LP (by simp;omega),NR,Lh e]
 . rw[Lg e,LM (by simp;omega),PZ]
   congr 1
   simp;omega
theorem jw{a b:List Int}(h:a.length=b.length){k:Nat}(hk:k<b.length):(ku a b k).set k (a[k]'(by omega))=ku a b (k+1):=by
 refine List.ext_getElem? fun i=>?_
 rw[RP,QA h (by omega),QA h (by omega),kM h]
 by_cases e:k=i
 . subst e
   rw[Lh rfl,Lh hk,Lh (by omega),Lm]
 . rw[Lg e]
   by_cases e2:i<k
   . rw[Lh e2,Lh (by omega)]
   . rw[Lg e2,Lg (by omega)]
theorem uM{a b:List Int}(h:a.length=b.length){k:Nat}(hk:k<b.length)(e:a[k]'(by omega)=b[k]):ku a b k=ku a b (k+1):=by
 rw[<-jw h hk,e,<-ue h hk];exact(List.set_getElem_self _).symm
theorem RowAt.iat{w:Ba}{g:Nat}{xs:List Int}(h:RowAt w g xs):IAt w w.heap.size (some ⟨g,0,none⟩) xs:=fun _=>⟨g,0,rfl,h.lt,fun i hi=>by rw[LH];exact h.cell i hi⟩
end
end Go.Proofs.YtohjmddnennajaaGreatDoor
