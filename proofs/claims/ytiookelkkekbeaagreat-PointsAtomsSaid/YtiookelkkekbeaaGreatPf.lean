/- Parts BtC RBld RVer Hav CmnS OpenK LabP BfsP NbrP GluP PtsA Box PtsB PtsN Sees PtsC CmnA CmnG CmnP FewS ExF39 Ex39 RBldG Ex36. -/
import Derived.Test.YtiookelkkekbeaaGreatProg
import Derived.Test.YtiookelkkekbeaaGreatPe
import Derived.Test.YtiookelkkekbeaaGreatPd
import Derived.Test.YtiookelkkekbeaaGreatPc
import Derived.Deep.QuietTactic
import Derived.BigQuiet
import Derived.Laws.MakeOwn
import Derived.ChangeArms
import Derived.Test.YtiookelkkekbeaaGreatPa
import Derived.Test.YtiookelkkekbeaaGreatPb
import Derived.Laws.EntriesVeiled

namespace Go.Proofs.YtiookelkkekbeaaGreat
set_option maxHeartbeats 4000000
section
open Go.RowKit Go.Shelf
attribute [local go_sem] Oper.semAt_some
def RetBt (p:Pb) (A:Option Addr) (kc:Nat) (SV:Option Addr) (ks:Nat) (w:World) (e:Ending) (w':World):Prop:=
 ∃AV kv AE ke,e=.returned (.agg #[.int .i64 p.t.n,.int .i64 p.t.ins,.int .i64 p.t.outs,.slice A p.t.cases.length kc,.int .i64 p.a.n,.slice SV p.a.sts.length ks,.int .i64 p.k,.int .i64 p.t.n,.slice AV (zK p (zy p)).1.length kv,.slice AE (zK p (zy p)).2.length ke]) ∧
  OwnV w' w.heap.size (.slice AV (zK p (zy p)).1.length kv) (zK p (zy p)).1∧OwnX Ql (fun k=>w.heap.size≤k) w' w.heap.size (.slice AE (zK p (zy p)).2.length ke) (zK p (zy p)).2∧Below w.heap.size w w'
set_option maxRecDepth 100000 in
theorem XD (p:Pb) (hf:xY p) (hpe:zV p=0) (h60:yd p≤60) (A:Option Addr) (kc:Nat) (SV:Option Addr) (ks:Nat) (w:World) (hA:CAt w w.heap.size A p.t.cases) (hS:SAt w w.heap.size SV p.a.sts) :
  Calls Tryz.prog 72 #[.agg (p.vs A kc SV ks)] w (RetBt p A kc SV ks w):=by
 obtain ⟨hpt,hpa,hpn,hpk0,hpk6⟩:=zX hpe
 obtain ⟨K,hK⟩:=Int.eq_ofNat_of_zero_le hpk0
 obtain ⟨hcs1,hn1,hn5⟩:=xg hpt
 have hK6:K≤6:=by omega
 have hexT:yd p=yg p.a K 0*p.t.cases.length:=by unfold yd;rw [hK];rfl
 have hcnt:yg p.a K 0≤60:=by
  have:=Nat.le_mul_of_pos_right (yg p.a K 0) hcs1
  omega
 obtain ⟨hz,hs1⟩:zO p.a p.a.sts=0∧1≤p.a.sts.length:=⟨(xf hf.1.2 hpa).1,(xf hf.1.2 hpa).2.1⟩
 obtain ⟨N,hN⟩:=Int.eq_ofNat_of_zero_le (show 0≤p.t.n by omega)
 have HFX:=zH hf
 have HPA:=zH hpa
 have HPN:=zH hpn
 have HTI:=zH (uy hpt)
 obtain ⟨w1,hw1,d0,d1,d2,hsz,hBw⟩:=jr w (p.vs A kc SV ks) #[.int .i64 0,.int .i64 0,.int .i64 0,.slice none 0 0,.int .i64 0,.slice none 0 0,.int .i64 0,.int .i64 0,.slice none 0 0,.slice none 0 0] #[.int .i64 p.t.n,.int .i64 p.t.ins,.int .i64 p.t.outs,.slice A p.t.cases.length kc,.int .i64 p.a.n,.slice SV p.a.sts.length ks,.int .i64 p.k,.int .i64 p.t.n,.slice none 0 0,.slice none 0 0] 29 35 35
 have hFR:=Xs p.a SV ks hz hf.1.2 K hK6 0 w1 (by by_cases h:K=0;exact .inl h;exact .inr ⟨by omega,by omega⟩) (by rw [yK];omega) ((hS.keep hBw).more hBw.size)
 have HFR:=zH hFR
 have HA:=zH hA
 have HS:=zH hS
 have HBW:=zH hBw
 have HD0:=zH d0
 have HD1:=zH d1
 have HD2:=zH d2
 have HW1:=zH hw1
 have HKE:=zH hK
 have HNN:=zH hN
 have HEX:=zH hexT
 have H60:=zH h60
 have HCS:=zH hcs1
 have hN1:1≤N∧N≤5:=by omega
 clear hw1 d0 d1 d2 hBw hA hS hf hK hN hexT h60 hpe hpt hpa hpn hpk0 hpk6 hn1 hn5 hz hs1 hFR hcs1
 unfold Pb.vs at HW1 HD0 ⊢
 go_enter Tryz.func72,Tryz.ntmps72
 go_wp2_with fail
 rw [HW1.out]
 have hFR:=HFR.out
 unfold jn at HFR
 rw [←HKE.out] at hFR
 refine hFR.mono ?_
 rintro e wr ⟨v,rfl,hW,hb⟩
 have hbw:=HBW.out.size
 obtain ⟨words,hwords⟩:∃words,zS p.a K 0=words:=⟨_,rfl⟩
 rw [hwords] at hW
 obtain ⟨AW,cw,rfl,hWD⟩:=WdsAt.of (bs:=w.heap.size+1+1) hW (by omega) rfl
 obtain ⟨SC,hSC⟩:∃SC:Value→Value→Array Value,SC=fun V E=>#[.int .i64 p.t.n,.int .i64 p.t.ins,.int .i64 p.t.outs,.slice A p.t.cases.length kc,.int .i64 p.a.n,.slice SV p.a.sts.length ks,.int .i64 p.k,.int .i64 p.t.n,V,E]:=⟨_,rfl⟩
 obtain ⟨WR,rfl⟩:∃x,x=wr:=⟨_,rfl⟩
 obtain ⟨D,hD⟩:∃D,D=WR.heap.size:=⟨_,rfl⟩
 have hDb:w.heap.size+3≤D:=by have:=hb.size;omega
 have H0:Hid (Bt D (w.heap.size+1+1) SC WR [] [] (.slice none 0 0) (.slice none 0 0) WR):=
  ⟨Wrote.refl _ _,by omega,by omega,by omega,by rw [hSC];exact (hb.block _ (by omega)).trans HD2.out,OwnV.nil _ _,OwnX.nil _ _ _ _,fun k e=>(by cases e)⟩
 have HP0:Hid (WR.heap[w.heap.size]?=some (.cells #[.int .i64 p.t.n,.int .i64 p.t.ins,.int .i64 p.t.outs,.slice A p.t.cases.length kc,.int .i64 p.a.n,.slice SV p.a.sts.length ks,.int .i64 p.k] 29 (0,0))):=(hb.block _ (by omega)).trans HD0.out
 have HP1:Hid (WR.heap[w.heap.size+1]?=some (.cells #[.int .i64 0,.int .i64 0,.int .i64 0,.slice none 0 0,.int .i64 0,.slice none 0 0,.int .i64 0,.int .i64 0,.slice none 0 0,.slice none 0 0] 35 (0,0))):=(hb.block _ (by omega)).trans HD1.out
 have HBR:Hid (Below w.heap.size w WR):=HBW.out.trans (hb.mono (by omega))
 have HWD:=zH hWD
 rw [←hD] at HWD
 have HSC:=zH hSC
 have HWE:=zH hwords
 have HDD:=zH hD
 have hc30:p.t.cases.length≤30:=HFX.out.1.1.1
 have hwl:words.length≤60:=by rw [←hwords,yK];exact hcnt
 have HW6:Hid (∀x∈words,x.length≤6):=fun x hx=>by rw [←hwords] at hx;rw [xH p.a K 0 x hx];exact hK6
 clear hW hb hSC hwords hD hWD HD0 HD1 HD2 HW1 HBW HFR hFR hbw hsz
 go_wp2_with fail
 go_loopw [5] (fun i wx=>∃(c:Nat) (V E:Value),c≤p.t.cases.length∧i=.int .i64 (c:Int)∧Hid (Bt D (w.heap.size+1+1) SC WR (zK p (pcs words c)).1 (zK p (pcs words c)).2 V E wx)) (fun i _=>p.t.cases.length-(intOf i).toNat)
 case atStart=>exact ⟨0,_,_,by omega,rfl,H0.out⟩
 case round=>
  clear H0
  obtain ⟨c,V0,E0,hc,rfl,HB0⟩:=hrel
  have hbig:=HB0.out.big
  have hsame:∀k,k<D→k≠w.heap.size+1+1→wr.heap[k]?=WR.heap[k]?:=fun k h1 h2=>HB0.out.wr.block k (by have:=HDD.out;omega) h2
  have P0:=(hsame _ (by omega) (by omega)).trans HP0.out
  have p0:wr.cell? ⟨w.heap.size,0,none⟩=some (.int .i64 p.t.n):=zh P0 0 rfl
  have p3:wr.cell? ⟨w.heap.size,3,none⟩=some (.slice A p.t.cases.length kc):=zh P0 3 rfl
  have p6:wr.cell? ⟨w.heap.size,6,none⟩=some (.int .i64 p.k):=zh P0 6 rfl
  by_cases hcM:c<p.t.cases.length
  case neg=>
   obtain rfl:c=p.t.cases.length:=by omega
   have hcs60:p.t.cases.length*words.length≤60:=by have h1:=HEX.out;have h2:=H60.out;have h3:=congrArg List.length HWE.out;rw [yK] at h3;rw [h3,Nat.mul_comm] at h1;omega
   obtain ⟨AV,kv,rfl,_⟩:=HB0.out.tb.form (by have:=ZJ p words (by have:=HNN.out;omega) HW6.out p.t.cases.length hcs60;omega)
   obtain ⟨AE,ke,rfl,_,_,_⟩:=HB0.out.out.form zZ
   have hres:=(hsame (w.heap.size+1) (by omega) (by omega)).trans HP1.out
   have hsys:=HB0.out.sys
   rw [HSC.out] at hsys
   have s0:wr.cell? ⟨w.heap.size+1+1,0,none⟩=some (.int .i64 p.t.n):=zh hsys 0 rfl
   have s1:wr.cell? ⟨w.heap.size+1+1,1,none⟩=some (.int .i64 p.t.ins):=zh hsys 1 rfl
   have s2:wr.cell? ⟨w.heap.size+1+1,2,none⟩=some (.int .i64 p.t.outs):=zh hsys 2 rfl
   have s3:wr.cell? ⟨w.heap.size+1+1,3,none⟩=some (.slice A p.t.cases.length kc):=zh hsys 3 rfl
   have s4:wr.cell? ⟨w.heap.size+1+1,4,none⟩=some (.int .i64 p.a.n):=zh hsys 4 rfl
   have s5:wr.cell? ⟨w.heap.size+1+1,5,none⟩=some (.slice SV p.a.sts.length ks):=zh hsys 5 rfl
   have s6:wr.cell? ⟨w.heap.size+1+1,6,none⟩=some (.int .i64 p.k):=zh hsys 6 rfl
   have s7:wr.cell? ⟨w.heap.size+1+1,7,none⟩=some (.int .i64 p.t.n):=zh hsys 7 rfl
   have s8:wr.cell? ⟨w.heap.size+1+1,8,none⟩=some (.slice AV (zK p (pcs words p.t.cases.length)).1.length kv):=zh hsys 8 rfl
   have s9:wr.cell? ⟨w.heap.size+1+1,9,none⟩=some (.slice AE (zK p (pcs words p.t.cases.length)).2.length ke):=zh hsys 9 rfl
   have y0:wr.cell? ⟨w.heap.size+1,0,none⟩=some (.int .i64 0):=zh hres 0 rfl
   have f0:=zi hres 0
   have y1:wr.cell? ⟨w.heap.size+1,1,none⟩=some (.int .i64 0):=zh hres 1 rfl
   have f1:=zi hres 1
   have y2:wr.cell? ⟨w.heap.size+1,2,none⟩=some (.int .i64 0):=zh hres 2 rfl
   have f2:=zi hres 2
   have y3:wr.cell? ⟨w.heap.size+1,3,none⟩=some (.slice none 0 0):=zh hres 3 rfl
   have f3:=zi hres 3
   have y4:wr.cell? ⟨w.heap.size+1,4,none⟩=some (.int .i64 0):=zh hres 4 rfl
   have f4:=zi hres 4
   have y5:wr.cell? ⟨w.heap.size+1,5,none⟩=some (.slice none 0 0):=zh hres 5 rfl
   have f5:=zi hres 5
   have y6:wr.cell? ⟨w.heap.size+1,6,none⟩=some (.int .i64 0):=zh hres 6 rfl
   have f6:=zi hres 6
   have y7:wr.cell? ⟨w.heap.size+1,7,none⟩=some (.int .i64 0):=zh hres 7 rfl
   have f7:=zi hres 7
   have y8:wr.cell? ⟨w.heap.size+1,8,none⟩=some (.slice none 0 0):=zh hres 8 rfl
   have f8:=zi hres 8
   have y9:wr.cell? ⟨w.heap.size+1,9,none⟩=some (.slice none 0 0):=zh hres 9 rfl
   have f9:=zi hres 9
   have HFN:=zH HB0.out
   have hbl:Below w.heap.size w wr:=HBR.out.trans (HB0.out.wr.below (by have:=HBR.out.size;omega) (fun k h1 h2=>by have h3:k=w.heap.size+1+1:=h2;omega))
   obtain ⟨k1,k2,k3,k4,k5⟩:=xI (.int .i64 p.t.n) (.int .i64 p.t.ins) (.int .i64 p.t.outs) (.slice A p.t.cases.length kc) (.int .i64 p.a.n) (.slice SV p.a.sts.length ks) (.int .i64 p.k) (.int .i64 p.t.n) (.slice AV (zK p (pcs words p.t.cases.length)).1.length kv) (.slice AE (zK p (pcs words p.t.cases.length)).2.length ke) hres hbl (by omega:w.heap.size≤w.heap.size+1)
   obtain ⟨WF,hWF⟩:∃WF,((((((((((wr.setCell ⟨w.heap.size+1,0,none⟩ (.int .i64 p.t.n)).setCell ⟨w.heap.size+1,1,none⟩ (.int .i64 p.t.ins)).setCell ⟨w.heap.size+1,2,none⟩ (.int .i64 p.t.outs)).setCell ⟨w.heap.size+1,3,none⟩ (.slice A p.t.cases.length kc)).setCell ⟨w.heap.size+1,4,none⟩ (.int .i64 p.a.n)).setCell ⟨w.heap.size+1,5,none⟩ (.slice SV p.a.sts.length ks)).setCell ⟨w.heap.size+1,6,none⟩ (.int .i64 p.k)).setCell ⟨w.heap.size+1,7,none⟩ (.int .i64 p.t.n)).setCell ⟨w.heap.size+1,8,none⟩ (.slice AV (zK p (pcs words p.t.cases.length)).1.length kv)).setCell ⟨w.heap.size+1,9,none⟩ (.slice AE (zK p (pcs words p.t.cases.length)).2.length ke))=WF:=⟨_,rfl⟩
   rw [hWF] at k1 k2 k3 k4 k5
   have K1:=zH k1
   have K2:=zH k2
   have K4:=zH k4
   have K5:=zH k5
   have HWF:=zH hWF
   clear hres hsys P0 hbl k1 k2 k3 k4 k5 hWF
   go_wp2_with fail
   rw [HWF.out]
   obtain ⟨z0,z1,z2,z3,z4,z5,z6,z7,z8,z9⟩:=zA K1.out
   refine bodyPost_ret (v:=.agg #[.int .i64 p.t.n,.int .i64 p.t.ins,.int .i64 p.t.outs,.slice A p.t.cases.length kc,.int .i64 p.a.n,.slice SV p.a.sts.length ks,.int .i64 p.k,.int .i64 p.t.n,.slice AV (zK p (pcs words p.t.cases.length)).1.length kv,.slice AE (zK p (pcs words p.t.cases.length)).2.length ke]) (by simp [results,Tryz.results72,go_sem,z0,z1,z2,z3,z4,z5,z6,z7,z8,z9]) rfl ?_
   have hpe:zy p=pcs words p.t.cases.length:=by rw [XV,←HWE.out,show p.k.toNat=K by have:=HKE.out;omega]
   unfold RetBt
   rw [hpe]
   have hbw:=HFN.out.big
   refine ⟨AV,kv,AE,ke,rfl,?_,?_,K2.out⟩
   · exact (HFN.out.tb.of_same fun k hk=>K4.out k (by have:=(HFN.out.tb.lt' k hk).1;omega)).low (by omega)
   · exact (OwnX.mono zZ (HFN.out.out.keep zZ ⟨by have:=K5.out;omega,fun k hs _=>K4.out k (by omega)⟩ fun k hk=>K4.out k (by have:=(HFN.out.out.lt k hk).1;omega)) fun k _ hs=>(by omega)).low (by omega)
  case pos=>
   have hc1:(c:Int)<(p.t.cases.length:Int):=by omega
   have HSM:=zH hsame
   clear hsame P0
   go_wp2_with fail
   obtain ⟨wo,rfl⟩:∃x,x=wr:=⟨_,rfl⟩
   go_loopw [6] (fun i wx=>∃(j:Nat) (V E:Value),j≤words.length∧i=.int .i64 (j:Int)∧Hid (Bt D (w.heap.size+1+1) SC WR (zK p (pcw words c j)).1 (zK p (pcw words c j)).2 V E wx)) (fun i _=>words.length-(intOf i).toNat)
   case atStart=>exact ⟨0,V0,E0,by omega,rfl,by rw [QX];exact HB0.out⟩
   case round=>
    obtain ⟨j,V1,E1,hj,rfl,HB1⟩:=hrel
    by_cases hjW:j<words.length
    case neg=>
     obtain rfl:j=words.length:=by omega
     have HBe:=zH (by have h:=HB1.out;rw [pcw_end] at h;exact h)
     clear HB1
     go_wp2_with fail
     go_roundw
     case rel=>exact ⟨c+1,V1,E1,by omega,by go_num,HBe.out⟩
     case measure=>simp [intOf];omega
    case pos=>
     obtain ⟨gw,A2,c2,eAW,hg1,hg2,hcw,hR2,hwc⟩:=HWD.out j hjW
     subst eAW
     have hKp:KeepB (fun k=>k<D∧k≠w.heap.size+1+1) WR wr:=HB1.out.wr.keep fun k _ hs=>hs.2
     have hw0:wr.cell? ⟨gw,j,none⟩=some (.slice A2 words[j].length c2):=qZ hKp ⟨hg2,by omega⟩ hcw
     have hst:c*words.length+j<60:=by
      have h1:=HEX.out
      have h2:=H60.out
      have h3:=congrArg List.length HWE.out
      rw [yK] at h3
      rw [h3,Nat.mul_comm] at h1
      have h4:=Nat.mul_le_mul_right words.length (show c+1≤p.t.cases.length by omega)
      rw [Nat.succ_mul] at h4
      omega
     obtain ⟨hv0,hx0⟩:=Xe p words (by have:=HNN.out;omega) HW6.out c j (by omega) (by omega)
     have hrs:=qb p (pcw words c j) (c,words[j])
     rw [←pcw_succ words c j hjW] at hrs
     obtain ⟨word,hword⟩:∃word,words[j]=word:=⟨_,rfl⟩
     rw [hword] at hw0 hR2 hrs hcw hwc
     have hwm:word∈zS p.a K 0:=by rw [HWE.out,←hword];exact List.getElem_mem hjW
     have hwk:=xH p.a K 0 word hwm
     have HWF:Hid (∀r∈word,yc r=0∧r.n=(N:Int)):=fun r hr=>by
      obtain ⟨m,hm,rfl⟩:=jp p.a K 0 word hwm r hr
      obtain ⟨z1,z2,_⟩:=xT (xf HFX.out.1.2 HPA.out).1 m hm
      exact ⟨z1,by rw [z2,←HPN.out,HNN.out]⟩
     obtain ⟨AE,ke,rfl,_,_,_⟩:=HB1.out.out.form zZ
     obtain ⟨vs0,hvs0⟩:∃vs0,(zK p (pcw words c j)).1=vs0:=⟨_,rfl⟩
     obtain ⟨xs0,hxs0⟩:∃xs0,(zK p (pcw words c j)).2=xs0:=⟨_,rfl⟩
     rw [hvs0,hxs0] at hrs HB1
     rw [hvs0] at hv0
     rw [hxs0] at hx0
     have hinp:yf p c=p.t.cases[c].inp:=by unfold yf;rw [List.getD_eq_getElem?_getD,List.getElem?_eq_getElem hcM];rfl
     have HRUN:Hid (zK p (pcw words c (j+1))=((stQ vs0 N p.t.cases[c].inp word (K+1)).1,xs0++[⟨(c:Int),word,(stQ vs0 N p.t.cases[c].inp word (K+1)).2⟩])):=by
      rw [hrs]
      show (_,_)=_
      rw [hinp,hwk,show p.t.n.toNat=N by have:=HNN.out;omega]
      rfl
     obtain ⟨bc,oc,A0,c0,A1',c1',A2',c2',eA,hbcl,hcc0,_,_,hIn,_,_⟩:=HA.out.row c hcM
     subst eA
     have hinl:p.t.cases[c].inp.length=N:=by have h1:=HTI.out _ (List.getElem_mem hcM);have:=HNN.out;omega
     obtain ⟨inp,hinpe⟩:∃inp,p.t.cases[c].inp=inp:=⟨_,rfl⟩
     rw [hinpe] at hcc0 hIn HRUN hinl
     have HIN:=zH hIn
     have HGW:=zH hcw
     have HC0:=zH hcc0
     have HR2:=zH hR2
     have HWC:=zH hwc
     clear hwc
     have HIL:=zH hinl
     have HX0:Hid (xs0.length<60):=by show xs0.length<60;omega
     have HV0:=zH hv0
     have HWK:=zH hwk
     have hj1:(j:Int)<(words.length:Int):=by omega
     have hgwl:gw<wr.heap.size:=by have:=HB1.out.big;omega
     clear hinl hinpe hrs hinp hIn hcc0 hR2 hcw hKp hvs0 hxs0 hword hwm hx0 hv0 hwk
     go_wp2_with fail
     clear hw0
     obtain ⟨W1,hW1,x1,hs1,hB1⟩:=zm wr #[.int .i64 c,.slice A2 word.length c2,.slice none 0 0] 59
     rw [hW1]
     have HQ0:Hid (Bq D (w.heap.size+1+1) wr.heap.size SC WR c (.slice A2 word.length c2) vs0 xs0 [] [] V1 (.slice AE xs0.length ke) (.slice none 0 0) (.slice none 0 0) W1):=Bt.start HB1.out hB1 x1
     clear hW1 x1 hs1 hB1 HB1
     obtain ⟨bx,hbx⟩:∃bx,bx=wr.heap.size:=⟨_,rfl⟩
     rw [←hbx] at HQ0 ⊢
     clear hbx
     go_loopw [8] (fun i wx=>∃(k:Nat) (V Y:Value),k≤K+1∧i=.int .i64 (k:Int)∧Hid (Bq D (w.heap.size+1+1) bx SC WR c (.slice A2 word.length c2) (stQ vs0 N inp word k).1 xs0 (stQ vs0 N inp word k).2 [] V (.slice AE xs0.length ke) Y (.slice none 0 0) wx)) (fun i _=>K+1-(intOf i).toNat)
     case atStart=>exact ⟨0,V1,_,by omega,rfl,HQ0.out⟩
     case round=>
      clear HQ0
      obtain ⟨k,V2,Y2,hk,rfl,HQ⟩:=hrel
      have hbig:=HQ.out.big
      have P0:=(HQ.out.wr.block _ (by have:=HDD.out;omega) (by omega)).trans HP0.out
      have p0:wr.cell? ⟨w.heap.size,0,none⟩=some (.int .i64 p.t.n):=zh P0 0 rfl
      have p3:wr.cell? ⟨w.heap.size,3,none⟩=some (.slice (some ⟨bc,oc,none⟩) p.t.cases.length kc):=zh P0 3 rfl
      have p6:wr.cell? ⟨w.heap.size,6,none⟩=some (.int .i64 p.k):=zh P0 6 rfl
      clear P0
      by_cases hkK:k≤K
      case neg=>
       have HKQ:Hid (k=K+1):=by show k=K+1;omega
       have hle:¬((k:Int)≤p.k):=by have:=HKE.out;omega
       obtain ⟨AY,ky,rfl,_,_,_⟩:=HQ.out.vw.form yX
       have hsys:=HQ.out.sys
       rw [HSC.out] at hsys
       have HSY:=zH hsys
       have s9:wr.cell? ⟨w.heap.size+1+1,9,none⟩=some (.slice AE xs0.length ke):=zh hsys 9 rfl
       have f9:=zi hsys 9
       have x0:wr.cell? ⟨bx,0,none⟩=some (.int .i64 c):=zh HQ.out.x 0 rfl
       have x1:wr.cell? ⟨bx,1,none⟩=some (.slice A2 word.length c2):=zh HQ.out.x 1 rfl
       have x2:wr.cell? ⟨bx,2,none⟩=some (.slice AY (stQ vs0 N inp word k).2.length ky):=zh HQ.out.x 2 rfl
       have HG4:=zH (zu wr (.cells #[.int .i64 c,.slice A2 word.length c2,.slice AY (stQ vs0 N inp word k).2.length ky] 59))
       have HO4:=zH (HQ.out.out.below zZ (zW wr (.cells #[.int .i64 c,.slice A2 word.length c2,.slice AY (stQ vs0 N inp word k).2.length ky] 59)) (Nat.le_refl _))
       have hbsl:=HQ.out.bsl
       have hbsw:w.heap.size+1+1<wr.heap.size:=by omega
       have hbxl:=HQ.out.bxl
       clear hsys
       go_wp2_with (at_builtin;obtain ⟨css,hcl,hcr,hcs⟩:=HO4.out;refine yC kXn_ok rfl (.tmp 110) (.tmp 112) rfl D (.slice AE xs0.length ke) xs0.length css.flatten rfl hcr wr.heap.size #[.int .i64 c,.slice A2 word.length c2,.slice AY (stQ vs0 N inp word k).2.length ky] rfl HG4.out rfl (by simp [Value.oneCell']) (Nat.le_trans (Nat.le_of_lt HX0.out) (by decide)) (by simp;omega) _ rfl ?_;intro g' cap w7 hr7 hg7 hat7 hlt7;have b7:=(hg7.block _ (by simp;omega) (fun e=>HO4.out.ne hbsl e.symm)).trans (yB HSY.out _);have c7:=zh b7 9 rfl;have fr7:=zi b7 9;have HDN:=zH (Bq.done HQ.out (zW wr _) hcl hcs rfl rfl HR2.out HWC.out hr7 hg7 hat7 (by rw [HSC.out];rfl));clear hr7 hg7 hat7 hcl hcs hcr b7)
       go_roundw
       case rel=>exact ⟨j+1,V2,_,by omega,by go_num,by rw [HRUN.out,←HKQ.out];exact HDN.out⟩
       case measure=>simp [intOf];omega
      case pos=>
       have hle:(k:Int)≤p.k:=by have:=HKE.out;omega
       have hkw:k≤6:=by omega
       obtain ⟨vk,hvk⟩:∃vk,(stQ vs0 N inp word k).1=vk:=⟨_,rfl⟩
       obtain ⟨yk,hyk⟩:∃yk,(stQ vs0 N inp word k).2=yk:=⟨_,rfl⟩
       obtain ⟨f,hf⟩:∃f,fQ inp word yk k=f:=⟨_,rfl⟩
       have hyl:=stQ_len vs0 N inp word k
       have hvl:=stQ_few vs0 N inp word k
       have hyr:=stQ_row vs0 N inp word k
       have hss:=stQ_succ vs0 N inp word k
       rw [hvk,hyk] at HQ
       rw [hyk] at hyl hyr
       rw [hvk] at hvl
       rw [hvk,hyk,hf] at hss
       have HSS:=zH hss
       have HYR:=zH hyr
       have HYL:=zH hyl
       have HVL:Hid (vk.length≤2100+30):=by
        have h1:=Nat.mul_le_mul hkw hN1.2
        have h2:=HV0.out
        show vk.length≤2130
        omega
       have HFF:=zH hf
       clear hvk hyk hf hyl hvl hyr hss
       obtain ⟨AY,ky,rfl,_,_,_⟩:=HQ.out.vw.form yX
       go_wp2_with fail
       clear p0 p3 p6
       go_loopw [9,10] (fun l i wx=>∃(q:Nat) (V:Value),q≤N∧i=.int .i64 (q:Int)∧Hid (Bq D (w.heap.size+1+1) bx SC WR c (.slice A2 word.length c2) (yp f vk q).1 xs0 yk (yp f vk q).2 V (.slice AE xs0.length ke) (.slice AY yk.length ky) l wx)) (fun _ i _=>N-(intOf i).toNat)
       case atStart=>exact ⟨0,V2,by omega,rfl,HQ.out⟩
       case round=>
        clear HQ
        obtain ⟨q,V3,hq,rfl,HQ⟩:=hrel
        have hbig:=HQ.out.big
        have P0:=(HQ.out.wr.block _ (by have:=HDD.out;omega) (by omega)).trans HP0.out
        have p0:wr.cell? ⟨w.heap.size,0,none⟩=some (.int .i64 p.t.n):=zh P0 0 rfl
        have p3:wr.cell? ⟨w.heap.size,3,none⟩=some (.slice (some ⟨bc,oc,none⟩) p.t.cases.length kc):=zh P0 3 rfl
        clear P0
        obtain ⟨AL,kl,eL,hkl1,hkl2,_⟩:=HQ.out.row.form
        subst eL
        by_cases hqN:q<N
        case neg=>
         have HQQ:Hid (q=N):=by show q=N;omega
         have hqn:¬((q:Int)<p.t.n):=by have:=HNN.out;omega
         have x2:wr.cell? ⟨bx,2,none⟩=some (.slice AY yk.length ky):=zh HQ.out.x 2 rfl
         have HG4:=zH (zu wr (.cells #[.slice AL (yp f vk q).2.length kl] 36))
         have HO4:=zH (HQ.out.vw.below yX (zW wr (.cells #[.slice AL (yp f vk q).2.length kl] 36)) (Nat.le_refl _))
         have hbxl:=HQ.out.bxl
         have hbxD:=HQ.out.hx
         go_wp2_with (at_builtin;obtain ⟨css,hcl,hcr,hcs⟩:=HO4.out;refine yC Qa rfl (.tmp 104) (.tmp 106) rfl D (.slice AY yk.length ky) yk.length css.flatten rfl hcr wr.heap.size #[.slice AL (yp f vk q).2.length kl] rfl HG4.out rfl (by simp [Value.oneCell']) (by rw [HYL.out];omega) (by simp;omega) _ rfl ?_;intro g' cap w7 hr7 hg7 hat7 hlt7;have b7:=(hg7.block bx (by simp;omega) (fun e=>(HQ.out.nY bx e.symm).1 rfl)).trans (yB HQ.out.x _);have c7:=zh b7 2 rfl;have fr7:=zi b7 2;have HCL:=zH (Bq.close HQ.out (zW wr _) hcl hcs hr7 hg7 hat7);clear hr7 hg7 hat7 hcl hcs hcr b7)
         go_roundw
         case rel=>exact ⟨k+1,V3,_,by omega,by go_num,by rw [HSS.out,←HQQ.out];exact HCL.out⟩
         case measure=>simp [intOf];omega
        case pos=>
         have hqn:(q:Int)<p.t.n:=by have:=HNN.out;omega
         have hbel:Below w.heap.size w wr:=HBR.out.trans (HQ.out.wr.below (by have:=HBR.out.size;omega) (fun k h1 h2=>by have h3:k=w.heap.size+1+1:=h2;omega))
         have hcw:=(hbel.cell (p:=⟨bc,oc+c*3,none⟩) hbcl).trans HC0.out
         have hqi:q<inp.length:=by have:=HIL.out;omega
         obtain ⟨bi,oi,eI,hbil,hci⟩:=HIN.out.at_ q hqi
         subst eI
         have hiw:=(hbel.cell (p:=⟨bi,oi+q,none⟩) hbil).trans hci
         obtain ⟨iv,hiv⟩:∃iv,inp[q]=iv:=⟨_,rfl⟩
         rw [hiv] at hiw
         have HIV:Hid (inp.getD q 0=iv):=by show _=_;rw [List.getD_eq_getElem?_getD,List.getElem?_eq_getElem hqi,←hiv];rfl
         have hq0:(0:Int)≤(q:Int):=by omega
         have hq1:(q:Int)<(inp.length:Int):=by omega
         have hcp:(0:Int)≤(c:Int):=by omega
         have HF1:=zH (first_any q iv wr)
         have HPO:=zH (stQ_few vs0 N inp word k)
         have hbxl:=HQ.out.bxl
         clear hbel hci hiv
         go_wp2_with fail
         refine HF1.out.mono ?_
         rintro e w5 ⟨rfl,hb5⟩
         obtain ⟨W6,hW6,b6,hs6,hB6⟩:=zm w5 (yW q iv).cells 126
         have hb6:Below wr.heap.size wr W6:=hb5.trans (hB6.mono hb5.size)
         have hs5:=hb5.size
         have HW6:=zH hW6
         have HB6:=zH hb6
         have H11:=zH b6
         unfold Vw.cells at HW6
         unfold Vw.cells
         clear HF1 hb5 hW6 b6 hB6 hb6 hcw hiw p0 p3
         go_simp
         rename_i hKK
         refine hKK _ _ ?_
         clear hKK
         refine wpList_plain rfl fun K5 hK5=>?_
         go_simp
         refine hK5 _ _ ?_
         clear hK5 K5
         refine wpList_plain rfl fun K5 hK5=>?_
         go_simp
         rw [HW6.out]
         refine hK5 _ _ ?_
         clear hK5 K5 HW6
         rcases Nat.eq_zero_or_pos k with hk0 | hkp
         case' inl=>
          have hkt:¬((0:Int)<(k:Int)):=by omega
          have HFV:Hid (f q=yW q iv):=by
           show f q=_
           rw [←HFF.out,hk0]
           show yW q (inp.getD q 0)=_
           rw [HIV.out]
          rw [←HFV.out] at H11
          have H11:Hid (W6.heap[w5.heap.size]?=some (.cells (f q).cells 126 (0,0))):=H11
          obtain ⟨W9,hW9⟩:∃W9,W6=W9:=⟨_,rfl⟩
          rw [hW9] at HB6 H11 ⊢
          clear hW9 HFV hk0
         case' inr=>
          obtain ⟨k',hk'⟩:∃k',k=k'+1:=⟨k-1,by omega⟩
          have hkt:(0:Int)<(k:Int):=by omega
          have hksub:IntKind.i64.wrap ((k:Int)-1)=(k':Int):=by rw [IntKind.wrap_i64];omega
          have hk'w:k'<word.length:=by have:=HWK.out;omega
          have hk'y:k'<yk.length:=by have:=HYL.out;omega
          have HFV:Hid (f q=qa word[k'] k q yk[k']):=by
           show f q=_
           rw [←HFF.out,hk']
           show qa (word.getD k' default) (k'+1) q (yk.getD k' [])=_
           rw [List.getD_eq_getElem?_getD,List.getElem?_eq_getElem hk'w,List.getD_eq_getElem?_getD,List.getElem?_eq_getElem hk'y]
           rfl
          have Q6:=HQ.out.on HB6.out
          have hR6:RAtS (fun k=>w.heap.size+1+1<k∧k<D) W6 A2 word:=HR2.out.keep (Q6.wr.keep fun k _ hs e=>by have h3:k=w.heap.size+1+1:=e;omega)
          have hw6:W6.cell? ⟨gw,j,none⟩=some (.slice A2 word.length c2):=qZ (S:=fun k=>w.heap.size+1+1<k∧k<D) (Q6.wr.keep fun k _ hs e=>by have h3:k=w.heap.size+1+1:=e;omega) ⟨hg1,hg2⟩ HGW.out
          obtain ⟨br,or_,eA2,hbr,r0,r1,r2,r3,r4,r5,r6⟩:=hR6.rat.row k' hk'w
          subst eA2
          obtain ⟨AYx,kyx,eY,_,_,hYc⟩:=Q6.vw.form yX
          cases eY
          obtain ⟨gy,eAY,_,hgy,hyc⟩:=hYc (by omega)
          subst eAY
          obtain ⟨cs,⟨A3,c3,rfl,hI3⟩,hcell⟩:=hyc k' hk'y
          have hy6:W6.cell? ⟨gy,k',none⟩=some (.slice A3 yk[k'].length c3):=by simpa [cIs,kIs] using hcell 0 _ rfl
          have x6:W6.cell? ⟨bx,2,none⟩=some (.slice (some ⟨gy,0,none⟩) yk.length ky):=zh Q6.x 2 rfl
          have hrl:=HYR.out k' hk'y
          obtain ⟨row,hrow⟩:∃row,yk[k']=row:=⟨_,rfl⟩
          obtain ⟨rd,hrd⟩:∃rd,word[k']=rd:=⟨_,rfl⟩
          have hrf:=HWF.out word[k'] (List.getElem_mem hk'w)
          rw [hrow] at hy6 hI3 hrl HFV
          rw [hrd] at r0 r1 r2 r3 r4 r5 r6 hrf HFV
          have hhs:=gU (kh hrf.1).2.2.1 q (by omega)
          have HSE:=zH (fun (X:World) (hX:Below W6.heap.size W6 X)=>seen_any rd k q (by omega) hhs A3 c3 row (by rw [hrf.2,hrl]) (by omega) X ((hI3.iat.keep hX).more hX.size))
          have hk'0:(0:Int)≤(k':Int):=by omega
          have hk'1:(k':Int)<(word.length:Int):=by omega
          have hk'2:(k':Int)<(yk.length:Int):=by omega
          have hjp:(0:Int)≤(j:Int):=by omega
          have HKS:=zH hk'
          have h11l:w5.heap.size<W6.heap.size:=zj H11.out
          clear hkp hk' Q6 hR6 hYc hyc hcell hI3 hrow hrd hrf hhs hrl
          go_wp2_with fail
          go_still_tail 17,(by kernel_rfl)
          change wpList _ _ _ _ _ W6.drew
          obtain ⟨W7,hW7⟩:∃W7,W7=W6.drew:=⟨_,rfl⟩
          have HB7:Hid (Below W6.heap.size W6 W7):=by rw [hW7];exact (Below.refl _ _).drew
          rw [←hW7]
          clear hW7 r0 r1 r2 r3 r4 r5 r6 hw6 hy6 x6
          go_wp2_with fail
          refine (HSE.out W7 HB7.out).mono ?_
          rintro e w8 ⟨rfl,hb8⟩
          obtain ⟨vv,hvv⟩:∃vv,qa rd k q row=vv:=⟨_,rfl⟩
          rw [hvv] at HFV ⊢
          have hb68:Below W6.heap.size W6 w8:=HB7.out.trans (hb8.mono HB7.out.size)
          have b8:=(hb68.block _ h11l).trans H11.out
          unfold Vw.cells at b8
          obtain ⟨k1,k2⟩:=vw_store8 vv b8 (HB6.out.trans (hb68.mono HB6.out.size)) (by omega:wr.heap.size≤w5.heap.size)
          obtain ⟨W9,hW9⟩:∃W9,((((((((w8.setCell ⟨w5.heap.size,0,none⟩ (.int .i64 vv.p)).setCell ⟨w5.heap.size,1,none⟩ (.int .i64 vv.r)).setCell ⟨w5.heap.size,2,none⟩ (.int .i64 vv.i)).setCell ⟨w5.heap.size,3,none⟩ (.int .i64 vv.h0)).setCell ⟨w5.heap.size,4,none⟩ (.int .i64 vv.h1)).setCell ⟨w5.heap.size,5,none⟩ (.int .i64 vv.h2)).setCell ⟨w5.heap.size,6,none⟩ (.int .i64 vv.h3)).setCell ⟨w5.heap.size,7,none⟩ (.int .i64 vv.h4))=W9:=⟨_,rfl⟩
          rw [hW9] at k1 k2
          have HW9:=zH hW9
          have y0:w8.cell? ⟨w5.heap.size,0,none⟩=some (.int .i64 (yW q iv).p):=zh b8 0 rfl
          have fr0:=zi b8 0
          have y1:w8.cell? ⟨w5.heap.size,1,none⟩=some (.int .i64 (yW q iv).r):=zh b8 1 rfl
          have fr1:=zi b8 1
          have y2:w8.cell? ⟨w5.heap.size,2,none⟩=some (.int .i64 (yW q iv).i):=zh b8 2 rfl
          have fr2:=zi b8 2
          have y3:w8.cell? ⟨w5.heap.size,3,none⟩=some (.int .i64 (yW q iv).h0):=zh b8 3 rfl
          have fr3:=zi b8 3
          have y4:w8.cell? ⟨w5.heap.size,4,none⟩=some (.int .i64 (yW q iv).h1):=zh b8 4 rfl
          have fr4:=zi b8 4
          have y5:w8.cell? ⟨w5.heap.size,5,none⟩=some (.int .i64 (yW q iv).h2):=zh b8 5 rfl
          have fr5:=zi b8 5
          have y6:w8.cell? ⟨w5.heap.size,6,none⟩=some (.int .i64 (yW q iv).h3):=zh b8 6 rfl
          have fr6:=zi b8 6
          have y7:w8.cell? ⟨w5.heap.size,7,none⟩=some (.int .i64 (yW q iv).h4):=zh b8 7 rfl
          have fr7:=zi b8 7
          have H11:Hid (W9.heap[w5.heap.size]?=some (.cells (f q).cells 126 (0,0))):=by rw [HFV.out];exact k1
          have HB6:Hid (Below wr.heap.size wr W9):=k2
          clear hb68 b8 k1 k2 hW9 hvv hb8 HSE HB7 HFV
          unfold Vw.cells
          go_simp
          rename_i hKK
          refine hKK _ _ ?_
          refine wpList_plain rfl fun K5 hK5=>?_
          go_simp
          rw [HW9.out]
          refine hK5 _ _ ?_
          clear HW9 HKS hkt hksub y0 y1 y2 y3 y4 y5 y6 y7 fr0 fr1 fr2 fr3 fr4 fr5 fr6 fr7
         all_goals
          have Q9:=HQ.out.on HB6.out
          have hrf:=kW f vk q
          have hrl2:=xR f vk q
          obtain ⟨AV,kv,eV,hT⟩:=Q9.tb.form (by have:=HVL.out;omega)
          subst eV
          have HPU:=zH (put_any p.t.n AV kv (yp f vk q).1 (f q) W9 hT (by have:=HVL.out;omega))
          have hsys:=Q9.sys
          rw [HSC.out] at hsys
          have s7:W9.cell? ⟨w.heap.size+1+1,7,none⟩=some (.int .i64 p.t.n):=zh hsys 7 rfl
          have s8:W9.cell? ⟨w.heap.size+1+1,8,none⟩=some (.slice AV (yp f vk q).1.length kv):=zh hsys 8 rfl
          have HQ9:=zH Q9
          have HRL2:=zH hrl2
          obtain ⟨v,hv⟩:∃v,f q=v:=⟨_,rfl⟩
          have HFQ:=zH hv
          rw [hv] at HPU H11
          have x0:W9.cell? ⟨w5.heap.size,0,none⟩=some (.int .i64 v.p):=zh H11.out 0 rfl
          have x1:W9.cell? ⟨w5.heap.size,1,none⟩=some (.int .i64 v.r):=zh H11.out 1 rfl
          have x2:W9.cell? ⟨w5.heap.size,2,none⟩=some (.int .i64 v.i):=zh H11.out 2 rfl
          have x3:W9.cell? ⟨w5.heap.size,3,none⟩=some (.int .i64 v.h0):=zh H11.out 3 rfl
          have x4:W9.cell? ⟨w5.heap.size,4,none⟩=some (.int .i64 v.h1):=zh H11.out 4 rfl
          have x5:W9.cell? ⟨w5.heap.size,5,none⟩=some (.int .i64 v.h2):=zh H11.out 5 rfl
          have x6:W9.cell? ⟨w5.heap.size,6,none⟩=some (.int .i64 v.h3):=zh H11.out 6 rfl
          have x7:W9.cell? ⟨w5.heap.size,7,none⟩=some (.int .i64 v.h4):=zh H11.out 7 rfl
          clear hv hrf hrl2 hT hsys Q9
          go_wp2_with fail
          all_goals first | (exfalso;omega) | skip
          refine HPU.out.mono ?_
          rintro e w10 hput
          obtain ⟨A3,k3,rfl,hO3,hV3,hb10⟩:=put_out hput HQ9.out.tb HQ9.out.big
          have B10:=HB6.out.trans (hb10.mono HB6.out.size)
          have hsys:=(HQ.out.on B10).sys
          rw [HSC.out] at hsys
          have s7:w10.cell? ⟨w.heap.size+1+1,7,none⟩=some (.int .i64 p.t.n):=zh hsys 7 rfl
          have s8:w10.cell? ⟨w.heap.size+1+1,8,none⟩=some (.slice AV (yp f vk q).1.length kv):=zh hsys 8 rfl
          have f7:=zi hsys 7
          have f8:=zi hsys 8
          have HS10:=zH hsys
          obtain ⟨vs',hvs'⟩:∃vs',(xV (yp f vk q).1 v).1=vs':=⟨_,rfl⟩
          obtain ⟨iz,hiz⟩:∃iz,(xV (yp f vk q).1 v).2=iz:=⟨_,rfl⟩
          rw [hvs'] at hO3 hV3
          have HVS:=zH hvs'
          have HIZ:=zH hiz
          have HO3:=zH hO3
          have HV3:=zH hV3
          have HB10:=zH B10
          have hs10:=B10.size
          have hbsl:=HQ.out.bsl
          rw [hvs',hiz]
          clear hput hO3 hV3 hb10 B10 hsys hvs' hiz HPU x0 x1 x2 x3 x4 x5 x6 x7 H11
          obtain ⟨W11,hW11,b11,hs11,hB11⟩:=zm w10 #[.int .i64 p.t.n,.slice A3 vs'.length k3] 32
          have HW11:=zH hW11
          have HB11:Hid (Below wr.heap.size wr W11):=HB10.out.trans (hB11.mono hs10)
          have t0:W11.cell? ⟨w10.heap.size,0,none⟩=some (.int .i64 p.t.n):=zh b11 0 rfl
          have t1:W11.cell? ⟨w10.heap.size,1,none⟩=some (.slice A3 vs'.length k3):=zh b11 1 rfl
          have hsys:=(HQ.out.on HB11.out).sys
          rw [HSC.out] at hsys
          have e7:W11.cell? ⟨w.heap.size+1+1,7,none⟩=some (.int .i64 p.t.n):=zh hsys 7 rfl
          have e8:W11.cell? ⟨w.heap.size+1+1,8,none⟩=some (.slice AV (yp f vk q).1.length kv):=zh hsys 8 rfl
          have fe7:=zi hsys 7
          have fe8:=zi hsys 8
          have hbs11:w.heap.size+1+1<W11.heap.size:=by omega
          have HPT:=zH (Bq.put HQ.out HB11.out (u:=.int .i64 p.t.n) (HO3.out.of_same fun k hk=>hB11.block k (HO3.out.lt' k hk).2) (fun k hk=>by
           rcases HV3.out k hk with e | e
           · exact .inl e
           · exact .inr (by have:=HB6.out.size;omega)) (by rw [HSC.out];rfl) (by rw [HSC.out];rfl))
          obtain ⟨Y10,hY10⟩:∃Y10,(W11.setCell ⟨w.heap.size+1+1,7,none⟩ (.int .i64 p.t.n)).setCell ⟨w.heap.size+1+1,8,none⟩ (.slice A3 vs'.length k3)=Y10:=⟨_,rfl⟩
          rw [hY10] at HPT
          have HY10:=zH hY10
          have hsz10:Y10.heap.size=W11.heap.size:=by rw [←hY10];simp
          have HGN:Hid ((Y10.alloc (.cells #[.int .i64 iz] 3)).heap[w10.heap.size+1]?=some (.cells #[.int .i64 iz] 3 (0,0))):=by show _=_;rw [←hs11,←hsz10];exact zu Y10 _
          have HRN:=zH (HPT.out.row.alloc (.cells #[.int .i64 iz] 3))
          have HDY:=zH HPT.out.big
          have HRW:Hid (yp f vk (q+1)=(vs',(yp f vk q).2++[iz])):=by
           show (_,_)=_
           rw [HFQ.out,HVS.out,HIZ.out]
          clear hW11 b11 hB11 hsys hY10 s7 s8 f7 f8 HS10 HO3 HV3 HVS HIZ HFQ HQ9
          go_simp
          rename_i hKK
          refine hKK _ _ ?_
          clear hKK
          refine wpList_plain rfl fun K5 hK5=>?_
          go_simp
          refine hK5 _ _ ?_
          clear hK5 K5
          refine wpList_plain rfl fun K5 hK5=>?_
          go_simp
          refine hK5 _ _ ?_
          clear hK5 K5
          refine wpList_plain rfl fun K5 hK5=>?_
          go_simp
          refine hK5 _ _ ?_
          clear hK5 K5
          refine wpList_plain rfl fun K5 hK5=>?_
          go_simp
          refine hK5 _ _ ?_
          clear hK5 K5
          refine wpList_plain rfl fun K5 hK5=>?_
          go_simp
          rw [HW11.out]
          refine hK5 _ _ ?_
          clear hK5 K5 HW11
          have HRL3:Hid ((yp f vk q).2.length≤1000000000):=by show _≤_;rw [HRL2.out];omega
          have HDZ:Hid (D≤(Y10.alloc (.cells #[.int .i64 iz] 3)).heap.size):=by show _≤_;have:=HDY.out;simp;omega
          go_wp2_with (at_builtin;go_loud (rw [HY10.out];refine yC jv rfl (.tmp 99) (.tmp 101) rfl D (.slice AL (yp f vk q).2.length kl) (yp f vk q).2.length ((yp f vk q).2.map (Value.int .i64)) rfl HRN.out (w10.heap.size+1) #[.int .i64 iz] rfl HGN.out rfl (by simp [Value.oneCell']) HRL3.out HDZ.out _ rfl ?_;intro g' cap w12 hr7 hg7 hat7 hlt7;have HPS:=zH (Bq.push HPT.out (zW Y10 _) hr7 hg7 hat7);clear hr7 hg7 hat7))
          go_roundw
          case rel=>exact ⟨q+1,_,by omega,by go_num,by rw [HRW.out];exact HPS.out⟩
          case measure=>simp [intOf];omega
end
section
open Go.RowKit
attribute [local go_sem] Oper.semAt_some
theorem Q3 {p:Pb} (h:zV p=0):4096<Z8 p↔4096<yd p:=by
 obtain ⟨hpt,_⟩:=zX h
 obtain ⟨h1,_⟩:=xg hpt
 have e:yd p=p.t.cases.length*yg p.a p.k.toNat 0:=by unfold yd;rw [Nat.mul_comm]
 rw [e]
 exact sat_mul 4096 p.t.cases.length (yg p.a p.k.toNat 0) h1
set_option maxRecDepth 100000 in
theorem ZZ (p:Pb) (hf:xY p) (A:Option Addr) (kc:Nat) (SV:Option Addr) (ks:Nat) (w:World) (hA:CAt w w.heap.size A p.t.cases) (hS:SAt w w.heap.size SV p.a.sts) :
  Calls Tryz.prog 45 #[.agg (p.vs A kc SV ks)] w (RetSys (ya p) w):=by
 have HC:=zH (fun (w':World) (h1:CAt w' w'.heap.size A p.t.cases) (h2:SAt w' w'.heap.size SV p.a.sts)=>jN p hf.1 A kc SV ks w' h1 h2)
 have HN:=zH (fun (w':World) (h0:zV p=0) (h:SAt w' w'.heap.size SV p.a.sts)=>
  wC p hf.1 (xf hf.1.2 (zX h0).2.1).1 (xf hf.1.2 (zX h0).2.1).2.1 p.k.toNat 4096 (by have:=(zX h0).2.2.2.1;omega) (by have:=(zX h0).2.2.2.2;omega) (by decide) A kc SV ks w' h)
 have HB:=zH (fun (h0:zV p=0) (h60:yd p≤60) (w':World) (h1:CAt w' w'.heap.size A p.t.cases) (h2:SAt w' w'.heap.size SV p.a.sts)=>XD p hf h0 h60 A kc SV ks w' h1 h2)
 have HBad:=zH (@yO p)
 have HMany:=zH (@xz p)
 have HOk:=zH (@qi p)
 have HNM:=zH (@Q3 p)
 have HFX:=zH hf.2
 obtain ⟨R,hR⟩:∃R,ya p=R:=⟨_,rfl⟩
 rw [hR] at HBad HMany HOk ⊢
 obtain ⟨w1,hw1,d0,d1,hs1,hB1⟩:=yD w (p.vs A kc SV ks) #[.int .i64 0,.int .i64 0,.int .i64 0,.slice none 0 0,.int .i64 0,.slice none 0 0,.int .i64 0,.int .i64 0,.slice none 0 0,.slice none 0 0] 29 35
 have HAW:=zH hA
 have HSW:=zH hS
 have HA:=zH ((hA.keep hB1).more hB1.size)
 have HS:=zH ((hS.keep hB1).more hB1.size)
 unfold Pb.vs at hw1 d0 ⊢
 have HW1:=zH hw1
 have HD0:=zH d0
 have HD1:=zH d1
 have HB1:=zH hB1
 have p0:=zh d0 0 rfl
 have p1:=zh d0 1 rfl
 have p2:=zh d0 2 rfl
 have p3:=zh d0 3 rfl
 have p4:=zh d0 4 rfl
 have p5:=zh d0 5 rfl
 have p6:=zh d0 6 rfl
 obtain ⟨E,hE⟩:∃E,zV p=E:=⟨_,rfl⟩
 have HPE:=zH hE
 rw [hE] at HC HBad
 obtain ⟨M,hM⟩:∃M,p.t.cases.length*xj 4096 (yg p.a p.k.toNat 0)=M:=⟨_,rfl⟩
 have HMM:Hid (Z8 p=M):=hM
 rw [hM] at HN
 clear hw1 d0 d1 hB1 hA hS hf hR hE hM
 go_enter Tryz.func45,Tryz.ntmps45
 go_wp2_with fail
 rw [HW1.out]
 go_wp2_with fail
 refine (HC.out w1 HA.out HS.out).mono ?_
 rintro e w2 ⟨rfl,hb2⟩
 have B2:=zH (HB1.out.trans (hb2.mono (by omega)))
 have HA2:=zH ((HA.out.keep hb2).more hb2.size)
 have HS2:=zH ((HS.out.keep hb2).more hb2.size)
 have hs2:=hb2.size
 have d0:=(hb2.block _ (zj HD0.out)).trans HD0.out
 have d1:=(hb2.block _ (zj HD1.out)).trans HD1.out
 have HE0:=zH d0
 have HE1:=zH d1
 clear hb2 HC HW1 HD0 HD1 HA HS p0 p1 p2 p3 p4 p5 p6
 have p0:=zh d0 0 rfl
 have p1:=zh d0 1 rfl
 have p2:=zh d0 2 rfl
 have p3:=zh d0 3 rfl
 have p4:=zh d0 4 rfl
 have p5:=zh d0 5 rfl
 have p6:=zh d0 6 rfl
 by_cases h0:E=0
 case neg=>
  have hR:=zH (HBad.out h0)
  have e0:(E != 0)=true:=by simpa using h0
  have y0:=zh d1 0 rfl
  have f0:=zi d1 0
  have y1:=zh d1 1 rfl
  have f1:=zi d1 1
  have y2:=zh d1 2 rfl
  have f2:=zi d1 2
  have y3:=zh d1 3 rfl
  have f3:=zi d1 3
  have y4:=zh d1 4 rfl
  have f4:=zi d1 4
  have y5:=zh d1 5 rfl
  have f5:=zi d1 5
  have y6:=zh d1 6 rfl
  have f6:=zi d1 6
  have y7:=zh d1 7 rfl
  have f7:=zi d1 7
  have y8:=zh d1 8 rfl
  have f8:=zi d1 8
  have y9:=zh d1 9 rfl
  have f9:=zi d1 9
  obtain ⟨k1,k2,k3⟩:=xI (.int .i64 0) (.int .i64 0) (.int .i64 0) (.slice none 0 0) (.int .i64 0) (.slice none 0 0) (.int .i64 0) (.int .i64 0) (.slice none 0 0) (.slice none 0 0) d1 B2.out (by omega:w.heap.size≤w.heap.size+1)
  obtain ⟨WF,hWF⟩:∃WF,((((((((((w2.setCell ⟨w.heap.size+1,0,none⟩ (.int .i64 0)).setCell ⟨w.heap.size+1,1,none⟩ (.int .i64 0)).setCell ⟨w.heap.size+1,2,none⟩ (.int .i64 0)).setCell ⟨w.heap.size+1,3,none⟩ (.slice none 0 0)).setCell ⟨w.heap.size+1,4,none⟩ (.int .i64 0)).setCell ⟨w.heap.size+1,5,none⟩ (.slice none 0 0)).setCell ⟨w.heap.size+1,6,none⟩ (.int .i64 0)).setCell ⟨w.heap.size+1,7,none⟩ (.int .i64 0)).setCell ⟨w.heap.size+1,8,none⟩ (.slice none 0 0)).setCell ⟨w.heap.size+1,9,none⟩ (.slice none 0 0))=WF:=⟨_,rfl⟩
  rw [hWF] at k1 k2 k3
  have HK1:=zH k1
  have HK2:=zH k2
  have HK3:=zH k3
  have HWF:=zH hWF
  clear k1 k2 k3 hWF
  clear HMany HOk HNM HN HB HFX h0 d0 d1
  go_wp2_with fail
  rw [HWF.out]
  obtain ⟨z0,z1,z2,z3,z4,z5,z6,z7,z8,z9⟩:=zA HK1.out
  refine bodyPost_ret (v:=.tuple #[.agg #[.int .i64 0,.int .i64 0,.int .i64 0,.slice none 0 0,.int .i64 0,.slice none 0 0,.int .i64 0,.int .i64 0,.slice none 0 0,.slice none 0 0],.int .i64 E]) (by simp [results,Tryz.results45,go_sem,z0,z1,z2,z3,z4,z5,z6,z7,z8,z9]) rfl ?_
  rw [hR.out]
  exact RetSys.zero _ HK2.out
 case pos=>
 subst h0
 clear HBad
 go_wp2_with fail
 refine (HN.out w2 HPE.out HS2.out).mono ?_
 rintro e w3 ⟨rfl,hb3⟩
 have B3:=zH (B2.out.trans (hb3.mono (by omega)))
 have HA3:=zH ((HA2.out.keep hb3).more hb3.size)
 have HS3:=zH ((HS2.out.keep hb3).more hb3.size)
 have hs3:=hb3.size
 have d0:=(hb3.block _ (zj HE0.out)).trans HE0.out
 have d1:=(hb3.block _ (zj HE1.out)).trans HE1.out
 have HF0:=zH d0
 have HF1:=zH d1
 clear hb3 HN HE0 HE1 HA2 HS2 p0 p1 p2 p3 p4 p5 p6
 by_cases hm:4096<M
 case pos=>
  have hR:=zH (HMany.out HPE.out ((HNM.out HPE.out).1 (by rw [HMM.out];exact hm)))
  have hmi:(4096:Int)<(M:Int):=by omega
  have y0:=zh d1 0 rfl
  have f0:=zi d1 0
  have y1:=zh d1 1 rfl
  have f1:=zi d1 1
  have y2:=zh d1 2 rfl
  have f2:=zi d1 2
  have y3:=zh d1 3 rfl
  have f3:=zi d1 3
  have y4:=zh d1 4 rfl
  have f4:=zi d1 4
  have y5:=zh d1 5 rfl
  have f5:=zi d1 5
  have y6:=zh d1 6 rfl
  have f6:=zi d1 6
  have y7:=zh d1 7 rfl
  have f7:=zi d1 7
  have y8:=zh d1 8 rfl
  have f8:=zi d1 8
  have y9:=zh d1 9 rfl
  have f9:=zi d1 9
  obtain ⟨k1,k2,k3⟩:=xI (.int .i64 0) (.int .i64 0) (.int .i64 0) (.slice none 0 0) (.int .i64 0) (.slice none 0 0) (.int .i64 0) (.int .i64 0) (.slice none 0 0) (.slice none 0 0) d1 B3.out (by omega:w.heap.size≤w.heap.size+1)
  obtain ⟨WF,hWF⟩:∃WF,((((((((((w3.setCell ⟨w.heap.size+1,0,none⟩ (.int .i64 0)).setCell ⟨w.heap.size+1,1,none⟩ (.int .i64 0)).setCell ⟨w.heap.size+1,2,none⟩ (.int .i64 0)).setCell ⟨w.heap.size+1,3,none⟩ (.slice none 0 0)).setCell ⟨w.heap.size+1,4,none⟩ (.int .i64 0)).setCell ⟨w.heap.size+1,5,none⟩ (.slice none 0 0)).setCell ⟨w.heap.size+1,6,none⟩ (.int .i64 0)).setCell ⟨w.heap.size+1,7,none⟩ (.int .i64 0)).setCell ⟨w.heap.size+1,8,none⟩ (.slice none 0 0)).setCell ⟨w.heap.size+1,9,none⟩ (.slice none 0 0))=WF:=⟨_,rfl⟩
  rw [hWF] at k1 k2 k3
  have HK1:=zH k1
  have HK2:=zH k2
  have HK3:=zH k3
  have HWF:=zH hWF
  clear k1 k2 k3 hWF
  clear HMany HOk HNM HB HFX d0 d1
  go_wp2_with fail
  rw [HWF.out]
  obtain ⟨z0,z1,z2,z3,z4,z5,z6,z7,z8,z9⟩:=zA HK1.out
  refine bodyPost_ret (v:=.tuple #[.agg #[.int .i64 0,.int .i64 0,.int .i64 0,.slice none 0 0,.int .i64 0,.slice none 0 0,.int .i64 0,.int .i64 0,.slice none 0 0,.slice none 0 0],.int .i64 17]) (by simp [results,Tryz.results45,go_sem,z0,z1,z2,z3,z4,z5,z6,z7,z8,z9]) rfl ?_
  rw [hR.out]
  exact RetSys.zero _ HK2.out
 case neg=>
 have hex:¬(4096<yd p):=fun h=>hm (by rw [←HMM.out];exact (HNM.out HPE.out).2 h)
 have h60:yd p≤60:=by
  rcases HFX.out HPE.out with h | h
  · exact h
  · exact absurd h hex
 have hR:=zH (HOk.out HPE.out (by omega))
 have hmi:¬((4096:Int)<(M:Int)):=by omega
 have HB':=zH (HB.out HPE.out h60 w3 HA3.out HS3.out)
 have HFW:=zH (Zj p HPE.out h60).1
 have p0:=zh d0 0 rfl
 have p1:=zh d0 1 rfl
 have p2:=zh d0 2 rfl
 have p3:=zh d0 3 rfl
 have p4:=zh d0 4 rfl
 have p5:=zh d0 5 rfl
 have p6:=zh d0 6 rfl
 clear HMany HOk HNM HB HFX hex h60 d0 d1 HMM
 go_wp2_with fail
 all_goals first | (exfalso;omega) | skip
 refine HB'.out.mono ?_
 rintro e w4 ⟨AV,kv,AE,ke,rfl,hV,hX,hb4⟩
 have B4:=zH (B3.out.trans (hb4.mono (by omega)))
 have HVO:=zH hV
 have HXO:=zH hX
 have hs4:=hb4.size
 have d1:=(hb4.block _ (zj HF1.out)).trans HF1.out
 have HG1:=zH d1
 have HA4:=zH ((HA3.out.keep hb4).more hb4.size)
 have HS4:=zH ((HS3.out.keep hb4).more hb4.size)
 clear hV hX hb4 HB' HF0 HF1 p0 p1 p2 p3 p4 p5 p6 d1
 obtain ⟨W5,hW5,b5,hs5,hB5⟩:=zm w4 #[.int .i64 p.t.n,.int .i64 p.t.ins,.int .i64 p.t.outs,.slice A p.t.cases.length kc,.int .i64 p.a.n,.slice SV p.a.sts.length ks,.int .i64 p.k,.int .i64 p.t.n,.slice AV (zK p (zy p)).1.length kv,.slice AE (zK p (zy p)).2.length ke] 35
 have d1:=(hB5.block _ (zj HG1.out)).trans HG1.out
 have B5:=zH (B4.out.trans (hB5.mono (by omega)))
 have HB5:=zH hB5
 have HW5:=zH hW5
 obtain ⟨x0,x1,x2,x3,x4,x5,x6,x7,x8,x9⟩:=zA b5
 have hfv:¬((8192:Int)<((zK p (zy p)).1.length:Int)):=by have:=HFW.out;omega
 clear hW5 hB5 b5
 go_simp
 rename_i hKK
 refine hKK _ _ ?_
 clear hKK
 refine wpList_plain rfl fun K5 hK5=>?_
 go_simp
 refine hK5 _ _ ?_
 clear hK5 K5
 refine wpList_plain rfl fun K5 hK5=>?_
 go_simp
 rw [HW5.out]
 refine hK5 _ _ ?_
 clear hK5 K5 HW5
 have y0:=zh d1 0 rfl
 have f0:=zi d1 0
 have y1:=zh d1 1 rfl
 have f1:=zi d1 1
 have y2:=zh d1 2 rfl
 have f2:=zi d1 2
 have y3:=zh d1 3 rfl
 have f3:=zi d1 3
 have y4:=zh d1 4 rfl
 have f4:=zi d1 4
 have y5:=zh d1 5 rfl
 have f5:=zi d1 5
 have y6:=zh d1 6 rfl
 have f6:=zi d1 6
 have y7:=zh d1 7 rfl
 have f7:=zi d1 7
 have y8:=zh d1 8 rfl
 have f8:=zi d1 8
 have y9:=zh d1 9 rfl
 have f9:=zi d1 9
 obtain ⟨k1,k2,k3⟩:=xI (.int .i64 p.t.n) (.int .i64 p.t.ins) (.int .i64 p.t.outs) (.slice A p.t.cases.length kc) (.int .i64 p.a.n) (.slice SV p.a.sts.length ks) (.int .i64 p.k) (.int .i64 p.t.n) (.slice AV (zK p (zy p)).1.length kv) (.slice AE (zK p (zy p)).2.length ke) d1 B5.out (by omega:w.heap.size≤w.heap.size+1)
 obtain ⟨WF,hWF⟩:∃WF,((((((((((W5.setCell ⟨w.heap.size+1,0,none⟩ (.int .i64 p.t.n)).setCell ⟨w.heap.size+1,1,none⟩ (.int .i64 p.t.ins)).setCell ⟨w.heap.size+1,2,none⟩ (.int .i64 p.t.outs)).setCell ⟨w.heap.size+1,3,none⟩ (.slice A p.t.cases.length kc)).setCell ⟨w.heap.size+1,4,none⟩ (.int .i64 p.a.n)).setCell ⟨w.heap.size+1,5,none⟩ (.slice SV p.a.sts.length ks)).setCell ⟨w.heap.size+1,6,none⟩ (.int .i64 p.k)).setCell ⟨w.heap.size+1,7,none⟩ (.int .i64 p.t.n)).setCell ⟨w.heap.size+1,8,none⟩ (.slice AV (zK p (zy p)).1.length kv)).setCell ⟨w.heap.size+1,9,none⟩ (.slice AE (zK p (zy p)).2.length ke))=WF:=⟨_,rfl⟩
 rw [hWF] at k1 k2 k3
 have HK1:=zH k1
 have HK2:=zH k2
 have HK3:=zH k3
 have HWF:=zH hWF
 clear k1 k2 k3 hWF
 clear d1
 go_wp2_with fail
 rw [HWF.out]
 obtain ⟨z0,z1,z2,z3,z4,z5,z6,z7,z8,z9⟩:=zA HK1.out
 refine bodyPost_ret (v:=.tuple #[.agg #[.int .i64 p.t.n,.int .i64 p.t.ins,.int .i64 p.t.outs,.slice A p.t.cases.length kc,.int .i64 p.a.n,.slice SV p.a.sts.length ks,.int .i64 p.k,.int .i64 p.t.n,.slice AV (zK p (zy p)).1.length kv,.slice AE (zK p (zy p)).2.length ke],.int .i64 0]) (by simp [results,Tryz.results45,go_sem,z0,z1,z2,z3,z4,z5,z6,z7,z8,z9]) rfl ?_
 rw [hR.out]
 have hsame:∀k,k≠w.heap.size+1→k<w4.heap.size→WF.heap[k]?=w4.heap[k]?:=fun k a b=>(HK3.out.2.1 k a).trans (HB5.out.block k b)
 have hz:w4.heap.size≤WF.heap.size:=by have:=HB5.out.size;have:=HK3.out.2.2;omega
 obtain ⟨AV',kv',eV,hT⟩:=(HVO.out.of_same fun k hk=>hsame k (by have:=(HVO.out.lt' k hk).1;omega) (HVO.out.lt' k hk).2).form (by have:=HFW.out;omega)
 cases eV
 obtain ⟨AE',ke',eE,_,_,hXA,_⟩:=vD (HXO.out.keep zZ ⟨hz,fun k hs hl=>hsame k (by omega) hl⟩ fun k hk=>hsame k (by have:=(HXO.out.lt k hk).1;omega) (HXO.out.lt k hk).2)
 cases eE
 exact ⟨A,kc,SV,ks,AV,kv,AE,ke,rfl,⟨(HAW.out.keep HK2.out).more HK2.out.size,(HSW.out.keep HK2.out).more HK2.out.size,hT.rows,hXA⟩,hT.lec,hT.lem,HK2.out⟩
end
section
open Go.RowKit
attribute [local go_sem] Oper.semAt_some
set_option maxRecDepth 100000 in
theorem rver_any (s:Sy) (hs:LowS s) (hf:xY s.p) (A SV AV AX:Option Addr) (kc ks kv kx:Nat) (w:World) (hS:SyAt w w.heap.size A SV AV AX s) :
  Calls Tryz.prog 68 #[.agg (s.vs_ A kc SV ks AV kv AX kx)] w fun e w'=>e=.returned (.int .i64 (yn s))∧Below w.heap.size w w':=by
 obtain ⟨w1,hw1⟩:∃w1,w.alloc (.cells (s.vs_ A kc SV ks AV kv AX kx) 35)=w1:=⟨_,rfl⟩
 have hbb:=zu w (.cells (s.vs_ A kc SV ks AV kv AX kx) 35)
 have hb01:Below w.heap.size w w1:=by rw [←hw1];exact zW w _
 have hsz1:w1.heap.size=w.heap.size+1:=by rw [←hw1];simp
 rw [hw1] at hbb
 have HS1:=zH (hS.up hb01)
 have HB:=zH (ZZ s.p hf A kc SV ks w1 (hS.up hb01).fc (hS.up hb01).fs)
 have HLB:=zH (ji hs.fp hf)
 have HLS:=zH hs
 have HVE:Hid (yn s=if (ya s.p).2≠0 then (ya s.p).2 else if s=(ya s.p).1 then 0 else 3):=rfl
 have HBO:=zH (fun (h:(ya s.p).2=0)=>(by
  by_cases h0:zV s.p=0
  case neg=>rw [yO h0] at h;exact absurd h h0
  case pos=>
   by_cases h1:4096<yd s.p
   · rw [xz h0 h1] at h;cases h
   · rw [qi h0 (by omega)];exact ⟨rfl,rfl⟩:(ya s.p).1.p=s.p∧(ya s.p).1.n=s.p.t.n))
 unfold Sy.vs_ at hw1 hbb ⊢
 unfold Pb.vs at HB
 have HW1:=zH hw1
 have HBB:=zH hbb
 have HB01:=zH hb01
 have p0:=zh hbb 0 rfl
 have p1:=zh hbb 1 rfl
 have p2:=zh hbb 2 rfl
 have p3:=zh hbb 3 rfl
 have p4:=zh hbb 4 rfl
 have p5:=zh hbb 5 rfl
 have p6:=zh hbb 6 rfl
 obtain ⟨R,hR⟩:∃R,ya s.p=R:=⟨_,rfl⟩
 rw [hR] at HB HLB HVE HBO
 obtain ⟨r,hr⟩:∃r,yn s=r:=⟨_,rfl⟩
 rw [hr] at HVE ⊢
 clear hw1 hbb hb01 hS hs hf hR hr
 go_enter Tryz.func68,Tryz.ntmps68
 go_wp2_with fail
 rw [HW1.out]
 go_wp2_with fail
 refine HB.out.mono ?_
 rintro e w2 ⟨A2,kc2,SV2,ks2,AV2,kv2,AX2,kx2,rfl,hS2,hv1,hv2,hb2⟩
 obtain ⟨T,E⟩:=R
 obtain ⟨W3,hW3,b3,hs3,hB3⟩:=zm w2 (T.vs_ A2 kc2 SV2 ks2 AV2 kv2 AX2 kx2) 35
 have HS3:=zH (hS2.up hB3)
 have HB3:=zH (HB01.out.trans ((hb2.trans (hB3.mono hb2.size)).mono (by omega)))
 have hs2:=hb2.size
 have d0:=(hB3.block _ (by omega:w.heap.size<w2.heap.size)).trans ((hb2.block _ (by omega:w.heap.size<w1.heap.size)).trans HBB.out)
 have HS13:=zH ((HS1.out.up hb2).up hB3)
 unfold Sy.vs_ at hW3 b3 ⊢
 have HW3:=zH hW3
 have HD0:=zH d0
 have HD3:=zH b3
 clear hb2 hS2 hv1 hv2 hB3 hW3 HB HW1 p0 p1 p2 p3 p4 p5 p6 HS1 HBB
 dsimp only at HVE HBO HLB HS3
 go_simp
 rename_i hKK
 refine hKK _ _ ?_
 clear hKK
 refine wpList_plain rfl fun K5 hK5=>?_
 go_simp
 refine hK5 _ _ ?_
 clear hK5 K5
 refine wpList_plain rfl fun K5 hK5=>?_
 go_simp
 refine hK5 _ _ ?_
 clear hK5 K5
 refine wpList_plain rfl fun K5 hK5=>?_
 go_simp
 refine hK5 _ _ ?_
 clear hK5 K5
 refine wpList_plain rfl fun K5 hK5=>?_
 go_simp
 refine hK5 _ _ ?_
 clear hK5 K5
 refine wpList_plain rfl fun K5 hK5=>?_
 go_simp
 rw [HW3.out]
 refine hK5 _ _ ?_
 clear hK5 K5
 by_cases h0:E=0
 case neg=>
  have e0:(E != 0)=true:=by simpa using h0
  have hR:Hid (r=E):=HVE.out.trans (if_pos h0)
  clear HVE HBO h0 d0 b3
  go_wp2_with fail
  go_ret
  exact ⟨zk hR.out.symm,HB3.out⟩
 case pos=>
 subst h0
 obtain ⟨hTp,hTn⟩:=HBO.out rfl
 have hVE:r=if s=T then 0 else 3:=HVE.out.trans (if_neg (by simp))
 have H3:Hid (s≠T→r=3):=fun h=>hVE.trans (if_neg h)
 have H0:Hid (s=T→r=0):=fun h=>hVE.trans (if_pos h)
 have HTP:=zH hTp
 have HEQ:=zH (@sy_eq s T)
 have HSM:=zH (JY s T HLS.out HLB.out A SV AV AX A2 SV2 AV2 AX2 kc ks kv kx kc2 ks2 kv2 kx2 W3 HS13.out HS3.out)
 have x0:W3.cell? ⟨w.heap.size,0,none⟩=some (.int .i64 s.p.t.n):=zh d0 0 rfl
 have y0:W3.cell? ⟨w2.heap.size,0,none⟩=some (.int .i64 T.p.t.n):=zh b3 0 rfl
 have x1:W3.cell? ⟨w.heap.size,1,none⟩=some (.int .i64 s.p.t.ins):=zh d0 1 rfl
 have y1:W3.cell? ⟨w2.heap.size,1,none⟩=some (.int .i64 T.p.t.ins):=zh b3 1 rfl
 have x2:W3.cell? ⟨w.heap.size,2,none⟩=some (.int .i64 s.p.t.outs):=zh d0 2 rfl
 have y2:W3.cell? ⟨w2.heap.size,2,none⟩=some (.int .i64 T.p.t.outs):=zh b3 2 rfl
 have x3:W3.cell? ⟨w.heap.size,3,none⟩=some (.slice A s.p.t.cases.length kc):=zh d0 3 rfl
 have y3:W3.cell? ⟨w2.heap.size,3,none⟩=some (.slice A2 T.p.t.cases.length kc2):=zh b3 3 rfl
 have x4:W3.cell? ⟨w.heap.size,4,none⟩=some (.int .i64 s.p.a.n):=zh d0 4 rfl
 have y4:W3.cell? ⟨w2.heap.size,4,none⟩=some (.int .i64 T.p.a.n):=zh b3 4 rfl
 have x5:W3.cell? ⟨w.heap.size,5,none⟩=some (.slice SV s.p.a.sts.length ks):=zh d0 5 rfl
 have y5:W3.cell? ⟨w2.heap.size,5,none⟩=some (.slice SV2 T.p.a.sts.length ks2):=zh b3 5 rfl
 have x6:W3.cell? ⟨w.heap.size,6,none⟩=some (.int .i64 s.p.k):=zh d0 6 rfl
 have y6:W3.cell? ⟨w2.heap.size,6,none⟩=some (.int .i64 T.p.k):=zh b3 6 rfl
 have x7:W3.cell? ⟨w.heap.size,7,none⟩=some (.int .i64 s.n):=zh d0 7 rfl
 have y7:W3.cell? ⟨w2.heap.size,7,none⟩=some (.int .i64 T.n):=zh b3 7 rfl
 have x8:W3.cell? ⟨w.heap.size,8,none⟩=some (.slice AV s.vs.length kv):=zh d0 8 rfl
 have y8:W3.cell? ⟨w2.heap.size,8,none⟩=some (.slice AV2 T.vs.length kv2):=zh b3 8 rfl
 have x9:W3.cell? ⟨w.heap.size,9,none⟩=some (.slice AX s.xs.length kx):=zh d0 9 rfl
 have y9:W3.cell? ⟨w2.heap.size,9,none⟩=some (.slice AX2 T.xs.length kx2):=zh b3 9 rfl
 unfold Sy.vs_ at HSM
 clear hTp hTn hVE HVE HBO d0 b3 HLB HLS HTP HEQ
 go_wp2_with fail
 refine HSM.out.mono ?_
 rintro e w4 ⟨rfl,hb4⟩
 have B4:=zH (HB3.out.trans (hb4.mono (by omega)))
 clear hb4 HSM x0 x1 x2 x3 x4 x5 x6 x7 x8 x9 y0 y1 y2 y3 y4 y5 y6 y7 y8 y9
 by_cases h2:s=T
 case neg=>
  have hR:=zH (H3.out h2)
  rw [decide_eq_false h2]
  clear H3 H0 h2
  go_wp2_with fail
  go_ret
  exact ⟨zk hR.out.symm,B4.out⟩
 case pos=>
  have hR:=zH (H0.out h2)
  rw [decide_eq_true h2]
  clear H3 H0 h2
  go_wp2_with fail
  go_ret
  exact ⟨zk hR.out.symm,B4.out⟩
def xE (p:Pb):Bool:=xP p&&decide ((ya p).2=0)
set_option maxRecDepth 100000 in
theorem right_any (p:Pb) (hl:wn p) (A:Option Addr) (kc:Nat) (SV:Option Addr) (ks:Nat) (w:World) (hA:CAt w w.heap.size A p.t.cases) (hS:SAt w w.heap.size SV p.a.sts) :
  Calls Tryz.prog 44 #[.agg (p.vs A kc SV ks)] w fun e w'=>e=.returned (.bool (xE p))∧Below w.heap.size w w':=by
 obtain ⟨w1,hw1⟩:∃w1,w.alloc (.cells (p.vs A kc SV ks) 29)=w1:=⟨_,rfl⟩
 have hbb:=zu w (.cells (p.vs A kc SV ks) 29)
 have hb01:Below w.heap.size w w1:=by rw [←hw1];exact zW w _
 have hsz1:w1.heap.size=w.heap.size+1:=by rw [←hw1];simp
 rw [hw1] at hbb
 have HF:=zH (few_any p hl A kc SV ks w1 ((hA.keep hb01).more hb01.size) ((hS.keep hb01).more hb01.size))
 have HBD:=zH (fun (h:xP p=true) (X:World) (hX:Below w1.heap.size w1 X)=>ZZ p (few_x h).1 A kc SV ks X ((((hA.keep hb01).more hb01.size).keep hX).more hX.size) ((((hS.keep hb01).more hb01.size).keep hX).more hX.size))
 have HRB:Hid (xE p=(xP p&&decide ((ya p).2=0))):=rfl
 obtain ⟨r,hr⟩:∃r,xE p=r:=⟨_,rfl⟩
 rw [hr] at HRB ⊢
 obtain ⟨R,hR⟩:∃R,ya p=R:=⟨_,rfl⟩
 rw [hR] at HBD HRB
 obtain ⟨b,hb⟩:∃b,xP p=b:=⟨_,rfl⟩
 rw [hb] at HF HBD HRB
 unfold Pb.vs at hw1 hbb HF HBD ⊢
 have HW1:=zH hw1
 have HBB:=zH hbb
 have HB01:=zH hb01
 have p0:=zh hbb 0 rfl
 have p1:=zh hbb 1 rfl
 have p2:=zh hbb 2 rfl
 have p3:=zh hbb 3 rfl
 have p4:=zh hbb 4 rfl
 have p5:=zh hbb 5 rfl
 have p6:=zh hbb 6 rfl
 clear hw1 hbb hb01 hA hS hl hr hR hb
 go_enter Tryz.func44,Tryz.ntmps44
 go_wp2_with fail
 rw [HW1.out]
 go_wp2_with fail
 refine HF.out.mono ?_
 rintro e w2 ⟨rfl,hb2⟩
 have HB2:=zH (HB01.out.trans (hb2.mono (by omega)))
 have d0:=(hb2.block _ (by omega:w.heap.size<w1.heap.size)).trans HBB.out
 have hs2:=hb2.size
 cases b with
 | false=>
  have hRf:Hid (r=false):=HRB.out
  clear HRB HBD HF p0 p1 p2 p3 p4 p5 p6 d0 hb2 HBB HW1
  go_wp2_with fail
  go_ret
  exact ⟨zn hRf.out.symm,HB2.out⟩
 | true=>
  have HB3:=zH (HBD.out rfl w2 hb2)
  have hRf:Hid (r=decide (R.2=0)):=HRB.out
  clear p0 p1 p2 p3 p4 p5 p6 hb2 HBD HF HBB HW1 HRB
  have p0:=zh d0 0 rfl
  have p1:=zh d0 1 rfl
  have p2:=zh d0 2 rfl
  have p3:=zh d0 3 rfl
  have p4:=zh d0 4 rfl
  have p5:=zh d0 5 rfl
  have p6:=zh d0 6 rfl
  clear d0
  go_wp2_with fail
  refine HB3.out.mono ?_
  rintro e w3 ⟨A2,kc2,SV2,ks2,AV2,kv2,AX2,kx2,rfl,hS2,hv1,hv2,hb3⟩
  obtain ⟨T,E⟩:=R
  have HB4:=zH (HB2.out.trans ((hb3.trans (zW w3 (.cells (T.vs_ A2 kc2 SV2 ks2 AV2 kv2 AX2 kx2) 35) |>.mono hb3.size)).mono (by omega)))
  unfold Sy.vs_ at HB4 ⊢
  clear hb3 hS2 hv1 hv2 HB3 p0 p1 p2 p3 p4 p5 p6
  go_wp2_with fail
  go_ret
  exact ⟨zn (by rw [hRf.out];first | rfl | exact Qh Iff.rfl | (rw [Bool.eq_iff_iff];simp)),HB4.out⟩
end
section
open Go.RowKit
attribute [local go_sem] Oper.semAt_some
theorem xq {s:Sy} (hf:xY s.p) (h:yn s=0):s=zx s.p∧∃K N,Fine s K N:=by
 unfold yn at h
 by_cases h1:(ya s.p).2≠0
 · rw [if_pos h1] at h;exact absurd h h1
 · rw [if_neg h1] at h
   by_cases h2:s=(ya s.p).1
   · have h0 : zV s.p = 0 := by
      by_cases h0:zV s.p=0
      · exact h0
      · rw [yO h0] at h1;exact absurd h0 h1
     have hm:¬4096<yd s.p:=fun hm=>by rw [xz h0 hm] at h1;exact h1 (by decide)
     rw [qi h0 (by omega)] at h2
     obtain ⟨K,N,hF⟩:=YF hf h0 (by rcases hf.2 h0 with h | h;exact h;exact absurd h hm)
     exact ⟨h2,K,N,by rw [h2];exact hF⟩
   · rw [if_neg h2] at h;cases h
end
section
open Go.RowKit
def kBl:Kd:=⟨4,46,1,1,.bool false⟩
theorem kBl_ok:KdOk Tryz.prog kBl:=⟨Tryz.underlying46,by kernel_rfl,by rfl,by decide,by decide⟩
section
variable {w w':World} {B B':Nat} {A:Option Addr}
def BAt (w:World) (B:Nat) (A:Option Addr) (bs:List Bool):Prop:=
 0<bs.length→∃b off,A=some ⟨b,off,none⟩∧b<B∧∀(i:Nat) (hi:i<bs.length),w.cell? ⟨b,off+i,none⟩=some (.bool bs[i])
theorem BAt.keep {bs:List Bool} (h:BAt w B A bs) (hb:Below B w w'):BAt w' B A bs:=fun h0=>by
 obtain ⟨b,off,e,hlt,hc⟩:=h h0
 exact ⟨b,off,e,hlt,fun i hi=>(hb.cell (p:=⟨b,_,none⟩) hlt).trans (hc i hi)⟩
theorem BAt.more {bs:List Bool} (h:BAt w B A bs) (hB:B≤B'):BAt w B' A bs:=fun h0=>by
 obtain ⟨b,off,e,hlt,hc⟩:=h h0
 exact ⟨b,off,e,by omega,hc⟩
theorem BAt.at_ {bs:List Bool} (h:BAt w B A bs) (i:Nat) (hi:i<bs.length):∃b off,A=some ⟨b,off,none⟩∧b<B∧w.cell? ⟨b,off+i,none⟩=some (.bool bs[i]):=by
 obtain ⟨b,off,e,hlt,hc⟩:=h (by omega)
 exact ⟨b,off,e,hlt,hc i hi⟩
end
end
section
open Go.ChangeShapes Go.WideShapes Go.ChangeAt Go.RowKit Go.Deep
theorem Zo {k:IntKind} {i:Int} (hk:k.min=0) (h:(Lit.int k i).wf=true):∃n:Nat,i=(n:Int)∧(n:Int)≤k.max:=by
 unfold Lit.wf at h
 simp only [Bool.and_eq_true,decide_eq_true_iff] at h
 obtain ⟨n,hn⟩:=Int.eq_ofNat_of_zero_le (by omega:0≤i)
 exact ⟨n,hn,by omega⟩
theorem u8_lt {n:Nat} (h:(n:Int)≤IntKind.max .u8):n<256:=by
 have m8:IntKind.max .u8=255:=by decide
 omega
section
variable {H:Type} {enc:TypeId×Value→H} {W:World} {base:Nat} {spare:Nat→Bool} {held:Bool}
end
end
section
section
variable {α:Type} [DecidableEq α]
def qt (acc:List α) (k:α):List α:=if k∈acc then acc else acc++[k]
def xC (l:List α):List α:=l.foldl qt []
theorem qx (l:List α) (k:α):xC (l++[k])=qt (xC l) k:=by simp [xC,List.foldl_append]
theorem mem_uniqF {acc:List α} {k x:α}:x∈qt acc k↔x∈acc∨x=k:=by
 unfold qt
 split
 · rename_i h
   exact ⟨.inl,fun h'=>h'.elim id (fun e=>e▸h)⟩
 · simp
theorem Xj {x:α}:∀ {l acc:List α},x∈l.foldl qt acc↔x∈acc∨x∈l
 | [],acc=>by simp
 | k::l,acc=>by rw [List.foldl_cons,Xj,mem_uniqF,List.mem_cons,or_assoc]
theorem yq {l:List α} {x:α}:x∈xC l↔x∈l:=by unfold xC;rw [Xj];simp
def yR (l:List α):List Int:=l.map fun k=>((xC l).idxOf k:Int)
theorem xL (l:List α):(yR l).length=l.length:=by simp [yR]
theorem uQ (l:List α) (i:Nat) (h:i<l.length):(yR l)[i]'(by rw [xL];exact h)=((xC l).idxOf l[i]:Int):=by simp [yR]
theorem qA (l:List α) (k:α):yR (l++[k])=yR l++[if k∈l then ((xC l).idxOf k:Int) else ((xC l).length:Int)]:=by
 unfold yR
 rw [List.map_append,qx]
 congr 1
 · refine List.map_congr_left fun x hx=>?_
   unfold qt
   split
   · rfl
   · rw [List.idxOf_append,if_pos (yq.2 hx)]
 · simp only [List.map_cons,List.map_nil,List.cons.injEq,and_true]
   unfold qt
   by_cases h:k∈l
   · rw [if_pos (yq.2 h),if_pos h]
   · rw [if_neg (fun e=>h (yq.1 e)),if_neg h,List.idxOf_append,if_neg (fun e=>h (yq.1 e))]
     simp
theorem idxOf_inj {l:List α} {a b:α} (ha:a∈l) (hb:b∈l) (h:l.idxOf a=l.idxOf b):a=b:=by
 have h1:=List.getElem_idxOf (List.idxOf_lt_length_of_mem ha)
 have h2:=List.getElem_idxOf (List.idxOf_lt_length_of_mem hb)
 rw [←h1,←h2]
 congr 1
theorem vz (l:List α) {i j:Nat} (hi:i<l.length) (hj:j<l.length):(yR l)[i]'(by rw [xL];exact hi)=(yR l)[j]'(by rw [xL];exact hj)↔l[i]=l[j]:=by
 rw [uQ l i hi,uQ l j hj]
 constructor
 · intro h
   exact idxOf_inj (yq.2 (List.getElem_mem hi)) (yq.2 (List.getElem_mem hj)) (by omega)
 · intro h
   rw [h]
end
theorem Yf {α β:Type} [DecidableEq α] [DecidableEq β] {l:List α} {m:List β} (hl:l.length=m.length)
  (h:∀i j (h1:i<l.length) (h2:j<l.length),l[i]=l[j]↔m[i]'(hl▸h1)=m[j]'(hl▸h2)):yR l=yR m:=by
 have key:∀n,n≤l.length→yR (l.take n)=yR (m.take n)∧(xC (l.take n)).length=(xC (m.take n)).length:=by
  intro n
  induction n with
  | zero=>intro _;exact ⟨rfl,rfl⟩
  | succ n ih=>
   intro hn
   obtain ⟨h1,h2⟩:=ih (by omega)
   have hnl:n<l.length:=by omega
   have hnm:n<m.length:=by omega
   rw [List.take_succ_eq_append_getElem hnl,List.take_succ_eq_append_getElem hnm,qA,qA,qx,qx,h1]
   have hm:l[n]∈l.take n↔m[n]∈m.take n:=by
    constructor
    · intro hx
      obtain ⟨j,hj,e⟩:=List.getElem_of_mem hx
      have hj':j<n:=by simp at hj;omega
      rw [List.getElem_take] at e
      have:=(h j n (by omega) hnl).1 e
      rw [←this]
      exact List.mem_take_iff_getElem.2 ⟨j,by omega,rfl⟩
    · intro hx
      obtain ⟨j,hj,e⟩:=List.getElem_of_mem hx
      have hj':j<n:=by simp at hj;omega
      rw [List.getElem_take] at e
      have:=(h j n (by omega) hnl).2 e
      rw [←this]
      exact List.mem_take_iff_getElem.2 ⟨j,by omega,rfl⟩
   unfold qt
   by_cases hx:l[n]∈l.take n
   · have hy:=hm.1 hx
     rw [if_pos hx,if_pos hy,if_pos (yq.2 hx),if_pos (yq.2 hy)]
     refine ⟨?_,h2⟩
     congr 2
     obtain ⟨j,hj,e⟩:=List.getElem_of_mem hx
     have hj':j<n:=by simp at hj;omega
     rw [List.getElem_take] at e
     have e2:=(h j n (by omega) hnl).1 e
     have g1:=uQ (l.take n) j hj
     have g2:=uQ (m.take n) j (by simp;omega)
     rw [List.getElem_take,e] at g1
     rw [List.getElem_take,e2] at g2
     rw [←g1,←g2]
     congr 1
   · have hy:¬m[n]∈m.take n:=fun e=>hx (hm.2 e)
     rw [if_neg hx,if_neg hy,if_neg (fun e=>hx (yq.1 e)),if_neg (fun e=>hy (yq.1 e))]
     refine ⟨?_,by simp [h2]⟩
     rw [h2]
 have:=(key l.length (Nat.le_refl _)).1
 rwa [List.take_length,hl,List.take_length] at this
inductive Conn (n:Nat) (adj:Nat→Nat→Prop):Nat→Nat→Prop
 | refl (i:Nat):Conn n adj i i
 | step {i j k:Nat}:Conn n adj i j→j<n→k<n→adj j k→Conn n adj i k
section
variable {n:Nat} {adj:Nat→Nat→Prop}
theorem Conn.trans {i j k:Nat} (h:Conn n adj i j) (g:Conn n adj j k):Conn n adj i k:=by
 induction g with
 | refl=>exact h
 | step _ h1 h2 h3 ih=>exact .step ih h1 h2 h3
theorem Conn.one {i j:Nat} (hi:i<n) (hj:j<n) (h:adj i j):Conn n adj i j:=.step (.refl i) hi hj h
theorem Conn.symm (hs:∀i j,adj i j→adj j i) {i j:Nat} (h:Conn n adj i j):Conn n adj j i:=by
 induction h with
 | refl=>exact .refl _
 | step _ h1 h2 h3 ih=>exact (Conn.one h2 h1 (hs _ _ h3)).trans ih
theorem Conn.mono {adj':Nat→Nat→Prop} (hm:∀i j,i<n→j<n→adj i j→Conn n adj' i j) {i j:Nat} (h:Conn n adj i j):Conn n adj' i j:=by
 induction h with
 | refl=>exact .refl _
 | step _ h1 h2 h3 ih=>exact ih.trans (hm _ _ h1 h2 h3)
end
theorem Ye {p:Nat→Prop}:∀n,p n→∃m,m≤n∧p m∧∀k,k<m→¬p k:=by
 intro n
 induction n using Nat.strongRecOn with
 | _ n ih=>
  intro hn
  by_cases h:∃k,k<n∧p k
  · obtain ⟨k,hk,hp⟩:=h
    obtain ⟨m,h1,h2,h3⟩:=ih k hk hp
    exact ⟨m,by omega,h2,h3⟩
  · exact ⟨n,Nat.le_refl _,hn,fun k hk hp=>h ⟨k,hk,hp⟩⟩
noncomputable def we (n:Nat) (adj:Nat→Nat→Prop) (i:Nat):Nat:=Classical.choose (Ye (p:=fun k=>Conn n adj k i) i (.refl i))
section
variable {n:Nat} {adj:Nat→Nat→Prop}
theorem jg (i:Nat):Conn n adj (we n adj i) i:=(Classical.choose_spec (Ye (p:=fun k=>Conn n adj k i) i (.refl i))).2.1
theorem JC {i k:Nat} (h:Conn n adj k i):we n adj i≤k:=by
 have:=(Classical.choose_spec (Ye (p:=fun k=>Conn n adj k i) i (.refl i))).2.2 k
 exact Nat.le_of_not_lt fun hlt=>this hlt h
theorem Zw (hs:∀i j,adj i j→adj j i) {i j:Nat}:we n adj i=we n adj j↔Conn n adj i j:=by
 constructor
 · intro h
   have h1:=jg (n:=n) (adj:=adj) i
   rw [h] at h1
   exact (h1.symm hs).trans (jg j)
 · intro h
   have h1:we n adj j≤we n adj i:=JC ((jg i).trans h)
   have h2:we n adj i≤we n adj j:=JC ((jg j).trans (h.symm hs))
   omega
end
noncomputable def yT (n:Nat) (adj:Nat→Nat→Prop):List Int:=yR ((List.range n).map (we n adj))
theorem qg (n:Nat) (adj:Nat→Nat→Prop):(yT n adj).length=n:=by unfold yT;rw [xL];simp
theorem ur {n:Nat} {adj:Nat→Nat→Prop} (hs:∀i j,adj i j→adj j i) {i j:Nat} (hi:i<n) (hj:j<n):(yT n adj)[i]'(by rw [qg];exact hi)=(yT n adj)[j]'(by rw [qg];exact hj)↔Conn n adj i j:=by
 have:=vz ((List.range n).map (we n adj)) (i:=i) (j:=j) (by simpa using hi) (by simpa using hj)
 simp only [List.getElem_map,List.getElem_range] at this
 rw [Zw hs] at this
 exact this
theorem JA {α:Type} [DecidableEq α] {n:Nat} {adj:Nat→Nat→Prop} (hs:∀i j,adj i j→adj j i) (l:List α) (hl:l.length=n)
  (h:∀i j (h1:i<l.length) (h2:j<l.length),l[i]=l[j]↔Conn n adj i j):yR l=yT n adj:=by
 unfold yT
 refine Yf (by simpa using hl) fun i j h1 h2=>?_
 rw [h i j h1 h2]
 simp only [List.getElem_map,List.getElem_range]
 rw [Zw hs]
structure Far (n:Nat) (adj:Nat→Nat→Prop) (src:Nat→Prop) (f:Nat→Int):Prop where
 ge:∀i,i<n→-1≤f i
 zero:∀i,i<n→(f i=0↔src i)
 step:∀i,i<n→0<f i→∃k,k<n∧adj i k∧f k=f i-1
 low:∀i k,i<n→k<n→adj i k→0≤f k→0≤f i∧f i≤f k+1
section
variable {n:Nat} {adj:Nat→Nat→Prop} {src:Nat→Prop} {f g:Nat→Int}
theorem Far.reach {j:Nat} (hf:Far n adj (fun k=>k=j) f) (hj:j<n) (hs:∀i k,adj i k→adj k i) (i:Nat) (hi:i<n):0≤f i↔Conn n adj j i:=by
 constructor
 · intro h
   obtain ⟨d,hd⟩:=Int.eq_ofNat_of_zero_le h
   clear h
   induction d generalizing i with
   | zero=>
    have:=(hf.zero i hi).1 hd
    subst this
    exact .refl _
   | succ d ih=>
    obtain ⟨k,hk,ha,he⟩:=hf.step i hi (by omega)
    exact (ih k hk (by omega)).trans (Conn.one hk hi (hs _ _ ha))
 · intro h
   induction h with
   | refl=>have:=(hf.zero j hj).2 rfl;omega
   | step _ h1 h2 h3 ih=>exact (hf.low _ _ h2 h1 (hs _ _ h3) (ih h1)).1
end
end
section
theorem jW {l:List Int} {i j:Nat} {x d:Int} (h:i<l.length):(l.set i x).getD j d=if j=i then x else l.getD j d:=by
 rw [List.getD_eq_getElem?_getD,List.getD_eq_getElem?_getD,List.getElem?_set]
 by_cases e:i=j
 · subst e;simp [h]
 · rw [if_neg e,if_neg (fun e'=>e e'.symm)]
theorem xn {l:List Int} {i:Nat} (h:i<l.length) (d:Int):l.getD i d=l[i]:=by rw [List.getD_eq_getElem?_getD,List.getElem?_eq_getElem h];rfl
section
variable {n:Nat} {adj:Nat→Nat→Prop} {src:Nat→Prop}
end
section
variable {n:Nat} {adj:Nat→Nat→Prop}
end
end
section
def adjE (ps:List Nat) (cls:Nat→List Int) (i k:Nat):Prop:=∃p∈ps,(cls p).getD i 0=(cls p).getD k 0
theorem adjE_symm (ps:List Nat) (cls:Nat→List Int) (i k:Nat) (h:adjE ps cls i k):adjE ps cls k i:=by obtain ⟨p,hp,e⟩:=h;exact ⟨p,hp,e.symm⟩
end
section
theorem JB {n:Nat} {r r':Nat→Nat→Prop} (hs:∀i j,r i j→r j i) (hs':∀i j,r' i j→r' j i) (h:∀i j,i<n→j<n→(Conn n r i j↔Conn n r' i j)):yT n r=yT n r':=by
 unfold yT
 refine Yf (by simp) fun i j h1 h2=>?_
 simp only [List.getElem_map,List.getElem_range]
 rw [Zw hs,Zw hs']
 exact h i j (by simpa using h1) (by simpa using h2)
theorem gu {α:Type} [DecidableEq α]:∀(l acc:List α),(acc++l).Nodup→l.foldl qt acc=acc++l
 | [],acc,_=>by simp
 | k::l,acc,h=>by
  have hk:k∉acc:=fun hk=>by
   have:=(List.nodup_append.1 h).2.2 k hk k (by simp)
   exact this rfl
  rw [List.foldl_cons]
  unfold qt
  rw [if_neg hk]
  change l.foldl qt (acc++[k])=_
  rw [gu l (acc++[k]) (by simpa using h)]
  simp
theorem compL_none (n:Nat):yT n (fun _ _=>False)=(List.range n).map fun (i:Nat)=>(i:Int):=by
 have hc:∀i,we n (fun _ _=>False) i=i:=fun i=>by
  have h:=jg (n:=n) (adj:=fun _ _=>False) i
  generalize we n (fun _ _=>False) i=m at h
  cases h with
  | refl=>rfl
  | step _ _ _ h=>exact h.elim
 have hm:(List.range n).map (we n (fun _ _=>False))=List.range n:=by
  rw [show we n (fun _ _=>False)=id from funext hc,List.map_id]
 unfold yT yR
 rw [hm]
 have hu:xC (List.range n)=List.range n:=by
  unfold xC
  rw [gu _ _ (by simpa using List.nodup_range)]
  simp
 rw [hu]
 refine List.ext_getElem (by simp) fun i h1 h2=>?_
 have hi:i<n:=by simpa using h1
 simp only [List.getElem_map,List.getElem_range]
 have:=List.Nodup.idxOf_getElem (xs:=List.range n) List.nodup_range i (by simpa using hi)
 rw [List.getElem_range] at this
 rw [this]
section
variable {n:Nat} {r:Nat→Nat→Prop}
end
section
variable {n:Nat} {adj:Nat→Nat→Prop} {src:Nat→Prop} {d:Nat} {f:Nat→Int}
end
end
section
open Go.RowKit Go.Shelf
attribute [local go_sem] Oper.semAt_some
theorem XS (n:Nat) (hn:0<n):∀m i,zt n i m=(List.range (m*n)).map fun t=>(i+t / n,t % n)
 | 0,i=>by simp [zt]
 | m+1,i=>by
  rw [zt,XS n hn m (i+1),Nat.succ_mul,Nat.add_comm (m*n) n,List.range_add,List.map_append,List.map_map]
  congr 1
  · refine List.map_congr_left fun t ht=>?_
    have:=List.mem_range.1 ht
    rw [Nat.div_eq_of_lt this,Nat.mod_eq_of_lt this,Nat.add_zero]
  · refine List.map_congr_left fun t _=>?_
    simp only [Function.comp]
    rw [Nat.add_div_left _ hn,Nat.add_mod_left]
    congr 1
    omega
theorem xF (n m:Nat) (hn:0<n):(zt n 0 m).length=m*n:=by rw [XS n hn];simp
theorem XR (n m:Nat) (hn:0<n) (i:Nat) (h:i<(zt n 0 m).length):(zt n 0 m)[i]=(i / n,i % n):=by
 have:=XS n hn m 0
 simp only [this,List.getElem_map,List.getElem_range]
 simp
set_option maxRecDepth 100000 in
theorem Zy (s:Sy) (A SV AV AX:Option Addr) (kc ks kv kx:Nat) (w:World):Calls Tryz.prog 41 #[.agg (s.vs_ A kc SV ks AV kv AX kx)] w fun e w'=>
  e=.returned (.func (.func 67) #[] #[.pointer (some ⟨w.heap.size,0,none⟩)])∧w.alloc (.cells (s.vs_ A kc SV ks AV kv AX kx) 35)=w':=by
 unfold Sy.vs_
 go_enter Tryz.func41,Tryz.ntmps41
 go_wp2
 go_ret
 exact ⟨rfl,rfl⟩
structure PtC (C:Array Value) (K M:Nat) (AX:Option Addr) (kx:Nat):Prop where
 c6:C[6]?=some (.int .i64 (K:Int))
 c9:C[9]?=some (.slice AX M kx)
set_option maxRecDepth 100000 in
theorem vE (C:Array Value) (K M:Nat) (hK:K≤100) (hM:M≤100) (AX:Option Addr) (kx:Nat) (hC:PtC C K M AX kx) (bs:Nat) (w:World) (hb:w.heap[bs]?=some (.cells C 35 (0,0))) :
  Iter Tryz.prog 67 #[.pointer (some ⟨bs,0,none⟩)] (fun x:Nat×Nat=>#[.agg #[.int .i64 x.1,.int .i64 x.2]]) (fun k=>k=bs) (zt (K+1) 0 M) w:=fun n hn l J Jx W hW hJ hJx hY h0=>by
 have hbp:bs<w.heap.size:=(Array.getElem?_eq_some_iff.1 hb).1
 have hp0:=(hW.block bs hbp).trans hb
 have HY:=zH hY
 have c9:=zh hp0 9 hC.c9
 have HC6:=zH hC.c6
 have H0:=zH h0
 have HP0:=zH hp0
 have hpW:bs<W.heap.size:=Nat.lt_of_lt_of_le hbp hW.size
 clear hY hJ hJx h0 hp0 hb hW hbp hC
 refine callsIn_of_wp Tryz.func67 rfl trivial ?_ rfl
 simp only [Tryz.ntmps67,List.size_toArray,List.length_cons,List.length_nil,Nat.reduceAdd,Nat.reduceSub,Array.replicate_succ,Array.replicate_zero,List.push_toArray,List.append_toArray,List.nil_append,List.cons_append]
 gi_wp2
 gi_loopw [8] (fun q wr=>∃s:Nat,s≤M∧q=.int .i64 (s:Int)∧∃pre:List { x:Nat×Nat // x∈zt (K+1) 0 M },Hid (pre.map (·.1)++zt (K+1) s (M-s)=zt (K+1) 0 M)∧Hid (J pre wr)∧Hid (wr.heap[bs]?=some (.cells C 35 (0,0)))∧W.heap.size≤wr.heap.size) (fun q _=>M-(intOf q).toNat)
 case atStart=>exact ⟨0,by omega,rfl,[],by simp [Hid],H0,HP0,Nat.le_refl _⟩
 case round=>
  obtain ⟨s,hs,rfl,pre,hpr,hJ0,hPr,hsz⟩:=hrel
  clear c9 HP0 H0
  by_cases hlt:s<M
  · have hdr : zt (K + 1) s (M - s) = xb (K + 1) s 0 ++ zt (K + 1) (s + 1) (M - (s + 1)) := by
     rw [show M-s=(M-(s+1))+1 by omega,zt]
     unfold xb
     rw [List.drop_zero]
    have HP:Hid (pre.map (·.1)++(xb (K+1) s 0++zt (K+1) (s+1) (M-(s+1)))=zt (K+1) 0 M):=by rw [←hdr];exact hpr.out
    have q6:=zh hPr.out 6 HC6.out
    have hw1:IntKind.i64.wrap ((K:Int)+1)=(K:Int)+1:=by rw [IntKind.wrap_i64];omega
    clear hdr hpr
    gi_wp2_with fail
    gi_loopw [15] (fun q wr=>∃j:Nat,j≤K+1∧q=.int .i64 (j:Int)∧∃pre:List { x:Nat×Nat // x∈zt (K+1) 0 M },Hid (pre.map (·.1)++(xb (K+1) s j++zt (K+1) (s+1) (M-(s+1)))=zt (K+1) 0 M)∧Hid (J pre wr)∧Hid (wr.heap[bs]?=some (.cells C 35 (0,0)))∧W.heap.size≤wr.heap.size) (fun q _=>K+1-(intOf q).toNat)
    case atStart=>exact ⟨0,by omega,rfl,pre,HP,hJ0,hPr,hsz⟩
    case round=>
     clear HP q6 hJ0 hPr hsz
     obtain ⟨j,hj,rfl,pre,hpr,hJ0,hPr,hsz⟩:=hrel
     by_cases hjl:j<K+1
     · have hp2 : pre.map (·.1) ++ ((s, j) :: (xb (K + 1) s (j + 1) ++ zt (K + 1) (s + 1) (M - (s + 1)))) = zt (K + 1) 0 M := by
        have:=hpr.out
        rw [uE hjl,List.cons_append] at this
        exact this
       have hmem:(s,j)∈zt (K+1) 0 M:=by rw [←hp2];simp
       have hlen:pre.length<(zt (K+1) 0 M).length:=by
        have:=congrArg List.length hp2
        simp only [List.length_append,List.length_map,List.length_cons] at this
        omega
       obtain ⟨fn,tmps,assign,body,hy,hR⟩:=HY.out pre ⟨(s,j),hmem⟩ _ hJ0.out hlen
       dsimp only at hy
       have HP2:Hid ((pre++[(⟨(s,j),hmem⟩:{ x:Nat×Nat // x∈zt (K+1) 0 M })]).map (·.1)++(xb (K+1) s (j+1)++zt (K+1) (s+1) (M-(s+1)))=zt (K+1) 0 M):=by
        rw [List.map_append,List.append_assoc]
        exact hp2
       have HR:=zH hR
       have hjI:(j:Int)<(K:Int)+1:=by omega
       clear hp2 hpr hR
       gi_wp2_with fail
       refine HR.out.mono ?_
       rintro e W3 (⟨rfl,hJ3,hk3⟩ | ⟨rfl,hJx3⟩)
       · have hs1:wr.heap.size≤W3.heap.size:=hk3.size
         have P3:=zH ((hk3.same bs rfl (by omega)).trans hPr.out)
         have J3:=zH hJ3
         have hsz3:W.heap.size≤W3.heap.size:=by omega
         clear hk3 hJ3 hs1
         gi_wp2_with fail
         go_roundw
         case rel=>exact ⟨j+1,by omega,by go_num,_,HP2,J3,P3,hsz3⟩
         case measure=>simp [intOf];omega
       · gi_wp2_with fail
         refine bodyPost_ret (results_none rfl _ _ _) rfl ?_
         refine ⟨⟨_,rfl⟩,.inr ⟨_,?_,hJx3⟩⟩
         exact ⟨_,HP2.out⟩
     · obtain rfl:j=K+1:=by omega
       have HP:Hid (pre.map (·.1)++zt (K+1) (s+1) (M-(s+1))=zt (K+1) 0 M):=by have:=hpr.out;rwa [gF,List.nil_append] at this
       have hjI:¬(((K+1:Nat):Int)<(K:Int)+1):=by omega
       clear hpr
       gi_wp2_with fail
       go_roundw
       case rel=>exact ⟨s+1,by omega,by go_num,pre,HP,hJ0,hPr,hsz⟩
       case measure=>simp [intOf];omega
  · obtain rfl:M=s:=by omega
    have HP:Hid (pre.map (·.1)=zt (K+1) 0 M):=by have:=hpr.out;rwa [Nat.sub_self,zt,List.append_nil] at this
    clear hpr
    gi_wp2_with fail
    go_end0
    exact ⟨⟨_,rfl⟩,.inl ⟨pre,HP.out,hJ0.out⟩⟩
end
section
open Go.RowKit Go.Shelf
theorem uJ {w:World} {base:Nat} {v:Value} {xs:List Int} (h:Own w base v xs) {k:Nat} {cs:Array Value} {t:TypeId} (hk:w.heap[k]?=some (.cells cs t (0,0))) (ht:t≠3):v.ownBlock≠some k:=by
 intro e
 rcases h.2 with ⟨rfl,_⟩ | ⟨g,cap,cur,rfl,_,hg,_⟩
 · cases e
 · simp only [Value.ownBlock,Option.some.injEq] at e
   subst e
   rw [hk] at hg
   cases hg
   exact ht rfl
theorem vy {w:World} {base:Nat} {v:Value} {xs:List Int} (h:Own w base v xs):∀r,v.ownBlock=some r→base≤r∧∀o,w.heap[r]?=some o→o.isCells=true:=by
 intro r hr
 refine ⟨(h.lt r hr).1,fun o ho=>?_⟩
 rcases h.2 with ⟨rfl,_⟩ | ⟨g,cap,cur,rfl,_,hg,_⟩
 · cases hr
 · simp only [Value.ownBlock,Option.some.injEq] at hr
   subst hr
   rw [hg] at ho
   cases ho
   rfl
theorem set_box {w:World} {g:Nat} {v:Value} {t:TypeId} (h:w.heap[g]?=some (.cells #[v] t (0,0))) (v':Value) :
  (w.setCell ⟨g,0,none⟩ v').heap[g]?=some (.cells #[v'] t (0,0))∧(w.setCell ⟨g,0,none⟩ v').heap.size=w.heap.size∧∀k,k≠g→(w.setCell ⟨g,0,none⟩ v').heap[k]?=w.heap[k]?:=by
 have hg:=(Array.getElem?_eq_some_iff.1 h).1
 refine ⟨?_,by simp [World.setCell],fun k hk=>Below.heap_setCell w ⟨g,0,none⟩ v' k hk⟩
 have hgg:=(Array.getElem?_eq_some_iff.1 h).2
 rw [World.setCell,Array.getElem?_modify,if_pos rfl,h]
 rfl
theorem grown_set {w:World} {g:Nat} {v:Value} {t:TypeId} (_h:w.heap[g]?=some (.cells #[v] t (0,0))) (v':Value):w.grownBy (w.setCell ⟨g,0,none⟩ v') (some g):=
 ⟨rfl,rfl,rfl,by simp [World.setCell],fun k _ hk=>Below.heap_setCell w ⟨g,0,none⟩ v' k (fun e=>hk (by rw [e]))⟩
end
section
open Go.RowKit Go.Shelf
attribute [local go_sem] Oper.semAt_some
theorem XJ {α:Type}:∀ {l m:List α},l.Nodup→(∀x∈l,x∈m)→l.length≤m.length
 | [],_,_,_=>by simp
 | a::l,m,hn,h=>by
  classical
  obtain ⟨h1,h2⟩:=List.nodup_cons.1 hn
  have ha:a∈m:=h a (by simp)
  have:=XJ (l:=l) (m:=m.erase a) h2 (fun x hx=>by
   have hne:x≠a:=by rintro rfl;exact h1 hx
   exact (List.mem_erase_of_ne hne).2 (h x (by simp [hx])))
  rw [List.length_erase_of_mem ha] at this
  have hpos:0<m.length:=List.length_pos_of_mem ha
  simp only [List.length_cons]
  omega
theorem MapOf.count {κ:Type} {enc:κ→Value} (inj:∀a b,enc a=enc b→a=b) {w:World} {b n:Nat} {f:κ→Option Value} {l:List κ} (h:MapOf enc w b n f) (hn:l.Nodup) (hf:∀k,(∃v,f k=some v)↔k∈l) :
  ∃es clock,w.heap[b]?=some (.map es clock)∧es.size=l.length:=by
 obtain ⟨es,clock,hb,_,hp,h1,h2⟩:=h
 refine ⟨es,clock,hb,?_⟩
 have e1:(es.toList.map (·.key)).Nodup:=List.pairwise_map.2 hp
 have e2:(l.map enc).Nodup:=List.pairwise_map.2 (hn.imp fun hab e=>hab (inj _ _ e))
 have g1:=XJ e1 (m:=l.map enc) (fun x hx=>by
  obtain ⟨e,he,rfl⟩:=List.mem_map.1 hx
  obtain ⟨k,hk,hv⟩:=h1 e he
  exact List.mem_map.2 ⟨k,(hf k).1 ⟨_,hv⟩,hk.symm⟩)
 have g2:=XJ e2 (m:=es.toList.map (·.key)) (fun x hx=>by
  obtain ⟨k,hk,rfl⟩:=List.mem_map.1 hx
  obtain ⟨v,hv⟩:=(hf k).2 hk
  obtain ⟨e,he,hek,_⟩:=h2 k v hv
  exact List.mem_map.2 ⟨e,he,hek⟩)
 simp at g1 g2
 omega
def wM (l:List Int):Int→Option Value:=fun k=>if k∈l then some (.int .i64 (l.idxOf k:Int)) else none
theorem numG_nil:wM []=fun _=>none:=by funext k;simp [wM]
theorem numG_put {l:List Int} {k:Int} (h:k∉l):qQ (wM l) k (.int .i64 (l.length:Int))=wM (l++[k]):=by
 funext x
 unfold qQ wM
 by_cases e:x=k
 · subst e
   rw [if_pos rfl,if_pos (by simp),List.idxOf_append,if_neg h]
   simp
 · rw [if_neg e]
   by_cases hx:x∈l
   · rw [if_pos hx,if_pos (by simp [hx]),List.idxOf_append,if_pos hx]
   · rw [if_neg hx,if_neg (by simp [hx,e])]
theorem gP {α:Type} [DecidableEq α]:∀(l acc:List α),acc.Nodup→(l.foldl qt acc).Nodup
 | [],_,h=>h
 | k::l,acc,h=>by
  rw [List.foldl_cons]
  refine gP l _ ?_
  unfold qt
  split
  · exact h
  · rename_i hk
    exact List.nodup_append.2 ⟨h,by simp,fun a ha b hb=>by rw [List.mem_singleton] at hb;subst hb;rintro rfl;exact hk ha⟩
theorem gO {α:Type} [DecidableEq α] (l:List α):(xC l).Nodup:=gP l [] List.nodup_nil
theorem numG_count {w:World} {b n:Nat} {us:List Int} (h:MapOf (Value.int .i64) w b n (wM us)) (hu:us.Nodup):∃es clock,w.heap[b]?=some (.map es clock)∧es.size=us.length:=
 h.count (fun a b e=>by injection e) hu (fun k=>by
  unfold wM
  by_cases hk:k∈us
  · simp [hk]
  · simp [hk])
theorem Own.same {w w':World} {base:Nat} {v:Value} {xs:List Int} (h:Own w base v xs) (hs:∀k,base≤k→k<w.heap.size→w'.heap[k]?=w.heap[k]?):Own w' base v xs:=by
 refine ⟨h.1,?_⟩
 rcases h.2 with hn | ⟨g,cap,cur,hv,hb,hg,rest⟩
 · exact .inl hn
 · exact .inr ⟨g,cap,cur,hv,hb,(hs g hb (zj hg)).trans hg,rest⟩
structure NbIn (B:Nat) (S:Array Value) (F:Value) (R:Nat→Prop) (us ls:List Int) (w W:World):Prop where
 wrote:Wrote R w W
 b0:W.heap[B]?=some (.cells S 35 (0,0))
 b1:W.heap[B+1]?=some (.cells #[F] 85 (0,0))
 b3:W.heap[B+1+1+1]?=some (.cells #[.map (some (B+1+1))] 108 (0,0))
 b5:W.heap[B+1+1+1+1+1]?=some (.cells S 35 (0,0))
 hm:∃m,MapOf (Value.int .i64) W (B+1+1) m (wM us)
 box:∃P c,W.heap[B+1+1+1+1]?=some (.cells #[.slice P ls.length c] 36 (0,0))∧Own W (B+6) (.slice P ls.length c) ls
 sz:B+6≤W.heap.size
section
variable {B:Nat} {S:Array Value} {F:Value} {R:Nat→Prop} {us ls:List Int} {w W W':World}
theorem NbIn.turn {row:Option Nat} (h:NbIn B S F R us ls w W) (hw:w.heap.size≤B) (hg:W.grownBy W' row) (hr:∀r,row=some r→B+6≤r∧∃o:Obj,W.heap[r]?=some o∧o.isCells=false):NbIn B S F R us ls w W':=by
 obtain ⟨P,c,hb,ho⟩:=h.box
 obtain ⟨m,hm⟩:=h.hm
 have hsz:=h.sz
 have old:∀k,k<B+6→W'.heap[k]?=W.heap[k]?:=fun k hk=>hg.block k (by omega) (fun e=>by have:=(hr k e.symm).1;omega)
 refine ⟨h.wrote.trans (Wrote.of_grown (R:=fun k=>w.heap.size≤k) hg (fun k e hk=>by have:=(hr k e).1;omega)) (fun k h1 h2=>by omega),(old B (by omega)).trans h.b0,(old _ (by omega)).trans h.b1,(old _ (by omega)).trans h.b3,(old _ (by omega)).trans h.b5,⟨m,hm.same (old _ (by omega))⟩,⟨P,c,(old _ (by omega)).trans hb,ho.kept hg ?_⟩,Nat.le_trans hsz hg.size⟩
 rcases e:(Value.slice P ls.length c).ownBlock with _ | g
 · exact .inl rfl
 · refine .inr fun e2=>?_
   obtain ⟨o,h1,h2⟩:=(hr g e2.symm).2
   have:=(vy ho g e).2 o h1
   rw [this] at h2;cases h2
theorem NbIn.call (h:NbIn B S F R us ls w W) (hw:Wrote R W W') (hR:∀k,R k→k<B):NbIn B S F R us ls w W':=by
 obtain ⟨P,c,hb,ho⟩:=h.box
 obtain ⟨m,hm⟩:=h.hm
 have hsz:=h.sz
 have old:∀k,B≤k→k<W.heap.size→W'.heap[k]?=W.heap[k]?:=fun k hk hl=>hw.block k hl (fun e=>by have:=hR k e;omega)
 exact ⟨h.wrote.trans hw (fun _ _ h=>h),(old B (by omega) (by omega)).trans h.b0,(old _ (by omega) (by omega)).trans h.b1,(old _ (by omega) (by omega)).trans h.b3,(old _ (by omega) (by omega)).trans h.b5,⟨m,hm.same (old _ (by omega) (by omega))⟩,⟨P,c,(old _ (by omega) (by omega)).trans hb,ho.same fun k hk hl=>old k (by omega) hl⟩,Nat.le_trans hsz hw.size⟩
theorem NbIn.put {us':List Int} {m:Nat} (h:NbIn B S F R us ls w W) (hw:w.heap.size≤B) (hg:W.grownBy W' (some (B+1+1))) (hm:MapOf (Value.int .i64) W' (B+1+1) m (wM us')):NbIn B S F R us' ls w W':=by
 obtain ⟨P,c,hb,ho⟩:=h.box
 have hsz:=h.sz
 have old:∀k,k<W.heap.size→k≠B+1+1→W'.heap[k]?=W.heap[k]?:=fun k hk hl=>hg.block k hk (fun e=>hl (by cases e;rfl))
 exact ⟨h.wrote.trans (Wrote.of_grown (R:=fun k=>w.heap.size≤k) hg (fun k e hk=>by cases e;omega)) (fun k h1 h2=>by omega),(old B (by omega) (by omega)).trans h.b0,(old _ (by omega) (by omega)).trans h.b1,(old _ (by omega) (by omega)).trans h.b3,(old _ (by omega) (by omega)).trans h.b5,⟨m,hm⟩,⟨P,c,(old _ (by omega) (by omega)).trans hb,ho.same fun k hk hl=>old k hl (by omega)⟩,Nat.le_trans hsz hg.size⟩
theorem NbIn.push {P P2:Option Addr} {c c2:Nat} {u:Int} {W1:World} (h:NbIn B S F R us ls w W) (hw:w.heap.size≤B) (hb:W.heap[B+1+1+1+1]?=some (.cells #[.slice P ls.length c] 36 (0,0))) (ho:Own W (B+6) (.slice P ls.length c) ls)
  (ho1:Own W1 (B+6) (.slice P2 (ls.length+1) c2) (ls++[u])) (hg:W.grownBy W1 (Value.slice P ls.length c).ownBlock) :
  NbIn B S F R us (ls++[u]) w (W1.setCell ⟨B+1+1+1+1,0,none⟩ (.slice P2 (ls.length+1) c2)):=by
 obtain ⟨m,hm⟩:=h.hm
 have hsz:=h.sz
 have hlo:=ho.lt
 have hs1:=hg.size
 have old1:∀k,k<B+6→W1.heap[k]?=W.heap[k]?:=fun k hk=>hg.block k (by omega) (fun e=>by have:=(hlo k e.symm).1;omega)
 have hb1:=(old1 _ (by omega)).trans hb
 obtain ⟨x1,x2,x3⟩:=qR hb1 (.slice P2 (ls.length+1) c2)
 have old:∀k,k<B+6→k≠B+1+1+1+1→(W1.setCell ⟨B+1+1+1+1,0,none⟩ (.slice P2 (ls.length+1) c2)).heap[k]?=W.heap[k]?:=fun k hk hne=>(x3 k hne).trans (old1 k hk)
 refine ⟨?_,(old B (by omega) (by omega)).trans h.b0,(old _ (by omega) (by omega)).trans h.b1,(old _ (by omega) (by omega)).trans h.b3,(old _ (by omega) (by omega)).trans h.b5,⟨m,hm.same (old _ (by omega) (by omega))⟩,⟨P2,c2,by rw [List.length_append];exact x1,by rw [List.length_append];exact ho1.same fun k hk _=>x3 k (by omega)⟩,by rw [show (W1.setCell ⟨B+1+1+1+1,0,none⟩ (.slice P2 (ls.length+1) c2)).heap.size=W1.heap.size by simp [World.setCell]];omega⟩
 have a1:Wrote (fun k=>w.heap.size≤k) W W1:=Wrote.of_grown hg (fun k e hk=>by have:=(hlo k e).1;omega)
 have a2:Wrote (fun k=>w.heap.size≤k) W1 (W1.setCell ⟨B+1+1+1+1,0,none⟩ (.slice P2 (ls.length+1) c2)):=Wrote.of_grown (zQ W1 _ 0 _) (fun k e hk=>by cases e;omega)
 exact h.wrote.trans (a1.trans a2 (fun _ _ h=>h)) (fun k h1 h2=>by omega)
theorem NbIn.keeps {P:Option Addr} {c:Nat} {W1:World} (h:NbIn B S F R us ls w W) (hb:W.heap[B+1+1+1+1]?=some (.cells #[.slice P ls.length c] 36 (0,0))) (ho:Own W (B+6) (.slice P ls.length c) ls)
  (hg:W.grownBy W1 (Value.slice P ls.length c).ownBlock) (v:Value):KeepsFrom (B+6) W (W1.setCell ⟨B+1+1+1+1,0,none⟩ v)∧KeepB (fun k=>k=B+1+1+1+1+1) W (W1.setCell ⟨B+1+1+1+1,0,none⟩ v):=by
 have hlo:=ho.lt
 have hsz:=h.sz
 have hs1:=hg.size
 have hb1:=(hg.block (B+1+1+1+1) (by omega) (fun e=>by have:=(hlo _ e.symm).1;omega)).trans hb
 obtain ⟨x1,x2,x3⟩:=qR hb1 v
 refine ⟨⟨by simp [World.setCell];omega,fun k o hk hk1 ho1=>?_⟩,⟨by simp [World.setCell];omega,fun k hk hl=>?_⟩⟩
 · refine (x3 k (by omega)).trans ((hg.block k (zj hk1) (fun e=>?_)).trans hk1)
   have:=(vy ho k e.symm).2 o hk1
   rw [this] at ho1;cases ho1
 · subst hk
   exact (x3 _ (by omega)).trans (hg.block _ (by omega) (fun e=>by have:=(hlo _ e.symm).1;omega))
end
end
section
open Go.RowKit Go.Shelf
attribute [local go_sem] Oper.semAt_some
set_option maxRecDepth 100000 in
theorem uL (s:Sy) (K M:Nat) (hK:K≤100) (hM:M≤100) (hk:s.p.k=(K:Int)) (hx:s.xs.length=M) (A SV AV AX:Option Addr) (kc ks kv kx:Nat) (kf:Nat) (kb:Array Value) (ek:Enters Tryz.prog kf) (key:Nat×Nat→Int)
  (R:Nat→Prop) (J:World→Prop) (w:World) (hR:∀k,R k→k<w.heap.size) (hJ0:J w) (hJ:∀W W',J W→Wrote (fun k=>w.heap.size≤k) W W'→J W')
  (hkey:∀x∈zt (K+1) 0 M,∀W,J W→w.heap.size≤W.heap.size→Calls Tryz.prog kf (#[.agg #[.int .i64 x.1,.int .i64 x.2]]++kb) W fun e w'=>e=.returned (.int .i64 (key x))∧J w'∧Wrote R W w') :
  Calls Tryz.prog 53 #[.agg (s.vs_ A kc SV ks AV kv AX kx),.func (.func kf) #[] kb] w fun e w'=>∃v,e=.returned v∧Own w' w.heap.size v (yR ((zt (K+1) 0 M).map key))∧J w'∧Wrote R w w':=by
 have hC:PtC (s.vs_ A kc SV ks AV kv AX kx) K M AX kx:=⟨by unfold Sy.vs_;rw [←hk];rfl,by unfold Sy.vs_;rw [←hx];rfl⟩
 have hlen:(zt (K+1) 0 M).length≤20000:=by
  rw [xF (K+1) M (by omega)]
  exact Nat.le_trans (Nat.mul_le_mul hM (show K+1≤101 by omega)) (by decide)
 have HIT:=zH (fun (bs:Nat) (W:World) (hb:W.heap[bs]?=some (.cells (s.vs_ A kc SV ks AV kv AX kx) 35 (0,0)))=>vE (s.vs_ A kc SV ks AV kv AX kx) K M hK hM AX kx hC bs W hb)
 have HAL:=zH (fun (W:World)=>Zy s A SV AV AX kc ks kv kx W)
 have HKEY:=zH hkey
 have HJ:=zH hJ
 have HJ0:=zH hJ0
 have hz:∀W:World,(zeroValue 3).run Tryz.prog W=.ok (.int .i64 0) W:=fun W=>by kernel_rfl
 have ht:Tryz.prog.underlying 108=some (.map 3 3):=Tryz.underlying108
 have hmm:=@run_makeMap Tryz.prog
 obtain ⟨L,hL⟩:∃L,zt (K+1) 0 M=L:=⟨_,rfl⟩
 rw [hL] at HIT HKEY hlen ⊢
 unfold Sy.vs_ at HIT HAL ⊢
 clear hkey hJ hJ0 hL hC hk hx
 refine yE Tryz.func53 rfl ?_
 simp only [Tryz.ntmps53,List.size_toArray,List.length_cons,List.length_nil,Nat.reduceAdd,Nat.reduceSub,Array.replicate_succ,Array.replicate_zero,List.push_toArray,List.append_toArray,List.nil_append,List.cons_append]
 go_wp2_with fail
 refine (HAL.out _).mono ?_
 rintro e w2 ⟨rfl,hw2⟩
 obtain ⟨S,hS⟩:∃S,S=#[Value.int .i64 s.p.t.n,.int .i64 s.p.t.ins,.int .i64 s.p.t.outs,.slice A s.p.t.cases.length kc,.int .i64 s.p.a.n,.slice SV s.p.a.sts.length ks,.int .i64 s.p.k,.int .i64 s.n,.slice AV s.vs.length kv,.slice AX s.xs.length kx]:=⟨_,rfl⟩
 rw [←hS] at hw2 HIT
 have hNW:NbIn w.heap.size S (.func (.func kf) #[] kb) R [] [] w w2∧Wrote (fun k=>w.heap.size≤k) w w2:=by
  obtain ⟨a1,h1,x1,y1,z1⟩:=zm w S 35
  rw [h1] at hw2
  obtain ⟨a2,h2,x2,y2,z2⟩:=zm a1 #[.func (.func kf) #[] kb] 85
  rw [h2] at hw2
  obtain ⟨a3,h3⟩:∃a3,a2.alloc (.map #[] 0)=a3:=⟨_,rfl⟩
  have m3:MapOf (Value.int .i64) a3 a2.heap.size 0 (fun _=>none):=by rw [←h3];exact MapOf.made a2
  have y3:a3.heap.size=a2.heap.size+1:=by rw [←h3];simp
  have z3:Below a2.heap.size a2 a3:=by rw [←h3];exact zW _ _
  rw [h3] at hw2
  obtain ⟨a4,h4,x4,y4,z4⟩:=zm a3 #[.map (some (w.heap.size+1+1))] 108
  rw [h4] at hw2
  obtain ⟨a5,h5,x5,y5,z5⟩:=zm a4 #[.slice none 0 0] 36
  rw [h5] at hw2
  obtain ⟨a6,h6,x6,y6,z6⟩:=zm a5 S 35
  rw [h6] at hw2
  subst hw2
  rw [y1] at x2 y2
  rw [y2] at m3 y3
  rw [y3] at x4 y4
  rw [y4] at x5 y5
  rw [y5] at x6 y6
  have w1:Wrote (fun k=>w.heap.size≤k) w a6:=by
   have b1:=(Wrote.of_below (R:=fun k=>w.heap.size≤k) z1).trans (Wrote.of_below (R:=fun k=>w.heap.size≤k) z2) (fun _ _ h=>h)
   have b2:=(b1.trans (Wrote.of_below (R:=fun k=>w.heap.size≤k) z3) (fun _ _ h=>h)).trans (Wrote.of_below (R:=fun k=>w.heap.size≤k) z4) (fun _ _ h=>h)
   exact ((b2.trans (Wrote.of_below (R:=fun k=>w.heap.size≤k) z5) (fun _ _ h=>h)).trans (Wrote.of_below (R:=fun k=>w.heap.size≤k) z6) (fun _ _ h=>h))
  refine ⟨⟨w1.more (fun k h1 h2=>by omega),?_,?_,?_,x6,⟨0,?_⟩,⟨none,0,?_,Own.nil _ _⟩,by omega⟩,w1⟩
  · exact (z6.block _ (by omega)).trans ((z5.block _ (by omega)).trans ((z4.block _ (by omega)).trans ((z3.block _ (by omega)).trans ((z2.block _ (by omega)).trans x1))))
  · exact (z6.block _ (by omega)).trans ((z5.block _ (by omega)).trans ((z4.block _ (by omega)).trans ((z3.block _ (by omega)).trans x2)))
  · exact (z6.block _ (by omega)).trans ((z5.block _ (by omega)).trans x4)
  · rw [numG_nil]
    exact m3.same ((z6.block _ (by omega)).trans ((z5.block _ (by omega)).trans (z4.block _ (by omega))))
  · exact (z6.block _ (by omega)).trans x5
 have hsz2:w2.heap.size=w.heap.size+6:=by rw [←hw2];simp
 have HJ2:Hid (J w2):=HJ.out w w2 HJ0.out hNW.2
 have HIT2:=zH (HIT.out (w.heap.size+1+1+1+1+1) w2 hNW.1.b5)
 have HN:=zH hNW.1
 clear hNW hw2 HIT HAL HJ0 hmm hS
 go_wp2_with fail
 refine qW rfl (enters_of Tryz.func67 (by kernel_rfl) rfl) HIT2.out (by rintro x rfl;omega) (fun _=>rfl)
  (fun (pre:List { x:Nat×Nat // x∈L }) (X:World)=>NbIn w.heap.size S (.func (.func kf) #[] kb) R (xC (pre.map fun x=>key x.1)) (yR (pre.map fun x=>key x.1)) w X∧J X)
  (fun _ _ _=>False)
  ?hI (fun _ _ _ _ _ h _ _=>h)
  ⟨HN.out,HJ2.out⟩ (fun x=>#[.int .i64 x.1,.int .i64 x.2]) 84 ?a1 ?assign ?body ?done ?stop (fun _ _ h=>by have:=h.1.sz;omega)
 case hI=>
  intro pre X X' row hX hg hr
  refine ⟨hX.1.turn (Nat.le_refl _) hg (fun r e=>⟨by have:=(hr r e).1;omega,(hr r e).2⟩),HJ.out X X' hX.2 (Wrote.of_grown hg fun k e hk=>by have:=(hr k e).1;omega)⟩
 case assign=>
  intro l pre x X K' hI hK
  obtain ⟨g',hg'⟩:∃g',g'=X.heap.size:=⟨_,rfl⟩
  have HK:=zH (hK g' hg' ⟨hI.1.turn (Nat.le_refl _) (row:=none) ⟨rfl,rfl,rfl,by simp,fun k hk _=>Below.heap_alloc X _ k hk⟩ (fun r e=>by cases e),HJ.out X _ hI.2 (Wrote.of_below (zW X _))⟩)
  have HG:=zH hg'
  clear hK hg' hI
  gi_wp2
  rw [←HG.out]
  exact HK.out
 case body=>
  intro l pre x g W3 hg hgb hI hlt
  obtain ⟨us,hus⟩:∃us,xC (pre.map fun x=>key x.1)=us:=⟨_,rfl⟩
  obtain ⟨ls,hls⟩:∃ls,yR (pre.map fun x=>key x.1)=ls:=⟨_,rfl⟩
  have hll:ls.length≤20000:=by rw [←hls,xL,List.length_map];omega
  have hun:us.Nodup:=by rw [←hus];exact gO _
  obtain ⟨kk,hkk⟩:∃kk,key x.1=kk:=⟨_,rfl⟩
  have hus2:xC ((pre++[x]).map fun x=>key x.1)=qt us kk:=by rw [List.map_append,List.map_cons,List.map_nil,qx,hus,hkk]
  have hls2:yR ((pre++[x]).map fun x=>key x.1)=ls++[if kk∈us then (us.idxOf kk:Int) else (us.length:Int)]:=by
   rw [List.map_append,List.map_cons,List.map_nil,qA,hus,hls,hkk]
   congr 2
   by_cases h:kk∈us
   · rw [if_pos h,if_pos (yq.1 (hus▸h))]
   · rw [if_neg h,if_neg (fun e=>h (hus▸yq.2 e))]
  rw [hus,hls] at hI
  have hcall:=HKEY.out x.1 x.2 W3 hI.2 (by have:=hI.1.sz;omega)
  rw [hkk] at hcall
  have HC:=zH hcall
  have HN3:=zH hI.1
  have HU2:=zH hus2
  have HL2:=zH hls2
  have HUN:=zH hun
  have q1:=zh hI.1.b1 0 rfl
  have g0:=zh hgb 0 rfl
  have g1:=zh hgb 1 rfl
  clear hI hcall hus hls hus2 hls2 hkk hgb hun HKEY HIT2 HN HJ2
  gi_wp2_with fail
  refine ⟨trivial,?_⟩
  rw [ek]
  refine ⟨fun _=>by omega,(CallsIn.inRound l ((callsIn_wide (n:=6)).2 HC.out)).mono ?_⟩
  rintro e W4 ⟨rfl,hJ4,hw4⟩
  have HN4:=zH (HN3.out.call hw4 hR)
  have HJ4:=zH hJ4
  have HW4:=zH hw4
  have q3:=zh HN4.out.b3 0 rfl
  obtain ⟨m,hm⟩:=HN4.out.hm
  have hlk:=hm.look2 xm ht (hz W4) kk
  have HM4:=zH hm
  clear q1 g0 g1 HC hJ4 hw4 hm
  by_cases hin:kk∈us
  case pos=>
   have hf:wM us kk=some (.int .i64 (us.idxOf kk:Int)):=if_pos hin
   rw [hf] at hlk
   simp only [Option.getD_some,Option.isSome_some] at hlk
   have hlk1:=HM4.out.look xm ht (hz W4) kk
   rw [hf] at hlk1
   simp only [Option.getD_some] at hlk1
   have hu:qt us kk=us:=if_pos hin
   have HU3:Hid (xC ((pre++[x]).map fun x=>key x.1)=us):=HU2.out.trans hu
   have HL3:Hid (yR ((pre++[x]).map fun x=>key x.1)=ls++[(us.idxOf kk:Int)]):=HL2.out.trans (by rw [if_pos hin])
   clear HU2 HL2
   have HU2:=HU3
   have HL2:=HL3
   clear HU3 HL3 hf hu hin HM4
   obtain ⟨P,c,hbx,ho⟩:=HN4.out.box
   have HBX:=zH hbx
   have HO:=zH ho
   have q4:=zh hbx 0 rfl
   clear hbx ho
   gi_wp2_with (gi_at_builtin; go_must (refine vK rfl _ _ rfl (w.heap.size + 6) (.slice P ls.length c) ls (us.idxOf kk : Int) rfl HO.out rfl (by omega) (by have := HN4.out.sz; omega) ?_); intro v' W6 hown1 hg6 hb6
                obtain ⟨A6,k6,rfl,h61,h62,_⟩:=hown1.form
                have h4b:=(hg6.block (w.heap.size+1+1+1+1) (zj HBX.out) (fun e=>uJ HO.out HBX.out (by decide) e.symm)).trans HBX.out
                have q6:=zh h4b 0 rfl
                have f6:=zi h4b 0
                have l6:=zj h4b
                have HO6:=zH hown1
                have HG6:=zH hg6
                clear h4b hown1 hg6 hb6)
   have hka:=HN4.out.keeps HBX.out HO.out HG6.out (.slice A6 (ls.length+1) k6)
   have hpu:=HN4.out.push (Nat.le_refl _) HBX.out HO.out (by have:=HO6.out;simpa using this) HG6.out
   refine ⟨((show KeepsFrom w2.heap.size W3 W4 from ⟨HW4.out.size,fun k o hk hk1 _=>(HW4.out.block k (zj hk1) (fun e=>by have:=hR k e;omega)).trans hk1⟩)).trans (hsz2▸hka.1),((show KeepB (fun k=>k=w.heap.size+1+1+1+1+1) W3 W4 from ⟨HW4.out.size,fun k hk hl=>HW4.out.block k hl (fun e=>by have:=hR k e;omega)⟩)).trans hka.2,?_,?_⟩
   · rw [HU2.out,HL2.out]
     exact hpu
   · have a2:Wrote (fun k=>w.heap.size≤k) W4 W6:=Wrote.of_grown HG6.out (fun k e hk=>by have:=(HO.out.lt k e).1;omega)
     have a3:Wrote (fun k=>w.heap.size≤k) W6 (W6.setCell ⟨w.heap.size+1+1+1+1,0,none⟩ (.slice A6 (ls.length+1) k6)):=Wrote.of_grown (zQ W6 _ 0 _) (fun k e hk=>by cases e;omega)
     exact HJ.out _ _ HJ4.out (a2.trans a3 (fun _ _ h=>h))
  case neg=>
   have hf:wM us kk=none:=if_neg hin
   rw [hf] at hlk
   simp only [Option.getD_none,Option.isSome_none] at hlk
   have hu:qt us kk=us++[kk]:=if_neg hin
   have HU3:Hid (xC ((pre++[x]).map fun x=>key x.1)=us++[kk]):=HU2.out.trans hu
   have HL3:Hid (yR ((pre++[x]).map fun x=>key x.1)=ls++[(us.length:Int)]):=HL2.out.trans (by rw [if_neg hin])
   obtain ⟨es,clock,hes,hesz⟩:=numG_count HM4.out HUN.out
   obtain ⟨W5,hrun,hm5,hg5⟩:=HM4.out.put xm ht kk (.int .i64 (us.length:Int))
   rw [numG_put hin] at hm5
   have HN5:=zH (HN4.out.put (Nat.le_refl _) hg5 hm5)
   have HG5:=zH hg5
   have HM5:=zH hm5
   have hlk1:=hm5.look xm ht (hz W5) kk
   have hf5:wM (us++[kk]) kk=some (.int .i64 (us.length:Int)):=by
    unfold wM
    rw [if_pos (by simp),List.idxOf_append,if_neg hin];simp
   rw [hf5] at hlk1
   simp only [Option.getD_some] at hlk1
   have HJ5:=zH (HJ.out W4 W5 HJ4.out (Wrote.of_grown hg5 fun k e hk=>by cases e;omega))
   have HW5:Hid (KeepsFrom w2.heap.size W4 W5∧KeepB (fun k=>k=w.heap.size+1+1+1+1+1) W4 W5):=by
    refine ⟨⟨hg5.size,fun k o hk hk1 _=>(hg5.block k (zj hk1) (fun e=>by cases e;omega)).trans hk1⟩,⟨hg5.size,fun k hk hl=>hg5.block k hl (fun e=>by cases e;omega)⟩⟩
   have q35:=zh HN5.out.b3 0 rfl
   obtain ⟨P,c,hbx,ho⟩:=HN5.out.box
   have HBX:=zH hbx
   have HO:=zH ho
   have q4:=zh hbx 0 rfl
   clear HU2 HL2
   have HU2:=HU3
   have HL2:=HL3
   clear HU3 HL3 hf hu hin HM4 hm5 hg5 hf5 hbx ho
   have hln:(Builtin.len_ #[108] 3 #[.map (some (w.heap.size+1+1))]).run Tryz.prog W4=.ok (.int .i64 (us.length:Int)) W4:=by
    rw [←hesz]
    exact run_len_map W4 _ _ _ es clock (by kernel_rfl) hes
   clear hes hesz
   gi_wp2_with (gi_at_builtin; go_must (refine vK rfl _ _ rfl (w.heap.size + 6) (.slice P ls.length c) ls (us.length : Int) rfl HO.out rfl (by omega) (by have := HN5.out.sz; omega) ?_); intro v' W6 hown1 hg6 hb6
                obtain ⟨A6,k6,rfl,h61,h62,_⟩:=hown1.form
                have h4b:=(hg6.block (w.heap.size+1+1+1+1) (zj HBX.out) (fun e=>uJ HO.out HBX.out (by decide) e.symm)).trans HBX.out
                have q6:=zh h4b 0 rfl
                have f6:=zi h4b 0
                have l6:=zj h4b
                have HO6:=zH hown1
                have HG6:=zH hg6
                clear h4b hown1 hg6 hb6)
   have hka:=HN5.out.keeps HBX.out HO.out HG6.out (.slice A6 (ls.length+1) k6)
   have hpu:=HN5.out.push (Nat.le_refl _) HBX.out HO.out (by have:=HO6.out;simpa using this) HG6.out
   refine ⟨(((show KeepsFrom w2.heap.size W3 W4 from ⟨HW4.out.size,fun k o hk hk1 _=>(HW4.out.block k (zj hk1) (fun e=>by have:=hR k e;omega)).trans hk1⟩)).trans HW5.out.1).trans (hsz2▸hka.1),(((show KeepB (fun k=>k=w.heap.size+1+1+1+1+1) W3 W4 from ⟨HW4.out.size,fun k hk hl=>HW4.out.block k hl (fun e=>by have:=hR k e;omega)⟩)).trans HW5.out.2).trans hka.2,?_,?_⟩
   · rw [HU2.out,HL2.out]
     exact hpu
   · have a2:Wrote (fun k=>w.heap.size≤k) W5 W6:=Wrote.of_grown HG6.out (fun k e hk=>by have:=(HO.out.lt k e).1;omega)
     have a3:Wrote (fun k=>w.heap.size≤k) W6 (W6.setCell ⟨w.heap.size+1+1+1+1,0,none⟩ (.slice A6 (ls.length+1) k6)):=Wrote.of_grown (zQ W6 _ 0 _) (fun k e hk=>by cases e;omega)
     exact HJ.out _ _ HJ5.out (a2.trans a3 (fun _ _ h=>h))
 case done=>
  intro D ys W hD hys hI hDk
  have hmap:ys.map (fun x=>key x.1)=L.map key:=by rw [show ys.map (fun x=>key x.1)=(ys.map (·.1)).map key by rw [List.map_map];rfl,hys]
  rw [hmap] at hI
  obtain ⟨hN,hJW⟩:=hI
  obtain ⟨P,c,hbx,ho⟩:=hN.box
  have q4:=zh hbx 0 rfl
  have HN9:=zH hN
  have HO:=zH ho
  have HJ9:=zH hJW
  have HDk:=zH hDk
  clear hN ho hbx hJW hDk hys hmap
  go_wp2_with fail
  refine yZ (B:=w2.heap.size) (w:=W) (show Marks w2.heap.size _ W from ⟨[D],rfl,by simp,fun r hr=>by rw [List.mem_singleton] at hr;subst hr;exact ⟨hD,HDk.out⟩⟩) (v:=.slice P (yR (L.map key)).length c) (fun W=>by kernel_rfl) ?_
  intro X hS
  have hb:Below w2.heap.size W X:=hS.below
  refine ⟨_,rfl,(HO.out.shut hS).low (by omega),HJ.out W X HJ9.out ⟨hb.os,hb.tape,hb.output,hb.size,fun k hk hn=>hb.block k (by omega)⟩,HN9.out.wrote.trans (R':=fun k=>w2.heap.size≤k) ⟨hb.os,hb.tape,hb.output,hb.size,fun k hk hn=>hb.block k (by omega)⟩ (fun k h1 h2=>by omega)⟩
 case stop=>
  intro D c pre W _ _ h
  exact h.elim
end
section
theorem nodup_idx {α:Type} {l:List α} (h:l.Nodup) {i j:Nat} (hi:i<l.length) (hj:j<l.length) (e:l[i]=l[j]):i=j:=by
 have hp:=List.pairwise_iff_getElem.1 h
 rcases Nat.lt_trichotomy i j with g | g | g
 · exact absurd e (hp i j hi hj g)
 · exact g
 · exact absurd e.symm (hp j i hj hi g)
def xw (x:Exn) (k q:Nat):Int:=(x.views.getD k []).getD q 0
structure Sees (s:Sy) (K N:Nat):Prop where
 nodup:s.vs.Nodup
 v0:∀x∈s.xs,∀q,q<N→At s.vs (xw x 0 q) (yW q ((yf s.p x.c.toNat).getD q 0))
 vk:∀x∈s.xs,∀k,k<K→∀q,q<N→At s.vs (xw x (k+1) q) (qa (x.word.getD k default) (k+1) q (x.views.getD k []))
 prs:s.xs.map (fun x=>(x.c.toNat,x.word))=zy s.p
 cs:∀x∈s.xs,∃c:Nat,x.c=(c:Int)∧c<s.p.t.cases.length∧x.word∈zS s.p.a K 0
theorem Qr {p:Pb} {tab:List Vw} {c:Nat} {word:List Rd} {x:Exn} {vs:List Vw} (h:XFin p tab c word x vs) (k:Nat) (hk:k≤word.length):x.views.getD k []=vG vs p.t.n.toNat (yf p c) word k:=by
 rw [h.hv];exact jt _ _ _ _ _ k hk
theorem xfin_at {p:Pb} {tab:List Vw} {c:Nat} {word:List Rd} {x:Exn} {vs:List Vw} (h:XFin p tab c word x vs) (k q:Nat) (hk:k≤word.length) (hq:q<p.t.n.toNat):At tab (xw x k q) (fV vs p.t.n.toNat (yf p c) word k q):=by
 obtain ⟨us,hus⟩:=h.ht
 unfold xw
 rw [Qr h k hk,hus]
 exact (vx vs p.t.n.toNat (yf p c) word word.length k q hk hq).mono
theorem jB {p:Pb} {K N:Nat} (hF:Fine (zx p) K N):Sees (zx p) K N:=by
 obtain ⟨f1,f2,f3⟩:=ZK p (zy p)
 have hNN:p.t.n.toNat=N:=by have:p.t.n=(N:Int):=hF.pn;omega
 have hKK:p.k.toNat=K:=by have:p.k=(K:Int):=hF.k;omega
 have hpr:∀y∈zy p,y.2.length=K∧y.1<p.t.cases.length∧y.2∈zS p.a K 0:=fun y hy=>by
  unfold zy at hy
  obtain ⟨d,hd,hy⟩:=List.mem_flatMap.1 hy
  obtain ⟨w',hw',rfl⟩:=List.mem_map.1 hy
  rw [hKK] at hw'
  exact ⟨xH p.a _ 0 w' hw',by simpa using hd,hw'⟩
 have hx:∀x∈(zx p).xs,∃y∈zy p,∃vs,XFin p (zx p).vs y.1 y.2 x vs:=fun x hx=>by
  obtain ⟨i,hi,e⟩:=List.getElem_of_mem hx
  have hi2:i<(zy p).length:=by rw [←ql p (zy p)];exact hi
  obtain ⟨x',vs,hx',hh⟩:=f1 i hi2
  have:x=x':=by
   have h3:(zK p (zy p)).2[i]?=some x:=(List.getElem?_eq_getElem (l:=(zx p).xs) hi).trans (congrArg some e)
   exact Option.some.inj (h3.symm.trans hx')
  subst this
  exact ⟨_,List.getElem_mem hi2,vs,hh⟩
 refine ⟨f3,fun x hm q hq=>?_,fun x hm k hk q hq=>?_,?_,fun x hm=>?_⟩
 · obtain ⟨y,hy,vs,hh⟩:=hx x hm
   have h:=xfin_at hh 0 q (Nat.zero_le _) (by omega)
   rw [hh.hc,Int.toNat_natCast]
   exact h
 · obtain ⟨y,hy,vs,hh⟩:=hx x hm
   have hl:=(hpr y hy).1
   have h:=xfin_at hh (k+1) q (by omega) (by omega)
   rw [Qr hh k (by omega),hh.hw]
   exact h
 · show (zK p (zy p)).2.map _=zy p
   refine List.ext_getElem (by rw [List.length_map,ql]) fun i h1 h2=>?_
   obtain ⟨x',vs,hx',hh⟩:=f1 i h2
   rw [List.getElem_map]
   obtain ⟨h3,h4⟩:=List.getElem?_eq_some_iff.1 hx'
   rw [h4,hh.hc,hh.hw,Int.toNat_natCast]
 · obtain ⟨y,hy,vs,hh⟩:=hx x hm
   exact ⟨y.1,hh.hc,(hpr y hy).2.1,by rw [hh.hw];exact (hpr y hy).2.2⟩
section
variable {s:Sy} {K N:Nat}
theorem Sees.pr (h:Sees s K N) {x:Exn} (hx:x∈s.xs) {k q:Nat} (hk:k≤K) (hq:q<N):∃v,At s.vs (xw x k q) v∧v.p=(q:Int)∧v.r=(k:Int):=by
 cases k with
 | zero=>exact ⟨_,h.v0 x hx q hq,rfl,rfl⟩
 | succ k=>exact ⟨_,h.vk x hx k (by omega) q hq,rfl,rfl⟩
end
end
section
open Go.RowKit Go.Shelf
attribute [local go_sem] Oper.semAt_some
theorem zD {α:Type} {l:List α} {i:Nat} (h:i<l.length) (d:α):l.getD i d=l[i]:=by rw [List.getD_eq_getElem?_getD,List.getElem?_eq_getElem h];rfl
def qB (s:Sy) (q:Nat):List Int:=(zt (s.p.k.toNat+1) 0 s.xs.length).map fun x=>xw (s.xs.getD x.1 default) x.2 q
def qC (s:Sy) (q:Nat):List Int:=yR (qB s q)
def Y0 (s:Sy) (p:Int):List Int×Int:=if yn s≠0 then ([],yn s) else if p<0∨s.n≤p then ([],2) else (qC s p.toNat,0)
def XF (xs:List Int) (n:Int) (w:World) (e:Ending) (w':World):Prop:=∃A c,e=.returned (.tuple #[.slice A xs.length c,.int .i64 n])∧Own w' w.heap.size (.slice A xs.length c) xs∧Below w.heap.size w w'
theorem vu (s:Sy) (q:Nat):(qB s q).length=s.xs.length*(s.p.k.toNat+1):=by unfold qB;rw [List.length_map,xF _ _ (by omega)]
theorem keyL_at (s:Sy) (q i:Nat) (h:i<(qB s q).length):(qB s q)[i]=xw (s.xs.getD (i / (s.p.k.toNat+1)) default) (i % (s.p.k.toNat+1)) q:=by
 have h2:i<(zt (s.p.k.toNat+1) 0 s.xs.length).length:=by have:=h;unfold qB at this;simpa using this
 have:(qB s q)[i]=xw (s.xs.getD ((zt (s.p.k.toNat+1) 0 s.xs.length)[i]).1 default) ((zt (s.p.k.toNat+1) 0 s.xs.length)[i]).2 q:=by unfold qB;exact List.getElem_map ..
 rw [this,XR _ _ (by omega)]
set_option maxRecDepth 100000 in
theorem cls1_any (s:Sy) (K N:Nat) (hF:Fine s K N) (e k q:Nat) (he:e<s.xs.length) (hk:k≤K) (hq:q<N) (A SV AV AX:Option Addr) (kc ks kv kx bs bp:Nat) (w:World) (hX:XAt w w.heap.size AX s.xs)
  (hb:w.heap[bs]?=some (.cells (s.vs_ A kc SV ks AV kv AX kx) 35 (0,0))) (hp:w.heap[bp]?=some (.cells #[.int .i64 (q:Int)] 3 (0,0))) :
  Calls Tryz.prog 57 #[.agg #[.int .i64 (e:Int),.int .i64 (k:Int)],.pointer (some ⟨bs,0,none⟩),.pointer (some ⟨bp,0,none⟩)] w fun r w'=>r=.returned (.int .i64 (xw s.xs[e] k q))∧Below w.heap.size w w':=by
 obtain ⟨w1,hw1,d0,hs1,hB⟩:=zm w #[.int .i64 (e:Int),.int .i64 (k:Int)] 84
 have hxm:=List.getElem_mem he
 obtain ⟨hvl,hrow⟩:=hF.views _ hxm
 obtain ⟨bx,ox,A1,c1,A2,c2,eX,hbx,x0,x1,x2,hRw,hLv⟩:=(hX.keep hB).row e he
 subst eX
 obtain ⟨x,hx⟩:∃x,x=s.xs[e]:=⟨_,rfl⟩
 rw [←hx] at hvl hrow x2 hLv ⊢
 obtain ⟨bl,ol,A3,c3,eL,hbl,y1,hI⟩:=hLv.at_ k (by omega)
 subst eL
 obtain ⟨hl,hpos⟩:=hrow _ (List.getElem_mem (by omega:k<x.views.length))
 have hxw:∀row,x.views[k]'(by omega)=row→xw x k q=row.getD q 0:=fun row hr=>by unfold xw;rw [zD (by omega:k<x.views.length),hr]
 obtain ⟨row,hrw⟩:∃row,x.views[k]'(by omega)=row:=⟨_,rfl⟩
 rw [hxw row hrw]
 rw [hrw] at y1 hI hl
 obtain ⟨b4,o4,e4,hb4,z4⟩:=hI.at_ q (by omega)
 subst e4
 have hval:row[q]'(by omega)=row.getD q 0:=by rw [List.getD_eq_getElem?_getD,List.getElem?_eq_getElem (by omega)];rfl
 rw [hval] at z4
 obtain ⟨u,hu⟩:∃u,row.getD q 0=u:=⟨_,rfl⟩
 rw [hu] at z4 ⊢
 obtain ⟨nv,hnv⟩:∃nv,x.views.length=nv:=⟨_,rfl⟩
 rw [hnv] at x2 hvl
 obtain ⟨nr,hnr⟩:∃nr,row.length=nr:=⟨_,rfl⟩
 rw [hnr] at y1 hl
 have HW1:=zH hw1
 have HB:=zH hB
 have g0:=zh d0 0 rfl
 have g1:=zh d0 1 rfl
 have p0:=zh ((hB.block _ (zj hp)).trans hp) 0 rfl
 have p9:w1.cell? ⟨bs,9,none⟩=some (.slice (some ⟨bx,ox,none⟩) s.xs.length kx):=zh ((hB.block _ (zj hb)).trans hb) 9 rfl
 have h1:(0:Int)≤(e:Int):=by omega
 have h2:(e:Int)<(s.xs.length:Int):=by omega
 have h3:(0:Int)≤(k:Int):=by omega
 have h4:(k:Int)<(nv:Int):=by omega
 have h5:(0:Int)≤(q:Int):=by omega
 have h6:(q:Int)<(nr:Int):=by omega
 have lbs:=zj hb
 have lbp:=zj hp
 clear hw1 d0 hB hX hb hp hF hval hu hnv hnr hx hRw hLv hI hpos hrow hxm hxw hrw x0 x1 hl hvl
 go_enter Tryz.func57,Tryz.ntmps57
 go_wp2_with fail
 rw [HW1.out]
 go_quiet (fail)
 go_wp2_with fail
 go_ret
 exact ⟨rfl,zR HB.out _⟩
theorem gh {w w':World} (h:Wrote (fun _=>False) w w'):Below w.heap.size w w':=⟨h.os,h.tape,h.output,h.size,fun k hk=>h.block k hk (fun h=>h)⟩
set_option maxRecDepth 100000 in
theorem ve (s:Sy) (hs:LowS s) (hf:xY s.p) (p:Int) (A SV AV AX:Option Addr) (kc ks kv kx:Nat) (w:World) (hS:SyAt w w.heap.size A SV AV AX s) :
  Calls Tryz.prog 20 #[.agg (s.vs_ A kc SV ks AV kv AX kx),.int .i64 p] w (XF (Y0 s p).1 (Y0 s p).2 w):=by
 obtain ⟨w1,hw1,d0,d1,hs1,hB⟩:=yD w (s.vs_ A kc SV ks AV kv AX kx) #[.int .i64 p] 35 3
 have HV:=zH (ux s hs hf A SV AV AX kc ks kv kx w1 (hS.up hB))
 have HS1:=zH (hS.up hB)
 have HE:Hid (Y0 s p=if yn s≠0 then ([],yn s) else if p<0∨s.n≤p then ([],2) else (qC s p.toNat,0)):=rfl
 have HVF:=zH (fun h=>xq hf h)
 have HNB:=zH (fun (K N q:Nat) (hF:Fine s K N) (hq:q<N) (X:World) (hX:SyAt X X.heap.size A SV AV AX s) (bs bp:Nat) (hb:X.heap[bs]?=some (.cells (s.vs_ A kc SV ks AV kv AX kx) 35 (0,0))) (hp:X.heap[bp]?=some (.cells #[.int .i64 (q:Int)] 3 (0,0)))=>
  uL s K s.xs.length (by have:=hF.k6;omega) (by have:=hF.lx;omega) hF.k rfl A SV AV AX kc ks kv kx 57 #[.pointer (some ⟨bs,0,none⟩),.pointer (some ⟨bp,0,none⟩)]
   (enters_of Tryz.func57 (by kernel_rfl) rfl) (fun x=>xw (s.xs.getD x.1 default) x.2 q) (fun _=>False)
   (fun W=>XAt W X.heap.size AX s.xs∧W.heap[bs]?=some (.cells (s.vs_ A kc SV ks AV kv AX kx) 35 (0,0))∧W.heap[bp]?=some (.cells #[.int .i64 (q:Int)] 3 (0,0))∧X.heap.size≤W.heap.size) X (fun _ h=>h.elim)
   ⟨hX.fx,hb,hp,Nat.le_refl _⟩
   (fun W W' h hw=>by
    have hbl:Below X.heap.size W W':=⟨hw.os,hw.tape,hw.output,hw.size,fun k hk=>hw.block k (by have:=h.2.2.2;omega) (fun h2=>by omega)⟩
    exact ⟨h.1.keep hbl,(hbl.block _ (zj hb)).trans h.2.1,(hbl.block _ (zj hp)).trans h.2.2.1,Nat.le_trans h.2.2.2 hw.size⟩)
   (fun x hx W hJ hW=>by
    obtain ⟨_,h1,h2⟩:=xd _ _ x hx
    have he:x.1<s.xs.length:=by omega
    have:=cls1_any s K N hF x.1 x.2 q he (by omega) hq A SV AV AX kc ks kv kx bs bp W (hJ.1.more hJ.2.2.2) hJ.2.1 hJ.2.2.1
    refine this.mono ?_
    rintro r w' ⟨rfl,hb'⟩
    rw [zD he]
    refine ⟨rfl,⟨hJ.1.keep (hb'.mono hJ.2.2.2),(hb'.block _ (zj hJ.2.1)).trans hJ.2.1,(hb'.block _ (zj hJ.2.2.1)).trans hJ.2.2.1,Nat.le_trans hJ.2.2.2 hb'.size⟩,Wrote.of_below hb'⟩))
 have HKL:=zH (fun (K q:Nat) (h:s.p.k=(K:Int))=>(by unfold qC qB;rw [h];rfl:qC s q=yR ((zt (K+1) 0 s.xs.length).map fun x=>xw (s.xs.getD x.1 default) x.2 q)))
 obtain ⟨R,hR⟩:∃R,Y0 s p=R:=⟨_,rfl⟩
 obtain ⟨r,hr⟩:∃r,yn s=r:=⟨_,rfl⟩
 rw [hr] at HV HE HVF
 rw [hR] at HE ⊢
 unfold Sy.vs_ at hw1 d0 HV HNB ⊢
 have HW1:=zH hw1
 have HB:=zH hB
 have HD:=zH d0
 have HD1:=zH d1
 obtain ⟨p0,p1,p2,p3,p4,p5,p6,p7,p8,p9⟩:=zA d0
 clear hw1 d0 d1 hB hS hr hR hs hf
 go_enter Tryz.func20,Tryz.ntmps20
 go_wp2_with fail
 rw [HW1.out]
 go_wp2_with fail
 refine HV.out.mono ?_
 rintro e w2 ⟨rfl,hb2⟩
 have HB2:=zH (HB.out.trans (hb2.mono (by omega)))
 have HS2:=zH (HS1.out.up hb2)
 have d0:=(hb2.block _ (by omega:w.heap.size<w1.heap.size)).trans HD.out
 have d1:=(hb2.block _ (by omega:w.heap.size+1<w1.heap.size)).trans HD1.out
 clear p0 p1 p2 p3 p4 p5 p6 p7 p8 p9 hb2 HV HW1 HS1 HD HD1
 by_cases h0:r=0
 case neg=>
  have hR:Hid (R=([],r)):=HE.out.trans (if_pos h0)
  have e0:(r != 0)=true:=by simpa using h0
  clear HE HVF h0 d0 d1 HNB HKL
  go_wp2_with fail
  go_ret2
  rw [hR.out]
  exact ⟨none,0,rfl,Own.nil _ _,HB2.out⟩
 case pos=>
 subst h0
 obtain ⟨hsb,K,N,hF⟩:=HVF.out rfl
 clear hsb
 have hE2:R=if p<0∨s.n≤p then ([],2) else (qC s p.toNat,0):=HE.out.trans (if_neg (by simp))
 have hn:=hF.n
 have h5:=hF.n5
 rw [hn] at hE2
 have HE2:=zH hE2
 have HFF:=zH hF
 have HDD:=zH d0
 have q0:=zh d1 0 rfl
 have q7:w2.cell? ⟨w.heap.size,7,none⟩=some (.int .i64 (N:Int)):=by rw [←hn];exact zh d0 7 rfl
 have HD1:=zH d1
 clear HE HVF hE2 hF d0 d1 hn
 by_cases h1:p<0
 case pos=>
  have hR:Hid (R=([],2)):=HE2.out.trans (if_pos (.inl h1))
  clear HE2 HNB HKL
  go_wp2_with fail
  go_ret2
  rw [hR.out]
  exact ⟨none,0,rfl,Own.nil _ _,HB2.out⟩
 case neg=>
 obtain ⟨q,rfl⟩:=Int.eq_ofNat_of_zero_le (show 0≤p by omega)
 have e1:(decide ((q:Int)<0))=false:=by simp
 by_cases h2:q<N
 case neg=>
  have hR:Hid (R=([],2)):=HE2.out.trans (if_pos (.inr (by omega)))
  have e2:(decide ((N:Int)≤(q:Int)))=true:=by simp;omega
  have h3:(N:Int)≤(q:Int):=by omega
  clear HE2 HNB HKL
  go_wp2_with fail
  go_ret2
  rw [hR.out]
  exact ⟨none,0,rfl,Own.nil _ _,HB2.out⟩
 case pos=>
  have hR:Hid (R=(qC s q,0)):=HE2.out.trans (if_neg (by omega))
  have e2:(decide ((N:Int)≤(q:Int)))=false:=by simp;omega
  have h3:¬(N:Int)≤(q:Int):=by omega
  have HC:=zH (HNB.out K N q HFF.out h2 w2 HS2.out w.heap.size (w.heap.size+1) HDD.out HD1.out)
  have hkl:=HKL.out K q HFF.out.k
  have hn:=HFF.out.n
  rw [←hkl,hn] at HC
  have p0:=zh HDD.out 0 rfl
  have p1:=zh HDD.out 1 rfl
  have p2:=zh HDD.out 2 rfl
  have p3:=zh HDD.out 3 rfl
  have p4:=zh HDD.out 4 rfl
  have p5:=zh HDD.out 5 rfl
  have p6:=zh HDD.out 6 rfl
  have p8:=zh HDD.out 8 rfl
  have p9:=zh HDD.out 9 rfl
  clear HE2 HNB HKL HS2 hkl HFF hn
  go_wp2_with fail
  all_goals first | (exfalso;omega) | skip
  refine HC.out.mono ?_
  rintro e w3 ⟨v,rfl,ho,_,hw3⟩
  have HO:=zH ho
  have hb3:=gh hw3
  have HB3:=zH (HB2.out.trans (hb3.mono HB2.out.size))
  clear ho hw3 hb3 HC p0 p1 p2 p3 p4 p5 p6 q7 p8 p9
  obtain ⟨A6,k6,rfl,_,_,_⟩:=HO.out.form
  go_wp2_with fail
  go_ret2
  rw [hR.out]
  exact ⟨A6,k6,rfl,HO.out.low HB2.out.size,HB3.out⟩
end
section
open Go.RowKit
theorem IAt.sameB {w w':World} {B:Nat} {A:Option Addr} {xs:List Int} (h:IAt w B A xs) (hb:∀k,k<B→w'.heap[k]?=w.heap[k]?):IAt w' B A xs:=fun h0=>by
 obtain ⟨b,off,e,hlt,hc⟩:=h h0
 exact ⟨b,off,e,hlt,fun i hi=>(World.cell?_of_block (hb b hlt)).trans (hc i hi)⟩
end
section
open Go.RowKit
theorem cnt_pos {a:Ad} (h:zO a a.sts=0):∀(k:Nat) (s:Int),0≤s→s<a.sts.length→1≤yg a k s
 | 0,_,_,_=>Nat.le_refl _
 | k+1,s,h0,h1=>by
  have hl:s.toNat<a.sts.length:=by omega
  have he:a.at_ s=a.sts[s.toNat]:=by unfold Ad.at_;rw [List.getD_eq_getElem?_getD,List.getElem?_eq_getElem hl];rfl
  obtain ⟨z1,z2⟩:=jK h _ (List.getElem_mem hl)
  obtain ⟨m,r,hm⟩:∃m r,a.sts[s.toNat]=m::r:=by
   cases hc:a.sts[s.toNat] with
   | nil=>rw [hc] at z1;simp at z1
   | cons m r=>exact ⟨m,r,rfl⟩
  have hmv:m∈a.mvs:=List.mem_flatten.2 ⟨_,List.getElem_mem hl,by rw [hm];simp⟩
  obtain ⟨_,_,z3,z4⟩:=xT h m hmv
  have:=cnt_pos h k m.to z3 z4
  unfold yg
  rw [he,hm,List.map_cons,List.sum_cons]
  omega
theorem xs_pos {s:Sy} (hf:xY s.p) (h:yn s=0):1≤s.xs.length:=by
 obtain ⟨e,_⟩:=xq hf h
 have h0:zV s.p=0:=by
  unfold yn at h
  by_cases h1:(ya s.p).2≠0
  · rw [if_pos h1] at h;exact absurd h h1
  · by_cases h0:zV s.p=0
    · exact h0
    · rw [yO h0] at h1;exact absurd h0 h1
 obtain ⟨hpt,hpa,_⟩:=zX h0
 obtain ⟨hc,_⟩:=xg hpt
 rw [e]
 show 1≤(zK s.p (zy s.p)).2.length
 have ha:=hpa
 unfold qs at ha
 have hst:zO s.p.a s.p.a.sts=0∧1≤s.p.a.sts.length:=by
  split at ha
  · cases ha
  · split at ha
    · cases ha
    · rename_i h3
      split at ha
      · rename_i h4;exact absurd ha h4
      · rename_i h4
        exact ⟨by simpa using h4,by omega⟩
 have:=cnt_pos hst.1 s.p.k.toNat 0 (Int.le_refl _) (by omega)
 rw [ql,XV,Zk,yK]
 exact Nat.mul_le_mul hc this
theorem bit_test0 {h j:Nat} (hh:h<32) (hj:j<5):(bits BinOp.and IntKind.i64 ((h:Int) / 2^j) 1==0)=!h.testBit j:=by
 match j,hj with
 | 0,_=>exact of_decide_eq_true (kn (p:=fun h=>decide ((bits BinOp.and IntKind.i64 ((h:Int) / 2^0) 1==0)=!h.testBit 0)) (by decide +kernel) hh)
 | 1,_=>exact of_decide_eq_true (kn (p:=fun h=>decide ((bits BinOp.and IntKind.i64 ((h:Int) / 2^1) 1==0)=!h.testBit 1)) (by decide +kernel) hh)
 | 2,_=>exact of_decide_eq_true (kn (p:=fun h=>decide ((bits BinOp.and IntKind.i64 ((h:Int) / 2^2) 1==0)=!h.testBit 2)) (by decide +kernel) hh)
 | 3,_=>exact of_decide_eq_true (kn (p:=fun h=>decide ((bits BinOp.and IntKind.i64 ((h:Int) / 2^3) 1==0)=!h.testBit 3)) (by decide +kernel) hh)
 | 4,_=>exact of_decide_eq_true (kn (p:=fun h=>decide ((bits BinOp.and IntKind.i64 ((h:Int) / 2^4) 1==0)=!h.testBit 4)) (by decide +kernel) hh)
section
variable {B bX bC bM n:Nat} {S:Array Value} {V:Value} {f:Int→Option Value} {fM:Int×Int→Option Value} {pl cl:List Nat} {cls:Nat→List Int} {mem:Int×Int→List Nat} {w W W':World}
end
end
section
def ptn (s:Sy):Nat:=s.xs.length*(s.p.k.toNat+1)
def psG (s:Sy) (g:Int):List Nat:=yP g.toNat s.n.toNat
def yl (s:Sy) (g:Int):Int:=if yn s≠0 then yn s else if g<0∨2^s.n.toNat≤g then 2 else 0
def qk (s:Sy) (g:Int):Nat→Nat→Prop:=adjE (psG s g) (qC s)
theorem xa (s:Sy) (g:Int) (i k:Nat) (h:qk s g i k):qk s g k i:=adjE_symm _ _ i k h
noncomputable def kB (s:Sy) (g:Int):List Int×Int:=if yl s g≠0 then ([],yl s g) else (yT (ptn s) (qk s g),0)
theorem kC (s:Sy) (q:Nat):(qC s q).length=ptn s:=by unfold qC;rw [xL,vu];rfl
theorem uG {s:Sy} {g:Int} (h:yl s g=0):yn s=0∧0≤g∧g<2^s.n.toNat:=by
 unfold yl at h
 by_cases h1:yn s=0
 · rw [if_neg (by simpa using h1)] at h
   refine ⟨h1,?_⟩
   by_cases h2:g<0∨2^s.n.toNat≤g
   · rw [if_pos h2] at h;cases h
   · omega
 · rw [if_pos h1] at h;exact absurd h h1
end
section
open Go.RowKit
attribute [local go_sem] Oper.semAt_some
def okV (v:List Int):Bool:=decide (v.length≤10)
def okX (x:Exn):Bool:=decide (x.word.length≤10)&&decide (x.views.length≤10)&&x.views.all okV
def uY (s:Sy):Bool:=xP s.p&&decide (s.vs.length≤600)&&decide (s.xs.length≤70)&&s.xs.all okX
theorem kw {s:Sy} (hl:LowSy s) (h:uY s=true):xY s.p∧¬(3<s.p.t.n∧s.p.t.n≤5)∧LowS s∧s.vs.length≤600∧s.xs.length≤70:=by
 unfold uY at h
 simp only [Bool.and_eq_true,decide_eq_true_eq] at h
 obtain ⟨⟨⟨h1,h2⟩,h3⟩,_⟩:=h
 obtain ⟨f1,f2⟩:=few_x h1
 exact ⟨f1,f2,⟨hl.fp,by omega,by omega,hl.fe⟩,h2,h3⟩
theorem okX_word {x:Exn} (h:¬x.word.length≤10):okX x=false:=by unfold okX;rw [decide_eq_false h];rfl
theorem okX_views {x:Exn} (h:¬x.views.length≤10):okX x=false:=by unfold okX;rw [decide_eq_false h,Bool.and_false];rfl
theorem okX_all {x:Exn} (h1:x.word.length≤10) (h2:x.views.length≤10):okX x=x.views.all okV:=by unfold okX;rw [decide_eq_true h1,decide_eq_true h2];rfl
set_option maxRecDepth 100000 in
theorem fewS_any (s:Sy) (hl:LowSy s) (A SV AV AX:Option Addr) (kc ks kv kx:Nat) (w:World) (hS:SyAt w w.heap.size A SV AV AX s) :
  Calls Tryz.prog 6 #[.agg (s.vs_ A kc SV ks AV kv AX kx)] w fun e w'=>e=.returned (.bool (uY s))∧Below w.heap.size w w':=by
 obtain ⟨w1,hw1⟩:∃w1,w.alloc (.cells (s.vs_ A kc SV ks AV kv AX kx) 35)=w1:=⟨_,rfl⟩
 have hbb:=zu w (.cells (s.vs_ A kc SV ks AV kv AX kx) 35)
 have hb01:Below w.heap.size w w1:=by rw [←hw1];exact zW w _
 have hsz1:w1.heap.size=w.heap.size+1:=by rw [←hw1];simp
 rw [hw1] at hbb
 have HF:=zH (few_any s.p hl.fp A kc SV ks w1 (hS.up hb01).fc (hS.up hb01).fs)
 have HX:=zH (hS.up hb01).fx
 have hvl:=hl.fv
 have hxl:=hl.fx
 have HLX:=zH hl.fe
 have HRB:Hid (uY s=(xP s.p&&decide (s.vs.length≤600)&&decide (s.xs.length≤70)&&s.xs.all okX)):=rfl
 obtain ⟨r,hr⟩:∃r,uY s=r:=⟨_,rfl⟩
 rw [hr] at HRB ⊢
 obtain ⟨b,hb⟩:∃b,xP s.p=b:=⟨_,rfl⟩
 rw [hb] at HF HRB
 unfold Pb.vs at HF
 unfold Sy.vs_ at hw1 hbb ⊢
 have HW1:=zH hw1
 have HBB:=zH hbb
 have HB01:=zH hb01
 have p0:=zh hbb 0 rfl
 have p1:=zh hbb 1 rfl
 have p2:=zh hbb 2 rfl
 have p3:=zh hbb 3 rfl
 have p4:=zh hbb 4 rfl
 have p5:=zh hbb 5 rfl
 have p6:=zh hbb 6 rfl
 clear hw1 hbb hb01 hS hl hr hb
 go_enter Tryz.func6,Tryz.ntmps6
 go_wp2_with fail
 rw [HW1.out]
 go_wp2_with fail
 refine HF.out.mono ?_
 rintro e w2 ⟨rfl,hb2⟩
 have HB2:=zH (HB01.out.trans (hb2.mono (by omega)))
 have d0:=(hb2.block _ (by omega:w.heap.size<w1.heap.size)).trans HBB.out
 have HD0:=zH d0
 have HX2:=zH ((HX.out.keep hb2).more hb2.size)
 have hs2:=hb2.size
 have x8:=zh d0 8 rfl
 have x9:=zh d0 9 rfl
 clear p0 p1 p2 p3 p4 p5 p6 hb2 HF HBB HW1 HX d0
 cases b with
 | false=>
  have hRf:Hid (r=false):=HRB.out
  clear HRB
  go_wp2_with fail
  all_goals
   go_ret
   exact ⟨zn hRf.out.symm,HB2.out⟩
 | true=>
 by_cases h8:s.vs.length≤600
 case neg=>
  have hRf:Hid (r=false):=HRB.out.trans (by rw [decide_eq_false h8];rfl)
  clear HRB
  go_wp2_with fail
  all_goals first | (exfalso;omega) | skip
  all_goals
   go_ret
   exact ⟨zn hRf.out.symm,HB2.out⟩
 case pos=>
 by_cases h9:s.xs.length≤70
 case neg=>
  have hRf:Hid (r=false):=HRB.out.trans (by rw [decide_eq_false h9,Bool.and_false];rfl)
  clear HRB
  go_wp2_with fail
  all_goals first | (exfalso;omega) | skip
  all_goals
   go_ret
   exact ⟨zn hRf.out.symm,HB2.out⟩
 case pos=>
 have HR:Hid (r=(s.xs.drop 0).all okX):=HRB.out.trans (by rw [decide_eq_true h8,decide_eq_true h9,List.drop_zero];rfl)
 clear HRB
 go_wp2_with fail
 all_goals first | (exfalso;omega) | skip
 clear x8 x9
 go_loopw [3] (fun i wr=>∃k:Nat,k≤s.xs.length∧i=.int .i64 (k:Int)∧Hid (r=(s.xs.drop k).all okX)∧Hid (Below w2.heap.size w2 wr)) (fun i _=>s.xs.length-(intOf i).toNat)
 case atStart=>exact ⟨0,by omega,rfl,HR,Below.refl _ _⟩
 case round=>
  clear HR
  obtain ⟨k,hk,rfl,HR,hb⟩:=hrel
  have d0:=(hb.out.block _ (by omega:w.heap.size<w2.heap.size)).trans HD0.out
  have x9:=zh d0 9 rfl
  clear d0
  by_cases hlt:k<s.xs.length
  case neg=>
   obtain rfl:k=s.xs.length:=by omega
   have hRt:Hid (r=true):=HR.out.trans (by rw [List.drop_length];rfl)
   clear HR
   go_wp2_with fail
   go_ret
   exact ⟨zn hRt.out.symm,HB2.out.trans (hb.out.mono (by omega))⟩
  case pos=>
   obtain ⟨bx,ox,A1,c1,A2,c2,eA,hbx,y0,y1,y2,_,hL⟩:=(HX2.out.keep hb.out).row k hlt
   subst eA
   obtain ⟨x,hx⟩:∃x,s.xs[k]=x:=⟨_,rfl⟩
   have hxw:=HLX.out _ (List.getElem_mem hlt)
   have hdr:s.xs.drop k=x::s.xs.drop (k+1):=by rw [List.drop_eq_getElem_cons hlt,hx]
   have HRK:Hid (r=(okX x&&(s.xs.drop (k+1)).all okX)):=HR.out.trans (by rw [hdr];rfl)
   rw [hx] at y0 y1 y2 hL hxw
   obtain ⟨hxw1,hxw2,hxw3⟩:=hxw
   have HXW:=zH hxw3
   have hsz:=hb.out.size
   have hbxw:bx<wr.heap.size:=by omega
   have hk0:(0:Int)≤(k:Int):=by omega
   have hk1:(k:Int)<(s.xs.length:Int):=by omega
   obtain ⟨W3,hW3,b3,hs3,hB3⟩:=zm wr #[.int .i64 x.c,.slice A1 x.word.length c1,.slice A2 x.views.length c2] 59
   have HW3:=zH hW3
   have HB3:=zH (hb.out.trans (hB3.mono hsz))
   have HD3:=zH b3
   have HL:=zH ((hL.more hsz).keep hB3)
   have e9:W3.cell? ⟨w.heap.size,9,none⟩=wr.cell? ⟨w.heap.size,9,none⟩:=hB3.cell (p:=⟨w.heap.size,9,none⟩) (by show w.heap.size<_;omega)
   have z1:=zh b3 1 rfl
   have z2:=zh b3 2 rfl
   have HE9:=zH (e9.trans x9)
   clear hW3 hB3 b3 hL hxw3 hx hdr HR e9
   by_cases h1:x.word.length≤10
   case neg=>
    have hRf:Hid (r=false):=HRK.out.trans (by rw [okX_word h1];rfl)
    clear HRK
    go_wp2_with fail
    rw [HW3.out]
    go_wp2_with fail
    all_goals first | (exfalso;omega) | skip
    all_goals
     go_ret
     exact ⟨zn hRf.out.symm,HB2.out.trans (HB3.out.mono (by omega))⟩
   case pos=>
   by_cases h2:x.views.length≤10
   case neg=>
    have hRf:Hid (r=false):=HRK.out.trans (by rw [okX_views h2];rfl)
    clear HRK
    go_wp2_with fail
    rw [HW3.out]
    go_wp2_with fail
    all_goals first | (exfalso;omega) | skip
    all_goals
     go_ret
     exact ⟨zn hRf.out.symm,HB2.out.trans (HB3.out.mono (by omega))⟩
   case pos=>
   have HRJ:Hid (r=((x.views.drop 0).all okV&&(s.xs.drop (k+1)).all okX)):=HRK.out.trans (by rw [okX_all h1 h2,List.drop_zero])
   clear HRK
   go_wp2_with fail
   rw [HW3.out]
   go_wp2_with fail
   all_goals first | (exfalso;omega) | skip
   clear z1 z2 y0 y1 y2 x9 HW3
   obtain ⟨bE,hbE⟩:∃bE,wr.heap.size=bE:=⟨_,rfl⟩
   rw [hbE] at HD3 ⊢
   obtain ⟨wo,rfl⟩:∃y,y=wr:=⟨_,rfl⟩
   go_loopw [5] (fun i wx=>∃j n:Nat,j≤x.views.length∧i=.int .i64 (j:Int)∧wx=W3.drewN n∧Hid (r=((x.views.drop j).all okV&&(s.xs.drop (k+1)).all okX))) (fun i _=>x.views.length-(intOf i).toNat)
   case atStart=>exact ⟨0,0,by omega,rfl,rfl,HRJ⟩
   case round=>
    clear HRJ
    obtain ⟨j,n,hj,rfl,rfl,HRJ⟩:=hrel
    have z2:(W3.drewN n).cell? ⟨bE,2,none⟩=some (.slice A2 x.views.length c2):=zh HD3.out 2 rfl
    by_cases hjl:j<x.views.length
    case neg=>
     obtain rfl:j=x.views.length:=by omega
     have hRt:Hid (r=(s.xs.drop (k+1)).all okX):=HRJ.out.trans (by rw [List.drop_length];rfl)
     clear HRJ
     go_wp2_with fail
     go_roundw
     case rel=>exact ⟨k+1,by omega,by go_num,hRt,zR HB3.out n⟩
     case measure=>simp [intOf];omega
    case pos=>
     obtain ⟨bl,ol,A3,c3,eA,hbl,v0,_⟩:=HL.out.at_ j hjl
     subst eA
     obtain ⟨v,hv⟩:∃v,x.views[j]=v:=⟨_,rfl⟩
     have hvl3:=HXW.out _ (List.getElem_mem hjl)
     have hdr:x.views.drop j=v::x.views.drop (j+1):=by rw [List.drop_eq_getElem_cons hjl,hv]
     have HRK:Hid (r=((okV v&&(x.views.drop (j+1)).all okV)&&(s.xs.drop (k+1)).all okX)):=HRJ.out.trans (by rw [hdr];rfl)
     rw [hv] at v0 hvl3
     have v1:(W3.drewN n).cell? ⟨bl,ol+j,none⟩=some (.slice A3 v.length c3):=v0
     have hj0:(0:Int)≤(j:Int):=by omega
     have hj1:(j:Int)<(x.views.length:Int):=by omega
     clear hdr hv v0 HRJ
     by_cases h3:v.length≤10
     case neg=>
      have hRf:Hid (r=false):=HRK.out.trans (by unfold okV;rw [decide_eq_false h3];rfl)
      clear HRK
      go_wp2_with fail
      all_goals first | (exfalso;omega) | skip
      go_ret
      exact ⟨zn hRf.out.symm,HB2.out.trans ((zR HB3.out n).mono (by omega))⟩
     case pos=>
      have hRt:Hid (r=((x.views.drop (j+1)).all okV&&(s.xs.drop (k+1)).all okX)):=HRK.out.trans (by rw [show okV v=true from decide_eq_true h3];rfl)
      clear HRK
      go_wp2_with fail
      all_goals first | (exfalso;omega) | skip
      go_roundw
      case rel=>exact ⟨j+1,n,by omega,by go_num,rfl,hRt⟩
      case measure=>simp [intOf];omega
end
section
def exMv (p:Int):Mv:=⟨⟨2,p,3,0,0,0,0⟩,0⟩
def exC1:Cs:=⟨[0,0],[[0,0]],[]⟩
def exC2:Cs:=⟨[0,1],[[0,0]],[]⟩
def YY:Pb:=⟨⟨2,2,1,[exC1,exC2]⟩,⟨2,[[exMv 1,exMv 3]]⟩,1⟩
def yA:Sy:=(ya YY).1
theorem ex_few:xP YY=true:=by decide +kernel
theorem Qg:xY YY:=(few_x ex_few).1
theorem ex_ok:(ya YY).2=0:=by decide +kernel
theorem ex_low:wn YY:=by
 refine ⟨⟨by decide,fun c hc=>?_⟩,by decide,fun l hl=>?_⟩
 · have:c=exC1∨c=exC2:=by simpa [YY] using hc
   rcases this with rfl | rfl
   · refine ⟨by decide,by decide,by decide,fun v hv=>?_,fun v hv=>?_⟩
     · have:v=[0,0]:=by simpa [exC1] using hv
       subst this;decide
     · simp [exC1] at hv
   · refine ⟨by decide,by decide,by decide,fun v hv=>?_,fun v hv=>?_⟩
     · have:v=[0,0]:=by simpa [exC2] using hv
       subst this;decide
     · simp [exC2] at hv
 · have:l=[exMv 1,exMv 3]:=by simpa [YY] using hl
   subst this;decide
theorem kK:LowS yA:=ji ex_low Qg
theorem exs_p:yA.p=YY:=by decide +kernel
theorem Zs:yA.xs.length=4∧yA.n=2:=by decide +kernel
theorem jx:yn yA=0:=by decide +kernel
theorem qM:xY yA.p:=by rw [exs_p];exact Qg
theorem Zt:qC yA 0=[0,1,0,2,0,1,0,3]∧qC yA 1=[0,1,0,1,2,3,2,3]:=by decide +kernel
theorem Yw:psG yA 3=[0,1]∧psG yA 2=[1]∧ptn yA=8:=by decide +kernel
theorem Ju:yl yA 3=0∧yl yA 2=0:=by
 unfold yl
 rw [jx]
 decide +kernel
def farB (n:Nat) (adj:Nat→Nat→Bool) (src:Nat→Bool) (f:Nat→Int):Bool:=
 (List.range n).all fun i=>decide (-1≤f i)&&(decide (f i=0)==src i)&&(!decide (0<f i)||(List.range n).any fun k=>adj i k&&decide (f k=f i-1))&&(List.range n).all fun k=>!(adj i k&&decide (0≤f k))||(decide (0≤f i)&&decide (f i≤f k+1))
theorem far_of {n:Nat} {adj:Nat→Nat→Prop} {src:Nat→Prop} {a:Nat→Nat→Bool} {s:Nat→Bool} {f:Nat→Int} (ha:∀i k,adj i k↔a i k=true) (hs:∀i,src i↔s i=true) (h:farB n a s f=true):Far n adj src f:=by
 have h1:=fun i hi=>List.all_eq_true.1 h i (List.mem_range.2 hi)
 simp only [Bool.and_eq_true] at h1
 refine ⟨fun i hi=>of_decide_eq_true (h1 i hi).1.1.1,fun i hi=>?_,fun i hi h0=>?_,fun i k hi hk hak h0=>?_⟩
 · rw [hs i,←eq_of_beq (h1 i hi).1.1.2,decide_eq_true_iff]
 · have:=(h1 i hi).1.2
   rw [decide_eq_true h0,Bool.not_true,Bool.false_or] at this
   obtain ⟨k,hk,e⟩:=List.any_eq_true.1 this
   simp only [Bool.and_eq_true,decide_eq_true_iff] at e
   exact ⟨k,List.mem_range.1 hk,(ha i k).2 e.1,e.2⟩
 · have:=List.all_eq_true.1 (h1 i hi).2 k (List.mem_range.2 hk)
   rw [(ha i k).1 hak,decide_eq_true h0] at this
   simpa using this
def adjB (ps:List Nat) (cls:Nat→List Int) (i k:Nat):Bool:=ps.any fun p=>(cls p).getD i 0==(cls p).getD k 0
theorem adjB_iff (ps:List Nat) (cls:Nat→List Int) (i k:Nat):adjE ps cls i k↔adjB ps cls i k=true:=by
 unfold adjE adjB
 rw [List.any_eq_true]
 simp
def exCl (q:Nat):List Int:=if q=0 then [0,1,0,2,0,1,0,3] else if q=1 then [0,1,0,1,2,3,2,3] else []
theorem exs_adj (g:Int) (hg:∀q∈psG yA g,q=0∨q=1) (i k:Nat):qk yA g i k↔adjB (psG yA g) exCl i k=true:=by
 rw [←adjB_iff]
 unfold qk adjE
 have e:∀q∈psG yA g,qC yA q=exCl q:=fun q hq=>by
  rcases hg q hq with rfl | rfl
  · exact Zt.1
  · exact Zt.2
 constructor
 · rintro ⟨q,hq,h⟩;exact ⟨q,hq,by rw [←e q hq];exact h⟩
 · rintro ⟨q,hq,h⟩;exact ⟨q,hq,by rw [e q hq];exact h⟩
theorem Yx (i k:Nat):qk yA 3 i k↔adjB [0,1] exCl i k=true:=by rw [exs_adj 3 (by rw [Yw.1];simp),Yw.1]
def j6:List Int:=[0,1,0,1,0,1,0,1]
theorem exs_conn (i j:Nat) (hi:i<8) (hj:j<8):j6.getD i 0=j6.getD j 0↔Conn 8 (qk yA 3) i j:=by
 have far0:Far 8 (qk yA 3) (fun k=>k=0) (fun i=>([0,-1,1,-1,1,-1,1,-1]:List Int).getD i 0):=far_of Yx (s:=fun k=>decide (k=0)) (fun i=>by simp) (by decide +kernel)
 have far1:Far 8 (qk yA 3) (fun k=>k=1) (fun i=>([-1,0,-1,1,-1,1,-1,2]:List Int).getD i 0):=far_of Yx (s:=fun k=>decide (k=1)) (fun i=>by simp) (by decide +kernel)
 constructor
 · intro h
   have hd:∀i,i<8→(j6.getD i 0=0∧0≤([0,-1,1,-1,1,-1,1,-1]:List Int).getD i 0)∨(j6.getD i 0=1∧0≤([-1,0,-1,1,-1,1,-1,2]:List Int).getD i 0):=by decide +kernel
   rcases hd i hi with ⟨a1,a2⟩ | ⟨a1,a2⟩<;>rcases hd j hj with ⟨b1,b2⟩ | ⟨b1,b2⟩
   · exact (((far0.reach (by omega) (xa _ _) i hi).1 a2).symm (xa _ _)).trans ((far0.reach (by omega) (xa _ _) j hj).1 b2)
   · omega
   · omega
   · exact (((far1.reach (by omega) (xa _ _) i hi).1 a2).symm (xa _ _)).trans ((far1.reach (by omega) (xa _ _) j hj).1 b2)
 · intro h
   have hst:∀i,i<8→∀j,j<8→adjB [0,1] exCl i j=true→j6.getD i 0=j6.getD j 0:=by decide +kernel
   induction h with
   | refl=>rfl
   | step _ h1 h2 h3 ih=>exact (ih h1).trans (hst _ h1 _ h2 ((Yx _ _).1 h3))
theorem exs_comp:kB yA 3=(j6,0):=by
 unfold kB
 rw [Ju.1,Yw.2.2,←JA (n:=8) (xa yA 3) j6 rfl (fun i j h1 h2=>by rw [←xn h1 0,←xn h2 0];exact exs_conn i j h1 h2)]
 decide +kernel
end
section
open Go.RowKit
attribute [local go_sem] Oper.semAt_some
theorem uT {S:Nat→Prop} {W:World} {b:Nat} {xs:List Int} {t:TypeId} (hS:S b) (h:W.heap[b]?=some (.cells ((xs.map (Value.int .i64)).toArray) t (0,0))):IAtS S W (some ⟨b,0,none⟩) xs:=fun _=>
 ⟨b,0,rfl,hS,zj h,fun i hi=>by rw [Nat.zero_add];exact zh h i (by simp [hi])⟩
theorem Je {S:Nat→Prop} {W:World} {b:Nat} {v:List Int} {A:Option Addr} {c:Nat} {t:TypeId} (hS:S b) (h:W.heap[b]?=some (.cells #[.slice A v.length c] t (0,0))) (h2:IAtS S W A v):LAtS S W (some ⟨b,0,none⟩) [v]:=fun _=>
 ⟨b,0,rfl,hS,zj h,fun i hi=>by
  obtain rfl:i=0:=by simpa using hi
  exact ⟨A,c,zh h 0 rfl,h2⟩⟩
theorem set10 {w:World} {g:Nat} {a0 a1 a2 a3 a4 a5 a6 a7 a8 a9:Value} {t:TypeId} (h:w.heap[g]?=some (.cells #[a0,a1,a2,a3,a4,a5,a6,a7,a8,a9] t (0,0))) (v0 v1 v2 v3 v4 v5 v6 v7 v8 v9:Value) :
  ∃W,((((((((((w.setCell ⟨g,0,none⟩ v0).setCell ⟨g,1,none⟩ v1).setCell ⟨g,2,none⟩ v2).setCell ⟨g,3,none⟩ v3).setCell ⟨g,4,none⟩ v4).setCell ⟨g,5,none⟩ v5).setCell ⟨g,6,none⟩ v6).setCell ⟨g,7,none⟩ v7).setCell ⟨g,8,none⟩ v8).setCell ⟨g,9,none⟩ v9)=W∧W.heap[g]?=some (.cells #[v0,v1,v2,v3,v4,v5,v6,v7,v8,v9] t (0,0))∧(∀k,k≠g→W.heap[k]?=w.heap[k]?)∧(∀B,B≤g→Below B w W)∧W.heap.size=w.heap.size:=by
 refine ⟨_,rfl,?_,fun k hk=>?_,fun B hB=>?_,by simp [World.setCell]⟩
 · have k0:(w.setCell ⟨g,0,none⟩ v0).heap[g]?=some (.cells #[v0,a1,a2,a3,a4,a5,a6,a7,a8,a9] t (0,0)):=heap_setCell_same _ g 0 _ _ v0 h
   have k1:((w.setCell ⟨g,0,none⟩ v0).setCell ⟨g,1,none⟩ v1).heap[g]?=some (.cells #[v0,v1,a2,a3,a4,a5,a6,a7,a8,a9] t (0,0)):=heap_setCell_same _ g 1 _ _ v1 k0
   have k2:(((w.setCell ⟨g,0,none⟩ v0).setCell ⟨g,1,none⟩ v1).setCell ⟨g,2,none⟩ v2).heap[g]?=some (.cells #[v0,v1,v2,a3,a4,a5,a6,a7,a8,a9] t (0,0)):=heap_setCell_same _ g 2 _ _ v2 k1
   have k3:((((w.setCell ⟨g,0,none⟩ v0).setCell ⟨g,1,none⟩ v1).setCell ⟨g,2,none⟩ v2).setCell ⟨g,3,none⟩ v3).heap[g]?=some (.cells #[v0,v1,v2,v3,a4,a5,a6,a7,a8,a9] t (0,0)):=heap_setCell_same _ g 3 _ _ v3 k2
   have k4:(((((w.setCell ⟨g,0,none⟩ v0).setCell ⟨g,1,none⟩ v1).setCell ⟨g,2,none⟩ v2).setCell ⟨g,3,none⟩ v3).setCell ⟨g,4,none⟩ v4).heap[g]?=some (.cells #[v0,v1,v2,v3,v4,a5,a6,a7,a8,a9] t (0,0)):=heap_setCell_same _ g 4 _ _ v4 k3
   have k5:((((((w.setCell ⟨g,0,none⟩ v0).setCell ⟨g,1,none⟩ v1).setCell ⟨g,2,none⟩ v2).setCell ⟨g,3,none⟩ v3).setCell ⟨g,4,none⟩ v4).setCell ⟨g,5,none⟩ v5).heap[g]?=some (.cells #[v0,v1,v2,v3,v4,v5,a6,a7,a8,a9] t (0,0)):=heap_setCell_same _ g 5 _ _ v5 k4
   have k6:(((((((w.setCell ⟨g,0,none⟩ v0).setCell ⟨g,1,none⟩ v1).setCell ⟨g,2,none⟩ v2).setCell ⟨g,3,none⟩ v3).setCell ⟨g,4,none⟩ v4).setCell ⟨g,5,none⟩ v5).setCell ⟨g,6,none⟩ v6).heap[g]?=some (.cells #[v0,v1,v2,v3,v4,v5,v6,a7,a8,a9] t (0,0)):=heap_setCell_same _ g 6 _ _ v6 k5
   have k7:((((((((w.setCell ⟨g,0,none⟩ v0).setCell ⟨g,1,none⟩ v1).setCell ⟨g,2,none⟩ v2).setCell ⟨g,3,none⟩ v3).setCell ⟨g,4,none⟩ v4).setCell ⟨g,5,none⟩ v5).setCell ⟨g,6,none⟩ v6).setCell ⟨g,7,none⟩ v7).heap[g]?=some (.cells #[v0,v1,v2,v3,v4,v5,v6,v7,a8,a9] t (0,0)):=heap_setCell_same _ g 7 _ _ v7 k6
   have k8:(((((((((w.setCell ⟨g,0,none⟩ v0).setCell ⟨g,1,none⟩ v1).setCell ⟨g,2,none⟩ v2).setCell ⟨g,3,none⟩ v3).setCell ⟨g,4,none⟩ v4).setCell ⟨g,5,none⟩ v5).setCell ⟨g,6,none⟩ v6).setCell ⟨g,7,none⟩ v7).setCell ⟨g,8,none⟩ v8).heap[g]?=some (.cells #[v0,v1,v2,v3,v4,v5,v6,v7,v8,a9] t (0,0)):=heap_setCell_same _ g 8 _ _ v8 k7
   have k9:((((((((((w.setCell ⟨g,0,none⟩ v0).setCell ⟨g,1,none⟩ v1).setCell ⟨g,2,none⟩ v2).setCell ⟨g,3,none⟩ v3).setCell ⟨g,4,none⟩ v4).setCell ⟨g,5,none⟩ v5).setCell ⟨g,6,none⟩ v6).setCell ⟨g,7,none⟩ v7).setCell ⟨g,8,none⟩ v8).setCell ⟨g,9,none⟩ v9).heap[g]?=some (.cells #[v0,v1,v2,v3,v4,v5,v6,v7,v8,v9] t (0,0)):=heap_setCell_same _ g 9 _ _ v9 k8
   exact k9
 · exact (Below.heap_setCell _ ⟨g,9,none⟩ v9 k hk).trans ((Below.heap_setCell _ ⟨g,8,none⟩ v8 k hk).trans ((Below.heap_setCell _ ⟨g,7,none⟩ v7 k hk).trans ((Below.heap_setCell _ ⟨g,6,none⟩ v6 k hk).trans ((Below.heap_setCell _ ⟨g,5,none⟩ v5 k hk).trans ((Below.heap_setCell _ ⟨g,4,none⟩ v4 k hk).trans ((Below.heap_setCell _ ⟨g,3,none⟩ v3 k hk).trans ((Below.heap_setCell _ ⟨g,2,none⟩ v2 k hk).trans ((Below.heap_setCell _ ⟨g,1,none⟩ v1 k hk).trans (Below.heap_setCell _ ⟨g,0,none⟩ v0 k hk)))))))))
 · refine Below.setCell (p:=⟨g,9,none⟩) ?_ hB _
   refine Below.setCell (p:=⟨g,8,none⟩) ?_ hB _
   refine Below.setCell (p:=⟨g,7,none⟩) ?_ hB _
   refine Below.setCell (p:=⟨g,6,none⟩) ?_ hB _
   refine Below.setCell (p:=⟨g,5,none⟩) ?_ hB _
   refine Below.setCell (p:=⟨g,4,none⟩) ?_ hB _
   refine Below.setCell (p:=⟨g,3,none⟩) ?_ hB _
   refine Below.setCell (p:=⟨g,2,none⟩) ?_ hB _
   refine Below.setCell (p:=⟨g,1,none⟩) ?_ hB _
   refine Below.setCell (p:=⟨g,0,none⟩) ?_ hB _
   exact Below.refl B w
end
section
open Go.RowKit Go.Shelf
attribute [local go_sem] Oper.semAt_some
def JM (r:Sy×Int) (A SV:Option Addr) (w:World) (e:Ending) (w':World):Prop:=r.2=0→∃kc ks AV kv AX kx,e=.returned (.tuple #[.agg (r.1.vs_ A kc SV ks AV kv AX kx),.int .i64 r.2]) ∧
 (∀W,w'.heap.size≤W.heap.size→(∀k,w.heap.size≤k→k<w'.heap.size→W.heap[k]?=w'.heap[k]?)→CAt W W.heap.size A r.1.p.t.cases→SAt W W.heap.size SV r.1.p.a.sts→SyAt W W.heap.size A SV AV AX r.1∧XCap W AX r.1.xs)∧Below w.heap.size w w'
def RetSysG (r:Sy×Int) (A SV:Option Addr) (w:World) (e:Ending) (w':World):Prop:=r.2=0→∃kc ks AV kv AX kx,e=.returned (.tuple #[.agg (r.1.vs_ A kc SV ks AV kv AX kx),.int .i64 r.2]) ∧
 (∀W,w'.heap.size≤W.heap.size→(∀k,w.heap.size≤k→k<w'.heap.size→W.heap[k]?=w'.heap[k]?)→CAt W W.heap.size A r.1.p.t.cases→SAt W W.heap.size SV r.1.p.a.sts→SyAt W W.heap.size A SV AV AX r.1)∧Below w.heap.size w w'
set_option maxRecDepth 100000 in
theorem uH (p:Pb) (hf:xY p) (A:Option Addr) (kc:Nat) (SV:Option Addr) (ks:Nat) (w:World) (hA:CAt w w.heap.size A p.t.cases) (hS:SAt w w.heap.size SV p.a.sts) :
  Calls Tryz.prog 45 #[.agg (p.vs A kc SV ks)] w (JM (ya p) A SV w):=by
 have HC:=zH (fun (w':World) (h1:CAt w' w'.heap.size A p.t.cases) (h2:SAt w' w'.heap.size SV p.a.sts)=>jN p hf.1 A kc SV ks w' h1 h2)
 have HN:=zH (fun (w':World) (h0:zV p=0) (h:SAt w' w'.heap.size SV p.a.sts)=>
  wC p hf.1 (xf hf.1.2 (zX h0).2.1).1 (xf hf.1.2 (zX h0).2.1).2.1 p.k.toNat 4096 (by have:=(zX h0).2.2.2.1;omega) (by have:=(zX h0).2.2.2.2;omega) (by decide) A kc SV ks w' h)
 have HB:=zH (fun (h0:zV p=0) (h60:yd p≤60) (w':World) (h1:CAt w' w'.heap.size A p.t.cases) (h2:SAt w' w'.heap.size SV p.a.sts)=>XD p hf h0 h60 A kc SV ks w' h1 h2)
 have HBad:=zH (@yO p)
 have HMany:=zH (@xz p)
 have HOk:=zH (@qi p)
 have HNM:=zH (@Q3 p)
 have HFX:=zH hf.2
 obtain ⟨R,hR⟩:∃R,ya p=R:=⟨_,rfl⟩
 rw [hR] at HBad HMany HOk ⊢
 obtain ⟨w1,hw1,d0,d1,hs1,hB1⟩:=yD w (p.vs A kc SV ks) #[.int .i64 0,.int .i64 0,.int .i64 0,.slice none 0 0,.int .i64 0,.slice none 0 0,.int .i64 0,.int .i64 0,.slice none 0 0,.slice none 0 0] 29 35
 have HAW:=zH hA
 have HSW:=zH hS
 have HA:=zH ((hA.keep hB1).more hB1.size)
 have HS:=zH ((hS.keep hB1).more hB1.size)
 unfold Pb.vs at hw1 d0 ⊢
 have HW1:=zH hw1
 have HD0:=zH d0
 have HD1:=zH d1
 have HB1:=zH hB1
 have p0:=zh d0 0 rfl
 have p1:=zh d0 1 rfl
 have p2:=zh d0 2 rfl
 have p3:=zh d0 3 rfl
 have p4:=zh d0 4 rfl
 have p5:=zh d0 5 rfl
 have p6:=zh d0 6 rfl
 obtain ⟨E,hE⟩:∃E,zV p=E:=⟨_,rfl⟩
 have HPE:=zH hE
 rw [hE] at HC HBad
 obtain ⟨M,hM⟩:∃M,p.t.cases.length*xj 4096 (yg p.a p.k.toNat 0)=M:=⟨_,rfl⟩
 have HMM:Hid (Z8 p=M):=hM
 rw [hM] at HN
 clear hw1 d0 d1 hB1 hA hS hf hR hE hM
 go_enter Tryz.func45,Tryz.ntmps45
 go_wp2_with fail
 rw [HW1.out]
 go_wp2_with fail
 refine (HC.out w1 HA.out HS.out).mono ?_
 rintro e w2 ⟨rfl,hb2⟩
 have B2:=zH (HB1.out.trans (hb2.mono (by omega)))
 have HA2:=zH ((HA.out.keep hb2).more hb2.size)
 have HS2:=zH ((HS.out.keep hb2).more hb2.size)
 have hs2:=hb2.size
 have d0:=(hb2.block _ (zj HD0.out)).trans HD0.out
 have d1:=(hb2.block _ (zj HD1.out)).trans HD1.out
 have HE0:=zH d0
 have HE1:=zH d1
 clear hb2 HC HW1 HD0 HD1 HA HS p0 p1 p2 p3 p4 p5 p6
 have p0:=zh d0 0 rfl
 have p1:=zh d0 1 rfl
 have p2:=zh d0 2 rfl
 have p3:=zh d0 3 rfl
 have p4:=zh d0 4 rfl
 have p5:=zh d0 5 rfl
 have p6:=zh d0 6 rfl
 by_cases h0:E=0
 case neg=>
  have hR:=zH (HBad.out h0)
  have e0:(E != 0)=true:=by simpa using h0
  have y0:=zh d1 0 rfl
  have f0:=zi d1 0
  have y1:=zh d1 1 rfl
  have f1:=zi d1 1
  have y2:=zh d1 2 rfl
  have f2:=zi d1 2
  have y3:=zh d1 3 rfl
  have f3:=zi d1 3
  have y4:=zh d1 4 rfl
  have f4:=zi d1 4
  have y5:=zh d1 5 rfl
  have f5:=zi d1 5
  have y6:=zh d1 6 rfl
  have f6:=zi d1 6
  have y7:=zh d1 7 rfl
  have f7:=zi d1 7
  have y8:=zh d1 8 rfl
  have f8:=zi d1 8
  have y9:=zh d1 9 rfl
  have f9:=zi d1 9
  obtain ⟨k1,k2,k3⟩:=xI (.int .i64 0) (.int .i64 0) (.int .i64 0) (.slice none 0 0) (.int .i64 0) (.slice none 0 0) (.int .i64 0) (.int .i64 0) (.slice none 0 0) (.slice none 0 0) d1 B2.out (by omega:w.heap.size≤w.heap.size+1)
  obtain ⟨WF,hWF⟩:∃WF,((((((((((w2.setCell ⟨w.heap.size+1,0,none⟩ (.int .i64 0)).setCell ⟨w.heap.size+1,1,none⟩ (.int .i64 0)).setCell ⟨w.heap.size+1,2,none⟩ (.int .i64 0)).setCell ⟨w.heap.size+1,3,none⟩ (.slice none 0 0)).setCell ⟨w.heap.size+1,4,none⟩ (.int .i64 0)).setCell ⟨w.heap.size+1,5,none⟩ (.slice none 0 0)).setCell ⟨w.heap.size+1,6,none⟩ (.int .i64 0)).setCell ⟨w.heap.size+1,7,none⟩ (.int .i64 0)).setCell ⟨w.heap.size+1,8,none⟩ (.slice none 0 0)).setCell ⟨w.heap.size+1,9,none⟩ (.slice none 0 0))=WF:=⟨_,rfl⟩
  rw [hWF] at k1 k2 k3
  have HK1:=zH k1
  have HK2:=zH k2
  have HK3:=zH k3
  have HWF:=zH hWF
  clear k1 k2 k3 hWF
  clear HMany HOk HNM HN HB HFX h0 d0 d1
  go_wp2_with fail
  rw [HWF.out]
  obtain ⟨z0,z1,z2,z3,z4,z5,z6,z7,z8,z9⟩:=zA HK1.out
  refine bodyPost_ret (v:=.tuple #[.agg #[.int .i64 0,.int .i64 0,.int .i64 0,.slice none 0 0,.int .i64 0,.slice none 0 0,.int .i64 0,.int .i64 0,.slice none 0 0,.slice none 0 0],.int .i64 E]) (by simp [results,Tryz.results45,go_sem,z0,z1,z2,z3,z4,z5,z6,z7,z8,z9]) rfl ?_
  rw [hR.out]
  exact fun h=>absurd h (by simpa using e0)
 case pos=>
 subst h0
 clear HBad
 go_wp2_with fail
 refine (HN.out w2 HPE.out HS2.out).mono ?_
 rintro e w3 ⟨rfl,hb3⟩
 have B3:=zH (B2.out.trans (hb3.mono (by omega)))
 have HA3:=zH ((HA2.out.keep hb3).more hb3.size)
 have HS3:=zH ((HS2.out.keep hb3).more hb3.size)
 have hs3:=hb3.size
 have d0:=(hb3.block _ (zj HE0.out)).trans HE0.out
 have d1:=(hb3.block _ (zj HE1.out)).trans HE1.out
 have HF0:=zH d0
 have HF1:=zH d1
 clear hb3 HN HE0 HE1 HA2 HS2 p0 p1 p2 p3 p4 p5 p6
 by_cases hm:4096<M
 case pos=>
  have hR:=zH (HMany.out HPE.out ((HNM.out HPE.out).1 (by rw [HMM.out];exact hm)))
  have hmi:(4096:Int)<(M:Int):=by omega
  have y0:=zh d1 0 rfl
  have f0:=zi d1 0
  have y1:=zh d1 1 rfl
  have f1:=zi d1 1
  have y2:=zh d1 2 rfl
  have f2:=zi d1 2
  have y3:=zh d1 3 rfl
  have f3:=zi d1 3
  have y4:=zh d1 4 rfl
  have f4:=zi d1 4
  have y5:=zh d1 5 rfl
  have f5:=zi d1 5
  have y6:=zh d1 6 rfl
  have f6:=zi d1 6
  have y7:=zh d1 7 rfl
  have f7:=zi d1 7
  have y8:=zh d1 8 rfl
  have f8:=zi d1 8
  have y9:=zh d1 9 rfl
  have f9:=zi d1 9
  obtain ⟨k1,k2,k3⟩:=xI (.int .i64 0) (.int .i64 0) (.int .i64 0) (.slice none 0 0) (.int .i64 0) (.slice none 0 0) (.int .i64 0) (.int .i64 0) (.slice none 0 0) (.slice none 0 0) d1 B3.out (by omega:w.heap.size≤w.heap.size+1)
  obtain ⟨WF,hWF⟩:∃WF,((((((((((w3.setCell ⟨w.heap.size+1,0,none⟩ (.int .i64 0)).setCell ⟨w.heap.size+1,1,none⟩ (.int .i64 0)).setCell ⟨w.heap.size+1,2,none⟩ (.int .i64 0)).setCell ⟨w.heap.size+1,3,none⟩ (.slice none 0 0)).setCell ⟨w.heap.size+1,4,none⟩ (.int .i64 0)).setCell ⟨w.heap.size+1,5,none⟩ (.slice none 0 0)).setCell ⟨w.heap.size+1,6,none⟩ (.int .i64 0)).setCell ⟨w.heap.size+1,7,none⟩ (.int .i64 0)).setCell ⟨w.heap.size+1,8,none⟩ (.slice none 0 0)).setCell ⟨w.heap.size+1,9,none⟩ (.slice none 0 0))=WF:=⟨_,rfl⟩
  rw [hWF] at k1 k2 k3
  have HK1:=zH k1
  have HK2:=zH k2
  have HK3:=zH k3
  have HWF:=zH hWF
  clear k1 k2 k3 hWF
  clear HMany HOk HNM HB HFX d0 d1
  go_wp2_with fail
  rw [HWF.out]
  obtain ⟨z0,z1,z2,z3,z4,z5,z6,z7,z8,z9⟩:=zA HK1.out
  refine bodyPost_ret (v:=.tuple #[.agg #[.int .i64 0,.int .i64 0,.int .i64 0,.slice none 0 0,.int .i64 0,.slice none 0 0,.int .i64 0,.int .i64 0,.slice none 0 0,.slice none 0 0],.int .i64 17]) (by simp [results,Tryz.results45,go_sem,z0,z1,z2,z3,z4,z5,z6,z7,z8,z9]) rfl ?_
  rw [hR.out]
  exact fun h=>absurd h (by decide)
 case neg=>
 have hex:¬(4096<yd p):=fun h=>hm (by rw [←HMM.out];exact (HNM.out HPE.out).2 h)
 have h60:yd p≤60:=by
  rcases HFX.out HPE.out with h | h
  · exact h
  · exact absurd h hex
 have hR:=zH (HOk.out HPE.out (by omega))
 have hmi:¬((4096:Int)<(M:Int)):=by omega
 have HB':=zH (HB.out HPE.out h60 w3 HA3.out HS3.out)
 have HFW:=zH (Zj p HPE.out h60).1
 have p0:=zh d0 0 rfl
 have p1:=zh d0 1 rfl
 have p2:=zh d0 2 rfl
 have p3:=zh d0 3 rfl
 have p4:=zh d0 4 rfl
 have p5:=zh d0 5 rfl
 have p6:=zh d0 6 rfl
 clear HMany HOk HNM HB HFX hex h60 d0 d1 HMM
 go_wp2_with fail
 all_goals first | (exfalso;omega) | skip
 refine HB'.out.mono ?_
 rintro e w4 ⟨AV,kv,AE,ke,rfl,hV,hX,hb4⟩
 have B4:=zH (B3.out.trans (hb4.mono (by omega)))
 have HVO:=zH hV
 have HXO:=zH hX
 have hs4:=hb4.size
 have d1:=(hb4.block _ (zj HF1.out)).trans HF1.out
 have HG1:=zH d1
 have HA4:=zH ((HA3.out.keep hb4).more hb4.size)
 have HS4:=zH ((HS3.out.keep hb4).more hb4.size)
 clear hV hX hb4 HB' HF0 HF1 p0 p1 p2 p3 p4 p5 p6 d1
 obtain ⟨W5,hW5,b5,hs5,hB5⟩:=zm w4 #[.int .i64 p.t.n,.int .i64 p.t.ins,.int .i64 p.t.outs,.slice A p.t.cases.length kc,.int .i64 p.a.n,.slice SV p.a.sts.length ks,.int .i64 p.k,.int .i64 p.t.n,.slice AV (zK p (zy p)).1.length kv,.slice AE (zK p (zy p)).2.length ke] 35
 have d1:=(hB5.block _ (zj HG1.out)).trans HG1.out
 have B5:=zH (B4.out.trans (hB5.mono (by omega)))
 have HB5:=zH hB5
 have HW5:=zH hW5
 obtain ⟨x0,x1,x2,x3,x4,x5,x6,x7,x8,x9⟩:=zA b5
 have hfv:¬((8192:Int)<((zK p (zy p)).1.length:Int)):=by have:=HFW.out;omega
 clear hW5 hB5 b5
 go_simp
 rename_i hKK
 refine hKK _ _ ?_
 clear hKK
 refine wpList_plain rfl fun K5 hK5=>?_
 go_simp
 refine hK5 _ _ ?_
 clear hK5 K5
 refine wpList_plain rfl fun K5 hK5=>?_
 go_simp
 rw [HW5.out]
 refine hK5 _ _ ?_
 clear hK5 K5 HW5
 have y0:=zh d1 0 rfl
 have f0:=zi d1 0
 have y1:=zh d1 1 rfl
 have f1:=zi d1 1
 have y2:=zh d1 2 rfl
 have f2:=zi d1 2
 have y3:=zh d1 3 rfl
 have f3:=zi d1 3
 have y4:=zh d1 4 rfl
 have f4:=zi d1 4
 have y5:=zh d1 5 rfl
 have f5:=zi d1 5
 have y6:=zh d1 6 rfl
 have f6:=zi d1 6
 have y7:=zh d1 7 rfl
 have f7:=zi d1 7
 have y8:=zh d1 8 rfl
 have f8:=zi d1 8
 have y9:=zh d1 9 rfl
 have f9:=zi d1 9
 obtain ⟨k1,k2,k3⟩:=xI (.int .i64 p.t.n) (.int .i64 p.t.ins) (.int .i64 p.t.outs) (.slice A p.t.cases.length kc) (.int .i64 p.a.n) (.slice SV p.a.sts.length ks) (.int .i64 p.k) (.int .i64 p.t.n) (.slice AV (zK p (zy p)).1.length kv) (.slice AE (zK p (zy p)).2.length ke) d1 B5.out (by omega:w.heap.size≤w.heap.size+1)
 obtain ⟨WF,hWF⟩:∃WF,((((((((((W5.setCell ⟨w.heap.size+1,0,none⟩ (.int .i64 p.t.n)).setCell ⟨w.heap.size+1,1,none⟩ (.int .i64 p.t.ins)).setCell ⟨w.heap.size+1,2,none⟩ (.int .i64 p.t.outs)).setCell ⟨w.heap.size+1,3,none⟩ (.slice A p.t.cases.length kc)).setCell ⟨w.heap.size+1,4,none⟩ (.int .i64 p.a.n)).setCell ⟨w.heap.size+1,5,none⟩ (.slice SV p.a.sts.length ks)).setCell ⟨w.heap.size+1,6,none⟩ (.int .i64 p.k)).setCell ⟨w.heap.size+1,7,none⟩ (.int .i64 p.t.n)).setCell ⟨w.heap.size+1,8,none⟩ (.slice AV (zK p (zy p)).1.length kv)).setCell ⟨w.heap.size+1,9,none⟩ (.slice AE (zK p (zy p)).2.length ke))=WF:=⟨_,rfl⟩
 rw [hWF] at k1 k2 k3
 have HK1:=zH k1
 have HK2:=zH k2
 have HK3:=zH k3
 have HWF:=zH hWF
 clear k1 k2 k3 hWF
 clear d1
 go_wp2_with fail
 rw [HWF.out]
 obtain ⟨z0,z1,z2,z3,z4,z5,z6,z7,z8,z9⟩:=zA HK1.out
 refine bodyPost_ret (v:=.tuple #[.agg #[.int .i64 p.t.n,.int .i64 p.t.ins,.int .i64 p.t.outs,.slice A p.t.cases.length kc,.int .i64 p.a.n,.slice SV p.a.sts.length ks,.int .i64 p.k,.int .i64 p.t.n,.slice AV (zK p (zy p)).1.length kv,.slice AE (zK p (zy p)).2.length ke],.int .i64 0]) (by simp [results,Tryz.results45,go_sem,z0,z1,z2,z3,z4,z5,z6,z7,z8,z9]) rfl ?_
 rw [hR.out]
 have hsame:∀k,k≠w.heap.size+1→k<w4.heap.size→WF.heap[k]?=w4.heap[k]?:=fun k a b=>(HK3.out.2.1 k a).trans (HB5.out.block k b)
 have hz:w4.heap.size≤WF.heap.size:=by have:=HB5.out.size;have:=HK3.out.2.2;omega
 have hV5:=HVO.out.of_same fun k hk=>hsame k (by have:=(HVO.out.lt' k hk).1;omega) (HVO.out.lt' k hk).2
 have hX5:=HXO.out.keep zZ (w':=WF) ⟨hz,fun k hs hl=>hsame k (by omega) hl⟩ fun k hk=>hsame k (by have:=(HXO.out.lt k hk).1;omega) (HXO.out.lt k hk).2
 refine fun _=>⟨kc,ks,AV,kv,AE,ke,rfl,fun W hl hW hc hs=>?_,HK2.out⟩
 obtain ⟨AV',kv',eV,hT⟩:=(hV5.of_same (w':=W) fun k hk=>hW k (by have:=(hV5.lt' k hk).1;omega) (hV5.lt' k hk).2).form (by have:=HFW.out;omega)
 cases eV
 obtain ⟨AE',ke',eE,_,_,hXA,hXC⟩:=vD (hX5.keep zZ (w':=W) ⟨hl,fun k hs hl=>hW k (by omega) hl⟩ fun k hk=>hW k (by have:=(hX5.lt k hk).1;omega) (hX5.lt k hk).2)
 cases eE
 exact ⟨⟨hc,hs,hT.rows,hXA⟩,hXC⟩
theorem QP (p:Pb) (hf:xY p) (A:Option Addr) (kc:Nat) (SV:Option Addr) (ks:Nat) (w:World) (hA:CAt w w.heap.size A p.t.cases) (hS:SAt w w.heap.size SV p.a.sts) :
  Calls Tryz.prog 45 #[.agg (p.vs A kc SV ks)] w (RetSysG (ya p) A SV w):=by
 refine (uH p hf A kc SV ks w hA hS).mono fun e w' h h0=>?_
 obtain ⟨kc,ks,AV,kv,AX,kx,h1,h2,h3⟩:=h h0
 exact ⟨kc,ks,AV,kv,AX,kx,h1,fun W a b c d=>(h2 W a b c d).1,h3⟩
end
section
open Go.RowKit Go.Shelf
attribute [local go_sem] Oper.semAt_some
set_option maxRecDepth 100000 in
theorem YX (w:World):Calls Tryz.prog 24 #[] w fun e w'=>∃A kc SV ks AV kv AX kx,e=.returned (.agg (yA.vs_ A kc SV ks AV kv AX kx))∧SyAt w' w'.heap.size A SV AV AX yA∧Below w.heap.size w w':=by
 obtain ⟨a0,ha0,e0,hs0,hb0⟩:=zm w #[.int .i64 0,.int .i64 0,.int .i64 0,.slice none 0 0,.int .i64 0,.slice none 0 0,.int .i64 0,.int .i64 0,.slice none 0 0,.slice none 0 0] 35
 obtain ⟨a1,ha1,e1,hs1,hb1⟩:=zm a0 #[.int .i64 0,.int .i64 0] 3
 obtain ⟨a2,ha2,e2,hs2,hb2⟩:=zm a1 #[.int .i64 0,.int .i64 0] 3
 obtain ⟨a3,ha3,e3,hs3,hb3⟩:=zm a2 #[.slice (some ⟨w.heap.size+1+1,0,none⟩) 2 2] 36
 obtain ⟨a4,ha4,e4,hs4,hb4⟩:=zm a3 #[.int .i64 0,.int .i64 1] 3
 obtain ⟨a5,ha5,e5,hs5,hb5⟩:=zm a4 #[.int .i64 0,.int .i64 0] 3
 obtain ⟨a6,ha6,e6,hs6,hb6⟩:=zm a5 #[.slice (some ⟨w.heap.size+1+1+1+1+1,0,none⟩) 2 2] 36
 obtain ⟨a7,ha7,e7,hs7,hb7⟩:=zm a6 #[.slice (some ⟨w.heap.size+1,0,none⟩) 2 2,.slice (some ⟨w.heap.size+1+1+1,0,none⟩) 1 1,.slice none 0 0,.slice (some ⟨w.heap.size+1+1+1+1,0,none⟩) 2 2,.slice (some ⟨w.heap.size+1+1+1+1+1+1,0,none⟩) 1 1,.slice none 0 0] 87
 obtain ⟨a8,ha8,e8,hs8,hb8⟩:=zm a7 #[.int .i64 2,.int .i64 2,.int .i64 1,.slice (some ⟨w.heap.size+1+1+1+1+1+1+1,0,none⟩) 2 2] 24
 obtain ⟨a9,ha9,e9,hs9,hb9⟩:=zm a8 #[.int .i64 2,.int .i64 1,.int .i64 3,.int .i64 0,.int .i64 0,.int .i64 0,.int .i64 0,.int .i64 0,.int .i64 2,.int .i64 3,.int .i64 3,.int .i64 0,.int .i64 0,.int .i64 0,.int .i64 0,.int .i64 0] 120
 obtain ⟨a10,ha10,e10,hs10,hb10⟩:=zm a9 #[.slice (some ⟨w.heap.size+1+1+1+1+1+1+1+1+1,0,none⟩) 2 2] 121
 obtain ⟨a11,ha11,e11,hs11,hb11⟩:=zm a10 #[.int .i64 2,.slice (some ⟨w.heap.size+1+1+1+1+1+1+1+1+1+1,0,none⟩) 1 1] 27
 rw [hs0] at e1 hs1
 rw [hs1] at e2 hs2
 rw [hs2] at e3 hs3
 rw [hs3] at e4 hs4
 rw [hs4] at e5 hs5
 rw [hs5] at e6 hs6
 rw [hs6] at e7 hs7
 rw [hs7] at e8 hs8
 rw [hs8] at e9 hs9
 rw [hs9] at e10 hs10
 rw [hs10] at e11 hs11
 have D0:Hid (a11.heap[w.heap.size]?=some (.cells #[.int .i64 0,.int .i64 0,.int .i64 0,.slice none 0 0,.int .i64 0,.slice none 0 0,.int .i64 0,.int .i64 0,.slice none 0 0,.slice none 0 0] 35 (0,0))):=(hb11.block _ (by omega)).trans ((hb10.block _ (by omega)).trans ((hb9.block _ (by omega)).trans ((hb8.block _ (by omega)).trans ((hb7.block _ (by omega)).trans ((hb6.block _ (by omega)).trans ((hb5.block _ (by omega)).trans ((hb4.block _ (by omega)).trans ((hb3.block _ (by omega)).trans ((hb2.block _ (by omega)).trans ((hb1.block _ (by omega)).trans (e0)))))))))))
 have D1:Hid (a11.heap[w.heap.size+1]?=some (.cells #[.int .i64 0,.int .i64 0] 3 (0,0))):=(hb11.block _ (by omega)).trans ((hb10.block _ (by omega)).trans ((hb9.block _ (by omega)).trans ((hb8.block _ (by omega)).trans ((hb7.block _ (by omega)).trans ((hb6.block _ (by omega)).trans ((hb5.block _ (by omega)).trans ((hb4.block _ (by omega)).trans ((hb3.block _ (by omega)).trans ((hb2.block _ (by omega)).trans (e1))))))))))
 have D2:Hid (a11.heap[w.heap.size+1+1]?=some (.cells #[.int .i64 0,.int .i64 0] 3 (0,0))):=(hb11.block _ (by omega)).trans ((hb10.block _ (by omega)).trans ((hb9.block _ (by omega)).trans ((hb8.block _ (by omega)).trans ((hb7.block _ (by omega)).trans ((hb6.block _ (by omega)).trans ((hb5.block _ (by omega)).trans ((hb4.block _ (by omega)).trans ((hb3.block _ (by omega)).trans (e2)))))))))
 have D3:Hid (a11.heap[w.heap.size+1+1+1]?=some (.cells #[.slice (some ⟨w.heap.size+1+1,0,none⟩) 2 2] 36 (0,0))):=(hb11.block _ (by omega)).trans ((hb10.block _ (by omega)).trans ((hb9.block _ (by omega)).trans ((hb8.block _ (by omega)).trans ((hb7.block _ (by omega)).trans ((hb6.block _ (by omega)).trans ((hb5.block _ (by omega)).trans ((hb4.block _ (by omega)).trans (e3))))))))
 have D4:Hid (a11.heap[w.heap.size+1+1+1+1]?=some (.cells #[.int .i64 0,.int .i64 1] 3 (0,0))):=(hb11.block _ (by omega)).trans ((hb10.block _ (by omega)).trans ((hb9.block _ (by omega)).trans ((hb8.block _ (by omega)).trans ((hb7.block _ (by omega)).trans ((hb6.block _ (by omega)).trans ((hb5.block _ (by omega)).trans (e4)))))))
 have D5:Hid (a11.heap[w.heap.size+1+1+1+1+1]?=some (.cells #[.int .i64 0,.int .i64 0] 3 (0,0))):=(hb11.block _ (by omega)).trans ((hb10.block _ (by omega)).trans ((hb9.block _ (by omega)).trans ((hb8.block _ (by omega)).trans ((hb7.block _ (by omega)).trans ((hb6.block _ (by omega)).trans (e5))))))
 have D6:Hid (a11.heap[w.heap.size+1+1+1+1+1+1]?=some (.cells #[.slice (some ⟨w.heap.size+1+1+1+1+1,0,none⟩) 2 2] 36 (0,0))):=(hb11.block _ (by omega)).trans ((hb10.block _ (by omega)).trans ((hb9.block _ (by omega)).trans ((hb8.block _ (by omega)).trans ((hb7.block _ (by omega)).trans (e6)))))
 have D7:Hid (a11.heap[w.heap.size+1+1+1+1+1+1+1]?=some (.cells #[.slice (some ⟨w.heap.size+1,0,none⟩) 2 2,.slice (some ⟨w.heap.size+1+1+1,0,none⟩) 1 1,.slice none 0 0,.slice (some ⟨w.heap.size+1+1+1+1,0,none⟩) 2 2,.slice (some ⟨w.heap.size+1+1+1+1+1+1,0,none⟩) 1 1,.slice none 0 0] 87 (0,0))):=(hb11.block _ (by omega)).trans ((hb10.block _ (by omega)).trans ((hb9.block _ (by omega)).trans ((hb8.block _ (by omega)).trans (e7))))
 have D8:Hid (a11.heap[w.heap.size+1+1+1+1+1+1+1+1]?=some (.cells #[.int .i64 2,.int .i64 2,.int .i64 1,.slice (some ⟨w.heap.size+1+1+1+1+1+1+1,0,none⟩) 2 2] 24 (0,0))):=(hb11.block _ (by omega)).trans ((hb10.block _ (by omega)).trans ((hb9.block _ (by omega)).trans (e8)))
 have D9:Hid (a11.heap[w.heap.size+1+1+1+1+1+1+1+1+1]?=some (.cells #[.int .i64 2,.int .i64 1,.int .i64 3,.int .i64 0,.int .i64 0,.int .i64 0,.int .i64 0,.int .i64 0,.int .i64 2,.int .i64 3,.int .i64 3,.int .i64 0,.int .i64 0,.int .i64 0,.int .i64 0,.int .i64 0] 120 (0,0))):=(hb11.block _ (by omega)).trans ((hb10.block _ (by omega)).trans (e9))
 have D10:Hid (a11.heap[w.heap.size+1+1+1+1+1+1+1+1+1+1]?=some (.cells #[.slice (some ⟨w.heap.size+1+1+1+1+1+1+1+1+1,0,none⟩) 2 2] 121 (0,0))):=(hb11.block _ (by omega)).trans (e10)
 have D11:Hid (a11.heap[w.heap.size+1+1+1+1+1+1+1+1+1+1+1]?=some (.cells #[.int .i64 2,.slice (some ⟨w.heap.size+1+1+1+1+1+1+1+1+1+1,0,none⟩) 1 1] 27 (0,0))):=e11
 have HB:Hid (Below w.heap.size w a11):=(((((((((((hb0).trans (hb1.mono (by omega))).trans (hb2.mono (by omega))).trans (hb3.mono (by omega))).trans (hb4.mono (by omega))).trans (hb5.mono (by omega))).trans (hb6.mono (by omega))).trans (hb7.mono (by omega))).trans (hb8.mono (by omega))).trans (hb9.mono (by omega))).trans (hb10.mono (by omega))).trans (hb11.mono (by omega))
 have HA0:=zH ha0
 have HA1:=zH ha1
 have HA2:=zH ha2
 have HA3:=zH ha3
 have HA4:=zH ha4
 have HA5:=zH ha5
 have HA6:=zH ha6
 have HA7:=zH ha7
 have HA8:=zH ha8
 have HA9:=zH ha9
 have HA10:=zH ha10
 have HA11:=zH ha11
 have HS:=zH hs11
 clear ha0 e0 hb0 ha1 e1 hb1 ha2 e2 hb2 ha3 e3 hb3 ha4 e4 hb4 ha5 e5 hb5 ha6 e6 hb6 ha7 e7 hb7 ha8 e8 hb8 ha9 e9 hb9 ha10 e10 hb10 ha11 e11 hb11 hs0 hs1 hs2 hs3 hs4 hs5 hs6 hs7 hs8 hs9 hs10 hs11
 go_enter Tryz.func24,Tryz.ntmps24
 go_upto_region 3 with fail
 rw [HA0.out,HA1.out,HA2.out,HA3.out,HA4.out,HA5.out,HA6.out,HA7.out,HA8.out,HA9.out,HA10.out,HA11.out]
 clear HA0 HA1 HA2 HA3 HA4 HA5 HA6 HA7 HA8 HA9 HA10 HA11
 have hlt:=HS.out
 have HCS:Hid (∀X:World,a11.heap.size≤X.heap.size→(∀k,w.heap.size<k→k<a11.heap.size→X.heap[k]?=a11.heap[k]?)→CAt X X.heap.size (some ⟨w.heap.size+1+1+1+1+1+1+1,0,none⟩) YY.t.cases∧SAt X X.heap.size (some ⟨w.heap.size+1+1+1+1+1+1+1+1+1+1,0,none⟩) YY.a.sts):=fun X hl hX=>by
  have E1:=(hX _ (by omega) (zj D1.out)).trans D1.out
  have E2:=(hX _ (by omega) (zj D2.out)).trans D2.out
  have E3:=(hX _ (by omega) (zj D3.out)).trans D3.out
  have E4:=(hX _ (by omega) (zj D4.out)).trans D4.out
  have E5:=(hX _ (by omega) (zj D5.out)).trans D5.out
  have E6:=(hX _ (by omega) (zj D6.out)).trans D6.out
  have E7:=(hX _ (by omega) (zj D7.out)).trans D7.out
  have E8:=(hX _ (by omega) (zj D8.out)).trans D8.out
  have E9:=(hX _ (by omega) (zj D9.out)).trans D9.out
  have E10:=(hX _ (by omega) (zj D10.out)).trans D10.out
  have E11:=(hX _ (by omega) (zj D11.out)).trans D11.out
  have i0:IAtS (fun _=>True) X _ [0,0]:=uT trivial E1
  have i1:IAtS (fun _=>True) X _ [0,0]:=uT trivial E2
  have i3:IAtS (fun _=>True) X _ [0,1]:=uT trivial E4
  have i4:IAtS (fun _=>True) X _ [0,0]:=uT trivial E5
  have l2:=Je (v:=[0,0]) (S:=fun _=>True) trivial E3 i1
  have l5:=Je (v:=[0,0]) (S:=fun _=>True) trivial E6 i4
  have hCA:CAt X X.heap.size (some ⟨w.heap.size+1+1+1+1+1+1+1,0,none⟩) YY.t.cases:=fun _=>⟨_,0,rfl,zj E7,fun i hi=>by
   have h2:i=0∨i=1:=by have:i<2:=hi;omega
   rcases h2 with rfl | rfl
   · exact ⟨_,_,_,zh E7 0 rfl,zh E7 1 rfl,zh E7 2 rfl,⟨_,2,rfl,i0.iat⟩,⟨_,1,rfl,l2.lat⟩,⟨none,0,rfl,LAt.nil _ _ _⟩⟩
   · exact ⟨_,_,_,zh E7 3 rfl,zh E7 4 rfl,zh E7 5 rfl,⟨_,2,rfl,i3.iat⟩,⟨_,1,rfl,l5.lat⟩,⟨none,0,rfl,LAt.nil _ _ _⟩⟩⟩
  have hSA:SAt X X.heap.size (some ⟨w.heap.size+1+1+1+1+1+1+1+1+1+1,0,none⟩) YY.a.sts:=fun _=>⟨_,0,rfl,zj E10,fun i hi=>by
   obtain rfl:i=0:=by have:i<1:=hi;omega
   refine ⟨_,2,zh E10 0 rfl,fun _=>⟨_,0,rfl,zj E9,fun i hi k u hu=>?_⟩⟩
   have hi2:i=0∨i=1:=by have:i<2:=hi;omega
   have hk8:k<8:=by
    rcases hi2 with rfl | rfl
    · exact (Array.getElem?_eq_some_iff.1 hu).1
    · exact (Array.getElem?_eq_some_iff.1 hu).1
   rw [←hu]
   have h8:k=0∨k=1∨k=2∨k=3∨k=4∨k=5∨k=6∨k=7:=by omega
   rcases hi2 with rfl | rfl
   · rcases h8 with rfl | rfl | rfl | rfl | rfl | rfl | rfl | rfl
     all_goals exact zh E9 _ rfl
   · rcases h8 with rfl | rfl | rfl | rfl | rfl | rfl | rfl | rfl
     all_goals exact zh E9 _ rfl⟩
  exact ⟨hCA,hSA⟩
 obtain ⟨hCA,hSA⟩:=HCS.out a11 (Nat.le_refl _) (fun _ _ _=>rfl)
 have hbd:=QP YY Qg _ 2 _ 1 a11 hCA hSA
 have HR:Hid (ya YY=(yA,0)):=Prod.ext rfl ex_ok
 rw [HR.out] at hbd
 have hargs:YY.vs (some ⟨w.heap.size+1+1+1+1+1+1+1,0,none⟩) 2 (some ⟨w.heap.size+1+1+1+1+1+1+1+1+1+1,0,none⟩) 1=#[.int .i64 2,.int .i64 2,.int .i64 1,.slice (some ⟨w.heap.size+1+1+1+1+1+1+1,0,none⟩) 2 2,.int .i64 2,.slice (some ⟨w.heap.size+1+1+1+1+1+1+1+1+1+1,0,none⟩) 1 1,.int .i64 1]:=rfl
 rw [hargs] at hbd
 have HBD:=zH hbd
 have x0:=zh D8.out 0 rfl
 have x1:=zh D8.out 1 rfl
 have x2:=zh D8.out 2 rfl
 have x3:=zh D8.out 3 rfl
 have y0:=zh D11.out 0 rfl
 have y1:=zh D11.out 1 rfl
 clear hCA hSA HR hargs hbd D1 D2 D3 D4 D5 D6 D7 D8 D9 D10 D11 hlt
 go_wp2_with fail
 refine HBD.out.mono ?_
 rintro e w9 hG
 obtain ⟨kc2,ks2,AV,kv,AX,kx,rfl,hSY,hb9⟩:=hG rfl
 dsimp only at hSY ⊢
 have HA9:=zH (HB.out.size)
 obtain ⟨T,hT⟩:∃T,yA=T:=⟨_,rfl⟩
 rw [hT] at hSY
 have HT:=zH hT
 have HSY:=zH hSY
 have HB9:=zH (HB.out.trans (hb9.mono HB.out.size))
 have HD0:=zH ((hb9.block _ (zj D0.out)).trans D0.out)
 rw [hT]
 unfold Sy.vs_
 have HB89:=zH hb9
 clear hb9 hSY HBD hT x0 x1 x2 x3 y0 y1 D0
 go_upto_region 4 with fail
 obtain ⟨W10,hW10,d10,hs10,hb10⟩:=zm w9 #[.int .i64 T.p.t.n,.int .i64 T.p.t.ins,.int .i64 T.p.t.outs,.slice (some ⟨w.heap.size+1+1+1+1+1+1+1,0,none⟩) T.p.t.cases.length kc2,.int .i64 T.p.a.n,.slice (some ⟨w.heap.size+1+1+1+1+1+1+1+1+1+1,0,none⟩) T.p.a.sts.length ks2,.int .i64 T.p.k,.int .i64 T.n,.slice AV T.vs.length kv,.slice AX T.xs.length kx] 35
 rw [hW10]
 have hz:=zj HD0.out
 have HD10:=zH d10
 have HD0T:=zH ((hb10.block _ hz).trans HD0.out)
 have HB10:=zH (HB9.out.trans (hb10.mono HB9.out.size))
 have HSM:Hid (∀k,k<w9.heap.size→W10.heap[k]?=w9.heap[k]?):=fun k hk=>hb10.block k hk
 obtain ⟨q0,q1,q2,q3,q4,q5,q6,q7,q8,q9⟩:=zA d10
 obtain ⟨r0,r1,r2,r3,r4,r5,r6,r7,r8,r9⟩:=zA HD0T.out
 have g0:=zi HD0T.out 0
 have g1:=zi HD0T.out 1
 have g2:=zi HD0T.out 2
 have g3:=zi HD0T.out 3
 have g4:=zi HD0T.out 4
 have g5:=zi HD0T.out 5
 have g6:=zi HD0T.out 6
 have g7:=zi HD0T.out 7
 have g8:=zi HD0T.out 8
 have g9:=zi HD0T.out 9
 have l1:=zj HD0T.out
 clear hW10 d10 hb10 HD0
 go_wp2_with fail
 obtain ⟨WF,hWF,f1,f2,f3,f4⟩:=set10 HD0T.out (.int .i64 T.p.t.n) (.int .i64 T.p.t.ins) (.int .i64 T.p.t.outs) (.slice (some ⟨w.heap.size+1+1+1+1+1+1+1,0,none⟩) T.p.t.cases.length kc2) (.int .i64 T.p.a.n) (.slice (some ⟨w.heap.size+1+1+1+1+1+1+1+1+1+1,0,none⟩) T.p.a.sts.length ks2) (.int .i64 T.p.k) (.int .i64 T.n) (.slice AV T.vs.length kv) (.slice AX T.xs.length kx)
 rw [hWF]
 (try simp only [Exit.inBlock,Exit.then])
 refine bodyPost_ret (results_cell_row (P:=Tryz.prog) rfl _ _ w.heap.size 35 _ (0,0) _ rfl f1 Tryz.underlying35 rfl (by kernel_rfl)) rfl ?_
 have hAl:=HB89.out.size
 have hSl:=HS.out
 refine ⟨_,kc2,_,ks2,AV,kv,AX,⟨kx,by first | rfl | (rw [HT.out];rfl)⟩,?_,?_⟩
 · have hag:∀k,w.heap.size<k→k<w9.heap.size→WF.heap[k]?=w9.heap[k]?:=fun k h1 h2=>(f2 k (by omega)).trans (HSM.out k h2)
   have hwl:w9.heap.size≤WF.heap.size:=by have:=f4;omega
   obtain ⟨hc,hs⟩:=HCS.out WF (by omega) fun k h1 h2=>(hag k h1 (by omega)).trans (HB89.out.block k h2)
   try rw [HT.out]
   refine HSY.out WF hwl (fun k h1 h2=>hag k (by omega) h2) ?_ ?_
   · rw [←HT.out];exact hc
   · rw [←HT.out];exact hs
 · exact HB10.out.trans (f3 _ (Nat.le_refl _))
end
end Go.Proofs.YtiookelkkekbeaaGreat
