/- Parts Sys6 RemP. -/
import Derived.Test.YtiookelkkekbeaaGreatProg
import Derived.Test.YtiookelkkekbeaaGreatPf
import Derived.Test.YtiookelkkekbeaaGreatPg

namespace Go.Proofs.YtiookelkkekbeaaGreat
set_option maxHeartbeats 4000000
section
open Go.RowKit Go.Shelf
attribute [local go_sem] Oper.semAt_some
def RetS6C (p:Pb) (w:World) (e:Ending) (w':World):Prop:=
 Below w.heap.size w w'∧((xE p=false∧e=.returned (.tuple #[.agg #[.int .i64 0,.int .i64 0,.int .i64 0,.slice none 0 0,.int .i64 0,.slice none 0 0,.int .i64 0,.int .i64 0,.slice none 0 0,.slice none 0 0],.bool false])) ∨
  (xE p=true∧∃A kc SV ks AV kv AX kx,e=.returned (.tuple #[.agg ((zx p).vs_ A kc SV ks AV kv AX kx),.bool true])∧SyAt w' w'.heap.size A SV AV AX (zx p)∧XCap w' AX (zx p).xs))
def RetS6 (p:Pb) (w:World) (e:Ending) (w':World):Prop:=
 Below w.heap.size w w'∧((xE p=false∧e=.returned (.tuple #[.agg #[.int .i64 0,.int .i64 0,.int .i64 0,.slice none 0 0,.int .i64 0,.slice none 0 0,.int .i64 0,.int .i64 0,.slice none 0 0,.slice none 0 0],.bool false])) ∨
  (xE p=true∧∃A kc SV ks AV kv AX kx,e=.returned (.tuple #[.agg ((zx p).vs_ A kc SV ks AV kv AX kx),.bool true])∧SyAt w' w'.heap.size A SV AV AX (zx p)))
set_option maxRecDepth 100000 in
theorem uz (p:Pb) (hl:wn p) (A:Option Addr) (kc:Nat) (SV:Option Addr) (ks:Nat) (w:World) (hA:CAt w w.heap.size A p.t.cases) (hS:SAt w w.heap.size SV p.a.sts) :
  Calls Tryz.prog 13 #[.agg (p.vs A kc SV ks)] w (RetS6C p w):=by
 obtain ⟨wa,hwa,da,hsa,hBa⟩:=zm w (p.vs A kc SV ks) 29
 obtain ⟨w0,hw0,dz,hs0,hB0⟩:=zm wa #[.int .i64 0,.int .i64 0,.int .i64 0,.slice none 0 0,.int .i64 0,.slice none 0 0,.int .i64 0,.int .i64 0,.slice none 0 0,.slice none 0 0] 35
 rw [hsa] at dz
 have hz0:w0.heap.size=w.heap.size+2:=by omega
 have d0:=(hB0.block _ (zj da)).trans da
 have hB:=hBa.trans (hB0.mono hBa.size)
 have HR:=zH (right_any p hl A kc SV ks w0 ((hA.keep hB).more hB.size) ((hS.keep hB).more hB.size))
 have HBD:=zH (fun (hf:xY p) (X:World) (hX:Below w.heap.size w X)=>uH p hf A kc SV ks X ((hA.keep hX).more hX.size) ((hS.keep hX).more hX.size))
 have HCS:Hid (∀X,Below w.heap.size w X→CAt X X.heap.size A p.t.cases∧SAt X X.heap.size SV p.a.sts):=fun X hX=>⟨(hA.keep hX).more hX.size,(hS.keep hX).more hX.size⟩
 have HRB:=zH (fun (h:xE p=true)=>kI h)
 have HBb:=zH hB
 have HX1:Hid (xE p=false→∀W,Below w.heap.size w W→RetS6C p w (.returned (.tuple #[.agg #[.int .i64 0,.int .i64 0,.int .i64 0,.slice none 0 0,.int .i64 0,.slice none 0 0,.int .i64 0,.int .i64 0,.slice none 0 0,.slice none 0 0],.bool false])) W):=fun h W hW=>⟨hW,.inl ⟨h,rfl⟩⟩
 have HX2:Hid (xE p=true→∀(A2:Option Addr) (kc2:Nat) (SV2:Option Addr) (ks2:Nat) (AV:Option Addr) (kv:Nat) (AX:Option Addr) (kx:Nat) (W:World),Below w.heap.size w W→SyAt W W.heap.size A2 SV2 AV AX (zx p)∧XCap W AX (zx p).xs →
   RetS6C p w (.returned (.tuple #[.agg ((zx p).vs_ A2 kc2 SV2 ks2 AV kv AX kx),.bool true])) W):=fun h1 A2 kc2 SV2 ks2 AV kv AX kx W hW hSY=>⟨hW,.inr ⟨h1,A2,kc2,SV2,ks2,AV,kv,AX,kx,rfl,hSY⟩⟩
 obtain ⟨r,hr⟩:∃r,xE p=r:=⟨_,rfl⟩
 rw [hr] at HR HRB HX1 HX2
 unfold Pb.vs at hwa da d0 HR HBD ⊢
 have HWa:Hid ((w.alloc (.cells #[.int .i64 p.t.n,.int .i64 p.t.ins,.int .i64 p.t.outs,.slice A p.t.cases.length kc,.int .i64 p.a.n,.slice SV p.a.sts.length ks,.int .i64 p.k] 29)).alloc (.cells #[.int .i64 0,.int .i64 0,.int .i64 0,.slice none 0 0,.int .i64 0,.slice none 0 0,.int .i64 0,.int .i64 0,.slice none 0 0,.slice none 0 0] 35)=w0):=by rw [Hid,hwa,hw0]
 have HD0:=zH d0
 have dz:=zH dz
 have HZ0:=zH hz0
 have p0:=zh (d0) 0 rfl
 have p1:=zh (d0) 1 rfl
 have p2:=zh (d0) 2 rfl
 have p3:=zh (d0) 3 rfl
 have p4:=zh (d0) 4 rfl
 have p5:=zh (d0) 5 rfl
 have p6:=zh (d0) 6 rfl
 clear hwa hw0 d0 da hBa hB0 hA hS hB hsa hs0 hr hl hz0
 go_enter Tryz.func13,Tryz.ntmps13
 go_upto_region 1 with fail
 rw [HWa.out]
 go_wp2_with fail
 refine HR.out.mono ?_
 rintro e w2 ⟨rfl,hb2⟩
 have B2:=zH (HBb.out.trans (hb2.mono HBb.out.size))
 have hs2:=hb2.size
 have hz0:=HZ0.out
 have dz:=zH ((hb2.block _ (zj dz.out)).trans dz.out)
 have HD0:=zH ((hb2.block _ (zj HD0.out)).trans HD0.out)
 have hs23:w.heap.size+2≤w2.heap.size:=by omega
 clear hb2 HR HWa HBb hs2 hz0 HZ0 p0 p1 p2 p3 p4 p5 p6
 cases r with
 | false=>
  have HX0:=zH (HX1.out rfl)
  clear HBD HRB HCS HX2 HX1
  obtain ⟨WF,hWF,f1,f2,f3,f4⟩:=set10 dz.out (.int .i64 0) (.int .i64 0) (.int .i64 0) (.slice none 0 0) (.int .i64 0) (.slice none 0 0) (.int .i64 0) (.int .i64 0) (.slice none 0 0) (.slice none 0 0)
  obtain ⟨y0,y1,y2,y3,y4,y5,y6,y7,y8,y9⟩:=zA (dz.out)
  have g0:=zi (dz.out) 0
  have g1:=zi (dz.out) 1
  have g2:=zi (dz.out) 2
  have g3:=zi (dz.out) 3
  have g4:=zi (dz.out) 4
  have g5:=zi (dz.out) 5
  have g6:=zi (dz.out) 6
  have g7:=zi (dz.out) 7
  have g8:=zi (dz.out) 8
  have g9:=zi (dz.out) 9
  have lz:=zj dz.out
  have HWF:=zH hWF
  have HF1:=zH f1
  have HBF:=zH (B2.out.trans (f3 _ (by omega)))
  clear hWF f1 f2 f3 f4
  go_wp2_with fail
  rw [HWF.out]
  obtain ⟨z0,z1,z2,z3,z4,z5,z6,z7,z8,z9⟩:=zA (HF1.out)
  refine bodyPost_ret (v:=.tuple #[.agg #[.int .i64 0,.int .i64 0,.int .i64 0,.slice none 0 0,.int .i64 0,.slice none 0 0,.int .i64 0,.int .i64 0,.slice none 0 0,.slice none 0 0],.bool false]) (by simp [results,Tryz.results13,go_sem,z0,z1,z2,z3,z4,z5,z6,z7,z8,z9]) rfl ?_
  exact HX0.out _ HBF.out
 | true=>
 obtain ⟨hbE,hvE,hf,h0,h60,hn3,K,N,hF,hSe⟩:=HRB.out rfl
 have HBL:=zH (HBD.out hf w2 B2.out)
 rw [hbE] at HBL
 have HCP:Hid ((zx p).p=p):=rfl
 have HX3:=zH (HX2.out rfl)
 obtain ⟨T,hT⟩:∃T,zx p=T:=⟨_,rfl⟩
 rw [hT] at HBL HX3 HCP
 unfold JM Sy.vs_ at HBL
 unfold Sy.vs_ at HX3
 have p0:=zh (HD0.out) 0 rfl
 have p1:=zh (HD0.out) 1 rfl
 have p2:=zh (HD0.out) 2 rfl
 have p3:=zh (HD0.out) 3 rfl
 have p4:=zh (HD0.out) 4 rfl
 have p5:=zh (HD0.out) 5 rfl
 have p6:=zh (HD0.out) 6 rfl
 clear HBD HRB hbE hvE hf h0 h60 hF hSe hT HX1 HX2 HD0 hn3
 go_wp2_with fail
 refine HBL.out.mono ?_
 rintro e w3 hq
 obtain ⟨kc2,ks2,AV,kv,AX,kx,rfl,hSX,hb3⟩:=hq (by simp)
 have B3:=zH (B2.out.trans (hb3.mono B2.out.size))
 have HSX:=zH hSX
 have dz:=zH ((hb3.block _ (zj dz.out)).trans dz.out)
 have hs3:=hb3.size
 clear hSX hb3 HBL p0 p1 p2 p3 p4 p5 p6
 go_upto_region 4 with fail
 obtain ⟨w4,hw4,d4,hs4,hb4⟩:=zm w3 #[.int .i64 T.p.t.n,.int .i64 T.p.t.ins,.int .i64 T.p.t.outs,.slice A T.p.t.cases.length kc2,.int .i64 T.p.a.n,.slice SV T.p.a.sts.length ks2,.int .i64 T.p.k,.int .i64 T.n,.slice AV T.vs.length kv,.slice AX T.xs.length kx] 35
 rw [hw4]
 have dz:=zH ((hb4.block _ (zj dz.out)).trans dz.out)
 have B4:=zH (B3.out.trans (hb4.mono B3.out.size))
 have HB4:=zH hb4
 clear hw4 hb4
 obtain ⟨WF,hWF,f1,f2,f3,f4⟩:=set10 dz.out (.int .i64 T.p.t.n) (.int .i64 T.p.t.ins) (.int .i64 T.p.t.outs) (.slice A T.p.t.cases.length kc2) (.int .i64 T.p.a.n) (.slice SV T.p.a.sts.length ks2) (.int .i64 T.p.k) (.int .i64 T.n) (.slice AV T.vs.length kv) (.slice AX T.xs.length kx)
 obtain ⟨q0,q1,q2,q3,q4,q5,q6,q7,q8,q9⟩:=zA (d4)
 obtain ⟨y0,y1,y2,y3,y4,y5,y6,y7,y8,y9⟩:=zA (dz.out)
 have g0:=zi (dz.out) 0
 have g1:=zi (dz.out) 1
 have g2:=zi (dz.out) 2
 have g3:=zi (dz.out) 3
 have g4:=zi (dz.out) 4
 have g5:=zi (dz.out) 5
 have g6:=zi (dz.out) 6
 have g7:=zi (dz.out) 7
 have g8:=zi (dz.out) 8
 have g9:=zi (dz.out) 9
 have lz:=zj dz.out
 have HWF:=zH hWF
 have HF1:=zH f1
 have HF2:=zH f2
 have HF4:=zH f4
 have HS4:=zH hs4
 have HBF:=zH (B4.out.trans (f3 _ (by omega)))
 clear hWF f1 f2 f3 f4 d4 hs4
 go_wp2_with fail
 rw [HWF.out]
 obtain ⟨z0,z1,z2,z3,z4,z5,z6,z7,z8,z9⟩:=zA (HF1.out)
 refine bodyPost_ret (v:=.tuple #[.agg #[.int .i64 T.p.t.n,.int .i64 T.p.t.ins,.int .i64 T.p.t.outs,.slice A T.p.t.cases.length kc2,.int .i64 T.p.a.n,.slice SV T.p.a.sts.length ks2,.int .i64 T.p.k,.int .i64 T.n,.slice AV T.vs.length kv,.slice AX T.xs.length kx],.bool true]) (by simp [results,Tryz.results13,go_sem,z0,z1,z2,z3,z4,z5,z6,z7,z8,z9]) rfl ?_
 have hs4:=HS4.out
 have hf4:=HF4.out
 refine HX3.out A kc2 SV ks2 AV kv AX kx _ HBF.out ?_
 have hcs:=HCS.out _ HBF.out
 refine HSX.out WF (by omega) (fun k h1 h2=>(HF2.out k (by omega)).trans (HB4.out.block k h2)) ?_ ?_
 · rw [HCP.out];exact hcs.1
 · rw [HCP.out];exact hcs.2
theorem Qz (p:Pb) (hl:wn p) (A:Option Addr) (kc:Nat) (SV:Option Addr) (ks:Nat) (w:World) (hA:CAt w w.heap.size A p.t.cases) (hS:SAt w w.heap.size SV p.a.sts) :
  Calls Tryz.prog 13 #[.agg (p.vs A kc SV ks)] w (RetS6 p w):=by
 refine (uz p hl A kc SV ks w hA hS).mono ?_
 rintro e w' ⟨h1,h2 | ⟨h2,A,kc,SV,ks,AV,kv,AX,kx,h3,h4⟩⟩
 · exact ⟨h1,.inl h2⟩
 · exact ⟨h1,.inr ⟨h2,A,kc,SV,ks,AV,kv,AX,kx,h3,h4.1⟩⟩
end
section
open Go.RowKit
theorem Xb {p:Pb} (h:xE p=true):∃K N:Nat,Fine (zx p) K N∧Sees (zx p) K N∧(zx p).n=(N:Int)∧p.k=(K:Int)∧1≤N∧N≤3∧K≤6∧xY (zx p).p∧yn (zx p)=0∧ptn (zx p)=(zx p).xs.length*(K+1)∧(zx p).xs.length≤60∧ptn (zx p)≤700:=by
 obtain ⟨hbE,hvE,hf,h0,h60,hn3,K,N,hF,hSe⟩:=kI h
 have hk:=hF.k
 have e:(zx p).p.k=p.k:=rfl
 have hkk:(zx p).p.k.toNat=K:=by omega
 have hpt:=hF.pn
 have e2:(zx p).p.t.n=p.t.n:=rfl
 have hpn:ptn (zx p)=(zx p).xs.length*(K+1):=by unfold ptn;rw [hkk]
 have hk6:=hF.k6
 have:=Nat.mul_le_mul hF.lx (show K+1≤7 by omega)
 exact ⟨K,N,hF,hSe,hF.n,by omega,hF.n1,by omega,hF.k6,hf,hvE,hpn,hF.lx,by omega⟩
end
end Go.Proofs.YtiookelkkekbeaaGreat
