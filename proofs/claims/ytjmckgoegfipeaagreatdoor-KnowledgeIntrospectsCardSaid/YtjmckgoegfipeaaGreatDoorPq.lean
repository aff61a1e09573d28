/- Parts LwKi. -/
import Derived.Test.YtjmckgoegfipeaaGreatDoorProg
import Derived.Test.YtjmckgoegfipeaaGreatDoorPj
import Derived.Test.YtjmckgoegfipeaaGreatDoorPk
import Derived.Test.YtjmckgoegfipeaaGreatDoorPh
import Derived.Test.YtjmckgoegfipeaaGreatDoorPc

namespace Go.Proofs.YtjmckgoegfipeaaGreatDoor
set_option maxRecDepth 100000
set_option maxHeartbeats 4000000
open Go.RowKit
attribute [local go_sem] Oper.semAt_some
theorem law_kintro(p:Pb)(hl:vN p)(A:Bb)(kc:Nat)(SV:Bb)(ks:Nat)(c:Nat)(hc:c<256)(bs:List Bool)(AB:Bb)(kb:Nat)(w:Ba)(hT:RowTab w)(hA:CAt w w.heap.size A p.t.cases)(hS:SAt w w.heap.size SV p.a.sts)(hb0:BAt w w.heap.size AB bs) :
  Calls Tryz.prog 6 #[.agg (p.vs A kc SV ks),.int .u8 (c:Int),.slice AB bs.length kb] w (jq w):=by
 obtain⟨w1,hw1,d0,hs1,hB1⟩:=zm w (p.vs A kc SV ks) 29;have HTT:Hid (∀X,Below w1.heap.size w1 X->RowTab X):=fun X hX=>hT.keep (Lc hB1 hX) hT.1
 have HSC:=zH (qU p hl A kc SV ks bs AB kb w1 ((hA.keep hB1).more hB1.size) ((hS.keep hB1).more hB1.size) ((hb0.keep hB1).more hB1.size));have HRB:=zH (fun (h:qa p=true)=>qW hl h);have HBb:=zH hB1;unfold Pb.vs at hw1 d0 HSC ⊢;have HW1:=zH hw1;obtain⟨p0,p1,p2,p3,p4,p5,p6,_⟩:=Kf (d0);clear hw1 d0 hB1 hA hS hb0 hs1 hl hT;go_enter Tryz.func6,Tryz.ntmps6;go_wp2_with fail;rw[HW1.out];go_wp2_with fail;refine HSC.out.mono ?_;rintro e w2 ⟨hb2,hcase⟩;have B2:=zH (Lc HBb.out hb2);have G2:=zH hb2;have hs2:=hb2.size;clear hb2 HSC HW1 p0 p1 p2 p3 p4 p5 p6;rcases hcase with ⟨_,rfl⟩ | ⟨⟨hr,_⟩,A2,kc2,SV2,ks2,AV,kv,AX,kx,g,rfl,hg0,hrow,hsy⟩
 . clear HRB hc
   go_upto_region 2 with fail
   obtain⟨WF,hWF,dz,hsF,hBF⟩:=zm w2 #[.int .i64 0,.int .i64 0,.int .i64 0,.slice none 0 0,.int .i64 0,.slice none 0 0,.int .i64 0,.int .i64 0,.slice none 0 0,.slice none 0 0] 35;rw[hWF];clear hWF dz;go_wp2_with fail;refine(ye WF (HTT.out _ (Lc G2.out hBF))).mono ?_;rintro e v3 ⟨rfl,hb9⟩;have B3:=zH (B2.out.trans ((Lc hBF hb9).mono B2.out.size));clear hb9;go_wp2_with fail;go_ret;exact⟨rfl,B3.out⟩
 obtain⟨N,hok,_⟩:=HRB.out hr;obtain⟨T,hTT⟩:=Ki (zN p);rw[hTT] at hok hrow hsy ⊢;obtain⟨n,hn⟩:=Ki (ptn T);rw[hn] at hok hrow ⊢;have hxl:(vd bs n).length=n:=kX bs n;obtain⟨x,hx⟩:=Ki (vd bs n);rw[hx] at hxl hrow;have HXL:=zH hxl;have HOK:=zH hok;have hn1:=hok.n1;have hn3:=hok.n3;have hp7:=hok.p7;have hp1:=hok.p1;clear HRB hr hTT hn hx hxl;have HTN:=zH hok.nn;unfold Sy.vs_;rw[HTN.out];go_upto_region 2 with fail
 obtain⟨WF,hWF,dz,hsF,hBF⟩:=zm w2 #[.int .i64 T.p.t.n,.int .i64 T.p.t.ins,.int .i64 T.p.t.outs,.slice A2 T.p.t.cases.length kc2,.int .i64 T.p.a.n,.slice SV2 T.p.a.sts.length ks2,.int .i64 T.p.k,.int .i64 (N:Int),.slice AV T.vs.length kv,.slice AX T.xs.length kx] 35;rw[hWF];have DZ:Hid (∀X,Below WF.heap.size WF X->X.heap[w2.heap.size]?=some (.cells #[.int .i64 T.p.t.n,.int .i64 T.p.t.ins,.int .i64 T.p.t.outs,.slice A2 T.p.t.cases.length kc2,.int .i64 T.p.a.n,.slice SV2 T.p.a.sts.length ks2,.int .i64 T.p.k,.int .i64 (N:Int),.slice AV T.vs.length kv,.slice AX T.xs.length kx] 35 (0,0))):=fun X hX=>La hX dz
 have HSY:Hid (∀X,Below WF.heap.size WF X->SyAt X X.heap.size A2 SV2 AV AX T):=fun X hX=>(hsy w2 G2.out (N4 hrow.lt) (fun _ _ _=>rfl)).up (Lc hBF hX)
 have HT:Hid (∀X,Below WF.heap.size WF X->RowTab X):=fun X hX=>HTT.out X (G2.out.trans ((Lc hBF hX).mono G2.out.size))
 have HBF:=zH hBF;have E0:Hid (Below WF.heap.size WF WF):=Lm _ _;have hrow:=Lb hBF hrow.lt hrow;have QX:Hid (BAt WF WF.heap.size (some ⟨g,0,none⟩) x):=BRow.at_ hrow (zj hrow);have hcw:IntKind.i64.wrap (c:Int)=(c:Int):=by rw[Ll];omega
 obtain⟨q,hq⟩:=Ki (c % N);have hqN:q<N:=by rw[<-hq];exact P8 _ hn1
 have ht:Int.tmod (c:Int) (N:Int)=(q:Int):=by rw[<-hq];exact(P5 c N).symm
 have hn0:¬(N:Int)=0:=by omega
 have hn00:¬N=0:=by omega
 have hal:(yn n (zX T q) x).length=n:=zT ..;have hsub:∀i,i<n->(yn n (zX T q) x).getD i false=true->x.getD i false=true:=fun i hi h=>Yb hi h
 have htw:=ins_twice n (zX T q) x;have hno:=ins_not n (zX T q) x;obtain⟨a,ha⟩:=Ki (yn n (zX T q) x);have C:=Ya HOK.out x HXL.out A2 SV2 AV AX (some ⟨g,0,none⟩) kc2 ks2 kv kx n WF (HSY.out _ E0.out) QX.out q hqN;unfold Sy.vs_ kH at C;rw[HTN.out] at C;rw[ha] at C hal hsub htw hno;have C:=zH C;have HAL:=zH hal;have HSUB:=zH hsub;have HTW:=zH htw;have HNO:=zH hno;have HQN:=zH hqN;clear hWF dz hBF hsy G2 HTT hok hrow hq ha hal hsub htw hno hqN;obtain⟨z0,z1,z2,z3,z4,z5,z6,z7,z8,z9⟩:=zw (DZ.out _ E0.out);go_wp2_with fail;refine C.out.mono ?_;rintro e w3 ⟨AA,cA,rfl,hr,hb⟩;have E3:=zH (Lc E0.out hb);have QX:=zH ((QX.out.keep hb).more hb.size);have QA:=zH hr;clear hb hr C hc hcw ht hn0 hn00 z0 z1 z2 z3 z4 z5 z6 z7 z8 z9;have C:=kO AA (some ⟨g,0,none⟩) cA n n hp7 a x HAL.out HXL.out HSUB.out w3 QA.out QX.out;unfold jq at C;have C:=zH C;go_wp2_with fail;refine C.out.mono ?_;rintro e w4 ⟨rfl,hb⟩;have E4:=zH (Lc E3.out hb);have QX:=zH ((QX.out.keep hb).more hb.size);have QA:=zH ((QA.out.keep hb).more hb.size);clear hb C;clear QX;have C:=Ya HOK.out a HAL.out A2 SV2 AV AX AA kc2 ks2 kv kx cA w4 (HSY.out _ E4.out) QA.out q HQN.out;unfold Sy.vs_ kH at C;rw[HTN.out] at C;have C:=zH C;obtain⟨z0,z1,z2,z3,z4,z5,z6,z7,z8,z9⟩:=zw (DZ.out _ E4.out);go_wp2_with fail;refine C.out.mono ?_;rintro e w5 ⟨AB3,cB,rfl,hr,hb⟩;rw[HTW.out] at hr;have E5:=zH (Lc E4.out hb);have QA:=zH ((QA.out.keep hb).more hb.size);have QB:=zH hr
 clear hb hr C z0 z1 z2 z3 z4 z5 z6 z7 z8 z9;go_upto_region 9 with fail
 refine zx [(0,true),(1,true),(2,true),(3,false),(4,false),(5,true),(6,true),(7,true),(8,false),(9,false)] (fun X=>X.heap[w2.heap.size]?=some (.cells #[.int .i64 T.p.t.n,.int .i64 T.p.t.ins,.int .i64 T.p.t.outs,.slice A2 T.p.t.cases.length kc2,.int .i64 T.p.a.n,.slice SV2 T.p.a.sts.length ks2,.int .i64 T.p.k,.int .i64 (N:Int),.slice AV T.vs.length kv,.slice AX T.xs.length kx] 35 (0,0))) (by kernel_rfl) (by kernel_rfl) (DZ.out _ E5.out.drew) ?_;have hb:Below w5.heap.size w5 w5.drew:=(Lm _ _).drew;have E6:=zH (Lc E5.out hb);have QA:=zH ((QA.out.keep hb).more hb.size);have QB:=zH ((QB.out.keep hb).more hb.size);clear hb
 repeat
  apply zy rfl
  . rintro K' hK' X u
    obtain⟨p0,p1,p2,p3,p4,p5,p6,p7,p8,p9⟩:=zw (u);clear u;go_simp;exact hK'
 have C:=not_ok AA cA n hp7 a HAL.out (w5.drew) QA.out;unfold jS at C;have C:=zH C;refine zA rfl ?_;intro K' hK';go_simp;refine C.out.mono ?_;rintro e w7 ⟨AN,cN,rfl,hr,hb⟩;have E7:=zH (Lc E6.out hb);have QA:=zH ((QA.out.keep hb).more hb.size);have QB:=zH ((QB.out.keep hb).more hb.size);have QN:=zH hr;clear hb hr C;refine hK' _ _ (DZ.out _ E7.out) ?_;clear hK' K';have C:=Ya HOK.out (jH n a) (qc n a) A2 SV2 AV AX AN kc2 ks2 kv kx cN w7 (HSY.out _ E7.out) QN.out q HQN.out;unfold Sy.vs_ kH at C;rw[HTN.out] at C;have C:=zH C;refine zA rfl ?_;intro K' hK';go_simp;refine C.out.mono ?_;rintro e w8 ⟨AC,cC,rfl,hr,hb⟩;rw[HNO.out] at hr;have E8:=zH (Lc E7.out hb);have QA:=zH ((QA.out.keep hb).more hb.size);have QB:=zH ((QB.out.keep hb).more hb.size);have QN:=zH ((QN.out.keep hb).more hb.size);have QC:=zH hr;clear hb hr C;refine hK' _ _ (DZ.out _ E8.out) ?_;clear hK' K'
 repeat
  apply zy rfl
  . rintro K' hK' X u
    clear u;go_simp;exact hK'
 refine zA rfl ?_;intro K' hK';go_simp;refine hK' _ _ (DZ.out _ E8.out) ?_;clear hK' K';refine zA rfl ?_;intro K' hK';go_simp;refine hK' _ _ (DZ.out _ E8.out) ?_;clear hK' K';refine zL ?_;have C:=ZN AA AB3 cA cB n hp7 a a HAL.out rfl w8 QA.out QB.out;unfold jq at C;have C:=zH C;go_wp2_with fail;refine C.out.mono ?_;rintro e w9 ⟨rfl,hb⟩;have E9:=zH (Lc E8.out hb);have QA:=zH ((QA.out.keep hb).more hb.size);have QB:=zH ((QB.out.keep hb).more hb.size);have QN:=zH ((QN.out.keep hb).more hb.size);have QC:=zH ((QC.out.keep hb).more hb.size);clear hb C;have C:=not_ok AA cA n hp7 a HAL.out w9 QA.out;unfold jS at C;have C:=zH C;go_wp2_with fail;refine C.out.mono ?_;rintro e w10 ⟨AM,cM,rfl,hr,hb⟩;have E10:=zH (Lc E9.out hb);have QA:=zH ((QA.out.keep hb).more hb.size);have QB:=zH ((QB.out.keep hb).more hb.size);have QN:=zH ((QN.out.keep hb).more hb.size);have QC:=zH ((QC.out.keep hb).more hb.size);have QM:=zH hr;clear hb hr C;have C:=ZN AC AM cC cM n hp7 (jH n a) (jH n a) (qc n a) rfl w10 QC.out QM.out;unfold jq at C;have C:=zH C;go_wp2_with fail;refine C.out.mono ?_;rintro e w11 ⟨rfl,hb⟩;have E11:=zH (Lc E10.out hb);have QA:=zH ((QA.out.keep hb).more hb.size);have QB:=zH ((QB.out.keep hb).more hb.size);have QN:=zH ((QN.out.keep hb).more hb.size);have QC:=zH ((QC.out.keep hb).more hb.size);have QM:=zH ((QM.out.keep hb).more hb.size);clear hb C;go_wp2_with fail;refine(ye w11 (HT.out _ E11.out)).mono ?_
 rintro e v3 ⟨rfl,hb9⟩;have B3:=zH (B2.out.trans ((HBF.out.trans ((Lc E11.out hb9).mono HBF.out.size)).mono B2.out.size));clear hb9;go_wp2_with fail;go_ret;exact⟨rfl,B3.out⟩
end Go.Proofs.YtjmckgoegfipeaaGreatDoor
