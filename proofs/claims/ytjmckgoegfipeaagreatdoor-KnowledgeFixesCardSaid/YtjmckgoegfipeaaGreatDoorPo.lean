/- Parts LwKf. -/
import Derived.Test.YtjmckgoegfipeaaGreatDoorProg
import Derived.Test.YtjmckgoegfipeaaGreatDoorPj
import Derived.Test.YtjmckgoegfipeaaGreatDoorPk
import Derived.Test.YtjmckgoegfipeaaGreatDoorPh
import Derived.Test.YtjmckgoegfipeaaGreatDoorPc

namespace Go.Proofs.YtjmckgoegfipeaaGreatDoor
set_option maxRecDepth 100000
set_option maxHeartbeats 4000000
open Go.RowKit
attribute [local go_sem] Oper.semAt_some
def whB(ls:List Int)(x:List Bool)(i j:Nat):Bool:=decide (∀m,m<j->ls.getD m 0=ls.getD i 0->x.getD m false=true)
theorem whB_succ(ls:List Int)(x:List Bool)(i j:Nat):whB ls x i (j+1)=(whB ls x i j&&((ls.getD j 0 != ls.getD i 0)||x.getD j false)):=by
 rw[Nl,Lx,PS,bne_iff_ne];unfold whB;rw[Ng,Ng];constructor
 . intro h
   refine⟨fun m hm=>h m (by omega),?_⟩
   by_cases e:ls.getD j 0=ls.getD i 0
   . exact .inr (h j (by omega) e)
   . exact .inl e
 . rintro⟨h1,h2⟩ m hm e
   by_cases hj:m=j
   . subst hj
     rcases h2 with h2 | h2
     . exact absurd e h2
     . exact h2
   . exact h1 m (by omega) e
theorem now_whB{n:Nat}{cls:Nat->List Int}{ps:List Nat}(hps:ps≠[]){x:List Bool}{M:Nat}(hM:zD n (evL n cls ps) x (M+1)=zD n (evL n cls ps) x M){i:Nat}(hi:i<n) :
  (zD n (evL n cls ps) x M).getD i false=whB (yE n (xO ps cls)) x i n:=by
 rw[Nl,now_whole hps hM hi];unfold whB;rw[Ng]
 have key:∀k,k<n->((yE n (xO ps cls)).getD k 0=(yE n (xO ps cls)).getD i 0↔Conn n (xO ps cls) k i):=fun k hk=>by
  rw[<-Xh (jR ps cls) hk hi,zW (by rw[qi];exact hk),zW (by rw[qi];exact hi)]
 constructor
 . intro h k hk e
   exact h k hk (((key k hk).1 e).symm (jR ps cls))
 . intro h k hk hc
   exact h k hk ((key k hk).2 (hc.symm (jR ps cls)))
theorem bits_ne{N G:Nat}(hN:N<=3)(hG:G<2^N)(h0:G≠0):zr G N≠[]:=by
 have h:∀N:Nat,N<4->∀G:Nat,G<8->G<2^N->G≠0->zr G N≠[]:=by decide +kernel
 have:=Nb (n:=2) (show 0<2 by omega) hN;exact h N (by omega) G (by omega) hG h0
theorem bits_nil(N:Nat):zr 0 N=[]:=by simp[zr]
theorem law_kfixes(p:Pb)(hl:vN p)(A:Bb)(kc:Nat)(SV:Bb)(ks:Nat)(c:Nat)(hc:c<256)(bs:List Bool)(AB:Bb)(kb:Nat)(w:Ba)(hT:RowTab w)(hA:CAt w w.heap.size A p.t.cases)(hS:SAt w w.heap.size SV p.a.sts)(hb0:BAt w w.heap.size AB bs) :
  Calls Tryz.prog 9 #[.agg (p.vs A kc SV ks),.int .u8 (c:Int),.slice AB bs.length kb] w (jq w):=by
 obtain⟨w1,hw1,d0,hs1,hB1⟩:=zm w (p.vs A kc SV ks) 29;have HTT:Hid (∀X,Below w1.heap.size w1 X->RowTab X):=fun X hX=>hT.keep (Lc hB1 hX) hT.1
 have HSC:=zH (qU p hl A kc SV ks bs AB kb w1 ((hA.keep hB1).more hB1.size) ((hS.keep hB1).more hB1.size) ((hb0.keep hB1).more hB1.size));have HRB:=zH (fun (h:qa p=true)=>qW hl h);have HBb:=zH hB1;unfold Pb.vs at hw1 d0 HSC ⊢;have HW1:=zH hw1;obtain⟨p0,p1,p2,p3,p4,p5,p6,_⟩:=Kf (d0);clear hw1 d0 hB1 hA hS hb0 hs1 hl hT;go_enter Tryz.func9,Tryz.ntmps9;go_wp2_with fail;rw[HW1.out];go_wp2_with fail;refine HSC.out.mono ?_;rintro e w2 ⟨hb2,hcase⟩;have B2:=zH (Lc HBb.out hb2);have G2:=zH hb2;have hs2:=hb2.size;clear hb2 HSC HW1 p0 p1 p2 p3 p4 p5 p6;rcases hcase with ⟨_,rfl⟩ | ⟨⟨hr,_⟩,A2,kc2,SV2,ks2,AV,kv,AX,kx,g,rfl,hg0,hrow,hsy⟩
 . clear HRB hc
   go_upto_region 2 with fail
   obtain⟨WF,hWF,dz,hsF,hBF⟩:=zm w2 #[.int .i64 0,.int .i64 0,.int .i64 0,.slice none 0 0,.int .i64 0,.slice none 0 0,.int .i64 0,.int .i64 0,.slice none 0 0,.slice none 0 0] 35;rw[hWF];clear hWF dz;go_wp2_with fail;refine(ye WF (HTT.out _ (Lc G2.out hBF))).mono ?_;rintro e v3 ⟨rfl,hb9⟩;have B3:=zH (B2.out.trans ((Lc hBF hb9).mono B2.out.size));clear hb9;go_wp2_with fail;go_ret;exact⟨rfl,B3.out⟩
 obtain⟨N,hok,_⟩:=HRB.out hr;obtain⟨T,hTT⟩:=Ki (zN p);rw[hTT] at hok hrow hsy ⊢;obtain⟨n,hn⟩:=Ki (ptn T);rw[hn] at hok hrow ⊢;have hxl:(vd bs n).length=n:=kX bs n;obtain⟨x,hx⟩:=Ki (vd bs n);rw[hx] at hxl hrow;have HXL:=zH hxl;have HOK:=zH hok;have hn1:=hok.n1;have hn3:=hok.n3;have hp7:=hok.p7;have hp1:=hok.p1;clear HRB hr hTT hn hx hxl;have HTN:=zH hok.nn;unfold Sy.vs_;rw[HTN.out];go_upto_region 2 with fail
 obtain⟨WF,hWF,dz,hsF,hBF⟩:=zm w2 #[.int .i64 T.p.t.n,.int .i64 T.p.t.ins,.int .i64 T.p.t.outs,.slice A2 T.p.t.cases.length kc2,.int .i64 T.p.a.n,.slice SV2 T.p.a.sts.length ks2,.int .i64 T.p.k,.int .i64 (N:Int),.slice AV T.vs.length kv,.slice AX T.xs.length kx] 35;rw[hWF];have DZ:Hid (∀X,Below WF.heap.size WF X->X.heap[w2.heap.size]?=some (.cells #[.int .i64 T.p.t.n,.int .i64 T.p.t.ins,.int .i64 T.p.t.outs,.slice A2 T.p.t.cases.length kc2,.int .i64 T.p.a.n,.slice SV2 T.p.a.sts.length ks2,.int .i64 T.p.k,.int .i64 (N:Int),.slice AV T.vs.length kv,.slice AX T.xs.length kx] 35 (0,0))):=fun X hX=>La hX dz
 have HSY:Hid (∀X,Below WF.heap.size WF X->SyAt X X.heap.size A2 SV2 AV AX T):=fun X hX=>(hsy w2 G2.out (N4 hrow.lt) (fun _ _ _=>rfl)).up (Lc hBF hX)
 have HT:Hid (∀X,Below WF.heap.size WF X->RowTab X):=fun X hX=>HTT.out X (G2.out.trans ((Lc hBF hX).mono G2.out.size))
 have HBF:=zH hBF;have E0:Hid (Below WF.heap.size WF WF):=Lm _ _;have hrow:=Lb hBF hrow.lt hrow;have QX:Hid (BAt WF WF.heap.size (some ⟨g,0,none⟩) x):=BRow.at_ hrow (zj hrow);have hcw:IntKind.i64.wrap (c:Int)=(c:Int):=by rw[Ll];omega
 obtain⟨G,hG⟩:=Ki (c % 2^N);have hGN:G<2^N:=by rw[<-hG];exact P8 _ (Rh N)
 have hP:((2^N:Nat):Int)=(2:Int)^N:=by push_cast;rfl
 have ht:Int.tmod (c:Int) ((2:Int)^N)=(G:Int):=by rw[<-hP,<-hG];exact(P5 c (2^N)).symm
 have hP8:(1:Int)<=(2:Int)^N/\(2:Int)^N<=8:=by
  obtain rfl | rfl | rfl:N=1\/N=2\/N=3:=by omega
  all_goals decide
 have hG32:G<32:=by omega
 have h2w:IntKind.i64.wrap ((2:Int)^N)=(2:Int)^N:=by rw[Ll];omega
 have hn0:¬(2:Int)^N=0:=by omega
 have hN0:¬(N:Int)<0:=by omega
 have HGN:=zH hGN;have HG32:=zH hG32;clear hG hP hP8 hGN hG32;have hGN:=HGN.out;clear hWF dz hBF hsy G2 HTT hok hrow;obtain⟨z0,z1,z2,z3,z4,z5,z6,z7,z8,z9⟩:=zw (DZ.out _ E0.out);go_upto_region 5 with fail
 clear hc hcw ht h2w hn0 hN0 z0 z1 z2 z3 z4 z5 z6 z7 z8 z9;obtain⟨cls,hcl⟩:=Ki (zX T);have HCL:=zH hcl;clear hcl;have HPS:Hid (G≠0->zr G N≠[]):=bits_ne hn3 hGN;have HPN:Hid (G=0->zr G N=[]):=fun h=>by rw[h];exact bits_nil N
 clear hGN;have C:=Yh HOK.out x HXL.out A2 SV2 AV AX (some ⟨g,0,none⟩) kc2 ks2 kv kx n WF (HSY.out _ E0.out) QX.out G HGN.out;unfold Sy.vs_ RetOc at C;rw[HTN.out] at C;have C:=zH C;obtain⟨z0,z1,z2,z3,z4,z5,z6,z7,z8,z9⟩:=zw (DZ.out _ E0.out);go_wp2_with fail;refine C.out.mono ?_;rintro e w3 ⟨M,AC,cC,rfl,hM,hst,hr,hb⟩;rw[HCL.out] at hst hr;have E3:=zH (Lc E0.out hb);have QX:=zH ((QX.out.keep hb).more hb.size);have QC:=zH hr;clear hb hr C z0 z1 z2 z3 z4 z5 z6 z7 z8 z9;have hcl:(zD n (evL n cls (zr G N)) x M).length=n:=yP M;have hfx:=now_fix hst;have htw:∀M2,zD n (evL n cls (zr G N)) (zD n (evL n cls (zr G N)) x M) (M2+1)=zD n (evL n cls (zr G N)) (zD n (evL n cls (zr G N)) x M) M2->zD n (evL n cls (zr G N)) (zD n (evL n cls (zr G N)) x M) M2=zD n (evL n cls (zr G N)) x M:=fun M2 h=>now_twice (yP M) (now_ev hst) h
 have hz0:G=0->zD n (evL n cls (zr G N)) x M=List.replicate n true:=fun h=>by rw[<-hst,zD,HPN.out h];rfl
 have hwh:G≠0->∀i,i<n->(zD n (evL n cls (zr G N)) x M).getD i false=whB (yE n (xO (zr G N) cls)) x i n:=fun h i hi=>now_whB (HPS.out h) hst hi
 have hin:G≠0->∀i,i<n->(zD n (evL n cls (zr G N)) x M).getD i false=true->x.getD i false=true:=fun h i hi e=>now_in (HPS.out h) hst hi e
 obtain⟨C0,hC0⟩:=Ki (zD n (evL n cls (zr G N)) x M);rw[hC0] at QC hcl hfx htw hz0 hwh hin;have HCC:=zH hcl;have HFX:=zH hfx;have HTW:=zH htw;have HZ0:=zH hz0;have HWH:=zH hwh;have HIN:=zH hin;clear hcl hfx htw hz0 hwh hin hC0 hst hM HPS HPN;go_upto_region 8 with fail
 refine zx [(0,true),(1,true),(2,true),(3,true),(4,false),(5,false),(6,true),(7,true),(8,true),(9,false),(10,false)] (fun X=>X.heap[w2.heap.size]?=some (.cells #[.int .i64 T.p.t.n,.int .i64 T.p.t.ins,.int .i64 T.p.t.outs,.slice A2 T.p.t.cases.length kc2,.int .i64 T.p.a.n,.slice SV2 T.p.a.sts.length ks2,.int .i64 T.p.k,.int .i64 (N:Int),.slice AV T.vs.length kv,.slice AX T.xs.length kx] 35 (0,0))) (by kernel_rfl) (by kernel_rfl) (DZ.out _ E3.out.drew) ?_;have hb:Below w3.heap.size w3 w3.drew:=(Lm _ _).drew;have E4:=zH (Lc E3.out hb);have QX:=zH ((QX.out.keep hb).more hb.size);have QC:=zH ((QC.out.keep hb).more hb.size);clear hb
 repeat
  apply zy rfl
  . rintro K' hK' X u
    obtain⟨p0,p1,p2,p3,p4,p5,p6,p7,p8,p9⟩:=zw (u);clear u;go_simp;exact hK'
 have C:=Xr (some ⟨g,0,none⟩) AC n cC n hp7 x C0 HXL.out HCC.out (w3.drew) QX.out QC.out;unfold jS at C;have C:=zH C;refine zA rfl ?_;intro K' hK';go_simp;refine C.out.mono ?_;rintro e w5 ⟨AP,cP,rfl,hr,hb⟩;have E5:=zH (Lc E4.out hb);have QX:=zH ((QX.out.keep hb).more hb.size);have QC:=zH ((QC.out.keep hb).more hb.size);have QP:=zH hr;clear hb hr C;refine hK' _ _ (DZ.out _ E5.out) ?_;clear hK' K';have C:=jN HOK.out (xC n x C0) (yi ..) A2 SV2 AV AX AP kc2 ks2 kv kx cP w5 (HSY.out _ E5.out) QP.out G HGN.out;unfold Sy.vs_ kH at C;rw[HTN.out] at C;have C:=zH C;refine zA rfl ?_;intro K' hK';go_simp;refine C.out.mono ?_;rintro e w6 ⟨AV2,cV,rfl,hr,hb⟩;rw[HCL.out,HFX.out] at hr;have E6:=zH (Lc E5.out hb);have QX:=zH ((QX.out.keep hb).more hb.size);have QC:=zH ((QC.out.keep hb).more hb.size);have QP:=zH ((QP.out.keep hb).more hb.size);have QV:=zH hr;clear hb hr C;refine hK' _ _ (DZ.out _ E6.out) ?_;clear hK' K'
 repeat
  apply zy rfl
  . rintro K' hK' X u
    clear u;go_simp;exact hK'
 refine zA rfl ?_;intro K' hK';go_simp;refine hK' _ _ (DZ.out _ E6.out) ?_;clear hK' K';refine zA rfl ?_;intro K' hK';go_simp;refine hK' _ _ (DZ.out _ E6.out) ?_;clear hK' K';refine zL ?_;clear QP;have C:=Yh HOK.out C0 HCC.out A2 SV2 AV AX AC kc2 ks2 kv kx cC w6 (HSY.out _ E6.out) QC.out G HGN.out;unfold Sy.vs_ RetOc at C;rw[HTN.out] at C;have C:=zH C;obtain⟨z0,z1,z2,z3,z4,z5,z6,z7,z8,z9⟩:=zw (DZ.out _ E6.out);go_wp2_with fail;refine C.out.mono ?_;rintro e w7 ⟨M2,AB2,cB,rfl,hM,hst,hr,hb⟩;rw[HCL.out] at hst hr;rw[HTW.out M2 hst] at hr;clear hM hst HTW;have E7:=zH (Lc E6.out hb);have QX:=zH ((QX.out.keep hb).more hb.size);have QC:=zH ((QC.out.keep hb).more hb.size);have QV:=zH ((QV.out.keep hb).more hb.size);have QB:=zH hr;clear hb hr C z0 z1 z2 z3 z4 z5 z6 z7 z8 z9;have C:=reach_ok HOK.out A2 SV2 AV AX kc2 ks2 kv kx w7 (HSY.out _ E7.out) G HGN.out;unfold Sy.vs_ RetOi at C;rw[HTN.out] at C;have C:=zH C;obtain⟨z0,z1,z2,z3,z4,z5,z6,z7,z8,z9⟩:=zw (DZ.out _ E7.out);go_wp2_with fail;refine C.out.mono ?_;rintro e w8 ⟨AL,cL,rfl,hr,hb⟩;rw[HCL.out] at hr;have E8:=zH (Lc E7.out hb);have QX:=zH ((QX.out.keep hb).more hb.size);have QC:=zH ((QC.out.keep hb).more hb.size);have QV:=zH ((QV.out.keep hb).more hb.size);have QB:=zH ((QB.out.keep hb).more hb.size);have QL:=zH hr;clear hb hr C z0 z1 z2 z3 z4 z5 z6 z7 z8 z9;have C:=ZN AV2 AC cV cC n hp7 C0 C0 HCC.out rfl w8 QV.out QC.out;unfold jq at C;have C:=zH C;go_wp2_with fail
 refine C.out.mono ?_;rintro e w9 ⟨rfl,hb⟩;have E9:=zH (Lc E8.out hb);have QX:=zH ((QX.out.keep hb).more hb.size);have QC:=zH ((QC.out.keep hb).more hb.size);have QV:=zH ((QV.out.keep hb).more hb.size);have QB:=zH ((QB.out.keep hb).more hb.size);have QL:=zH ((QL.out.keep hb).more hb.size);clear hb C;have C:=ZN AB2 AC cB cC n hp7 C0 C0 HCC.out rfl w9 QB.out QC.out;unfold jq at C;have C:=zH C;go_wp2_with fail;refine C.out.mono ?_;rintro e w10 ⟨rfl,hb⟩;have E10:=zH (Lc E9.out hb);have QX:=zH ((QX.out.keep hb).more hb.size);have QC:=zH ((QC.out.keep hb).more hb.size);have QV:=zH ((QV.out.keep hb).more hb.size);have QB:=zH ((QB.out.keep hb).more hb.size);have QL:=zH ((QL.out.keep hb).more hb.size);clear hb C;clear QV QB;have HLL:Hid ((yE n (xO (zr G N) cls)).length=n):=qi ..;obtain⟨l,hl⟩:=Ki (yE n (xO (zr G N) cls));rw[hl] at QL HLL HWH;clear hl
 by_cases hG0:G=0
 . have e0:((G:Int)==0)=true:=by simp[hG0]
   have HZ:=zH (HZ0.out hG0);clear hG0 HZ0 HWH HIN;have C:=all_ok n hp7 w10;unfold jS at C;have C:=zH C;go_wp2_with fail;refine C.out.mono ?_;rintro e w11 ⟨AE,cE,rfl,hr,hb⟩;have E11:=zH (Lc E10.out hb);have QX:=zH ((QX.out.keep hb).more hb.size);have QC:=zH ((QC.out.keep hb).more hb.size);have QL:=zH ((QL.out.keep hb).more hb.size);have QE:=zH hr;clear hb hr C;have C:=ZN AC AE cC cE n hp7 C0 (List.replicate n true) HCC.out HZ.out w11 QC.out QE.out;unfold jq at C;have C:=zH C;go_wp2_with fail;refine C.out.mono ?_;rintro e w12 ⟨rfl,hb⟩;have E12:=zH (Lc E11.out hb);have QX:=zH ((QX.out.keep hb).more hb.size);have QC:=zH ((QC.out.keep hb).more hb.size);have QL:=zH ((QL.out.keep hb).more hb.size);have QE:=zH ((QE.out.keep hb).more hb.size);clear hb C;go_wp2_with fail;refine(ye w12 (HT.out _ E12.out)).mono ?_;rintro e v3 ⟨rfl,hb9⟩;have B3:=zH (B2.out.trans ((HBF.out.trans ((Lc E12.out hb9).mono HBF.out.size)).mono B2.out.size));clear hb9;go_wp2_with fail;go_ret;exact⟨rfl,B3.out⟩
 have e0:((G:Int)==0)=false:=by simp;omega
 have HW:=zH (HWH.out hG0);have HI:=zH (HIN.out hG0);clear hG0 HZ0 HWH HIN;go_wp2_with fail
 go_loopw [117] (fun i wr=>∃k:Nat,k<=n/\i=.int .i64 (k:Int)/\Hid (Below w10.heap.size w10 wr)) (fun i _=>n-(intOf i).toNat)
 case atStart=>exact⟨0,by omega,rfl,Lm _ _⟩
 case round=>
  obtain⟨k,hk,rfl,hbw⟩:=hrel;have hwk:IntKind.i64.wrap ((k:Int)+1)=((k+1:Nat):Int):=by rw[Ll];omega
  by_cases hlt:k<n
  . have hk1:(k:Int)<(n:Int):=by omega
    have hk0:(0:Int)<=(k:Int):=by omega
    go_wp2_with fail;obtain⟨wE,hwE⟩:∃x,x=wr:=⟨_,rfl⟩;rw[<-hwE] at hbw ⊢;clear hwE wr
    go_loopw [122,21] (fun i b wr=>∃j:Nat,j<=n/\i=.int .i64 (j:Int)/\b=.bool (whB l x k j)/\Hid (Below w10.heap.size w10 wr)) (fun i _ _=>n-(intOf i).toNat)
    case atStart=>exact⟨0,by omega,rfl,by simp[whB],hbw⟩
    case round=>
     obtain⟨j,hj,rfl,rfl,hbx⟩:=hrel;have hwj:IntKind.i64.wrap ((j:Int)+1)=((j+1:Nat):Int):=by rw[Ll];omega
     by_cases hjt:j<n
     . have hj1:(j:Int)<(n:Int):=by omega
       have hj0:(0:Int)<=(j:Int):=by omega
       obtain⟨b1,o1,rfl,hb1,x1⟩:=(QL.out.keep hbx.out).at_ j (by rw[HLL.out];exact hjt);obtain⟨b2,o2,e2,hb2,x2⟩:=(QL.out.keep hbx.out).at_ k (by rw[HLL.out];exact hlt)
       cases e2
       obtain⟨b3,o3,e3,hb3,x3⟩:=(QX.out.keep hbx.out).at_ j (by rw[HXL.out];exact hjt)
       cases e3
       have hsu:=whB_succ l x k j;rw[zW (by rw[HLL.out];exact hjt),zW (by rw[HLL.out];exact hlt),zn (by rw[HXL.out];exact hjt)] at hsu;obtain⟨lj,hlj⟩:=Ki (l[j]'(by rw[HLL.out];exact hjt));obtain⟨lk,hlk⟩:=Ki (l[k]'(by rw[HLL.out];exact hlt));obtain⟨xj,hxj⟩:=Ki (x[j]'(by rw[HXL.out];exact hjt));rw[hlj] at x1 hsu;rw[hlk] at x2 hsu;rw[hxj] at x3 hsu;have y1:wr.drew.cell? ⟨b1,o1+j,none⟩=_:=x1;have y2:wr.drew.cell? ⟨b1,o1+k,none⟩=_:=x2;have y3:wr.drew.cell? ⟨g,0+j,none⟩=_:=x3;rw[LL] at y3;obtain⟨bw,hbwv⟩:=Ki (whB l x k j);rw[hbwv] at hsu ⊢;obtain⟨nb,hnb⟩:∃nb,(lj != lk)=nb:=⟨_,rfl⟩;rw[hnb] at hsu;have HSU:=zH hsu;have hbx2:Hid (Below w10.heap.size w10 wr.drew):=hbx.out.drew;clear hlj hlk hxj x1 x2 x3 hbwv hsu hbx
       cases bw
       all_goals
        cases nb
       all_goals
        cases xj
       all_goals
        go_wp2_with fail;refine zx [(0,true),(1,true),(2,true),(3,true),(4,true),(5,true),(6,true),(7,true),(8,true),(9,true),(10,true),(11,true),(12,true),(13,true),(14,true),(15,true),(16,true),(17,true),(18,true)] (fun X=>X=wr.drew) (by kernel_rfl) (by kernel_rfl) rfl ?_
        repeat
         apply zy rfl
         . rintro K' hK' X rfl
           go_simp;exact hK'
        refine zL ?_;clear y1 y2 y3;go_wp2_with fail
        go_roundw
        case rel=>exact⟨j+1,by omega,by go_num,by rw[HSU.out];rfl,hbx2⟩
        case measure=>simp[intOf];omega
     . obtain rfl:n=j:=by omega
       obtain⟨b1,o1,rfl,hb1,z1⟩:=(QC.out.keep hbx.out).at_ k (by rw[HCC.out];exact hlt);rw[<-zn (by rw[HCC.out];exact hlt) false,HW.out k hlt] at z1;have hj1:¬(n:Int)<(n:Int):=by omega
       obtain⟨bw,hbwv⟩:=Ki (whB l x k n);rw[hbwv] at z1 ⊢;clear hbwv hbw
       cases bw
       all_goals
        go_wp2_with fail
        go_roundw
        case rel=>exact⟨k+1,by omega,by go_num,hbx⟩
        case measure=>simp[intOf];omega
  . obtain rfl:n=k:=by omega
    have hk1:¬(n:Int)<(n:Int):=by omega
    have hb:=hbw.out;have E9:=zH (Lc E10.out hb);have QX:=zH ((QX.out.keep hb).more hb.size);have QC:=zH ((QC.out.keep hb).more hb.size);have QL:=zH ((QL.out.keep hb).more hb.size);clear hb hbw HW;have C:=kO AC (some ⟨g,0,none⟩) cC n n hp7 C0 x HCC.out HXL.out HI.out wr QC.out QX.out;unfold jq at C;have C:=zH C;go_wp2_with fail;refine C.out.mono ?_;rintro e w11 ⟨rfl,hb⟩;have E11:=zH (Lc E9.out hb);have QX:=zH ((QX.out.keep hb).more hb.size);have QC:=zH ((QC.out.keep hb).more hb.size);have QL:=zH ((QL.out.keep hb).more hb.size);clear hb C;go_wp2_with fail;refine(ye w11 (HT.out _ E11.out)).mono ?_;rintro e v3 ⟨rfl,hb9⟩;have B3:=zH (B2.out.trans ((HBF.out.trans ((Lc E11.out hb9).mono HBF.out.size)).mono B2.out.size));clear hb9;go_wp2_with fail;go_ret;exact⟨rfl,B3.out⟩
end Go.Proofs.YtjmckgoegfipeaaGreatDoor
