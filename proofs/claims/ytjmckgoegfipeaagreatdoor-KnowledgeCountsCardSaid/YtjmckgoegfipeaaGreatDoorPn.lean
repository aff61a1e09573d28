/- Parts LwKt. -/
import Derived.Test.YtjmckgoegfipeaaGreatDoorProg
import Derived.Test.YtjmckgoegfipeaaGreatDoorPj
import Derived.Test.YtjmckgoegfipeaaGreatDoorPk
import Derived.Test.YtjmckgoegfipeaaGreatDoorPh
import Derived.Test.YtjmckgoegfipeaaGreatDoorPc

namespace Go.Proofs.YtjmckgoegfipeaaGreatDoor
set_option maxRecDepth 100000
set_option maxHeartbeats 4000000
open Go.RowKit
attribute [local go_sem] Oper.semAt_some
theorem law_kcounts(p:Pb)(hl:vN p)(A:Bb)(kc:Nat)(SV:Bb)(ks:Nat)(c:Nat)(hc:c<256)(bs:List Bool)(AB:Bb)(kb:Nat)(w:Ba)(hT:RowTab w)(hA:CAt w w.heap.size A p.t.cases)(hS:SAt w w.heap.size SV p.a.sts)(hb0:BAt w w.heap.size AB bs) :
  Calls Tryz.prog 8 #[.agg (p.vs A kc SV ks),.int .u8 (c:Int),.slice AB bs.length kb] w (jq w):=by
 obtain⟨w1,hw1,d0,hs1,hB1⟩:=zm w (p.vs A kc SV ks) 29;have HTT:Hid (∀X,Below w1.heap.size w1 X->RowTab X):=fun X hX=>hT.keep (Lc hB1 hX) hT.1
 have HSC:=zH (qU p hl A kc SV ks bs AB kb w1 ((hA.keep hB1).more hB1.size) ((hS.keep hB1).more hB1.size) ((hb0.keep hB1).more hB1.size));have HRB:=zH (fun (h:qa p=true)=>qW hl h);have HBb:=zH hB1;unfold Pb.vs at hw1 d0 HSC ⊢;have HW1:=zH hw1;obtain⟨p0,p1,p2,p3,p4,p5,p6,_⟩:=Kf (d0);clear hw1 d0 hB1 hA hS hb0 hs1 hl hT;go_enter Tryz.func8,Tryz.ntmps8;go_wp2_with fail;rw[HW1.out];go_wp2_with fail;refine HSC.out.mono ?_;rintro e w2 ⟨hb2,hcase⟩;have B2:=zH (Lc HBb.out hb2);have G2:=zH hb2;have hs2:=hb2.size;clear hb2 HSC HW1 p0 p1 p2 p3 p4 p5 p6;rcases hcase with ⟨_,rfl⟩ | ⟨⟨hr,_⟩,A2,kc2,SV2,ks2,AV,kv,AX,kx,g,rfl,hg0,hrow,hsy⟩
 . clear HRB hc
   go_upto_region 2 with fail
   obtain⟨WF,hWF,dz,hsF,hBF⟩:=zm w2 #[.int .i64 0,.int .i64 0,.int .i64 0,.slice none 0 0,.int .i64 0,.slice none 0 0,.int .i64 0,.int .i64 0,.slice none 0 0,.slice none 0 0] 35;rw[hWF];clear hWF dz;go_wp2_with fail;refine(ye WF (HTT.out _ (Lc G2.out hBF))).mono ?_;rintro e v3 ⟨rfl,hb9⟩;have B3:=zH (B2.out.trans ((Lc hBF hb9).mono B2.out.size));clear hb9;go_wp2_with fail;go_ret;exact⟨rfl,B3.out⟩
 obtain⟨N,hok,_⟩:=HRB.out hr;obtain⟨T,hTT⟩:=Ki (zN p);rw[hTT] at hok hrow hsy ⊢;obtain⟨n,hn⟩:=Ki (ptn T);rw[hn] at hok hrow ⊢;have hxl:(vd bs n).length=n:=kX bs n;obtain⟨x,hx⟩:=Ki (vd bs n);rw[hx] at hxl hrow;have HXL:=zH hxl;have HOK:=zH hok;have hn1:=hok.n1;have hn3:=hok.n3;have hp7:=hok.p7;have hp1:=hok.p1;have hgl:g<w2.heap.size:=hrow.lt;clear HRB hr hTT hn hx hxl;have HTN:=zH hok.nn;unfold Sy.vs_;rw[HTN.out];go_upto_region 2 with fail
 obtain⟨WF,hWF,dz,hsF,hBF⟩:=zm w2 #[.int .i64 T.p.t.n,.int .i64 T.p.t.ins,.int .i64 T.p.t.outs,.slice A2 T.p.t.cases.length kc2,.int .i64 T.p.a.n,.slice SV2 T.p.a.sts.length ks2,.int .i64 T.p.k,.int .i64 (N:Int),.slice AV T.vs.length kv,.slice AX T.xs.length kx] 35;rw[hWF];have DZ:Hid (∀X,Below WF.heap.size WF X->X.heap[w2.heap.size]?=some (.cells #[.int .i64 T.p.t.n,.int .i64 T.p.t.ins,.int .i64 T.p.t.outs,.slice A2 T.p.t.cases.length kc2,.int .i64 T.p.a.n,.slice SV2 T.p.a.sts.length ks2,.int .i64 T.p.k,.int .i64 (N:Int),.slice AV T.vs.length kv,.slice AX T.xs.length kx] 35 (0,0))):=fun X hX=>La hX dz
 have HSY:Hid (∀X,Below WF.heap.size WF X->SyAt X X.heap.size A2 SV2 AV AX T):=fun X hX=>(hsy w2 G2.out (N4 hrow.lt) (fun _ _ _=>rfl)).up (Lc hBF hX)
 have HT:Hid (∀X,Below WF.heap.size WF X->RowTab X):=fun X hX=>HTT.out X (G2.out.trans ((Lc hBF hX).mono G2.out.size))
 have HBF:=zH hBF;have E0:Hid (Below WF.heap.size WF WF):=Lm _ _;have hrow:=Lb hBF hrow.lt hrow;have QX:Hid (BAt WF WF.heap.size (some ⟨g,0,none⟩) x):=BRow.at_ hrow (zj hrow);have hcw:IntKind.i64.wrap (c:Int)=(c:Int):=by rw[Ll];omega
 obtain⟨G,hG⟩:=Ki (c % 2^N);have hGN:G<2^N:=by rw[<-hG];exact P8 _ (Rh N)
 have hP:((2^N:Nat):Int)=(2:Int)^N:=by push_cast;rfl
 have ht:Int.tmod (c:Int) ((2:Int)^N)=(G:Int):=by rw[<-hP,<-hG];exact(P5 c (2^N)).symm
 have hP8:(1:Int)<=(2:Int)^N/\(2:Int)^N<=8:=by
  obtain rfl | rfl | rfl:N=1\/N=2\/N=3:=by omega
  all_goals decide
 have hG32:G<32:=by omega
 have h2w:IntKind.i64.wrap ((2:Int)^N)=(2:Int)^N:=by rw[Ll];omega
 have hn0:¬(2:Int)^N=0:=by omega
 have hN0:¬(N:Int)<0:=by omega
 have HGN:=zH hGN;have HG32:=zH hG32;clear hG hP hP8 hGN hG32;clear hWF dz hBF hsy G2 HTT hok hrow;obtain⟨z0,z1,z2,z3,z4,z5,z6,z7,z8,z9⟩:=zw (DZ.out _ E0.out);have hmk:=xz n (by omega);have HMK:=zH hmk;clear hmk;go_upto_region 5 with fail
 clear hc hcw ht h2w hn0 hN0 z0 z1 z2 z3 z4 z5 z6 z7 z8 z9;obtain⟨cls,hcl⟩:=Ki (zX T);have HCL:=zH hcl;clear hcl;have C:=lev_ok HOK.out x HXL.out A2 SV2 AV AX (some ⟨g,0,none⟩) kc2 ks2 kv kx n WF (HSY.out _ E0.out) QX.out G HGN.out;unfold Sy.vs_ RetOl at C;rw[HTN.out] at C;have C:=zH C;obtain⟨z0,z1,z2,z3,z4,z5,z6,z7,z8,z9⟩:=zw (DZ.out _ E0.out);go_wp2_with fail;refine C.out.mono ?_;rintro e w3 ⟨M,AL,cL,rfl,hM,hst,hr,hb⟩;rw[HCL.out] at hst hr;have HM:=zH hM;have HST:=zH hst;clear hM hst;have E3:=zH (Lc E0.out hb);have QX:=zH ((QX.out.keep hb).more hb.size);have QL:=zH hr;clear hb hr C z0 z1 z2 z3 z4 z5 z6 z7 z8 z9;have C:=Yh HOK.out x HXL.out A2 SV2 AV AX (some ⟨g,0,none⟩) kc2 ks2 kv kx n w3 (HSY.out _ E3.out) QX.out G HGN.out;unfold Sy.vs_ RetOc at C;rw[HTN.out] at C;have C:=zH C;obtain⟨z0,z1,z2,z3,z4,z5,z6,z7,z8,z9⟩:=zw (DZ.out _ E3.out);go_wp2_with fail;refine C.out.mono ?_;rintro e w4 ⟨M2,AC,cC,rfl,hM,hst,hr,hb⟩;rw[HCL.out] at hst hr;have HS2:=zH hst;clear hM hst;have E4:=zH (Lc E3.out hb);have QX:=zH ((QX.out.keep hb).more hb.size);have QL:=zH ((QL.out.keep hb).more hb.size);have QC:=zH hr;clear hb hr C z0 z1 z2 z3 z4 z5 z6 z7 z8 z9;have hll:(xV n (evL n cls (zr G N)) x M).length=n:=by simp[xV]
 have hcl:(zD n (evL n cls (zr G N)) x M2).length=n:=yP M2;have hfa:=fun (i:Nat) (hi:i<n)=>out_facts (cls:=cls) (ps:=(zr G N)) HXL.out HST.out HM.out hi
 have hln:=fun (i:Nat) (hi:i<n)=>lev_now (cls:=cls) (ps:=(zr G N)) HXL.out HST.out HS2.out hi
 have hHF:∀(m i:Nat),i<n->(zS n (evL n cls (zr G N)) x m).getD i false=decide ((m:Int)<=(xV n (evL n cls (zr G N)) x M).getD i 0\/(xV n (evL n cls (zr G N)) x M).getD i 0=(n:Int)):=fun m i hi=>by
  rw[Nl,Ng];exact((hfa i hi).2.2.1 m).symm
 have hLF:∀i,i<n->-1<=(xV n (evL n cls (zr G N)) x M).getD i 0/\(xV n (evL n cls (zr G N)) x M).getD i 0<=(n:Int)/\x.getD i false=decide ((0:Int)<=(xV n (evL n cls (zr G N)) x M).getD i 0)/\(x.getD i false&&(zD n (evL n cls (zr G N)) x M2).getD i false)=decide ((xV n (evL n cls (zr G N)) x M).getD i 0=(n:Int)):=fun i hi=>by
  obtain⟨f1,f2,f3,f4⟩:=hfa i hi;refine⟨f1,f2,?_,?_⟩
  . rw[Nl,Ng]
    have h0:=f3 0;constructor
    . intro h
      rcases h0.2 h with h | h<;>omega
    . intro h
      exact h0.1 (.inl (by omega))
  . rw[Nl,Lx,Ng,f4]
    exact(hln i hi).symm
 obtain⟨L,hL⟩:=Ki (xV n (evL n cls (zr G N)) x M);obtain⟨C0,hC0⟩:=Ki (zD n (evL n cls (zr G N)) x M2);simp only[hL] at hHF hLF hll;simp only[hC0] at hLF hcl;rw[hL] at QL;rw[hC0] at QC;have HHF:=zH hHF;have HLF:=zH hLF;have HLL:=zH hll;have HCC:=zH hcl;clear hL hC0 hHF hLF hll hcl hfa hln HM HST HS2;go_wp2_with fail
 go_loopw [78] (fun i wr=>∃k:Nat,k<=n/\i=.int .i64 (k:Int)/\Hid (Below w4.heap.size w4 wr)) (fun i _=>n-(intOf i).toNat)
 case atStart=>exact⟨0,by omega,rfl,Lm _ _⟩
 case round=>
  obtain⟨k,hk,rfl,hbw⟩:=hrel;have hwk:IntKind.i64.wrap ((k:Int)+1)=((k+1:Nat):Int):=by rw[Ll];omega
  by_cases hlt:k<n
  . have hk1:(k:Int)<(n:Int):=by omega
    have hk0:(0:Int)<=(k:Int):=by omega
    obtain⟨b1,o1,rfl,hb1,x1⟩:=(QL.out.keep hbw.out).at_ k (by rw[HLL.out];exact hlt);obtain⟨b2,o2,rfl,hb2,x2⟩:=(QC.out.keep hbw.out).at_ k (by rw[HCC.out];exact hlt);obtain⟨b3,o3,e3,hb3,x3⟩:=(QX.out.keep hbw.out).at_ k (by rw[HXL.out];exact hlt)
    cases e3
    rw[LL] at x3;rw[<-zW (by rw[HLL.out];exact hlt) 0] at x1;rw[<-zn (by rw[HCC.out];exact hlt) false] at x2;rw[<-zn (by rw[HXL.out];exact hlt) false] at x3;obtain⟨f1,f2,f3,f4⟩:=HLF.out k hlt;obtain⟨v,hv⟩:=Ki (L.getD k 0);rw[hv] at x1 f1 f2 f3 f4;rw[f3] at x3 f4;obtain⟨u,hu⟩:=Ki (C0.getD k false);rw[hu] at x2 f4;have i1:¬v < -1:=by omega
    have i2:¬(n:Int)<v:=by omega
    clear f1 f2 f3 hv hu
    by_cases h0:(0:Int)<=v
    . rw[Lk h0] at x3 f4
      rw[Nf] at f4;rw[f4] at x2
      by_cases hn:v=(n:Int)
      . rw[Lk hn] at x2
        have e1:(v==(n:Int))=true:=by simpa using hn
        clear f4 hn;go_wp2_with fail
        go_roundw
        case rel=>exact⟨k+1,by omega,by go_num,hbw⟩
        case measure=>simp[intOf];omega
      . rw[Li hn] at x2
        have e1:(v==(n:Int))=false:=by simpa using hn
        clear f4;go_wp2_with fail
        go_roundw
        case rel=>exact⟨k+1,by omega,by go_num,hbw⟩
        case measure=>simp[intOf];omega
    . rw[Li h0] at x3 f4
      rw[NV] at f4;have hn:¬v=(n:Int):=NY f4.symm;have e1:(v==(n:Int))=false:=by simpa using hn
      clear f4;go_wp2_with fail
      go_roundw
      case rel=>exact⟨k+1,by omega,by go_num,hbw⟩
      case measure=>simp[intOf];omega
  . obtain rfl:n=k:=by omega
    have hk1:¬(n:Int)<(n:Int):=by omega
    have hb:=hbw.out;have E8:=zH (Lc E4.out hb);have QX:=zH ((QX.out.keep hb).more hb.size);have QL:=zH ((QL.out.keep hb).more hb.size);have QC:=zH ((QC.out.keep hb).more hb.size);clear hb hbw hwk;obtain⟨wA,rfl⟩:∃x,x=wr:=⟨_,rfl⟩;clear QC;clear HLF HCC;go_wp2_with fail
    go_loopw [118] (fun i wr=>∃m:Nat,m<=3/\i=.int .i64 (m:Int)/\Hid (Below wA.heap.size wA wr)) (fun i _=>3-(intOf i).toNat)
    case atStart=>exact⟨0,by omega,rfl,Lm _ _⟩
    case round=>
     obtain⟨m,hm,rfl,hbw⟩:=hrel;obtain⟨wO,rfl⟩:∃x,x=wr:=⟨_,rfl⟩;have hwm:IntKind.i64.wrap ((m:Int)+1)=((m+1:Nat):Int):=by rw[Ll];omega
     have hb:=hbw.out;have E9:=zH (Lc E8.out hb);have QX:=zH ((QX.out.keep hb).more hb.size);have QL:=zH ((QL.out.keep hb).more hb.size);clear hb
     by_cases hm3:m<3
     case neg=>
      obtain rfl:m=3:=by omega
      clear hbw;go_wp2_with fail;refine(ye wO (HT.out _ E9.out)).mono ?_;rintro e v3 ⟨rfl,hb9⟩;have B3:=zH (B2.out.trans ((HBF.out.trans ((Lc E9.out hb9).mono HBF.out.size)).mono B2.out.size));clear hb9;go_wp2_with fail;go_ret;exact⟨rfl,B3.out⟩
     case pos=>
     have hm1:(m:Int)<3:=by omega
     have HHL:Hid ((zS n (evL n cls (zr G N)) x m).length=n):=kA HXL.out m;have HNX:Hid (∀i,i<n->((zS n (evL n cls (zr G N)) x m).getD i false&&((evL n cls (zr G N)) (zS n (evL n cls (zr G N)) x m)).getD i false)=decide (((m+1:Nat):Int)<=L.getD i 0\/L.getD i 0=(n:Int))):=fun i hi=>by rw[<-HHF.out (m+1) i hi,zS,yl hi]
     have HH0:=zH (HHF.out m);obtain⟨H,hH⟩:=Ki (zS n (evL n cls (zr G N)) x m);rw[hH] at HHL;simp only[hH] at HNX HH0;clear hH;have hmk:=HMK.out;go_upto_region 19 with fail
     clear hmk;obtain⟨w3h,hw3,d3,hs3,hB3⟩:=zm wO (xI (List.replicate n false)) 4;rw[hw3];have HZ0:Hid (BRow w3h wO.heap.size (yD H 0)):=by rw[kd,HHL.out];exact d3
     have HB3:=zH hB3;clear hw3 d3 hB3;go_wp2_with fail
     go_loopw [126] (fun i wr=>∃k:Nat,k<=n/\i=.int .i64 (k:Int)/\Hid (BRow wr wO.heap.size (yD H k))/\Hid (Below wO.heap.size w3h wr)) (fun i _=>n-(intOf i).toNat)
     case atStart=>exact⟨0,by omega,rfl,HZ0,Lm _ _⟩
     case round=>
       obtain⟨k,hk,rfl,hbr,hbx⟩:=hrel;clear HZ0;have hwk:IntKind.i64.wrap ((k:Int)+1)=((k+1:Nat):Int):=by rw[Ll];omega
       have HBX:Hid (Below wO.heap.size wO wr):=HB3.out.trans hbx.out
       by_cases hlt:k<n
       . have hk1:(k:Int)<(n:Int):=by omega
         have hk0:(0:Int)<=(k:Int):=by omega
         obtain⟨b1,o1,rfl,hb1,x1⟩:=(QL.out.keep HBX.out).at_ k (by rw[HLL.out];exact hlt);rw[<-zW (by rw[HLL.out];exact hlt) 0] at x1;have hat:=HH0.out k hlt;obtain⟨v,hv⟩:=Ki (L.getD k 0);rw[hv] at x1 hat;have hkb:k<H.length:=by rw[HHL.out];exact hlt
         rw[zn hkb] at hat;have hml:=jg H (N4 hkb);have y0:=zh hbr.out k (xH (yD H k) k (by omega));have f0:=zi hbr.out k;obtain⟨z,hz⟩:=Ki (H[k]);rw[hz] at hat
         have HNEW:Hid (BRow (wr.setCell ⟨wO.heap.size,k,none⟩ (.bool z)) wO.heap.size (yD H (k+1))):=by
          rw[<-hz,<-jf H hkb];show _=_;rw[Ln wr _ k _ _ _ hbr.out,xT]
         have HBN:=zH (hbx.out.setCell (p:=⟨wO.heap.size,k,none⟩) (by show wO.heap.size<=wO.heap.size;omega) (.bool z));obtain⟨u,hu⟩:=Ki ((yD H k)[k]'(by omega));rw[hu] at y0;have hl3:=zj hbr.out;clear hv hz hkb hml hu hbr hbx HBX
         by_cases h1:(m:Int)<=v
         . obtain rfl:z=true:=by rw[hat];exact Lk (.inl h1)
           clear hat;go_wp2_with fail
           go_roundw
           case rel=>exact⟨k+1,by omega,by go_num,HNEW,HBN⟩
           case measure=>simp[intOf];omega
         by_cases h2:v=(n:Int)
         . obtain rfl:z=true:=by rw[hat];exact Lk (.inr h2)
           have e1:(v==(n:Int))=true:=by simpa using h2
           clear hat h2;go_wp2_with fail
           go_roundw
           case rel=>exact⟨k+1,by omega,by go_num,HNEW,HBN⟩
           case measure=>simp[intOf];omega
         obtain rfl:z=false:=by rw[hat];exact Li (by rintro(h | h)<;>contradiction)
         have e1:(v==(n:Int))=false:=by simpa using h2
         clear hat;go_wp2_with fail
         go_roundw
         case rel=>exact⟨k+1,by omega,by go_num,HNEW,HBN⟩
         case measure=>simp[intOf];omega
       . obtain rfl:n=k:=by omega
         have hk1:¬(n:Int)<(n:Int):=by omega
         have hbr2:=hbr.out;rw[show yD H n=H by rw[<-HHL.out];exact jh H] at hbr2;have QH:Hid (BAt wr wr.heap.size (some ⟨wO.heap.size,0,none⟩) H):=BRow.at_ hbr2 hbr2.lt;have hb:=HBX.out;have E10:=zH (Lc E9.out hb);have QX:=zH ((QX.out.keep hb).more hb.size);have QL:=zH ((QL.out.keep hb).more hb.size);have HWO:=zH (Lc hbw.out hb);clear hb hbr hbr2 hbx HBX hwk HB3 hbw;obtain⟨wP,hwP⟩:∃x,x=wr:=⟨_,rfl⟩;obtain⟨gH,hgH⟩:=Ki wO.heap.size;rw[hgH] at QH ⊢;rw[<-hwP] at E10 QX QL QH HWO ⊢;clear hwP wr hgH;have C:=jN HOK.out H HHL.out A2 SV2 AV AX (some ⟨gH,0,none⟩) kc2 ks2 kv kx n wP (HSY.out _ E10.out) QH.out G HGN.out;unfold Sy.vs_ kH at C;rw[HTN.out] at C;have C:=zH C;obtain⟨z0,z1,z2,z3,z4,z5,z6,z7,z8,z9⟩:=zw (DZ.out _ E10.out);go_wp2_with fail;refine C.out.mono ?_;rintro e w11 ⟨AV2,cV,rfl,hr,hb⟩;rw[HCL.out] at hr;have E11:=zH (Lc E10.out hb);have HWO:=zH (Lc HWO.out hb);have QX:=zH ((QX.out.keep hb).more hb.size);have QL:=zH ((QL.out.keep hb).more hb.size);have QH:=zH ((QH.out.keep hb).more hb.size);have QV:=zH hr;clear hb hr C z0 z1 z2 z3 z4 z5 z6 z7 z8 z9;have HVL:Hid (((evL n cls (zr G N)) H).length=n):=yH ..;obtain⟨A0,hA0⟩:=Ki ((evL n cls (zr G N)) H);rw[hA0] at QV HVL HNX;clear hA0;go_wp2_with fail
         go_loopw [162] (fun i wr=>∃k:Nat,k<=n/\i=.int .i64 (k:Int)/\Hid (Below w11.heap.size w11 wr)) (fun i _=>n-(intOf i).toNat)
         case atStart=>exact⟨0,by omega,rfl,Lm _ _⟩
         case round=>
          obtain⟨k,hk,rfl,hbx⟩:=hrel;have hwk:IntKind.i64.wrap ((k:Int)+1)=((k+1:Nat):Int):=by rw[Ll];omega
          by_cases hlt:k<n
          . have hk1:(k:Int)<(n:Int):=by omega
            have hk0:(0:Int)<=(k:Int):=by omega
            obtain⟨b1,o1,rfl,hb1,x1⟩:=(QL.out.keep hbx.out).at_ k (by rw[HLL.out];exact hlt);obtain⟨b2,o2,rfl,hb2,x2⟩:=(QV.out.keep hbx.out).at_ k (by rw[HVL.out];exact hlt);obtain⟨b3,o3,e3,hb3,x3⟩:=(QH.out.keep hbx.out).at_ k (by rw[HHL.out];exact hlt)
            cases e3
            rw[LL] at x3;rw[<-zW (by rw[HLL.out];exact hlt) 0] at x1;rw[<-zn (by rw[HVL.out];exact hlt) false] at x2;rw[<-zn (by rw[HHL.out];exact hlt) false] at x3;have f1:=HH0.out k hlt;have f2:=HNX.out k hlt;obtain⟨v,hv⟩:=Ki (L.getD k 0);rw[hv] at x1 f1 f2;obtain⟨z,hz⟩:=Ki (H.getD k false);rw[hz] at x3 f1 f2;obtain⟨u,hu⟩:=Ki (A0.getD k false);rw[hu] at x2 f2;clear hv hz hu
            by_cases h2:v=(n:Int)
            . have e1:(v==(n:Int))=true:=by simpa using h2
              by_cases h1:(m:Int)<v
              . skip
                obtain rfl:z=true:=by rw[f1];exact Lk (by omega)
                rw[Nf] at f2;obtain rfl:u=true:=by rw[f2];exact Lk (by omega)
                clear f1 f2 h2;go_wp2_with fail
                go_roundw
                case rel=>exact⟨k+1,by omega,by go_num,hbx⟩
                case measure=>simp[intOf];omega
              . skip
                obtain rfl:z=true:=by rw[f1];exact Lk (by omega)
                rw[Nf] at f2;obtain rfl:u=true:=by rw[f2];exact Lk (by omega)
                clear f1 f2 h2;go_wp2_with fail
                go_roundw
                case rel=>exact⟨k+1,by omega,by go_num,hbx⟩
                case measure=>simp[intOf];omega
            have e1:(v==(n:Int))=false:=by simpa using h2
            by_cases h1:(m:Int)<v
            . skip
              obtain rfl:z=true:=by rw[f1];exact Lk (by omega)
              rw[Nf] at f2;obtain rfl:u=true:=by rw[f2];exact Lk (by omega)
              clear f1 f2 ;go_wp2_with fail
              go_roundw
              case rel=>exact⟨k+1,by omega,by go_num,hbx⟩
              case measure=>simp[intOf];omega
            by_cases h3:(m:Int)=v
            . skip
              obtain rfl:z=true:=by rw[f1];exact Lk (by omega)
              rw[Nf] at f2;obtain rfl:u=false:=by rw[f2];exact Li (by omega)
              clear f1 f2 h3;go_wp2_with fail
              go_roundw
              case rel=>exact⟨k+1,by omega,by go_num,hbx⟩
              case measure=>simp[intOf];omega
            . skip
              obtain rfl:z=false:=by rw[f1];exact Li (by omega)
              clear f1 f2 ;go_wp2_with fail
              go_roundw
              case rel=>exact⟨k+1,by omega,by go_num,hbx⟩
              case measure=>simp[intOf];omega
          . obtain rfl:n=k:=by omega
            have hk1:¬(n:Int)<(n:Int):=by omega
            have HFIN:=zH (Lc HWO.out hbx.out);clear hbx hwk;go_wp2_with fail
            go_roundw
            case rel=>exact⟨m+1,by omega,by go_num,HFIN⟩
            case measure=>simp[intOf];omega
end Go.Proofs.YtjmckgoegfipeaaGreatDoor
