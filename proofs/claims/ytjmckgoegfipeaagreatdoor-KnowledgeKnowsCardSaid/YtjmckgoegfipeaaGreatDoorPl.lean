/- Parts RPts Rf36D Rf36E R37B R37C LwKw. -/
import Derived.Test.YtjmckgoegfipeaaGreatDoorProg
import Derived.Test.YtjmckgoegfipeaaGreatDoorPg
import Derived.Test.YtjmckgoegfipeaaGreatDoorPf
import Derived.Test.YtjmckgoegfipeaaGreatDoorPh
import Derived.Test.YtjmckgoegfipeaaGreatDoorPc
import Derived.Deep.Cut
import Derived.Test.YtjmckgoegfipeaaGreatDoorPa
import Derived.Test.YtjmckgoegfipeaaGreatDoorPi
import Derived.Test.YtjmckgoegfipeaaGreatDoorPj

namespace Go.Proofs.YtjmckgoegfipeaaGreatDoor
set_option maxRecDepth 100000
set_option maxHeartbeats 4000000
section
open Go.RowKit Go.Shelf
attribute [local go_sem] Oper.semAt_some
theorem JY(s:Sy)(hs:LowS s)(hf:yM s.p)(A SV AV AX:Bb)(kc ks kv kx:Nat)(w:Ba)(hS:SyAt w w.heap.size A SV AV AX s) :
  Calls Tryz.prog 81 #[.agg (s.vs_ A kc SV ks AV kv AX kx)] w fun e w'=>e=.returned (.tuple #[.int .i64 (uk s).1,.int .i64 (uk s).2])/\Below w.heap.size w w':=by
 obtain⟨w1,hw1,d0,hs1,hB⟩:=zm w (s.vs_ A kc SV ks AV kv AX kx) 35;have HV:=zH (rver_any s hs hf A SV AV AX kc ks kv kx w1 (hS.up hB));have HE0:Hid (zZ s≠0->uk s=(0,zZ s)):=fun h=>Lh h
 have HE1:Hid (zZ s=0->uk s=((ptn s:Int),0)/\∀X,Calls Tryz.prog 67 #[.agg (s.vs_ A kc SV ks AV kv AX kx)] X fun e w'=>e=.returned (.int .i64 (ptn s:Int))/\Below X.heap.size X w'):=fun h=>by
  obtain⟨_,K,N,hF⟩:=yv hf h;exact⟨Lf (by simpa using h),fun X=>vT s K N hF A SV AV AX kc ks kv kx X⟩
 obtain⟨r,hr⟩:=Ki (zZ s);rw[hr] at HV HE0 HE1;obtain⟨R,hRR⟩:=Ki (uk s);rw[hRR] at HE0 HE1 ⊢;unfold Sy.vs_ at hw1 d0 HV HE1 ⊢;have HW1:=zH hw1;have HB:=zH hB;have HD:=zH d0;obtain⟨p0,p1,p2,p3,p4,p5,p6,p7,p8,p9⟩:=zw (d0);clear hw1 d0 hB hS hr hRR hs hf;go_enter Tryz.func81,Tryz.ntmps81;go_wp2_with fail;rw[HW1.out];go_wp2_with fail;refine HV.out.mono ?_;rintro e w2 ⟨rfl,hb2⟩;have HB2:=zH (HB.out.trans (hb2.mono (by omega)));have d0:=Lb hb2 (by omega:w.heap.size<w1.heap.size) HD.out;clear p0 p1 p2 p3 p4 p5 p6 p7 p8 p9 hb2 HV HW1 HD;obtain⟨p0,p1,p2,p3,p4,p5,p6,p7,p8,p9⟩:=zw (d0);clear d0
 by_cases h0:r=0
 case neg=>
  have hR:Hid (R=(0,r)):=HE0.out h0;have e0:(r != 0)=true:=by simpa using h0
  clear HE0 HE1;go_wp2_with fail
  go_ret2
  rw[hR.out];exact⟨rfl,HB2.out⟩
 case pos=>
 subst h0;obtain⟨hRe,hC⟩:=HE1.out rfl;have HC:=zH (hC w2);have hR:=zH hRe;clear HE0 HE1 hRe hC;go_wp2_with fail;refine HC.out.mono ?_;rintro e w3 ⟨rfl,hb3⟩;have HB3:=zH (Lc HB2.out hb3);clear hb3 HC HB2 p0 p1 p2 p3 p4 p5 p6 p7 p8 p9;go_wp2_with fail
 go_ret2
 rw[hR.out];exact⟨rfl,HB3.out⟩
theorem rcut_any(A B:Bb)(cap cap':Nat)(keys:List K2)(hl:keys.length<=100000)(w:Ba)(hA:IAt w w.heap.size A (keys.map (·.a)))(hA':IAt w w.heap.size B (keys.map (·.b))) :
  Calls Tryz.prog 86 #[.slice A keys.length cap,.slice B keys.length cap'] w (ZV (yt keys) w):=by
 have HA:=zH hA;have HA':=zH hA';clear hA hA';have lk1:(keys.map (·.a)).length=keys.length:=by simp
 have lk2:(keys.map (·.b)).length=keys.length:=by simp
 have LK:=zH (And.intro lk1 lk2);clear lk1 lk2;go_enter Tryz.func86,Tryz.ntmps86;go_wp2_with fail
 go_loopw [5,6,7] (fun o nx i wr=>∃k:Nat,k<=keys.length/\i=.int .i64 (k:Int)/\nx=.int .i64 (((yA (keys.take k)).length:Nat):Int)/\Hid (Own wr w.heap.size o (yt (keys.take k)))/\Hid (Below w.heap.size w wr)) (fun _ _ i _=>keys.length-(intOf i).toNat)
 case atStart=>exact⟨0,by omega,rfl,rfl,Own.nil _ _,Lm _ _⟩
 case round=>
  obtain⟨k,hk,rfl,rfl,HO,hb⟩:=hrel;obtain⟨Ao,co,rfl,_,_,hIo⟩:=HO.out.form;have hll:(yt (keys.take k)).length=k:=by rw[yj];simp;omega
  rw[hll] at HO ⊢
  by_cases hlt:k<keys.length
  . have hul:(yA (keys.take k)).length<=100000:=by have:=XQ (keys.take k);simp at this;omega
    obtain⟨b,off,eA,hbl,z0⟩:=(HA.out.keep hb.out).at_ k (by rw[LK.out.1];exact hlt);subst eA;obtain⟨b',off',eA',hbl',z0'⟩:=(HA'.out.keep hb.out).at_ k (by rw[LK.out.2];exact hlt);subst eA';rw[LC] at z0 z0';obtain⟨y,hy⟩:=Ki (keys[k]);rw[hy] at z0 z0';obtain⟨ya,yb⟩:=y;dsimp only at z0 z0';have HI:=zH (HA.out.keep hb.out);have HI':=zH (HA'.out.keep hb.out);have HIO:=zH hIo;have HKY:=zH hy;have hkl:(k:Int)<(keys.length:Int):=by omega
    have hsn:=qY (keys.take k) (⟨ya,yb⟩:K2);have hus:=qu (keys.take k) (⟨ya,yb⟩:K2);have htk:keys.take k++[⟨ya,yb⟩]=keys.take (k+1):=by rw[Lu hlt,hy]
    rw[htk] at hsn hus;have HSN:=zH hsn;have HUS:=zH hus;have hbw:b<wr.heap.size:=by have:=hb.out.size;omega
    have hbw':b'<wr.heap.size:=by have:=hb.out.size;omega
    obtain⟨NX,hNX⟩:=Ki ((yA (keys.take k)).length);rw[hNX] at hul ⊢;have HNX:=zH hNX;obtain⟨wo,hwo⟩:∃wo,wo=wr:=⟨_,rfl⟩;rw[<-hwo] at HO hb HI HI' HIO z0 z0' hbw hbw' ⊢;clear hIo hsn hus htk hll hNX hwo;have hk00:(0:Int)<=(k:Int):=by omega
    go_wp2_with fail
    go_loopw [8,9] (fun lb j wq=>∃m q:Nat,m<=k/\j=.int .i64 (m:Int)/\Hid (wq=wo.drewN q)/\((lb=.int .i64 (-1)/\Hid (∀i,i<m->keys.getD i ⟨0,0⟩≠⟨ya,yb⟩))\/∃x:Nat,lb=.int .i64 (x:Int)/\Hid ((⟨ya,yb⟩:K2)∈keys.take k/\x=(yA (keys.take k)).idxOf ⟨ya,yb⟩/\x<=100000))) (fun _ j _=>k-(intOf j).toNat)
    case atStart=>exact⟨0,0,by omega,rfl,rfl,.inl ⟨rfl,fun i hi=>absurd hi (by omega)⟩⟩
    case round=>
     obtain⟨m,q,hm,rfl,hw,hlb⟩:=hrel;rcases hlb with ⟨rfl,hno⟩ | ⟨x,rfl,hx⟩
     . by_cases hmk:m<k
       . obtain⟨b1,off1,eA1,hbl1,z1⟩:=HI.out.at_ m (by rw[LK.out.1];omega)
         cases eA1
         obtain⟨b1,off1,eA1,hbl1,z1'⟩:=HI'.out.at_ m (by rw[LK.out.2];omega)
         cases eA1
         rw[LC] at z1 z1';obtain⟨b2,off2,eA2,hbl2,z2⟩:=HIO.out.at_ m (by rw[yj];simp;omega);subst eA2;have hcw:Hid (∀p,wr.cell? p=wo.cell? p):=fun p=>by rw[hw.out];rfl
         have u0:=(hcw.out _).trans z0;have u1:=(hcw.out _).trans z1;have u0':=(hcw.out _).trans z0';have u1':=(hcw.out _).trans z1';have u2:=(hcw.out _).trans z2;obtain⟨t,ht⟩:=Ki (keys[m]'(by omega));rw[ht] at u1 u1';obtain⟨ta,tb⟩:=t;dsimp only at u1 u1'
         have hlm:(yt (keys.take k))[m]'(by rw[yj];simp;omega)=(((yA (keys.take k)).idxOf ⟨ta,tb⟩:Nat):Int):=by
          rw[j5 _ m (by simp;omega)];rw[PA,ht]
         rw[hlm] at u2;have hm0:(0:Int)<=(m:Int):=by omega
         have hm1:(m:Int)<(k:Int):=by omega
         have hm2:(m:Int)<(keys.length:Int):=by omega
         have hgm:keys.getD m ⟨0,0⟩=⟨ta,tb⟩:=by rw[zn (by omega)];exact ht
         have HGM:=zH hgm
         have htm:(⟨ta,tb⟩:K2)∈keys.take k:=by
          rw[<-ht];exact N7.2 ⟨m,by omega,rfl⟩
         have HTM:=zH htm;obtain⟨ix,hix⟩:=Ki ((yA (keys.take k)).idxOf ⟨ta,tb⟩);rw[hix] at u2;have HIX:=zH hix;clear z1 z1' z2 ht hlm hgm htm hix
         by_cases hty:(⟨ta,tb⟩:K2)=⟨ya,yb⟩
         . have e1:ta=ya:=congrArg K2.a hty
           have e2:tb=yb:=congrArg K2.b hty;subst e1 e2
           have hxx:Hid ((⟨ta,tb⟩:K2)∈keys.take k/\ix=(yA (keys.take k)).idxOf ⟨ta,tb⟩/\ix<=100000):=⟨HTM.out,HIX.out.symm,by
            have h1:=Pn (yo.2 HTM.out);rw[HIX.out] at h1;have h2:=HNX.out
            omega⟩
           clear hno HTM HIX HGM hty;go_upto_region 10 with fail
           refine zx [(0,true),(1,true),(2,true),(3,true),(4,true),(5,true),(6,true),(7,true),(8,true),(9,true),(10,true),(11,true),(12,true),(13,true),(14,true),(15,true),(16,true),(17,true),(18,true),(19,true)] (fun X=>X=wr.drew) (by kernel_rfl) (by kernel_rfl) rfl ?_
           repeat
            apply zy rfl
            . rintro K' hK' X rfl
              go_simp;exact hK'
           refine zL ?_;go_wp2_with fail
           go_roundw
           case rel=>exact⟨m+1,q+1,by omega,by go_num,by rw[Hid,hw.out];rfl,.inr ⟨ix,rfl,hxx⟩⟩
           case measure=>simp[intOf];omega
         · have hno2 : Hid (∀ i, i < m + 1 → keys.getD i ⟨0, 0⟩ ≠ ⟨ya, yb⟩) := fun i hi => by
            by_cases e:i=m
            . subst e;rw[HGM.out];exact hty
            . exact hno.out i (by omega)
           clear hno HTM HIX HGM
           by_cases ea:ta=ya
           . have eb:¬tb=yb:=fun e=>hty (by rw[ea,e])
             have eb2:decide (tb=yb)=false:=Li eb;subst ea;clear hty;go_upto_region 10 with fail
             refine zx [(0,true),(1,true),(2,true),(3,true),(4,true),(5,true),(6,true),(7,true),(8,true),(9,true),(10,true),(11,true),(12,true),(13,true),(14,true),(15,true),(16,true),(17,true),(18,true),(19,true)] (fun X=>X=wr.drew) (by kernel_rfl) (by kernel_rfl) rfl ?_
             repeat
              apply zy rfl
              . rintro K' hK' X rfl
                go_simp;exact hK'
             refine zL ?_;go_wp2_with fail
             go_roundw
             case rel=>exact⟨m+1,q+1,by omega,by go_num,by rw[Hid,hw.out];rfl,.inl ⟨rfl,hno2⟩⟩
             case measure=>simp[intOf];omega
           . have ea2:decide (ta=ya)=false:=Li ea
             clear hty;go_upto_region 10 with fail
             refine zx [(0,true),(1,true),(2,true),(3,true),(4,true),(5,true),(6,true),(7,true),(8,true),(9,true),(10,true),(11,true),(12,true),(13,true),(14,true),(15,true),(16,true),(17,true),(18,true),(19,true)] (fun X=>X=wr.drew) (by kernel_rfl) (by kernel_rfl) rfl ?_
             repeat
              apply zy rfl
              . rintro K' hK' X rfl
                go_simp;exact hK'
             refine zL ?_;go_wp2_with fail
             go_roundw
             case rel=>exact⟨m+1,q+1,by omega,by go_num,by rw[Hid,hw.out];rfl,.inl ⟨rfl,hno2⟩⟩
             case measure=>simp[intOf];omega
       . obtain rfl:m=k:=by omega
         have hny:(⟨ya,yb⟩:K2)∉keys.take m:=fun hin=>by
          obtain⟨i,hi,e⟩:=N7.1 hin;exact hno.out i (by omega) (by rw[zn (by omega)];exact e)
         have HS2:Hid (yt (keys.take (m+1))=yt (keys.take m)++[(NX:Int)]):=by rw[Hid,HSN.out,Lf hny,HNX.out]
         have HU2:Hid ((yA (keys.take (m+1))).length=NX+1):=by
          rw[Hid,HUS.out];unfold qk;rw[Lf (fun e=>hny (yo.1 e)),Lw,HNX.out];rfl
         have hO5:Hid (Own wr w.heap.size (.slice Ao m co) (yt (keys.take m))):=by rw[hw.out];exact HO.out.drewN q
         have hb5:Hid (Below w.heap.size w wr):=by rw[hw.out];exact zY hb.out q
         have hl5:(yt (keys.take m)).length<=100000:=by rw[yj];simp;omega
         clear hno hny HSN HUS hw HI HI' HIO z0 z0';go_wp2_with (at_builtin;go_must (refine xp rfl _ _ rfl w.heap.size (.slice Ao m co) _ (NX:Int) rfl hO5.out rfl (by omega) hb5.out.size ?_);intro v' w5 hown1 hg1 hb1)
         go_roundw
         case rel=>exact⟨m+1,by omega,by go_num,by rw[HU2.out];go_num,by rw[HS2.out];exact hown1,hb5.out.trans hb1⟩
         case measure=>simp[intOf];omega
     . have HS2:Hid (yt (keys.take (k+1))=yt (keys.take k)++[(x:Int)]):=by rw[Hid,HSN.out,Lh hx.out.1,hx.out.2.1]
       have HU2:Hid ((yA (keys.take (k+1))).length=NX):=by
        rw[Hid,HUS.out];unfold qk;rw[Lh (yo.2 hx.out.1),HNX.out]
       have hO5:Hid (Own wr w.heap.size (.slice Ao k co) (yt (keys.take k))):=by rw[hw.out];exact HO.out.drewN q
       have hb5:Hid (Below w.heap.size w wr):=by rw[hw.out];exact zY hb.out q
       have hl5:(yt (keys.take k)).length<=100000:=by rw[yj];simp;omega
       have hx0:¬(x:Int)<0:=by omega
       clear hx HSN HUS hw HI HI' HIO z0 z0'
       by_cases hmk:m<k
       . have hm1:(m:Int)<(k:Int):=by omega
         go_wp2_with (at_builtin;go_must (refine xp rfl _ _ rfl w.heap.size (.slice Ao k co) _ (x:Int) rfl hO5.out rfl (by omega) hb5.out.size ?_);intro v' w5 hown1 hg1 hb1)
         go_roundw
         case rel=>exact⟨k+1,by omega,by go_num,by rw[HU2.out],by rw[HS2.out];exact hown1,hb5.out.trans hb1⟩
         case measure=>simp[intOf];omega
       . have hm1:¬(m:Int)<(k:Int):=by omega
         go_wp2_with (at_builtin;go_must (refine xp rfl _ _ rfl w.heap.size (.slice Ao k co) _ (x:Int) rfl hO5.out rfl (by omega) hb5.out.size ?_);intro v' w5 hown1 hg1 hb1)
         go_roundw
         case rel=>exact⟨k+1,by omega,by go_num,by rw[HU2.out],by rw[HS2.out];exact hown1,hb5.out.trans hb1⟩
         case measure=>simp[intOf];omega
  . obtain rfl:k=keys.length:=by omega
    have hO9:=HO.out;rw[LJ] at hO9;have HO9:=zH hO9;clear hO9 HO hlt;go_wp2_with fail;go_ret;refine⟨Ao,co,by rw[yj];rfl,?_,hb.out⟩;rw[yj];exact HO9.out
theorem zip_a{a b:List Int}(h:a.length=b.length):(List.zipWith K2.mk a b).map (·.a)=a/\(List.zipWith K2.mk a b).map (·.b)=b:=by
 constructor
 . refine NP (by simp[h]) fun i h1 h2=>by simp
 . refine NP (by simp[h]) fun i h1 h2=>by simp
theorem own_block{w:Ba}{g base n:Nat}{xs:List Int}(h:w.heap[g]?=some (.cells ((xs.map (Value.int .i64)).toArray) 3 (0,0)))(hb:base<=g)(hn:xs.length=n)(hm:n<=maxLen):Own w base (.slice (some ⟨g,0,none⟩) n n) xs:=by
 have h4:=OwnR.of_block (K:=kIn) (base:=base) (n:=n) h hb (by simp[hn];exact(N6 n).symm) hm;unfold OwnR at h4;show Own w _ _ _;unfold Own;rw[hn];rw[show((xs.map (Value.int .i64)).toArray).toList=xs.map (Value.int .i64) by simp] at h4;exact h4
theorem rall_any(s:Sy)(K N:Nat)(hF:Fine s K N)(G:Nat)(hG:G<2^N)(A SV AV AX:Bb)(kc ks kv kx:Nat)(w:Ba)(hX:XAt w w.heap.size AX s.xs) :
  Calls Tryz.prog 48 #[.agg (s.vs_ A kc SV ks AV kv AX kx),.int .i64 (G:Int)] w (ZV (tgP s G N) w):=by
 obtain⟨w1,hw1,d0,hs1,hB⟩:=zm w (s.vs_ A kc SV ks AV kv AX kx) 35;have HSZ:=zH (fun (X:Ba)=>vT s K N hF A SV AV AX kc ks kv kx X);have HOW:=zH (fun (q:Nat) (hq:q<N) (X:Ba) (hX:XAt X X.heap.size AX s.xs)=>JZ s K N hF q hq A SV AV AX kc ks kv kx X hX)
 have hpn:ptn s<=700:=by
  have hk:=hF.k;have hk6:=hF.k6;have:=LM hF.lx (show s.p.k.toNat+1<=7 by omega);unfold ptn;omega
 have hn5:=hF.n5;have hnn:=hF.n
 have hT32:2^N<=32:=by
  have:=Nb (n:=2) (by omega) hn5;omega
 have hG32:G<32:=by omega
 have HHA:=zH (fun (p:Nat) (hp:p<N) (X:Ba)=>vZ G p hG32 (by omega) X);have HLN:=zH (fun q=>xG s q);have HTL:=zH (fun q=>vQ s G q);have HT0:=zH (tgP_zero s G);have HTN:=zH (fun (q:Nat) (h:G.testBit q=false)=>tgP_not (s:=s) h);have HTH:=zH (fun (q:Nat) (hq:q<5) (h:G.testBit q=true)=>tgP_hit (s:=s) h hq);obtain⟨n,hn⟩:=Ki (ptn s);obtain⟨CLS,hCLS⟩:=Ki (zX s);obtain⟨TG,hTG⟩:=Ki (tgP s G);rw[hCLS] at HOW HLN HTH;rw[hTG] at HTL HT0 HTN HTH ⊢;rw[hn] at HSZ HLN HTL HT0 hpn
 have HCT:=zH (fun (A B:Bb) (ca cb q:Nat) (X:Ba) (hA:IAt X X.heap.size A (TG q)) (hB:IAt X X.heap.size B (CLS q))=>(by
  have hz:=zip_a ((HTL.out q).trans (HLN.out q).symm);have hl:(List.zipWith K2.mk (TG q) (CLS q)).length=n:=by rw[List.length_zipWith,HTL.out,HLN.out,Nat.min_self]
  have:=rcut_any A B ca cb (List.zipWith K2.mk (TG q) (CLS q)) (by omega) X (by rw[hz.1];exact hA) (by rw[hz.2];exact hB);rw[hl] at this
  exact this:Calls Tryz.prog 86 #[.slice A n ca,.slice B n cb] X (ZV (yt (List.zipWith K2.mk (TG q) (CLS q))) X)))
 have HX:=zH (hX.keep hB);unfold Sy.vs_ at hw1 d0 HSZ HOW ⊢;have HW1:=zH hw1;have HB:=zH hB;have HD:=zH d0;have HN:=zH hnn;obtain⟨p0,p1,p2,p3,p4,p5,p6,p7,p8,p9⟩:=zw (d0);clear hw1 d0 hB hF hX hn hCLS hTG hnn hG hT32;go_enter Tryz.func48,Tryz.ntmps48;go_wp2_with fail;rw[HW1.out];go_wp2_with fail;refine(HSZ.out w1).mono ?_;rintro e w2 ⟨rfl,hb2⟩;have hmk:=vY n (by omega);have HB2:=zH hb2;clear hb2 HW1 HSZ p0 p1 p2 p3 p4 p5 p6 p7 p8 p9;go_upto_region 2 with fail
 obtain⟨w3,hw3,d3,hs3,hb3⟩:=zm w2 ((List.replicate n 0).map (Value.int .i64)).toArray 3;rw[show(w2.alloc (.cells (Array.replicate n (Value.int .i64 0)) 3))=w3 from(by rw[show Array.replicate n (Value.int .i64 0)=((List.replicate n 0).map (Value.int .i64)).toArray by simp];exact hw3)];have B3:=zH (Lc HB2.out hb3);have HO0:Hid (Own w3 w1.heap.size (.slice (some ⟨w2.heap.size,0,none⟩) n n) (TG 0)):=by rw[HT0.out];exact own_block d3 HB2.out.size (by simp) (by show n<=maxLen;unfold maxLen;omega)
 clear hw3 d3 hs3 hb3 HB2 hmk HT0;go_wp2_with fail
 go_loopw [5,6] (fun o i wr=>∃(p:Nat) (Ap:Bb) (cp:Nat),p<=N/\i=.int .i64 (p:Int)/\o=.slice Ap n cp/\Hid (Own wr w1.heap.size (.slice Ap n cp) (TG p))/\Hid (Below w1.heap.size w1 wr)) (fun _ i _=>N-(intOf i).toNat)
 case atStart=>exact⟨0,_,_,by omega,rfl,rfl,HO0,B3⟩
 case round=>
  obtain⟨p,Ap,cp,hp,rfl,rfl,HOp,hbp⟩:=hrel;clear HO0 B3;have hszp:=hbp.out.size;have dd:=La hbp.out HD.out;obtain⟨p0,p1,p2,p3,p4,p5,p6,p7,p8,p9⟩:=zw (dd);clear dd
  by_cases hlt2:p<N
  . have hpn1:(p:Int)<s.n:=by have:=HN.out;omega
    by_cases hbit:G.testBit p=true
    . have HC:=HHA.out p hlt2 wr
      rw[hbit] at HC;have HC:=zH HC;have HE:=zH (HTH.out p (by omega) hbit);have HC2:=zH (HOW.out p hlt2 wr ((HX.out.keep (hbp.out.mono (by omega))).more (by omega)));clear hbit;go_wp2_with fail;refine HC.out.mono ?_;rintro e w4 ⟨rfl,hw4⟩;obtain rfl:=hw4;clear HC;go_wp2_with fail;refine HC2.out.mono ?_;rintro e w5 ⟨A4,c4,rfl,ho4,hb4⟩;have hsz4:=hb4.size;rw[HLN.out] at ho4 ⊢
      have HI4:Hid (IAt w5 w5.heap.size A4 (CLS p)):=by
       obtain⟨A',c',e',_,_,hI'⟩:=ho4.form;simp only[Value.slice.injEq] at e';obtain⟨e1',-,-⟩:=e';subst e1';exact hI'
      have HOp4:=zH (HOp.out.below hb4 (Le _))
      have HIp:Hid (IAt w5 w5.heap.size Ap (TG p)):=by
       obtain⟨A',c',e',_,_,hI'⟩:=HOp4.out.form;simp only[Value.slice.injEq] at e';obtain⟨e1',-,-⟩:=e';subst e1';exact hI'
      have HB4:=zH (hbp.out.trans (hb4.mono hszp));have HG4:=HCT.out Ap A4 cp c4 p w5 HIp.out HI4.out;rw[HE.out] at HG4;have HG4:=zH HG4;clear ho4 hb4 p0 p1 p2 p3 p4 p5 p6 p7 p8 p9 HC2 HI4 HIp HOp HOp4;go_wp2_with fail;refine HG4.out.mono ?_;rintro e w6 ⟨A5,c5,rfl,ho5,hb5⟩;rw[HTL.out] at ho5 ⊢;have HO5:=zH (ho5.low (by have:=HB4.out.size;omega:w1.heap.size<=w5.heap.size));have HB5:=zH (Lc HB4.out hb5);clear ho5 hb5 HG4;go_wp2_with fail
      go_roundw
      case rel=>exact⟨p+1,A5,c5,by omega,by go_num,rfl,HO5,HB5⟩
      case measure=>simp[intOf];omega
    . have hbf:G.testBit p=false:=by simpa using hbit
      have hc:=HHA.out p hlt2 wr;rw[hbf] at hc;have HC:=zH hc;have HE:=zH (HTN.out p hbf);clear hc hbit hbf;go_wp2_with fail;refine HC.out.mono ?_;rintro e w4 ⟨rfl,hw4⟩;obtain rfl:=hw4;clear HC p0 p1 p2 p3 p4 p5 p6 p7 p8 p9;go_wp2_with fail
      go_roundw
      case rel=>exact⟨p+1,Ap,cp,by omega,by go_num,rfl,by rw[HE.out];exact HOp,hbp⟩
      case measure=>simp[intOf];omega
  . obtain rfl:N=p:=by omega
    have hnn:¬(N:Int)<s.n:=by have:=HN.out;omega
    go_wp2_with fail;go_ret;refine⟨Ap,cp,by rw[HTL.out];rfl,?_,HB.out.trans (hbp.out.mono (by omega))⟩;rw[HTL.out];exact HOp.out.low (by omega)
theorem js(s:Sy)(K N:Nat)(hF:Fine s K N)(G:Nat)(hG:G<32)(set:List Bool)(hsl:set.length=ptn s)(A SV AV AX AB:Bb)(kc ks kv kx kb:Nat)(w:Ba)(hS:SyAt w w.heap.size A SV AV AX s)(hB0:BAt w w.heap.size AB set) :
  Calls Tryz.prog 43 #[.agg (s.vs_ A kc SV ks AV kv AX kx),.int .i64 (G:Int),.slice AB (ptn s) kb] w (RetB (evL (ptn s) (zX s) (zr G N) set) w):=by
 obtain⟨w1,hw1,d0,hs1,hB⟩:=zm w (s.vs_ A kc SV ks AV kv AX kx) 35
 have hpn:ptn s<=700:=by
  have hk:=hF.k;have hk6:=hF.k6;have:=LM hF.lx (show s.p.k.toNat+1<=7 by omega);unfold ptn;omega
 have hn5:=hF.n5;have hTn:=hF.n;have hcl:∀q,(zX s q).length=ptn s:=fun q=>xG s q
 have HOW:=zH (fun (q:Nat) (hq:q<N) (X:Ba) (hX:Below w1.heap.size w1 X)=>JZ s K N hF q hq A SV AV AX kc ks kv kx X ((hS.up hB).up hX).fx);have HBX:Hid (∀X,Below w1.heap.size w1 X->BAt X X.heap.size AB set):=fun X hX=>(((hB0.keep hB).more hB.size).keep hX).more hX.size
 obtain⟨cls,hcls⟩:=Ki (zX s);obtain⟨n,hn⟩:=Ki (ptn s);rw[hcls] at HOW hcl ⊢;rw[hn] at hcl hpn hsl ⊢;have HIN:=zH (fun (q:Nat) (A:Bb) (c:Nat) (X:Ba) (hX:Below w1.heap.size w1 X) (hI:IAt X X.heap.size A (cls q))=>YI A AB c kb n (by omega) (cls q) set (hcl q) hsl X hI (HBX.out X hX));have HAN:=zH (fun (g g':Nat) (a b:List Bool) (ha:a.length=n) (hb:b.length=n) (X:Ba) (r1:BRow X g a) (r2:BRow X g' b)=>jY (some ⟨g,0,none⟩) (some ⟨g',0,none⟩) n n n (by omega) a b ha hb X (r1.at_ r1.lt) (r2.at_ r2.lt));have HALL:=zH (fun (X:Ba)=>uI n (by omega) X);unfold RetB at HIN HAN HALL ⊢;simp only[zT,yi,List.length_replicate,yH] at HIN HAN HALL ⊢;unfold ZV at HOW;simp only[hcl] at HOW;unfold Sy.vs_ at hw1 d0 HOW ⊢;rw[hTn] at hw1 d0 HOW ⊢;have HW1:=zH hw1;have HB:=zH hB;have HD0:=zH d0;have HDX:Hid (∀X,Below w1.heap.size w1 X->X.heap[w.heap.size]?=w1.heap[w.heap.size]?):=fun X hX=>hX.block _ (zj d0)
 obtain⟨p0,p1,p2,p3,p4,p5,p6,p7,p8,p9⟩:=zw (d0);clear hw1 d0 hB hS hB0 hF hcl hcls hn hTn;go_enter Tryz.func43,Tryz.ntmps43;go_wp2_with fail;rw[HW1.out];go_wp2_with fail;refine(HALL.out w1).mono ?_;rintro e w2 ⟨g2,rfl,hg2,hr2,hb2⟩;have HR2:Hid (BRow w2 g2 (evL n cls (zr G 0) set)):=hr2;have HB2:=zH hb2;clear hr2 hb2 HALL HW1 p0 p1 p2 p3 p4 p5 p6 p7 p8 p9;go_wp2_with fail
 go_loopw [7,8] (fun o i wr=>∃k g:Nat,k<=N/\i=.int .i64 (k:Int)/\o=.slice (some ⟨g,0,none⟩) n n/\w1.heap.size<=g/\Hid (BRow wr g (evL n cls (zr G k) set))/\Hid (Below w1.heap.size w1 wr)) (fun _ i _=>N-(intOf i).toNat)
 case atStart=>exact⟨0,g2,by omega,rfl,rfl,hg2,HR2,HB2⟩
 case round=>
  obtain⟨k,g,hk,rfl,rfl,hg,hr,hbw⟩:=hrel;clear HR2;have hwk:IntKind.i64.wrap ((k:Int)+1)=((k+1:Nat):Int):=by rw[Ll];omega
  have dd:=(HDX.out wr hbw.out).trans HD0.out;obtain⟨p0,p1,p2,p3,p4,p5,p6,p7,p8,p9⟩:=zw (dd);clear dd
  by_cases hlt:k<N
  . have hk1:(k:Int)<(N:Int):=by omega
    go_wp2_with fail;refine(vZ G k hG (by omega) wr).mono ?_;rintro e w3 ⟨rfl,hw3⟩;obtain rfl:=hw3
    by_cases hbit:G.testBit k=true
    case neg=>
     have hbf:G.testBit k=false:=by simpa using hbit
     rw[hbf];have hE:zr G (k+1)=zr G k:=by rw[xM,Lf hbit]
     have hr2:Hid (BRow wr g (evL n cls (zr G (k+1)) set)):=by rw[hE];exact hr
     clear hr hE hbit hbf;go_wp2_with fail
     go_roundw
     case rel=>exact⟨k+1,g,by omega,by go_num,rfl,hg,hr2,hbw⟩
     case measure=>simp[intOf];omega
    case pos=>
    rw[hbit];have HE:Hid (evL n cls (zr G (k+1)) set=xC n (evL n cls (zr G k) set) (yn n (cls k) set)):=by rw[Hid,xM,Lh hbit,wZ]
    have HC:=zH (HOW.out k hlt wr hbw.out);clear hbit;go_wp2_with fail;refine HC.out.mono ?_;rintro e w3 ⟨A3,c3,rfl,ho3,hb3⟩;have hsz:=hbw.out.size;have HB3:=zH (hbw.out.trans (hb3.mono hsz));have hr3:BRow w3 g (evL n cls (zr G k) set):=Lb hb3 hr.out.lt hr.out;have HR3:=zH hr3;have HC2:=zH (HIN.out k A3 c3 w3 HB3.out (wz ho3));clear hr hbw ho3 hb3 hr3 HC p0 p1 p2 p3 p4 p5 p6 p7 p8 p9;go_wp2_with fail;refine HC2.out.mono ?_;rintro e w4 ⟨g4,rfl,hg4,hr4,hb4⟩;have hsz3:=HB3.out.size;have HB4:=zH (HB3.out.trans (hb4.mono hsz3));have hrw:BRow w4 g (evL n cls (zr G k) set):=Lb hb4 HR3.out.lt HR3.out;have HC3:=zH (HAN.out g g4 _ _ (yH n cls set (zr G k)) (zT n (cls k) set) w4 hrw hr4);rw[<-HE.out] at HC3;clear hr4 hb4 hrw HC2 HR3 HB3;go_wp2_with fail;refine HC3.out.mono ?_;rintro e w5 ⟨g5,rfl,hg5,hr5,hb5⟩;have HR5:=zH hr5;have HB5:=zH (Lc HB4.out hb5);have hg5':w1.heap.size<=g5:=by have:=HB4.out.size;omega
    clear hr5 hb5 HC3 HB4;go_wp2_with fail
    go_roundw
    case rel=>exact⟨k+1,g5,by omega,by go_num,rfl,hg5',HR5,HB5⟩
    case measure=>simp[intOf];omega
  . obtain rfl:N=k:=by omega
    have hk1:¬(N:Int)<(N:Int):=by omega
    have hsz:=HB.out.size;have HBF:=zH (HB.out.trans (hbw.out.mono hsz));have hg':w.heap.size<=g:=by omega
    clear hbw;go_wp2_with fail;go_ret;exact⟨g,rfl,hg',hr.out,HBF.out⟩
def uh(q:Int):Int:=if q<0\/5<=q then -1 else 2^q.toNat
theorem rone37_any(q:Int)(w:Ba):Calls Tryz.prog 42 #[.int .i64 q] w fun e w'=>e=.returned (.int .i64 (uh q))/\w'=w:=by
 by_cases h:q<0\/5<=q
 . have hE:uh q=-1:=Lh h
   rw[hE];go_enter Tryz.func42,Tryz.ntmps42;rcases h with h | h
   . have e0:decide (q<0)=true:=Lk h
     go_wp2_with fail;go_ret;exact⟨rfl,rfl⟩
   . have e0:decide (q<0)=false:=Li (by omega)
     have e2:¬q<0:=by omega
     have e1:decide (q>=5)=true:=Lk h;go_wp2_with fail;go_ret;exact⟨rfl,rfl⟩
 . have hE:uh q=2^q.toNat:=Lf h
   rw[hE];go_enter Tryz.func42,Tryz.ntmps42;obtain rfl | rfl | rfl | rfl | rfl:q=0\/q=1\/q=2\/q=3\/q=4:=by omega
   all_goals
    go_wp2_with fail;go_ret;exact⟨rfl,rfl⟩
theorem qI(s:Sy)(hs:LowS s)(hf:yM s.p)(g:Int)(set:List Bool)(_hsl:set.length<=1000000)(A SV AV AX AB:Bb)(kc ks kv kx kb:Nat)(w:Ba)(hS:SyAt w w.heap.size A SV AV AX s) :
  Calls Tryz.prog 41 #[.agg (s.vs_ A kc SV ks AV kv AX kx),.int .i64 g,.slice AB set.length kb] w fun e w'=>e=.returned (.int .i64 (zJ s g set))/\Below w.heap.size w w':=by
 obtain⟨w1,hw1,d0,hs1,hB⟩:=zm w (s.vs_ A kc SV ks AV kv AX kx) 35;have HC:=zH (JY s hs hf A SV AV AX kc ks kv kx w1 (hS.up hB))
 have HVF:Hid (zZ s=0->∃N:Nat,s.n=(N:Int)/\N<=5/\uk s=((ptn s:Int),0)/\ptn s<=700):=fun h=>by
  obtain⟨_,K,N,hF⟩:=yv hf h;have hk:=hF.k;have hk6:=hF.k6;have:=LM hF.lx (show s.p.k.toNat+1<=7 by omega);exact⟨N,hF.n,hF.n5,Lf (by simpa using h),by unfold ptn;omega⟩
 have HV0:Hid (zZ s≠0->uk s=(0,zZ s)):=fun h=>Lh h
 have HE:Hid (zJ s g set=if (if zZ s≠0 then zZ s else if g<0\/2^s.n.toNat<=g then 2 else 0)≠0 then (if zZ s≠0 then zZ s else if g<0\/2^s.n.toNat<=g then 2 else 0) else if set.length≠ptn s then 15 else 0):=rfl;obtain⟨E,hE⟩:=Ki (zJ s g set);rw[hE] at HE ⊢;obtain⟨r,hr⟩:=Ki (zZ s);rw[hr] at HE HVF HV0;obtain⟨R,hR⟩:=Ki (uk s);rw[hR] at HC HVF HV0;obtain⟨m,hm⟩:=Ki set.length;rw[hm] at HE _hsl ⊢;unfold Sy.vs_ at hw1 d0 HC ⊢;have HW1:=zH hw1;have HB:=zH hB;have HD0:=zH d0;obtain⟨p0,p1,p2,p3,p4,p5,p6,p7,p8,p9⟩:=zw (d0);clear hw1 d0 hB hS hE hr hR hm hs hf;go_enter Tryz.func41,Tryz.ntmps41;go_wp2_with fail;rw[HW1.out];go_wp2_with fail;refine HC.out.mono ?_;rintro e w2 ⟨rfl,hb2⟩;have HB2:=zH (Lc HB.out hb2);have HD2:=zH (La hb2 HD0.out);clear HC HW1 hb2 p0 p1 p2 p3 p4 p5 p6 p7 p8 p9
 by_cases h0:r=0
 case neg=>
  have hRR:=HV0.out h0;rw[hRR];have e0:(r != 0)=true:=by simpa using h0
  have hEE:Hid (E=r):=by rw[Hid,HE.out,Lh h0,Lh h0]
  clear HE HVF HV0;go_wp2_with fail;go_ret;rw[hEE.out];exact⟨rfl,HB2.out⟩
 subst h0;obtain⟨N,hN,hN5,hRR,hp7⟩:=HVF.out rfl;rw[hRR]
 have HE:Hid (E=if (if g<0\/(2:Int)^N<=g then (2:Int) else 0)≠0 then (if g<0\/(2:Int)^N<=g then (2:Int) else 0) else if m≠ptn s then 15 else 0):=by
  have h:=HE.out;rw[hN,Lo,Lf (show ¬((0:Int)≠0) by simp)] at h;exact h
 obtain⟨n,hn⟩:=Ki (ptn s);rw[hn] at HE hp7 ⊢
 have h2b:(1:Int)<=(2:Int)^N/\(2:Int)^N<=32:=by
  obtain rfl | rfl | rfl | rfl | rfl | rfl:N=0\/N=1\/N=2\/N=3\/N=4\/N=5:=by omega
  all_goals decide
 have h2w:IntKind.i64.wrap ((2:Int)^N)=(2:Int)^N:=by rw[Ll];omega
 have hmn:min N 64=N:=by omega
 have q7:w2.cell? ⟨w.heap.size,7,none⟩=some (.int .i64 (N:Int)):=by rw[<-hN];exact zh HD2.out 7 rfl
 have l7:=zj HD2.out;clear HVF HV0 hRR hn hN h2b
 by_cases hg0:g<0
 . have e0:decide (g<0)=true:=Lk hg0
   have hx:(if g<0\/(2:Int)^N<=g then (2:Int) else 0)=2:=Lh (.inl hg0);have hEE:Hid (E=2):=by rw[Hid,HE.out,hx];exact Lh (by decide)
   clear HE;go_wp2_with fail;go_ret;rw[hEE.out];exact⟨rfl,HB2.out⟩
 have e0:decide (g<0)=false:=Li hg0
 by_cases hg1:(2:Int)^N<=g
 . have e1:decide (g>=(2:Int)^N)=true:=Lk hg1
   have hx:(if g<0\/(2:Int)^N<=g then (2:Int) else 0)=2:=Lh (.inr hg1);have hEE:Hid (E=2):=by rw[Hid,HE.out,hx];exact Lh (by decide)
   clear HE;go_wp2_with fail;go_ret;rw[hEE.out];exact⟨rfl,HB2.out⟩
 have e1:decide (g>=(2:Int)^N)=false:=Li (by omega)
 have HE:Hid (E=if m≠n then 15 else 0):=by
  have hx:(if g<0\/(2:Int)^N<=g then (2:Int) else 0)=0:=Lf (by omega);rw[Hid,HE.out,hx];exact Lf (by decide)
 by_cases hmn2:m=n
 . subst hmn2
   have e2:((m:Int) != (m:Int))=false:=by simp
   have hEE:Hid (E=0):=by rw[Hid,HE.out,Lf (by simp)]
   clear HE;go_wp2_with fail;go_ret;rw[hEE.out];exact⟨rfl,HB2.out⟩
 . have e2:((m:Int) != (n:Int))=true:=by simpa using(by omega:¬(m:Int)=(n:Int))
   have hEE:Hid (E=15):=by rw[Hid,HE.out,Lh hmn2]
   clear HE;go_wp2_with fail;go_ret;rw[hEE.out];exact⟨rfl,HB2.out⟩
theorem ka{s:Sy}{g:Int}{set:List Bool}(hf:yM s.p)(h:zJ s g set=0):∃K N G:Nat,Fine s K N/\g=(G:Int)/\G<2^N/\G<32/\set.length=ptn s/\psG s g=zr G N:=by
 obtain⟨h1,h2⟩:=uQ h;obtain⟨hv,hg0,hg1⟩:=kV h1;obtain⟨_,K,N,hF⟩:=yv hf hv;obtain⟨G,rfl⟩:=Lr hg0;have hN:=hF.n
 have hG:G<2^N:=by
  rw[hN,Lo] at hg1;have h2:((2^N:Nat):Int)=(2:Int)^N:=by push_cast;rfl
  omega
 have h3:=Nb (n:=2) (by omega) hF.n5;refine⟨K,N,G,hF,rfl,hG,by omega,h2,?_⟩;unfold psG;rw[hN,Lo,Lo]
theorem ZZ(s:Sy)(hs:LowS s)(hf:yM s.p)(g:Int)(set:List Bool)(hsl:set.length<=1000000)(A SV AV AX AB:Bb)(kc ks kv kx kb:Nat)(w:Ba)(hS:SyAt w w.heap.size A SV AV AX s)(hB0:BAt w w.heap.size AB set) :
  Calls Tryz.prog 17 #[.agg (s.vs_ A kc SV ks AV kv AX kx),.int .i64 g,.slice AB set.length kb] w (jl (vf s g set) w):=by
 obtain⟨w1,hw1,d0,hs1,hB⟩:=zm w (s.vs_ A kc SV ks AV kv AX kx) 35;have HC:=zH (qI s hs hf g set hsl A SV AV AX AB kc ks kv kx kb w1 (hS.up hB))
 have HEV:=zH (fun (h:zJ s g set=0) (X:Ba) (hX:Below w1.heap.size w1 X)=>(by
  obtain⟨K,N,G,hF,rfl,hG,hG32,hl,hps⟩:=ka hf h;have:=js s K N hF G hG32 set hl A SV AV AX AB kc ks kv kx kb X ((hS.up hB).up hX) ((((hB0.keep hB).more hB.size).keep hX).more hX.size);rw[<-hps] at this;rw[hl]
  exact this:Calls Tryz.prog 43 #[.agg (s.vs_ A kc SV ks AV kv AX kx),.int .i64 g,.slice AB set.length kb] X (RetB (evG s g set) X)))
 unfold RetB at HEV;have HE:Hid (vf s g set=if zJ s g set≠0 then ([],zJ s g set) else (evG s g set,0)):=rfl;obtain⟨E,hE⟩:=Ki (vf s g set);rw[hE] at HE ⊢;obtain⟨r,hr⟩:=Ki (zJ s g set);rw[hr] at HC HE HEV;obtain⟨RS,hRS⟩:=Ki (evG s g set);rw[hRS] at HE HEV;unfold Sy.vs_ at hw1 d0 HC HEV ⊢;unfold jl;have HW1:=zH hw1;have HB:=zH hB;have HDX:Hid (∀X,Below w1.heap.size w1 X->X.heap[w.heap.size]?=some (.cells #[.int .i64 s.p.t.n,.int .i64 s.p.t.ins,.int .i64 s.p.t.outs,.slice A s.p.t.cases.length kc,.int .i64 s.p.a.n,.slice SV s.p.a.sts.length ks,.int .i64 s.p.k,.int .i64 s.n,.slice AV s.vs.length kv,.slice AX s.xs.length kx] 35 (0,0))):=fun X hX=>La hX d0
 obtain⟨p0,p1,p2,p3,p4,p5,p6,p7,p8,p9⟩:=zw (d0);clear hw1 d0 hB hS hB0 hE hr hRS hs hf;go_enter Tryz.func17,Tryz.ntmps17;go_wp2_with fail;rw[HW1.out];go_wp2_with fail;refine HC.out.mono ?_;rintro e w2 ⟨rfl,hb2⟩;have G2:=zH hb2;have HB2:=zH (Lc HB.out hb2);clear HC HW1 hb2 p0 p1 p2 p3 p4 p5 p6 p7 p8 p9
 by_cases h0:r=0
 case neg=>
  have e0:(r != 0)=true:=by simpa using h0
  have hEE:Hid (E=([],r)):=HE.out.trans (Lh h0);clear HE HEV;go_wp2_with fail
  go_ret2
  rw[hEE.out];exact⟨none,0,rfl,fun h=>absurd h (by simp),HB2.out⟩
 subst h0;have hEE:Hid (E=(RS,0)):=HE.out.trans (Lf (by simp));have HC2:=zH (HEV.out rfl w2 G2.out);obtain⟨p0,p1,p2,p3,p4,p5,p6,p7,p8,p9⟩:=zw (HDX.out _ G2.out);clear HE HEV;go_wp2_with fail;refine HC2.out.mono ?_;rintro e w3 ⟨g3,rfl,hg3,hr3,hb3⟩;have HBF:=zH (Lc HB2.out hb3);have HR3:=zH hr3;clear hr3 hb3 HC2 p0 p1 p2 p3 p4 p5 p6 p7 p8 p9;go_wp2_with fail
 go_ret2
 rw[hEE.out];exact⟨some ⟨g3,0,none⟩,_,rfl,HR3.out.at_ HR3.out.lt,HBF.out⟩
theorem rdist37_any(s:Sy)(hs:LowS s)(hf:yM s.p)(g:Int)(set:List Bool)(hsl:set.length<=1000000)(A SV AV AX AB:Bb)(kc ks kv kx kb:Nat)(w:Ba)(hS:SyAt w w.heap.size A SV AV AX s)(hB0:BAt w w.heap.size AB set) :
  Calls Tryz.prog 19 #[.agg (s.vs_ A kc SV ks AV kv AX kx),.int .i64 g,.slice AB set.length kb] w (jl (gc s g set) w):=by
 obtain⟨w1,hw1,d0,hs1,hB⟩:=zm w (s.vs_ A kc SV ks AV kv AX kx) 35;have HC:=zH (qI s hs hf g set hsl A SV AV AX AB kc ks kv kx kb w1 (hS.up hB))
 have HAL:=zH (fun (h:zJ s g set=0) (X:Ba) (hX:Below w1.heap.size w1 X)=>(by
  obtain⟨K,N,G,hF,rfl,hG,hG32,hl,hps⟩:=ka hf h;have:=rall_any s K N hF G hG A SV AV AX kc ks kv kx X ((hS.up hB).up hX).fx;rw[<-JQ hF.n] at this
  exact this:Calls Tryz.prog 48 #[.agg (s.vs_ A kc SV ks AV kv AX kx),.int .i64 g] X (ZV (xJ s g) X)))
 have hBX:∀X,Below w1.heap.size w1 X->BAt X X.heap.size AB set:=fun X hX=>(((hB0.keep hB).more hB.size).keep hX).more hX.size
 have HIN:=zH (fun (h:zJ s g set=0) (A:Bb) (c:Nat) (X:Ba) (hX:Below w1.heap.size w1 X) (hI:IAt X X.heap.size A (xJ s g))=>(by
  obtain⟨K,N,G,hF,_,hG,hG32,hl,hps⟩:=ka hf h
  have hp:ptn s<=700:=by
   have hk:=hF.k;have hk6:=hF.k6;have:=LM hF.lx (show s.p.k.toNat+1<=7 by omega);unfold ptn;omega
  have:=YI A AB c kb (ptn s) (by omega) (xJ s g) set (Yo s g) hl X hI (hBX X hX);have h2:(xJ s g).length=ptn s:=Yo s g;rw[hl,h2]
  exact this:Calls Tryz.prog 47 #[.slice A (xJ s g).length c,.slice AB set.length kb] X (RetB (yn (ptn s) (xJ s g) set) X)))
 have HE:Hid (gc s g set=if zJ s g set≠0 then ([],zJ s g set) else (yn (ptn s) (xJ s g) set,0)):=rfl;obtain⟨E,hE⟩:=Ki (gc s g set);rw[hE] at HE ⊢;obtain⟨r,hr⟩:=Ki (zJ s g set);rw[hr] at HC HE HAL HIN;obtain⟨RS,hRS⟩:=Ki (yn (ptn s) (xJ s g) set);rw[hRS] at HE HIN;unfold ZV at HAL;obtain⟨L,hL⟩:=Ki (xJ s g);rw[hL] at HAL HIN;unfold RetB at HIN;unfold Sy.vs_ at hw1 d0 HC HAL ⊢;unfold jl;have HW1:=zH hw1;have HB:=zH hB;have HDX:Hid (∀X,Below w1.heap.size w1 X->X.heap[w.heap.size]?=some (.cells #[.int .i64 s.p.t.n,.int .i64 s.p.t.ins,.int .i64 s.p.t.outs,.slice A s.p.t.cases.length kc,.int .i64 s.p.a.n,.slice SV s.p.a.sts.length ks,.int .i64 s.p.k,.int .i64 s.n,.slice AV s.vs.length kv,.slice AX s.xs.length kx] 35 (0,0))):=fun X hX=>La hX d0
 obtain⟨p0,p1,p2,p3,p4,p5,p6,p7,p8,p9⟩:=zw (d0);clear hw1 d0 hB hS hB0 hE hr hRS hL hs hf hBX;go_enter Tryz.func19,Tryz.ntmps19;go_wp2_with fail;rw[HW1.out];go_wp2_with fail;refine HC.out.mono ?_;rintro e w2 ⟨rfl,hb2⟩;have G2:=zH hb2;have HB2:=zH (Lc HB.out hb2);clear HC HW1 hb2 p0 p1 p2 p3 p4 p5 p6 p7 p8 p9
 by_cases h0:r=0
 case neg=>
  have e0:(r != 0)=true:=by simpa using h0
  have hEE:Hid (E=([],r)):=HE.out.trans (Lh h0);clear HE HAL HIN;go_wp2_with fail
  go_ret2
  rw[hEE.out];exact⟨none,0,rfl,fun h=>absurd h (by simp),HB2.out⟩
 subst h0;have hEE:Hid (E=(RS,0)):=HE.out.trans (Lf (by simp));have HC2:=zH (HAL.out rfl w2 G2.out);have HIN2:=zH (HIN.out rfl);obtain⟨p0,p1,p2,p3,p4,p5,p6,p7,p8,p9⟩:=zw (HDX.out _ G2.out);clear HE HAL HIN;go_wp2_with fail;refine HC2.out.mono ?_;rintro e w3 ⟨A3,c3,rfl,ho3,hb3⟩;have G3:=zH (Lc G2.out hb3);have HC3:=zH (HIN2.out A3 c3 w3 G3.out (wz ho3));clear ho3 hb3 HC2 HIN2 p0 p1 p2 p3 p4 p5 p6 p7 p8 p9;go_wp2_with fail;refine HC3.out.mono ?_;rintro e w4 ⟨g4,rfl,hg4,hr4,hb4⟩;have HBF:=zH (HB.out.trans ((Lc G3.out hb4).mono HB.out.size));have HR4:=zH hr4;clear hr4 hb4 HC3;go_wp2_with fail
 go_ret2
 rw[hEE.out];exact⟨some ⟨g4,0,none⟩,_,rfl,HR4.out.at_ HR4.out.lt,HBF.out⟩
theorem bits_one{q N:Nat}(hq:q<N)(hN:N<=5):zr (2^q) N=[q]:=by
 have h:∀N,N<6->∀q,q<5->q<N->zr (2^q) N=[q]:=by decide +kernel
 exact h N (by omega) q (by omega) hq
theorem ev_one(n:Nat)(cls:Nat->List Int)(q:Nat)(set:List Bool):evL n cls [q] set=yn n (cls q) set:=by
 refine qE (yH ..) (zT ..) fun i hi=>?_
 rw[qM hi,qd hi];exact⟨fun h=>h q (by simp),fun h p hp=>by rw[LZ] at hp;subst hp;exact h⟩
theorem knw_ref{s:Sy}(hf:yM s.p)(q:Int)(set:List Bool):vf s (uh q) set=ui s q set:=by
 unfold vf ui
 by_cases h0:zZ s=0
 case neg=>
  have h1:zJ s (uh q) set=zZ s:=by
   unfold zJ zQ;rw[Lh h0,Lh h0]
  rw[Lh (by rw[h1];exact h0),Lh h0,h1]
 obtain⟨_,K,N,hF⟩:=yv hf h0;have hn:=hF.n;have hn5:=hF.n5
 have hcond:(uh q<0\/(2:Int)^s.n.toNat<=uh q)↔(q<0\/s.n<=q):=by
  rw[hn,Lo];unfold uh
  by_cases h1:q<0\/5<=q
  . rw[Lh h1]
    constructor
    . intro _;omega
    . intro _;exact .inl (by decide)
  . rw[Lf h1]
    obtain⟨k,rfl⟩:=Lr (show 0<=q by omega);rw[Lo];have h2:∀N,N<6->∀k,k<5->(((2:Int)^k<0\/(2:Int)^N<=(2:Int)^k)↔N<=k):=by decide +kernel
    rw[h2 N (by omega) k (by omega)];omega
 rw[Lf (by simpa using h0:¬zZ s≠0)]
 by_cases h1:q<0\/s.n<=q
 · have h2 : zJ s (uh q) set = 2 := by
    have hr:zQ s (uh q)=2:=by
     unfold zQ;rw[Lf (by simpa using h0),Lh (hcond.2 h1)]
    unfold zJ;rw[hr];exact Lh (by decide)
   rw[Lh h1,h2];rfl
 · have h3 : zQ s (uh q) = 0 := by
    unfold zQ;rw[Lf (by simpa using h0),Lf (fun h=>h1 (hcond.1 h))]
   rw[Lf h1]
   by_cases h2:set.length≠ptn s
   · have h4 : zJ s (uh q) set = 15 := by
      unfold zJ;rw[Lf (by simpa using h3),Lh h2]
     rw[Lh h2,h4];rfl
   · have h4 : zJ s (uh q) set = 0 := by
      unfold zJ;rw[Lf (by simpa using h3),Lf h2]
     rw[Lf h2,Lf (by simpa using h4)];obtain⟨k,rfl⟩:=Lr (show 0<=q by omega)
     have h5:uh (k:Int)=((2^k:Nat):Int):=by
      unfold uh;rw[Lf (by omega),Lo]
      push_cast;rfl
     unfold evG psG;rw[h5,hn,Lo,Lo,Lo,bits_one (by omega) hn5,ev_one]
theorem Q1(s:Sy)(hs:LowS s)(hf:yM s.p)(q:Int)(set:List Bool)(hsl:set.length<=1000000)(A SV AV AX AB:Bb)(kc ks kv kx kb:Nat)(w:Ba)(hS:SyAt w w.heap.size A SV AV AX s)(hB0:BAt w w.heap.size AB set) :
  Calls Tryz.prog 14 #[.agg (s.vs_ A kc SV ks AV kv AX kx),.int .i64 q,.slice AB set.length kb] w (jl (ui s q set) w):=by
 rw[<-knw_ref hf];obtain⟨g,hg⟩:=Ki (uh q);rw[hg];have HON:Hid (∀X,Calls Tryz.prog 42 #[.int .i64 q] X fun e w'=>e=.returned (.int .i64 g)/\w'=X):=fun X=>by rw[<-hg];exact rone37_any q X
 clear hg;obtain⟨w1,hw1,d0,hs1,hB⟩:=zm w (s.vs_ A kc SV ks AV kv AX kx) 35;have HC:=zH (fun (X:Ba) (hX:Below w1.heap.size w1 X)=>qI s hs hf g set hsl A SV AV AX AB kc ks kv kx kb X ((hS.up hB).up hX))
 have HEV:=zH (fun (h:zJ s g set=0) (X:Ba) (hX:Below w1.heap.size w1 X)=>(by
  obtain⟨K,N,G,hF,rfl,hG,hG32,hl,hps⟩:=ka hf h;have:=js s K N hF G hG32 set hl A SV AV AX AB kc ks kv kx kb X ((hS.up hB).up hX) ((((hB0.keep hB).more hB.size).keep hX).more hX.size);rw[<-hps] at this;rw[hl]
  exact this:Calls Tryz.prog 43 #[.agg (s.vs_ A kc SV ks AV kv AX kx),.int .i64 g,.slice AB set.length kb] X (RetB (evG s g set) X)))
 unfold RetB at HEV;have HE:Hid (vf s g set=if zJ s g set≠0 then ([],zJ s g set) else (evG s g set,0)):=rfl;obtain⟨E,hE⟩:=Ki (vf s g set);rw[hE] at HE ⊢;obtain⟨r,hr⟩:=Ki (zJ s g set);rw[hr] at HC HE HEV;obtain⟨RS,hRS⟩:=Ki (evG s g set);rw[hRS] at HE HEV;unfold Sy.vs_ at hw1 d0 HC HEV ⊢;unfold jl;have HW1:=zH hw1;have HB:=zH hB;have HDX:Hid (∀X,Below w1.heap.size w1 X->X.heap[w.heap.size]?=some (.cells #[.int .i64 s.p.t.n,.int .i64 s.p.t.ins,.int .i64 s.p.t.outs,.slice A s.p.t.cases.length kc,.int .i64 s.p.a.n,.slice SV s.p.a.sts.length ks,.int .i64 s.p.k,.int .i64 s.n,.slice AV s.vs.length kv,.slice AX s.xs.length kx] 35 (0,0))):=fun X hX=>La hX d0
 clear hw1 d0 hB hS hB0 hE hr hRS hs hf;go_enter Tryz.func14,Tryz.ntmps14;go_upto_region 1 with fail
 rw[HW1.out];refine zx [(0,true),(1,true),(3,true),(2,false),(4,false),(5,true)] (fun X=>X.heap[w.heap.size]?=some (.cells #[.int .i64 s.p.t.n,.int .i64 s.p.t.ins,.int .i64 s.p.t.outs,.slice A s.p.t.cases.length kc,.int .i64 s.p.a.n,.slice SV s.p.a.sts.length ks,.int .i64 s.p.k,.int .i64 s.n,.slice AV s.vs.length kv,.slice AX s.xs.length kx] 35 (0,0))) (by kernel_rfl) (by kernel_rfl) (HDX.out _ (Lm _ w1).drew) ?_
 repeat
  apply zy rfl
  . rintro K' hK' X u
    obtain⟨p0,p1,p2,p3,p4,p5,p6,p7,p8,p9⟩:=zw (u);clear u;go_simp;exact hK'
 refine zA rfl ?_;intro K' hK';go_simp;refine(HON.out _).mono ?_;rintro e v1 ⟨rfl,rfl⟩;refine hK' _ _ (HDX.out _ (Lm _ w1).drew) ?_;clear hK' K';refine zA rfl ?_;intro K' hK';go_simp;refine(HC.out w1.drew (Lm _ w1).drew).mono ?_;rintro e w2 ⟨rfl,hb2⟩;have G2:Hid (Below w1.heap.size w1 w2):=(Lm _ w1).drew.trans hb2;have HB2:=zH (Lc HB.out G2.out);refine hK' _ _ (HDX.out _ G2.out) ?_;clear hK' K' hb2 HC HW1
 repeat
  apply zy rfl
  . rintro K' hK' X u
    clear u;go_simp;exact hK'
 refine zL ?_
 by_cases h0:r=0
 case neg=>
  have e0:(r != 0)=true:=by simpa using h0
  have hEE:Hid (E=([],r)):=HE.out.trans (Lh h0);clear HE HEV;go_wp2_with fail
  go_ret2
  rw[hEE.out];exact⟨none,0,rfl,fun h=>absurd h (by simp),HB2.out⟩
 subst h0;have hEE:Hid (E=(RS,0)):=HE.out.trans (Lf (by simp));have HEV:=zH (HEV.out rfl);clear HE;go_upto_region 4 with fail
 refine zx [(0,true),(1,true),(3,true),(2,false),(4,false),(5,true),(6,true)] (fun X=>X.heap[w.heap.size]?=some (.cells #[.int .i64 s.p.t.n,.int .i64 s.p.t.ins,.int .i64 s.p.t.outs,.slice A s.p.t.cases.length kc,.int .i64 s.p.a.n,.slice SV s.p.a.sts.length ks,.int .i64 s.p.k,.int .i64 s.n,.slice AV s.vs.length kv,.slice AX s.xs.length kx] 35 (0,0))) (by kernel_rfl) (by kernel_rfl) (HDX.out _ (G2.out.drew)) ?_
 repeat
  apply zy rfl
  . rintro K' hK' X u
    obtain⟨p0,p1,p2,p3,p4,p5,p6,p7,p8,p9⟩:=zw (u);clear u;go_simp;exact hK'
 refine zA rfl ?_;intro K' hK';go_simp;refine(HON.out _).mono ?_;rintro e v1 ⟨rfl,rfl⟩;refine hK' _ _ (HDX.out _ (G2.out.drew)) ?_;clear hK' K';refine zA rfl ?_;intro K' hK';go_simp;refine(HEV.out w2.drew (G2.out.drew)).mono ?_;rintro e w3 ⟨g3,rfl,hg3,hr3,hb3⟩;have HBF:=zH (HB2.out.trans (((Lm _ w2).drew.trans hb3).mono HB2.out.size));have G3:Hid (Below w1.heap.size w1 w3):=G2.out.trans (((Lm _ w2).drew.trans hb3).mono G2.out.size);have HR3:=zH hr3;refine hK' _ _ (HDX.out _ G3.out) ?_;clear hK' K' hr3 hb3 HEV
 repeat
  apply zy rfl
  . rintro K' hK' X u
    clear u;go_simp;exact hK'
 refine zL ?_;go_wp2_with fail
 go_ret2
 rw[hEE.out];exact⟨some ⟨g3,0,none⟩,⟨RS.length,rfl⟩,HR3.out.at_ HR3.out.lt,HBF.out⟩
end
section
open Go.RowKit
attribute [local go_sem] Oper.semAt_some
theorem ptn_few{s:Sy}(hf:yM s.p)(hv:zZ s=0):ptn s<=700:=by
 obtain⟨_,K,N,hF⟩:=yv hf hv;have hk:=hF.k;have hk6:=hF.k6;have:=LM hF.lx (show s.p.k.toNat+1<=7 by omega);unfold ptn;omega
theorem knw_lens{s:Sy}(hf:yM s.p)(g:Int)(set:List Bool):(ui s g set).1.length<=700/\(vf s g set).1.length<=700/\(gc s g set).1.length<=700:=by
 refine⟨?_,?_,?_⟩
 . unfold ui
   split
   . exact Nj _
   . rename_i hv
     split
     . exact Nj _
     . split
       . exact Nj _
       . show(yn _ _ _).length<=700
         rw[zT];exact ptn_few hf (by simpa using hv)
 . unfold vf
   split
   . exact Nj _
   . rename_i hv
     obtain⟨_,_,_,_,_,h7,_⟩:=xv hf (by simpa using hv);show(evG s g set).length<=700;unfold evG;rw[yH];exact h7
 . unfold gc
   split
   . exact Nj _
   . rename_i hv
     obtain⟨_,_,_,_,_,h7,_⟩:=xv hf (by simpa using hv);show(yn _ _ _).length<=700;rw[zT];exact h7
theorem law_kknows(s:Sy)(hl:LowSy s)(A SV AV AX:Bb)(kc ks kv kx:Nat)(g:Int)(bs:List Bool)(AB:Bb)(kb:Nat)(w:Ba)(hT:RowTab w)(hS:SyAt w w.heap.size A SV AV AX s)(hb0:BAt w w.heap.size AB bs) :
  Calls Tryz.prog 3 #[.agg (s.vs_ A kc SV ks AV kv AX kx),.int .i64 g,.slice AB bs.length kb] w fun e w'=>e=.returned (.bool true)/\Below w.heap.size w w':=by
 obtain⟨w1,hw1,d0,hs1,hB1⟩:=zm w (s.vs_ A kc SV ks AV kv AX kx) 35;have hS1:=hS.up hB1;have hb1:=(hb0.keep hB1).more hB1.size;have HT:Hid (∀X,Below w1.heap.size w1 X->RowTab X):=fun X hX=>hT.keep (Lc hB1 hX) hT.1
 have HF:=zH (fewS_any s hl A SV AV AX kc ks kv kx w1 hS1);have C1:=zH (fun (h:xQ s=true) (hq:bs.length<=1000000) (X:Ba) (hX:Below w1.heap.size w1 X)=>j6 s (zV hl h).2.2.1 (zV hl h).1 g bs A SV AV AX AB kc ks kv kx kb hq X (hS1.up hX) ((hb1.keep hX).more hX.size));have C2:=zH (fun (h:xQ s=true) (hq:bs.length<=1000000) (X:Ba) (hX:Below w1.heap.size w1 X)=>Q1 s (zV hl h).2.2.1 (zV hl h).1 g bs hq A SV AV AX AB kc ks kv kx kb X (hS1.up hX) ((hb1.keep hX).more hX.size));have C3:=zH (fun (h:xQ s=true) (hq:bs.length<=1000000) (X:Ba) (hX:Below w1.heap.size w1 X)=>jz s (zV hl h).2.2.1 (zV hl h).1 g bs A SV AV AX AB kc ks kv kx kb hq X (hS1.up hX) ((hb1.keep hX).more hX.size));have C4:=zH (fun (h:xQ s=true) (hq:bs.length<=1000000) (X:Ba) (hX:Below w1.heap.size w1 X)=>ZZ s (zV hl h).2.2.1 (zV hl h).1 g bs hq A SV AV AX AB kc ks kv kx kb X (hS1.up hX) ((hb1.keep hX).more hX.size));have C5:=zH (fun (h:xQ s=true) (hq:bs.length<=1000000) (X:Ba) (hX:Below w1.heap.size w1 X)=>qZ s (zV hl h).2.2.1 (zV hl h).1 g bs A SV AV AX AB kc ks kv kx kb hq X (hS1.up hX) ((hb1.keep hX).more hX.size));have C6:=zH (fun (h:xQ s=true) (hq:bs.length<=1000000) (X:Ba) (hX:Below w1.heap.size w1 X)=>rdist37_any s (zV hl h).2.2.1 (zV hl h).1 g bs hq A SV AV AX AB kc ks kv kx kb X (hS1.up hX) ((hb1.keep hX).more hX.size));have HLN:Hid (xQ s=true->(ui s g bs).1.length<=700/\(vf s g bs).1.length<=700/\(gc s g bs).1.length<=700):=fun h=>knw_lens (zV hl h).1 g bs
 unfold Sy.vs_ at hw1 d0 HF C1 C2 C3 C4 C5 C6 ⊢;obtain⟨R1,hR1⟩:=Ki (ui s g bs);obtain⟨R2,hR2⟩:=Ki (vf s g bs);obtain⟨R3,hR3⟩:=Ki (gc s g bs);rw[hR1] at C1 C2 HLN;rw[hR2] at C3 C4 HLN;rw[hR3] at C5 C6 HLN;have HW1:=zH hw1;have HB1:=zH hB1;have HDB:Hid (∀X,Below w1.heap.size w1 X->X.heap[w.heap.size]?=some (.cells #[.int .i64 s.p.t.n,.int .i64 s.p.t.ins,.int .i64 s.p.t.outs,.slice A s.p.t.cases.length kc,.int .i64 s.p.a.n,.slice SV s.p.a.sts.length ks,.int .i64 s.p.k,.int .i64 s.n,.slice AV s.vs.length kv,.slice AX s.xs.length kx] 35 (0,0))):=fun X hX=>La hX d0
 have G1:Hid (Below w1.heap.size w1 w1):=Lm _ _;obtain⟨F,hF⟩:=Ki (xQ s);rw[hF] at HF C1 C2 C3 C4 C5 C6 HLN;clear hw1 d0 hB1 hS hS1 hF hl hR1 hR2 hR3 hb0 hb1 hT;obtain⟨p0,p1,p2,p3,p4,p5,p6,p7,p8,p9⟩:=zw (HDB.out _ G1.out);go_enter Tryz.func3,Tryz.ntmps3;go_upto_region 1 with fail
 rw[HW1.out];go_wp2_with fail;refine HF.out.mono ?_;rintro e w2 ⟨rfl,hb2⟩;have G2:=zH (Lc G1.out hb2);clear hb2 HF HW1 p0 p1 p2 p3 p4 p5 p6 p7 p8 p9
 cases F with
 | false=>
  clear C1 C2 C3 C4 C5 C6 HLN;go_wp2_with fail;refine(ye w2 (HT.out _ G2.out)).mono ?_;rintro e v3 ⟨rfl,hb3⟩;have B3:=zH (HB1.out.trans ((Lc G2.out hb3).mono HB1.out.size));clear hb3;go_wp2_with fail;go_ret;exact⟨rfl,B3.out⟩
 | true=>
 by_cases hlen:(400:Int)<(bs.length:Int)
 . clear C1 C2 C3 C4 C5 C6 HLN
   have hq:((bs.length:Int)>400)=True:=eq_true hlen;go_wp2_with fail;refine(ye w2 (HT.out _ G2.out)).mono ?_;rintro e v3 ⟨rfl,hb3⟩;have B3:=zH (HB1.out.trans ((Lc G2.out hb3).mono HB1.out.size));clear hb3;go_wp2_with fail;go_ret;exact⟨rfl,B3.out⟩
 have D1:=zH (C1.out rfl (by omega));have D2:=zH (C2.out rfl (by omega));have D3:=zH (C3.out rfl (by omega));have D4:=zH (C4.out rfl (by omega));have D5:=zH (C5.out rfl (by omega));have D6:=zH (C6.out rfl (by omega));have hln:=zH (HLN.out rfl);clear C1 C2 C3 C4 C5 C6 HLN;unfold jl at D1 D2 D3 D4 D5 D6;obtain⟨p0,p1,p2,p3,p4,p5,p6,p7,p8,p9⟩:=zw (HDB.out _ G2.out);go_wp2_with fail;refine(D1.out w2 G2.out).mono ?_;rintro e w3 ⟨A3,c3,rfl,hr3,hb3⟩;have G3:=zH (Lc G2.out hb3);have Q3:=zH hr3;clear hb3 hr3 D1 hlen p0 p1 p2 p3 p4 p5 p6 p7 p8 p9;obtain⟨p0,p1,p2,p3,p4,p5,p6,p7,p8,p9⟩:=zw (HDB.out _ G3.out);go_wp2_with fail;refine(D2.out w3 G3.out).mono ?_;rintro e w4 ⟨A4,c4,rfl,hr4,hb4⟩;have G4:=zH (Lc G3.out hb4);have Q4:=zH hr4;have Q3:=zH ((Q3.out.keep hb4).more hb4.size);have HC:=ju A3 A4 c3 c4 R1.1 R1.1 w4 w4.heap.size (Le _) Q3.out Q4.out (by have:=hln.out.1;omega) (by have:=hln.out.1;omega);rw[show decide (R1.1=R1.1)=true by simp] at HC;have HC:=zH HC;clear hb4 hr4 D2 p0 p1 p2 p3 p4 p5 p6 p7 p8 p9 Q3 Q4;go_wp2_with fail;refine HC.out.mono ?_;rintro e w5 ⟨rfl,n5,hn5⟩;have hb5:Below w4.heap.size w4 w5:=by rw[hn5];exact zY (Lm _ _) n5
 have G5:=zH (Lc G4.out hb5);clear hb5 hn5 HC;obtain⟨p0,p1,p2,p3,p4,p5,p6,p7,p8,p9⟩:=zw (HDB.out _ G5.out);go_wp2_with fail;refine(D3.out w5 G5.out).mono ?_;rintro e w6 ⟨A6,c6,rfl,hr6,hb6⟩;have G6:=zH (Lc G5.out hb6);have Q6:=zH hr6;clear hb6 hr6 D3 p0 p1 p2 p3 p4 p5 p6 p7 p8 p9;obtain⟨p0,p1,p2,p3,p4,p5,p6,p7,p8,p9⟩:=zw (HDB.out _ G6.out);go_wp2_with fail;refine(D4.out w6 G6.out).mono ?_;rintro e w7 ⟨A7,c7,rfl,hr7,hb7⟩;have G7:=zH (Lc G6.out hb7);have Q7:=zH hr7;have Q6:=zH ((Q6.out.keep hb7).more hb7.size);have HC:=ju A6 A7 c6 c7 R2.1 R2.1 w7 w7.heap.size (Le _) Q6.out Q7.out (by have:=hln.out.2.1;omega) (by have:=hln.out.2.1;omega);rw[show decide (R2.1=R2.1)=true by simp] at HC;have HC:=zH HC;clear hb7 hr7 D4 p0 p1 p2 p3 p4 p5 p6 p7 p8 p9 Q6 Q7;go_wp2_with fail;refine HC.out.mono ?_;rintro e w8 ⟨rfl,n8,hn8⟩;have hb8:Below w7.heap.size w7 w8:=by rw[hn8];exact zY (Lm _ _) n8
 have G8:=zH (Lc G7.out hb8);clear hb8 hn8 HC;obtain⟨p0,p1,p2,p3,p4,p5,p6,p7,p8,p9⟩:=zw (HDB.out _ G8.out);go_wp2_with fail;refine(D5.out w8 G8.out).mono ?_;rintro e w9 ⟨A9,c9,rfl,hr9,hb9⟩;have G9:=zH (Lc G8.out hb9);have Q9:=zH hr9;clear hb9 hr9 D5 p0 p1 p2 p3 p4 p5 p6 p7 p8 p9;obtain⟨p0,p1,p2,p3,p4,p5,p6,p7,p8,p9⟩:=zw (HDB.out _ G9.out);go_wp2_with fail;refine(D6.out w9 G9.out).mono ?_;rintro e w10 ⟨A10,c10,rfl,hr10,hb10⟩;have G10:=zH (Lc G9.out hb10);have Q10:=zH hr10;have Q9:=zH ((Q9.out.keep hb10).more hb10.size);have HC:=ju A9 A10 c9 c10 R3.1 R3.1 w10 w10.heap.size (Le _) Q9.out Q10.out (by have:=hln.out.2.2;omega) (by have:=hln.out.2.2;omega);rw[show decide (R3.1=R3.1)=true by simp] at HC;have HC:=zH HC;clear hb10 hr10 D6 p0 p1 p2 p3 p4 p5 p6 p7 p8 p9 Q9 Q10;go_wp2_with fail;refine HC.out.mono ?_;rintro e w11 ⟨rfl,n11,hn11⟩;have hb11:Below w10.heap.size w10 w11:=by rw[hn11];exact zY (Lm _ _) n11
 have G11:=zH (Lc G10.out hb11);clear hb11 hn11 HC;go_wp2_with fail;refine(ye w11 (HT.out _ G11.out)).mono ?_;rintro e v3 ⟨rfl,hb3⟩;have B3:=zH (HB1.out.trans ((Lc G11.out hb3).mono HB1.out.size));clear hb3;go_wp2_with fail;go_ret;exact⟨rfl,B3.out⟩
end
end Go.Proofs.YtjmckgoegfipeaaGreatDoor
