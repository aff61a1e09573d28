/- Parts LwKd. -/
import Derived.Test.YtjmckgoegfipeaaGreatDoorProg
import Derived.Test.YtjmckgoegfipeaaGreatDoorPj
import Derived.Test.YtjmckgoegfipeaaGreatDoorPk
import Derived.Test.YtjmckgoegfipeaaGreatDoorPh
import Derived.Test.YtjmckgoegfipeaaGreatDoorPc

namespace Go.Proofs.YtjmckgoegfipeaaGreatDoor
set_option maxRecDepth 100000
set_option maxHeartbeats 4000000
open Go.RowKit
attribute [local go_sem] Oper.semAt_some
def inV(ls:List Int)(x:List Bool)(k:Nat)(v:Int):Bool:=decide (∃j,j<k/\ls.getD j 0=v/\x.getD j false=true)
def inG(ls:List Int)(x:List Bool):Nat->Int->Option Value
 | 0=>fun _=>none
 | k+1=>xq (inG ls x k) (ls.getD k 0) (.bool (inV ls x k (ls.getD k 0)||x.getD k false))
theorem inV_succ(ls:List Int)(x:List Bool)(k:Nat)(v:Int):inV ls x (k+1) v=(inV ls x k v||(decide (v=ls.getD k 0)&&x.getD k false)):=by
 rw[Nl,PS,Lx];unfold inV;rw[Ng,Ng,Ng];constructor
 . rintro⟨j,hj,h1,h2⟩
   by_cases e:j=k
   . subst e;exact .inr ⟨h1.symm,h2⟩
   . exact .inl ⟨j,by omega,h1,h2⟩
 . rintro(⟨j,hj,h1,h2⟩ | ⟨h1,h2⟩)
   . exact⟨j,by omega,h1,h2⟩
   . exact⟨k,by omega,h1.symm,h2⟩
theorem Jt(ls:List Int)(x:List Bool):∀(k:Nat) (v:Int),(inG ls x k v).getD (.bool false)=.bool (inV ls x k v)
 | 0,v=>by simp[inG,inV]
 | k+1,v=>by
  rw[inV_succ,inG];unfold xq
  by_cases e:v=ls.getD k 0
  . rw[Lh e,Lk e,Nf,e];rfl
  . rw[Lf e,Jt ls x k v,Li e,NV,Bool.or_false]
def vg(n:Nat)(ls:List Int)(x:List Bool):List Bool:=(List.range n).map fun i=>inV ls x n (ls.getD i 0)
theorem ge(n:Nat)(ls:List Int)(x:List Bool):(vg n ls x).length=n:=by simp[vg]
theorem cloL_at{n:Nat}{ls:List Int}{x:List Bool}{i:Nat}(h:i<n):(vg n ls x)[i]'(by rw[ge];exact h)=inV ls x n (ls.getD i 0):=by simp[vg]
def wJ(y x:List Bool)(k:Nat):List Bool:=y.take k++x.drop k
theorem mixL_set{y x:List Bool}{n k:Nat}(hy:y.length=n)(hx:x.length=n)(hk:k<n):(wJ y x k).set k (y[k]'(by omega))=wJ y x (k+1):=by
 unfold wJ;rw[RW _ _ (by simp;omega),LA (by omega:k<x.length),show k-(y.take k).length=0 by simp;omega,Sk,Lu (by omega:k<y.length),Nd]
 rfl
theorem mixL_len{y x:List Bool}{n k:Nat}(hy:y.length=n)(hx:x.length=n)(hk:k<=n):(wJ y x k).length=n:=by unfold wJ;simp;omega
theorem mixL_all{y x:List Bool}{n:Nat}(hy:y.length=n)(hx:x.length=n):wJ y x n=y:=by unfold wJ;rw[Nw (by omega),List.drop_eq_nil_of_le (by omega),Nk]
section
variable {n:Nat} {cls:Nat->List Int} {ps:List Nat} {x:List Bool}
theorem clo_iff{i:Nat}(hi:i<n):(vg n (yE n (xO ps cls)) x).getD i false=true↔∃j,j<n/\Conn n (xO ps cls) j i/\x.getD j false=true:=by
 rw[zn (by rw[ge];exact hi),cloL_at hi];unfold inV;rw[Ng]
 have key:∀k,k<n->((yE n (xO ps cls)).getD k 0=(yE n (xO ps cls)).getD i 0↔Conn n (xO ps cls) k i):=fun k hk=>by
  rw[<-Xh (jR ps cls) hk hi,zW (by rw[qi];exact hk),zW (by rw[qi];exact hi)]
 exact⟨fun ⟨j,hj,h1,h2⟩=>⟨j,hj,(key j hj).1 h1,h2⟩,fun ⟨j,hj,h1,h2⟩=>⟨j,hj,(key j hj).2 h1,h2⟩⟩
theorem clo_adj{i j:Nat}(hi:i<n)(hj:j<n){p:Nat}(hp:p∈ps)(e:(cls p).getD j 0=(cls p).getD i 0)(h:(vg n (yE n (xO ps cls)) x).getD i false=true):(vg n (yE n (xO ps cls)) x).getD j false=true:=by
 obtain⟨m,hm,hc,hx⟩:=(clo_iff hi).1 h;exact(clo_iff hj).2 ⟨m,hm,hc.trans (.one hi hj ⟨p,hp,e.symm⟩),hx⟩
theorem clo_ev{i:Nat}(hi:i<n)(h:(vg n (yE n (xO ps cls)) x).getD i false=true):(evL n cls ps (vg n (yE n (xO ps cls)) x)).getD i false=true:=by
 rw[qM hi];exact fun p hp j hj e=>clo_adj hi hj hp e h
theorem clo_now:∀(m i:Nat),i<n->(vg n (yE n (xO ps cls)) x).getD i false=true->(zD n (evL n cls ps) (vg n (yE n (xO ps cls)) x) m).getD i false=true
 | 0,i,hi,_=>by simp[zD,List.getD_eq_getElem?_getD,hi]
 | m+1,i,hi,h=>by
  rw[zD,qM hi];intro p hp j hj e;have h2:=clo_adj hi hj hp e h;rw[yl hj,Lx];exact⟨h2,clo_now m j hj h2⟩
end
theorem int_ne{w:Ba}{g b o:Nat}{bs:List Bool}{v:Int}(h:BRow w g bs)(hb:w.cell? ⟨b,o,none⟩=some (.int .i64 v)):b≠g:=by
 rintro rfl
 by_cases ho:o<bs.length
 . rw[zh h o (xH bs o ho)] at hb;cases hb
 · have : w.cell? ⟨b, o, none⟩ = none := by
    unfold BRow at h;simp[World.cell?,h,xI];omega
   rw[this] at hb;cases hb
theorem Jn(p:Pb)(hl:vN p)(A:Bb)(kc:Nat)(SV:Bb)(ks:Nat)(c:Nat)(hc:c<256)(bs:List Bool)(AB:Bb)(kb:Nat)(w:Ba)(hT:RowTab w)(hA:CAt w w.heap.size A p.t.cases)(hS:SAt w w.heap.size SV p.a.sts)(hb0:BAt w w.heap.size AB bs) :
  Calls Tryz.prog 10 #[.agg (p.vs A kc SV ks),.int .u8 (c:Int),.slice AB bs.length kb] w (jq w):=by
 obtain⟨w1,hw1,d0,hs1,hB1⟩:=zm w (p.vs A kc SV ks) 29;have HTT:Hid (∀X,Below w1.heap.size w1 X->RowTab X):=fun X hX=>hT.keep (Lc hB1 hX) hT.1
 have HSC:=zH (qU p hl A kc SV ks bs AB kb w1 ((hA.keep hB1).more hB1.size) ((hS.keep hB1).more hB1.size) ((hb0.keep hB1).more hB1.size));have HRB:=zH (fun (h:qa p=true)=>qW hl h);have HBb:=zH hB1;unfold Pb.vs at hw1 d0 HSC ⊢;have HW1:=zH hw1;obtain⟨p0,p1,p2,p3,p4,p5,p6,_⟩:=Kf (d0);clear hw1 d0 hB1 hA hS hb0 hs1 hl hT;go_enter Tryz.func10,Tryz.ntmps10;go_wp2_with fail;rw[HW1.out];go_wp2_with fail;refine HSC.out.mono ?_;rintro e w2 ⟨hb2,hcase⟩;have B2:=zH (Lc HBb.out hb2);have G2:=zH hb2;have hs2:=hb2.size;clear hb2 HSC HW1 p0 p1 p2 p3 p4 p5 p6;rcases hcase with ⟨_,rfl⟩ | ⟨⟨hr,_⟩,A2,kc2,SV2,ks2,AV,kv,AX,kx,g,rfl,hg0,hrow,hsy⟩
 . clear HRB hc
   go_upto_region 2 with fail
   obtain⟨WF,hWF,dz,hsF,hBF⟩:=zm w2 #[.int .i64 0,.int .i64 0,.int .i64 0,.slice none 0 0,.int .i64 0,.slice none 0 0,.int .i64 0,.int .i64 0,.slice none 0 0,.slice none 0 0] 35;rw[hWF];clear hWF dz;go_wp2_with fail;refine(ye WF (HTT.out _ (Lc G2.out hBF))).mono ?_;rintro e v3 ⟨rfl,hb9⟩;have B3:=zH (B2.out.trans ((Lc hBF hb9).mono B2.out.size));clear hb9;go_wp2_with fail;go_ret;exact⟨rfl,B3.out⟩
 obtain⟨N,hok,_⟩:=HRB.out hr;obtain⟨T,hTT⟩:=Ki (zN p);rw[hTT] at hok hrow hsy ⊢;obtain⟨n,hn⟩:=Ki (ptn T);rw[hn] at hok hrow ⊢;have hxl:(vd bs n).length=n:=kX bs n;obtain⟨x,hx⟩:=Ki (vd bs n);rw[hx] at hxl hrow;have HXL:=zH hxl;have HOK:=zH hok;have hn1:=hok.n1;have hn3:=hok.n3;have hp7:=hok.p7;have hp1:=hok.p1;have hgl:g<w2.heap.size:=hrow.lt;clear HRB hr hTT hn hx hxl;have HTN:=zH hok.nn;unfold Sy.vs_;rw[HTN.out];go_upto_region 2 with fail
 obtain⟨WF,hWF,dz,hsF,hBF⟩:=zm w2 #[.int .i64 T.p.t.n,.int .i64 T.p.t.ins,.int .i64 T.p.t.outs,.slice A2 T.p.t.cases.length kc2,.int .i64 T.p.a.n,.slice SV2 T.p.a.sts.length ks2,.int .i64 T.p.k,.int .i64 (N:Int),.slice AV T.vs.length kv,.slice AX T.xs.length kx] 35;rw[hWF];have DZ:Hid (∀X,Below WF.heap.size WF X->X.heap[w2.heap.size]?=some (.cells #[.int .i64 T.p.t.n,.int .i64 T.p.t.ins,.int .i64 T.p.t.outs,.slice A2 T.p.t.cases.length kc2,.int .i64 T.p.a.n,.slice SV2 T.p.a.sts.length ks2,.int .i64 T.p.k,.int .i64 (N:Int),.slice AV T.vs.length kv,.slice AX T.xs.length kx] 35 (0,0))):=fun X hX=>La hX dz
 have HSY:Hid (∀X,Below WF.heap.size WF X->SyAt X X.heap.size A2 SV2 AV AX T):=fun X hX=>(hsy w2 G2.out (N4 hrow.lt) (fun _ _ _=>rfl)).up (Lc hBF hX)
 have HT:Hid (∀X,Below WF.heap.size WF X->RowTab X):=fun X hX=>HTT.out X (G2.out.trans ((Lc hBF hX).mono G2.out.size))
 have HBF:=zH hBF;have E0:Hid (Below WF.heap.size WF WF):=Lm _ _;have hrow:=Lb hBF hrow.lt hrow;have QX:Hid (BAt WF WF.heap.size (some ⟨g,0,none⟩) x):=BRow.at_ hrow (zj hrow);have hcw:IntKind.i64.wrap (c:Int)=(c:Int):=by rw[Ll];omega
 obtain⟨G,hG⟩:=Ki (c % 2^N);have hGN:G<2^N:=by rw[<-hG];exact P8 _ (Rh N)
 have hP:((2^N:Nat):Int)=(2:Int)^N:=by push_cast;rfl
 have ht:Int.tmod (c:Int) ((2:Int)^N)=(G:Int):=by rw[<-hP,<-hG];exact(P5 c (2^N)).symm
 have hP8:(1:Int)<=(2:Int)^N/\(2:Int)^N<=8:=by
  obtain rfl | rfl | rfl:N=1\/N=2\/N=3:=by omega
  all_goals decide
 have hG32:G<32:=by omega
 have h2w:IntKind.i64.wrap ((2:Int)^N)=(2:Int)^N:=by rw[Ll];omega
 have hn0:¬(2:Int)^N=0:=by omega
 have hN0:¬(N:Int)<0:=by omega
 have HGN:=zH hGN;have HG32:=zH hG32;clear hG hP hP8 hGN hG32;have HG0:=zH hg0;have HSY0:=zH hsy;have HTT0:=zH HTT.out;have GG2:=zH G2.out;have HROW:=zH hrow;have hg2:g<w2.heap.size:=hgl;clear hWF dz hBF hsy G2 HTT hok hrow hg0;have hmm:=@run_makeMap Tryz.prog;have HZ:Hid (∀W:Ba,(zeroValue 4).run Tryz.prog W=.ok (.bool false) W):=fun W=>by kernel_rfl
 have HMT:Hid (Tryz.prog.underlying 75=some (.map 3 4)):=Tryz.underlying75;obtain⟨z0,z1,z2,z3,z4,z5,z6,z7,z8,z9⟩:=zw (DZ.out _ E0.out);go_upto_region 5 with fail
 clear hc hcw ht h2w hn0 hN0 z0 z1 z2 z3 z4 z5 z6 z7 z8 z9;obtain⟨cls,hcl⟩:=Ki (zX T);have HCL:=zH hcl;clear hcl;have C:=reach_ok HOK.out A2 SV2 AV AX kc2 ks2 kv kx WF (HSY.out _ E0.out) G HGN.out;unfold Sy.vs_ RetOi at C;rw[HTN.out] at C;have C:=zH C;obtain⟨z0,z1,z2,z3,z4,z5,z6,z7,z8,z9⟩:=zw (DZ.out _ E0.out);go_wp2_with fail;refine C.out.mono ?_;rintro e w3 ⟨AL,cL,rfl,hr,hb⟩;rw[HCL.out] at hr;have E3:=zH (Lc E0.out hb);have QX:=zH ((QX.out.keep hb).more hb.size);have QL:=zH hr;clear hb hr C z0 z1 z2 z3 z4 z5 z6 z7 z8 z9;have HRW:Hid (BRow w3 g x):=La E3.out HROW.out;have HLL:Hid ((yE n (xO (zr G N) cls)).length=n):=qi ..;have hyl:(vg n (yE n (xO (zr G N) cls)) x).length=n:=ge ..;have hev:∀i,i<n->(vg n (yE n (xO (zr G N) cls)) x).getD i false=true->((evL n cls (zr G N)) (vg n (yE n (xO (zr G N) cls)) x)).getD i false=true:=fun i hi h=>clo_ev hi h
 have hno:∀M i,i<n->(vg n (yE n (xO (zr G N) cls)) x).getD i false=true->(zD n (evL n cls (zr G N)) (vg n (yE n (xO (zr G N) cls)) x) M).getD i false=true:=fun M i hi h=>clo_now M i hi h
 have hyt:∀i (h:i<n),(vg n (yE n (xO (zr G N) cls)) x)[i]'(by rw[ge];exact h)=inV (yE n (xO (zr G N) cls)) x n ((yE n (xO (zr G N) cls)).getD i 0):=fun i h=>cloL_at h
 obtain⟨y,hy⟩:=Ki ((vg n (yE n (xO (zr G N) cls)) x));simp only[hy] at hyl hev hno hyt;obtain⟨l,hl⟩:=Ki ((yE n (xO (zr G N) cls)));rw[hl] at QL HLL;simp only[hl] at hyt;have HYL:=zH hyl;have HEV:=zH hev;have HNO:=zH hno;have HYT:Hid (∀i (h:i<n),y[i]'(by rw[HYL.out];exact h)=inV l x n (l.getD i 0)):=hyt;clear hy hyl hev hno hl hyt;go_upto_region 9 with fail
 obtain⟨wM,h1⟩:=Ki (w3.alloc (.map #[] 0));have HM1:Hid (MapOf (Value.int .i64) wM w3.heap.size 0 (inG l x 0)):=by rw[<-h1];exact MapOf.made w3
 have z1:Below w3.heap.size w3 wM:=by rw[<-h1];exact yg _ _
 have hl1:w3.heap.size<wM.heap.size:=by rw[<-h1];simp
 rw[h1];have HB1:=zH z1;clear h1 z1 hmm;go_wp2_with fail
 go_loopw [56] (fun i wr=>∃k m:Nat,k<=n/\i=.int .i64 (k:Int)/\Hid (MapOf (Value.int .i64) wr w3.heap.size m (inG l x k))/\Hid (Below w3.heap.size wM wr)) (fun i _=>n-(intOf i).toNat)
 case atStart=>exact⟨0,0,by omega,rfl,HM1,Lm _ _⟩
 case round=>
  obtain⟨k,m,hk,rfl,hm,hbw⟩:=hrel;clear HM1;have hwk:IntKind.i64.wrap ((k:Int)+1)=((k+1:Nat):Int):=by rw[Ll];omega
  have HB2:Hid (Below w3.heap.size w3 wr):=HB1.out.trans hbw.out
  by_cases hlt:k<n
  . have hk1:(k:Int)<(n:Int):=by omega
    have hk0:(0:Int)<=(k:Int):=by omega
    obtain⟨b1,o1,rfl,hb1,z0⟩:=(QL.out.keep HB2.out).at_ k (by rw[HLL.out];exact hlt);obtain⟨b3,o3,e3,hb3,z1⟩:=(QX.out.keep HB2.out).at_ k (by rw[HXL.out];exact hlt)
    cases e3
    rw[LL] at z1;rw[<-zW (by rw[HLL.out];exact hlt) 0] at z0;rw[<-zn (by rw[HXL.out];exact hlt) false] at z1;obtain⟨lk,hlk⟩:=Ki (l.getD k 0);obtain⟨xk,hxk⟩:=Ki (x.getD k false);rw[hlk] at z0;rw[hxk] at z1;have hmd:MapOf (Value.int .i64) wr.drew _ m (inG l x k):=hm.out.same rfl;have hlo:=hmd.look yp HMT.out (HZ.out _) lk;rw[Jt] at hlo;obtain⟨bv,hbv⟩:=Ki (inV l x k lk);rw[hbv] at hlo;obtain⟨nv,hnv⟩:=Ki ((bv||xk));obtain⟨W5,hrun,hm5,hg5⟩:=hmd.put yp HMT.out lk (.bool nv);have HM5:Hid (MapOf (Value.int .i64) W5 w3.heap.size (m+1) (inG l x (k+1))):=by rw[Hid,inG,hlk,hxk,hbv,hnv];exact hm5
    have HB5:Hid (Below w3.heap.size wM W5):=hbw.out.drew.grown hg5 (by have:=hbw.out.drew.size;omega) (fun r e=>by cases e;omega);have y0:wr.drew.cell? ⟨b1,o1+k,none⟩=_:=z0;have y1:wr.cell? ⟨g,k,none⟩=_:=z1;clear hlk hxk hbv z0 z1 hm hmd hm5 hg5 hbw HB2
    cases bv
    all_goals
     cases xk
    all_goals
     cases nv
    all_goals first | exact absurd hnv (by decide) | skip
    all_goals
     go_wp2_with fail;refine zx [(0,true),(1,true),(2,true),(3,true),(4,true),(5,true),(6,true),(7,true),(8,true),(9,true),(10,true),(11,true),(12,true),(13,true),(14,false)] (fun X=>X=wr.drew) (by kernel_rfl) (by kernel_rfl) rfl ?_
     repeat
      apply zy rfl
      . rintro K' hK' X rfl
        go_simp;exact hK'
     refine xt rfl (by kernel_rfl) ?_;intro K' hK';go_simp;refine hK' (fun _=>True) _ _ trivial ?_;clear hK' K';refine zL ?_;clear y0 y1 hlo hrun;go_wp2_with fail
     go_roundw
     case rel=>exact⟨k+1,m+1,by omega,by go_num,HM5,HB5⟩
     case measure=>simp[intOf];omega
  . obtain rfl:n=k:=by omega
    have hk1:¬(n:Int)<(n:Int):=by omega
    obtain⟨wE,rfl⟩:∃x,x=wr:=⟨_,rfl⟩;have QLE:=zH (QL.out.keep HB2.out);have HXR:Hid (∃bs,BRow wE g bs):=⟨x,La HB2.out HRW.out⟩;have HRE:Hid (BRow wE g (wJ y x 0)):=by rw[show wJ y x 0=x by simp[wJ]];exact La HB2.out HRW.out
    have hgE:=HB2.out.size;have hgw:g<w3.heap.size:=zj HRW.out;have HEE:=zH (Lc E3.out HB2.out);have HME:=zH hm.out;have hmE:=zj HRE.out;clear hbw hm hwk QL QX HB1 HB2 HRW;go_wp2_with fail
    go_loopw [78] (fun i wr=>∃k:Nat,k<=n/\i=.int .i64 (k:Int)/\Hid (BRow wr g (wJ y x k))/\Hid (Wrote (fun z=>z=g) wE wr)) (fun i _=>n-(intOf i).toNat)
    case atStart=>exact⟨0,by omega,rfl,HRE,Wrote.refl _ _⟩
    case round=>
     obtain⟨k,hk,rfl,hbr,hbw⟩:=hrel;clear HRE;have hwk:IntKind.i64.wrap ((k:Int)+1)=((k+1:Nat):Int):=by rw[Ll];omega
     by_cases hlt:k<n
     . have hk2:(k:Int)<(n:Int):=by omega
       have hk0:(0:Int)<=(k:Int):=by omega
       obtain⟨b1,o1,rfl,hb1,z0⟩:=QLE.out.at_ k (by rw[HLL.out];exact hlt)
       have hne:b1≠g:=by
        have hr0:∃bs,BRow wE g bs:=HXR.out;obtain⟨bs0,hr0⟩:=hr0;exact int_ne hr0 z0
       have hcw:wr.cell? ⟨b1,o1+k,none⟩=wE.cell? ⟨b1,o1+k,none⟩:=LE (hbw.out.block b1 (by omega) hne);rw[<-hcw,<-zW (by rw[HLL.out];exact hlt) 0] at z0;obtain⟨lk,hlk⟩:=Ki (l.getD k 0);have hyk:=HYT.out k hlt;rw[hlk] at z0 hyk;have hm:=HME.out.same (hbw.out.block _ HME.out.lt (by show ¬_=g;omega));have hlo:=hm.look yp HMT.out (HZ.out wr) lk;rw[Jt,<-hyk] at hlo;obtain⟨yk,hyv⟩:=Ki (y[k]'(by rw[HYL.out];exact hlt));rw[hyv] at hlo;have hml:=mixL_len HYL.out HXL.out hk;have y0:=zh hbr.out k (xH (wJ y x k) k (by omega));have f0:=zi hbr.out k
       have HNEW:Hid (BRow (wr.setCell ⟨g,k,none⟩ (.bool yk)) g (wJ y x (k+1))):=by
        rw[<-mixL_set HYL.out HXL.out hlt,hyv];show _=_;rw[Ln wr _ k _ _ _ hbr.out,xT]
       have HBN:Hid (Wrote (fun z=>z=g) wE (wr.setCell ⟨g,k,none⟩ (.bool yk))):=hbw.out.trans (gz wr g k _) (fun _ _ h=>h);obtain⟨u,hu⟩:=Ki ((wJ y x k)[k]'(by omega));rw[hu] at y0;have hl3:=zj hbr.out;clear hlk hyk hyv hm hml hu hcw hbr hbw;go_wp2_with fail
       go_roundw
       case rel=>exact⟨k+1,by omega,by go_num,HNEW,HBN⟩
       case measure=>simp[intOf];omega
     . obtain rfl:n=k:=by omega
       have hk1:¬(n:Int)<(n:Int):=by omega
       obtain⟨WF2,rfl⟩:∃x,x=wr:=⟨_,rfl⟩;rw[mixL_all HYL.out HXL.out] at hbr;have HW:=zH hbw.out;have hsz2:=hbw.out.size;have hEW:=HEE.out.size;have hFW:=HBF.out.size;have HBO:Hid (∀k,k≠g->k<WF.heap.size->WF2.heap[k]?=WF.heap[k]?):=fun k h1 h2=>(HW.out.block k (by omega) h1).trans (HEE.out.block k h2)
       have HB1W:Hid (Below w1.heap.size w1 WF2):=GG2.out.trans ((HBF.out.mono GG2.out.size).trans ((HEE.out.mono (by have:=GG2.out.size;omega)).trans (HW.out.below (by have:=GG2.out.size;omega) (fun k hk=>by show ¬k=g;have:=HG0.out;omega))));have DZ2:Hid (∀X,Below WF2.heap.size WF2 X->X.heap[w2.heap.size]?=some (.cells #[.int .i64 T.p.t.n,.int .i64 T.p.t.ins,.int .i64 T.p.t.outs,.slice A2 T.p.t.cases.length kc2,.int .i64 T.p.a.n,.slice SV2 T.p.a.sts.length ks2,.int .i64 T.p.k,.int .i64 (N:Int),.slice AV T.vs.length kv,.slice AX T.xs.length kx] 35 (0,0))):=fun X hX=>Lb hX (by omega) ((HBO.out _ (by omega) (by omega)).trans (DZ.out _ E0.out))
       have HSY2:Hid (∀X,Below WF2.heap.size WF2 X->SyAt X X.heap.size A2 SV2 AV AX T):=fun X hX=>HSY0.out X (Lc HB1W.out hX) (by have:=hX.size;omega) (fun k h1 h2=>(hX.block k (by omega)).trans ((HBO.out k (by omega) (by omega)).trans (HBF.out.block k (by omega))))
       have HT2:Hid (∀X,Below WF2.heap.size WF2 X->RowTab X):=fun X hX=>HTT0.out X (Lc HB1W.out hX)
       have BW2:Hid (Below w.heap.size w WF2):=Lc HBb.out HB1W.out;have F0:Hid (Below WF2.heap.size WF2 WF2):=Lm _ _;have QY:Hid (BAt WF2 WF2.heap.size (some ⟨g,0,none⟩) y):=BRow.at_ hbr.out hbr.out.lt;clear hbr hbw HW HEE HBO HB1W DZ HSY HT HSY0 HTT0 HBF QLE HME hwk;have C:=jN HOK.out y HYL.out A2 SV2 AV AX (some ⟨g,0,none⟩) kc2 ks2 kv kx n WF2 (HSY2.out _ F0.out) QY.out G HGN.out;unfold Sy.vs_ kH at C;rw[HTN.out] at C;have C:=zH C;obtain⟨z0,z1,z2,z3,z4,z5,z6,z7,z8,z9⟩:=zw (DZ2.out _ F0.out);go_wp2_with fail;refine C.out.mono ?_;rintro e w4 ⟨AV2,cV,rfl,hr,hb⟩;rw[HCL.out] at hr;have E4:=zH (Lc F0.out hb);have QY:=zH ((QY.out.keep hb).more hb.size);have QV:=zH hr;clear hb hr C z0 z1 z2 z3 z4 z5 z6 z7 z8 z9;have C:=Yh HOK.out y HYL.out A2 SV2 AV AX (some ⟨g,0,none⟩) kc2 ks2 kv kx n w4 (HSY2.out _ E4.out) QY.out G HGN.out;unfold Sy.vs_ RetOc at C;rw[HTN.out] at C;have C:=zH C;obtain⟨z0,z1,z2,z3,z4,z5,z6,z7,z8,z9⟩:=zw (DZ2.out _ E4.out);go_wp2_with fail;refine C.out.mono ?_;rintro e w5 ⟨M,AC,cC,rfl,hM,hst,hr,hb⟩;rw[HCL.out] at hr;clear hst;have E5:=zH (Lc E4.out hb);have QY:=zH ((QY.out.keep hb).more hb.size);have QV:=zH ((QV.out.keep hb).more hb.size);have QC:=zH hr;clear hb hr C z0 z1 z2 z3 z4 z5 z6 z7 z8 z9;have C:=kO (some ⟨g,0,none⟩) AV2 n cV n hp7 y ((evL n cls (zr G N)) y) HYL.out (yH ..) HEV.out w5 QY.out QV.out;unfold jq at C;have C:=zH C;go_wp2_with fail;refine C.out.mono ?_;rintro e w6 ⟨rfl,hb⟩
       have E6:=zH (Lc E5.out hb);have QY:=zH ((QY.out.keep hb).more hb.size);have QV:=zH ((QV.out.keep hb).more hb.size);have QC:=zH ((QC.out.keep hb).more hb.size);clear hb C;have C:=kO (some ⟨g,0,none⟩) AC n cC n hp7 y (zD n (evL n cls (zr G N)) y M) HYL.out (yP M) (HNO.out M) w6 QY.out QC.out;unfold jq at C;have C:=zH C;go_wp2_with fail;refine C.out.mono ?_;rintro e w7 ⟨rfl,hb⟩;have E7:=zH (Lc E6.out hb);have QY:=zH ((QY.out.keep hb).more hb.size);have QV:=zH ((QV.out.keep hb).more hb.size);have QC:=zH ((QC.out.keep hb).more hb.size);clear hb C;have m0:(M:Int)>=0:=by omega
       have m1:(M:Int)<=(n:Int)+1:=by omega
       have hwn:IntKind.i64.wrap ((n:Int)+1)=(n:Int)+1:=by rw[Ll];omega
       go_wp2_with fail;refine(ye w7 (HT2.out _ E7.out)).mono ?_;rintro e v3 ⟨rfl,hb9⟩;have B3:=zH (BW2.out.trans ((Lc E7.out hb9).mono BW2.out.size));clear hb9;go_wp2_with fail;go_ret;exact⟨rfl,B3.out⟩
end Go.Proofs.YtjmckgoegfipeaaGreatDoor
