/- Merged. -/
import Derived.Test.YtjedjoeidcbffaaGreatDoorEh
open Go.Proofs.Tryz
open Go.Value renaming int->O,slice->I,bool->Aj,agg->Ak,pointer->Al
open Go.IntKind renaming i64->U
open Option renaming none->Z,some->J
open Go.Obj renaming cells->Ai
open Go.Ending renaming returned->Am
open Go.Proofs.Tryz renaming prog->Aq
open Go.RowKit renaming Below->Ar,intOf->Au,Hid->Aw
open Go renaming Calls->As,Value->Ax
open Bool renaming true->AA,false->AC
open List renaming getElem_range->Po
namespace Go.Proofs.YtjedjoeidcbffaaGreatDoor
abbrev RF:=@decide_eq_false_iff_not
set_option maxRecDepth 100000
set_option maxHeartbeats 4000000
section
open Go.RowKit Go.Shelf
def RetOq(s:Sy)(out:List Int)(AR A SV AV AX:Bb)(kc ks kv kx B bw mb mo b0 c1 c2 c3:Nat)(R:List Bool)(w:Ba)(e:Ending)(w':Ba):Prop:=
 ∃g',e=Am (I (J ⟨g',0,Z⟩) (ptn s) (ptn s))/\w.heap.size<=g'/\BRow w' g' R/\EvC s out AR A SV AV AX kc ks kv kx B bw mb mo b0 c1 c2 c3 w'/\Wrote (fun z=>z=mb) w w'
section
variable {s:Sy} (hs:LowS s) (hf:xz s.p) {K N:Nat} (hF:Fine s K N) (hv:yh s=0) (cU:1<=ptn s) (oC:ptn s<=700) {out:List Int} {AR A SV AV AX:Bb} {kc ks kv kx B bw mb mo b0 c1 c2 c3:Nat}
 (h:Fh) (AF:Bb) (lf cf g3 c:Nat) (a:List Bool) (ha:a.length=ptn s) (w:Ba) (E:EvC s out AR A SV AV AX kc ks kv kx B bw mb mo b0 c1 c2 c3 w) (hg:OwnB w g3 c a)
include hF cU oC ha E hg
theorem kop10(hp:0<=h.p/\h.p<=(N:Int)-1):As Aq 60 #[Ak #[O U h.op,O U h.p,O U h.o,O U h.v,O U h.g,I AF lf cf],I (J ⟨g3,0,Z⟩) (ptn s) c,Al (J ⟨b0,0,Z⟩)] w (RetOq s out AR A SV AV AX kc ks kv kx B bw mb mo b0 c1 c2 c3 (xQ (ptn s) (yB s h.p.toNat) a) w):=by
 refine(kone_any h AF lf cf (J ⟨g3,0,Z⟩) (ptn s) c bw b0 w (fun X e w'=>RetB (xQ (ptn s) (yB s h.p.toNat) a) X e w') E.at_.b0 (fun X e w' hq=>?_) (fun X hX=>?_)).mono ?_
 . obtain⟨g',rfl,_⟩:=hq;exact⟨_,_,_,rfl⟩
 . obtain⟨m,F,hK⟩:=(E.call hX).kw
   obtain⟨q,hq⟩:=Lp hp.1;have hn:=hF.n;rw[hq];exact uP bw (ptn s) s.n.toNat (yB s) (by omega) q (by omega) (J ⟨g3,0,Z⟩) c a ha X hK.kw (((hg.at_ hg.lt).keep hX).more hX.size)
 rintro e w' ⟨X,hX,hQ⟩;unfold RetB at hQ;rw[yO] at hQ;obtain⟨g',rfl,h1,h2,h3⟩:=hQ;have hb:=Lc hX h3;exact⟨g',rfl,Lz hX.size h1,h2,E.call hb,Wrote.of_below hb⟩
theorem kop11(hG:0<=h.g/\h.g<=(2:Int)^N-1):As Aq 59 #[Ak #[O U h.op,O U h.p,O U h.o,O U h.v,O U h.g,I AF lf cf],I (J ⟨g3,0,Z⟩) (ptn s) c,Al (J ⟨c1,0,Z⟩)] w (RetOq s out AR A SV AV AX kc ks kv kx B bw mb mo b0 c1 c2 c3 (evG s h.g a) w):=by
 obtain⟨G,mg⟩:=Lp hG.1;have hn:=hF.n;have fl:=hF.n5;have IY:s.n.toNat=N:=by omega
 have eZ:G<32:=by
  have h1:(2:Int)^N<=32:=by
   have:∀k,k<=5->(2:Int)^k<=32:=by decide
   exact this N fl
  omega
 have i9:psG s h.g=zS G s.n.toNat:=by rw[mg];rfl
 refine(XK h AF lf cf (J ⟨g3,0,Z⟩) (ptn s) c bw c1 w (fun X e w'=>RetB (evG s h.g a) X e w') E.at_.c1 (fun X e w' hq=>?_) (fun X hX=>?_)).mono ?_
 . obtain⟨g',rfl,_⟩:=hq;exact⟨_,_,_,rfl⟩
 . obtain⟨m,F,hK⟩:=(E.call hX).kw
   unfold evG;rw[i9,mg];exact ko bw (ptn s) s.n.toNat (yB s) cU (by omega) (by omega) G eZ (J ⟨g3,0,Z⟩) c a ha X hK.kw (((hg.at_ hg.lt).keep hX).more hX.size)
 rintro e w' ⟨X,hX,hQ⟩;have hl:(evG s h.g a).length=ptn s:=by unfold evG;exact xR ..
 unfold RetB at hQ;rw[hl] at hQ;obtain⟨g',rfl,h1,h2,h3⟩:=hQ;have hb:=Lc hX h3;exact⟨g',rfl,Lz hX.size h1,h2,E.call hb,Wrote.of_below hb⟩
theorem kop13(hG:0<=h.g/\h.g<=(2:Int)^N-1):As Aq 59 #[Ak #[O U h.op,O U h.p,O U h.o,O U h.v,O U h.g,I AF lf cf],I (J ⟨g3,0,Z⟩) (ptn s) c,Al (J ⟨c3,0,Z⟩)] w (RetOq s out AR A SV AV AX kc ks kv kx B bw mb mo b0 c1 c2 c3 (yg (ptn s) (evG s h.g) a (ptn s)) w):=by
 obtain⟨G,mg⟩:=Lp hG.1;have hn:=hF.n;have fl:=hF.n5;have IY:s.n.toNat=N:=by omega
 have eZ:G<32:=by
  have h1:(2:Int)^N<=32:=by
   have:∀k,k<=5->(2:Int)^k<=32:=by decide
   exact this N fl
  omega
 have i9:psG s h.g=zS G s.n.toNat:=by rw[mg];rfl
 refine(kgrp_shared h AF lf cf (J ⟨g3,0,Z⟩) (ptn s) c bw c3 w (fun X e w'=>RetB (yg (ptn s) (evG s h.g) a (ptn s)) X e w') E.at_.c3 (fun X e w' hq=>?_) (fun X hX=>?_)).mono ?_
 . obtain⟨g',rfl,_⟩:=hq;exact⟨_,_,_,rfl⟩
 . obtain⟨m,F,hK⟩:=(E.call hX).kw
   unfold evG;rw[i9,mg];obtain⟨M,m1,m2,m3⟩:=ZZ (F:=yg (ptn s) (evL (ptn s) (yB s) (zS G s.n.toNat)) a) qp jX;rw[now_up m2 m1];exact kshared_any bw (ptn s) s.n.toNat (yB s) cU (by omega) (by omega) G eZ (J ⟨g3,0,Z⟩) c a ha M m1 m2 m3 X hK.kw (((hg.at_ hg.lt).keep hX).more hX.size)
 rintro e w' ⟨X,hX,hQ⟩;have hl:(yg (ptn s) (evG s h.g) a (ptn s)).length=ptn s:=by unfold evG;exact qp ..
 unfold RetB at hQ;rw[hl] at hQ;obtain⟨g',rfl,h1,h2,h3⟩:=hQ;have hb:=Lc hX h3;exact⟨g',rfl,Lz hX.size h1,h2,E.call hb,Wrote.of_below hb⟩
include hs hf hv in
theorem kop12(hG:0<=h.g/\h.g<=(2:Int)^N-1):As Aq 59 #[Ak #[O U h.op,O U h.p,O U h.o,O U h.v,O U h.g,I AF lf cf],I (J ⟨g3,0,Z⟩) (ptn s) c,Al (J ⟨c2,0,Z⟩)] w (RetOq s out AR A SV AV AX kc ks kv kx B bw mb mo b0 c1 c2 c3 (xQ (ptn s) (kp s h.g) a) w):=by
 have hn:=hF.n;have IY:s.n.toNat=N:=by omega
 have hr:yn s h.g=0:=by
  unfold yn;rw[Lg (by simpa using hv),IY,Lg (by omega)]
 refine(gL h AF lf cf (J ⟨g3,0,Z⟩) (ptn s) c bw c2 w (fun X e w'=>(∃m F,KwD s A SV AV AX kc ks kv kx B X bw mb m F)/\∃g' m' F',e=Am (I (J ⟨g',0,Z⟩) (ptn s) (ptn s))/\X.heap.size<=g'/\BRow w' g' (xQ (ptn s) (kp s h.g) a)/\KwD s A SV AV AX kc ks kv kx B w' bw mb m' F'/\Wrote (fun z=>z=mb) X w') E.at_.c2 (fun X e w' hq=>?_) (fun X hX=>?_)).mono ?_
 . obtain⟨_,g',m',F',rfl,_⟩:=hq;exact⟨_,_,_,rfl⟩
 . obtain⟨m,F,hK⟩:=(E.call hX).kw
   exact(QB s hs hf A SV AV AX kc ks kv kx B h.g hr (by omega) (J ⟨g3,0,Z⟩) c a ha bw mb m F X hK (((hg.at_ hg.lt).keep hX).more hX.size)).mono fun e w' hq=>⟨⟨m,F,hK⟩,hq⟩
 rintro e w' ⟨X,hX,_,g',m',F',rfl,h1,h2,h3,h4⟩;have hw:Wrote (fun z=>z=mb) w w':=(Wrote.of_below hX).trans h4 (fun _ _ e=>e);exact⟨g',rfl,Lz hX.size h1,h2,E.wrote hw ⟨m',F',h3⟩,hw⟩
end
end
section
open Go.RowKit Go.Shelf
attribute [local go_sem] Oper.semAt_some
section
variable {s:Sy} {out:List Int} {AR A SV AV AX:Bb} {kc ks kv kx B bw mb mo b0 c1 c2 c3:Nat} {w w':Ba}
theorem vO{w:Ba}{g c b:Nat}{bs:List Bool}{cs:Array Ax}{t:TypeId}(ho:OwnB w g c bs)(h:w.heap[b]?=J (Ai cs t (0,0)))(ht:t≠4):b≠g:=by
 obtain⟨cur,h1,_⟩:=ho;intro e;subst e;rw[h1] at h;injection h with h
 injection h with _ h2 _
 exact ht h2.symm
theorem map_ne{w:Ba}{g c b m:Nat}{bs:List Bool}{F:Int->Option Ax}(ho:OwnB w g c bs)(h:MapOf (O U) w b m F):b≠g:=by
 obtain⟨cur,h1,_⟩:=ho;obtain⟨es,bG,h2,_⟩:=h;intro e;subst e;rw[h1] at h2
 cases h2
theorem EvC.bools(E:EvC s out AR A SV AV AX kc ks kv kx B bw mb mo b0 c1 c2 c3 w){g c:Nat}{bs:List Bool}(ho:OwnB w g c bs)(hb:BoolK g w w')(hg:B<=g):EvC s out AR A SV AV AX kc ks kv kx B bw mb mo b0 c1 c2 c3 w':=by
 obtain⟨m,F,hK⟩:=E.kw;obtain⟨m',hM⟩:=E.ops;obtain⟨AQ,cQ,bC⟩:=hK.blk;have h0:=E.at_
 exact⟨⟨m,F,hK.bools hb hg (vO ho bC (by decide)) (map_ne ho hK.map)⟩,⟨m',hM.same (hb.heap _ (map_ne ho hM))⟩,
  ⟨(hb.heap _ (vO ho h0.b0 (by decide))).trans h0.b0,(hb.heap _ (vO ho h0.c1 (by decide))).trans h0.c1,(hb.heap _ (vO ho h0.c2 (by decide))).trans h0.c2,(hb.heap _ (vO ho h0.c3 (by decide))).trans h0.c3⟩,E.ne,hb.iat E.out⟩
theorem BoolK.wrote{g:Nat}{R:Nat->Prop}{v:Ba}(h:Wrote R v w)(hb:BoolK g w w')(hg:v.heap.size<=g):Wrote R v w':=
 ⟨hb.os.trans h.os,hb.tape.trans h.tape,hb.output.trans h.output,by rw[hb.size];exact h.size,fun k hk hr=>(hb.heap k (by omega)).trans (h.block k hk hr)⟩
end
theorem Y0(s:Sy)(hs:LowS s)(hf:xz s.p)(hv:yh s=0)(K N:Nat)(hF:Fine s K N)(cU:1<=ptn s)(oC:ptn s<=700)(out:List Int)(iQ:¬(0<out.length/\out.length≠s.vs.length))(cr:Nat)(AR A SV AV AX:Bb)(kc ks kv kx B bw mb mo b0 c1 c2 c3:Nat)(f:Fm)(AF:Bb)(cf:Nat)(dr:xV N f.h f.args.length=0)(cG:f.h.op<=13)(RA:Fm->List Bool)(IV:∀x,(RA x).length=ptn s)(w:Ba)(hE:EvC s out AR A SV AV AX kc ks kv kx B bw mb mo b0 c1 c2 c3 w)
  (bU:∀i (hi:i<f.args.length),∃b o A' c',AF=J ⟨b,o,Z⟩/\(∀X,Ar B w X->∀j v,(f.args[i].vs A' c')[j]?=J v->X.cell? ⟨b,o+i*6+j,Z⟩=J v) /\
   ∀X,Ar B w X->EvC s out AR A SV AV AX kc ks kv kx B bw mb mo b0 c1 c2 c3 X->As Aq 28 #[Al (J ⟨bw,0,Z⟩),Ak #[I AR out.length cr],.agg (f.args[i].vs A' c'),.map (J mo)] X (RetEv s out AR A SV AV AX kc ks kv kx B bw mb mo b0 c1 c2 c3 (RA f.args[i]) X)) :
  As Aq 28 #[Al (J ⟨bw,0,Z⟩),Ak #[I AR out.length cr],.agg (f.vs AF cf),.map (J mo)] w (RetEv s out AR A SV AV AX kc ks kv kx B bw mb mo b0 c1 c2 c3 (if f.args.length=0 then qP s out f.h else uT s f.h (RA (f.args.getD 0 default)) (RA (f.args.getD 1 default))) w):=by
 unfold Fm.vs at bU ⊢;obtain⟨wa,dU,da,fG,ik⟩:=zk w #[I AR out.length cr] 38;obtain⟨w1,ab,db,fi,fb⟩:=zk wa #[O U f.h.op,O U f.h.p,O U f.h.o,O U f.h.v,O U f.h.g,I AF f.args.length cf] 41;have hB:Ar w.heap.size w w1:=ik.trans (fb.mono (by omega));have WI:=(fb.block w.heap.size (by omega)).trans da;rw[fG] at db;have E1:=hE.call hB;have az:=zH E1;obtain⟨m0,F0,I7⟩:=hE.kw;have hlmb:=I7.map.lt;have hBmb:=I7.low;have hBlo:=I7.lowB;have tA:Aw (∀X,Wrote (fun z=>z=mb) w1 X->X.heap[w.heap.size]?=J (Ai #[I AR out.length cr] 38 (0,0))/\X.heap[w.heap.size+1]?=J (Ai #[O U f.h.op,O U f.h.p,O U f.h.o,O U f.h.v,O U f.h.g,I AF f.args.length cf] 41 (0,0))):=fun X hX=>⟨(hX.block _ (by omega) (by show ¬_=mb;omega)).trans WI,(hX.block _ (by omega) (by show ¬_=mb;omega)).trans db⟩
 have aV:Aw (∀X,Wrote (fun z=>z=mb) w1 X->Ar B w X):=fun X hX=>(hB.mono hBlo).trans (hX.below (by have:=hB.size;omega) (fun k hk e=>by have:k=mb:=e;omega))
 have hd:Ar w1.heap.size w1 w1.drew:=(Ll _ w1).drew;have Eg:Aw (Wrote (fun z=>z=mb) w1 w1.drew):=Wrote.of_below hd;have HED:=zH (E1.call hd);have DO:=ub dr;have aB:=zH bU;have HRA:=zH IV;have Nx:=zH dU;have pH:=zH ab;have HB:=zH hB;have HF:=zH hF;obtain⟨v0,v1,v2,v3,v4,v5,_⟩:=Kg (db)
 by_cases hk:f.args.length=0
 case pos=>
  obtain⟨m1,F1,Tt⟩:=E1.kw;obtain⟨AQ,cQ,bC⟩:=Tt.blk;have bL:=atm_fine hF hv iQ dr hk;have sK:(qP s out f.h).length=ptn s:=vQ s out f.h;have fg:=zH (atomN_any s hs hf out 0 f (by unfold yd;rw[PT.1 hk];decide) A SV AV AX AF AR kc ks kv kx cf cr w1.drew ((Tt.sys.more Tt.lowB).up hd) (((E1.out.more Tt.lowB).keep hd).more hd.size) (show f.args=[] from PT.1 hk));unfold RetBN at fg;unfold Fm.vs at fg;rw[bL] at fg;simp only[sK] at fg;unfold Sy.vs_ at fg;have eG:=zH (And.intro bC (And.intro WI db));have sj:=zH sK;have HK:=zH hk;have e0:((f.args.length:Int)==0)=AA:=by rw[hk];rfl
  rw[Li hk];clear dU da fG ik ab db fi fb hB WI E1 hE I7 bU IV DO dr cG hs hf hF hv iQ Tt bC bL sK aB HRA HED hd hk;go_enter func28,ntmps28;go_upto_region 1 with fail
  rw[Nx.out,pH.out];go_upto_region 2 with fail
  refine zw [(0,AA),(1,AA),(2,AA),(3,AA),(4,AA),(5,AA),(6,AC),(7,AA),(8,AA),(9,AA),(10,AA)] (fun X=>X.heap[bw]?=J (Ai #[O U s.p.t.n,O U s.p.t.ins,O U s.p.t.outs,I A s.p.t.cases.length kc,O U s.p.a.n,I SV s.p.a.sts.length ks,O U s.p.k,O U s.n,I AV s.vs.length kv,I AX s.xs.length kx,O U (ptn s:Int),I AQ s.n.toNat cQ,.map (J mb)] 100 (0,0))/\X.heap[w.heap.size]?=J (Ai #[I AR out.length cr] 38 (0,0))/\X.heap[w.heap.size+1]?=J (Ai #[O U f.h.op,O U f.h.p,O U f.h.o,O U f.h.v,O U f.h.g,I AF f.args.length cf] 41 (0,0))) (by kernel_rfl) (by kernel_rfl) eG.out ?_
  repeat
   apply zA rfl
   . rintro K' ac X ⟨u1,u2,u3⟩
     obtain⟨x0,x1,x2,x3,x4,x5,x6,x7,x8,x9⟩:=zN (u1);have y0:=zh (u2) 0 rfl;obtain⟨z0,z1,z2,z3,z4,z5,_⟩:=Kg (u3);clear u1 u2 u3;go_simp;exact ac
  refine zx rfl ?_;intro K' ac;go_simp;refine fg.out.mono ?_;rintro e w4 ⟨A4,c4,rfl,sw,aG⟩;have lg:=zH sw;have dT:=zH aG;obtain⟨k1,k2,k3⟩:=eG.out;refine ac _ _ ⟨Lb aG (zj (w:=w1) k1) k1,Lb aG (zj (w:=w1) k2) k2,Lb aG (zj (w:=w1) k3) k3⟩ ?_;clear ac K' k1 k2 k3 sw aG fg
  repeat
   apply zA rfl
   . rintro K' ac X u
     clear u;go_simp;exact ac
  refine zO ?_;go_wp2_with fail;obtain⟨g4,rfl,tm,an⟩:=OwnB.of sj.out cU lg.out;have iF:=zH an;clear an lg
  go_ret2
  have aQ:Ar w1.heap.size w1 w4:=((Ll _ w1).drew).trans dT.out;have hww:Ar w.heap.size w w4:=Lc HB.out aQ;exact⟨g4,c4,rfl,Lz HB.out.size tm,iF.out,az.out.call aQ,Wrote.of_below hww⟩
 have Is:0<f.args.length:=by omega
 obtain⟨bf,of,A',c',rfl,ex,ak⟩:=bU 0 Is;have OP:w.heap.size+1<w1.heap.size:=by omega
 have O2:7<=f.h.op:=by
  obtain⟨h1,h2,_⟩:=DO;unfold arN at h2
  by_cases e:f.h.op<=6
  . rw[Lg (by omega),Li e] at h2;omega
  omega
 have Wc:(0:Int)<(f.args.length:Int):=by omega
 have e0:((f.args.length:Int)==0)=AC:=by rw[R5];omega
 rw[Lg hk];have s':=zH ex;have mM:=zH (ak w1.drew (aV.out _ Eg.out) HED.out);have mg:f.args.getD 0 default=f.args[0]:=zt Is _;rw[mg];obtain⟨a,AK⟩:=Ki (RA f.args[0]);have sA:a.length=ptn s:=by rw[<-AK];exact IV _
 rw[AK] at mM ⊢;obtain⟨b,rP⟩:=Ki (RA (f.args.getD 1 default));have oE:b.length=ptn s:=by rw[<-rP];exact IV _
 rw[rP];obtain⟨RR,fE⟩:=Ki (uT s f.h a b);rw[fE];have rY:=zH fE;have nG:=zH sA;have nF:=zH oE;have HBD:=zH rP;have Cy:=zH DO;have UF:=zH (And.intro O2 cG);have ip:=zH (And.intro hs (And.intro hf hv));have eG:Aw ((fun X=>Ar B w X/\X.heap[w.heap.size]?=J (Ai #[I AR out.length cr] 38 (0,0))/\X.heap[w.heap.size+1]?=J (Ai #[O U f.h.op,O U f.h.p,O U f.h.o,O U f.h.v,O U f.h.g,I (J ⟨bf,of,Z⟩) f.args.length cf] 41 (0,0))) w1.drew):=⟨aV.out _ Eg.out,tA.out _ Eg.out⟩;have HK:=zH hk;have ht:Aq.underlying 76=J (.map 3 121):=underlying76;have hz:∀W:Ba,(zeroValue 121).run Aq W=.ok .nilFunc W:=fun W=>by kernel_rfl
 have HT:=zH ht;have HZ:=zH hz;clear dU da fG ik ab db fi fb hB WI E1 hE I7 bU HRA IV DO dr cG hs hf hF hv iQ HED hd ex ak mg AK rP fE sA oE O2 hk ht hz az;go_enter func28,ntmps28;go_upto_region 1 with fail
 rw[Nx.out,pH.out];go_upto_region 3 with fail
 refine zw [(0,AA),(1,AA),(2,AA),(3,AA),(4,AA),(5,AA),(6,AA),(7,AC),(8,AA),(9,AA),(10,AA),(11,AA),(12,AA)] (fun X=>Ar B w X/\X.heap[w.heap.size]?=J (Ai #[I AR out.length cr] 38 (0,0))/\X.heap[w.heap.size+1]?=J (Ai #[O U f.h.op,O U f.h.p,O U f.h.o,O U f.h.v,O U f.h.g,I (J ⟨bf,of,Z⟩) f.args.length cf] 41 (0,0))) (by kernel_rfl) (by kernel_rfl) eG.out ?_
 repeat
  apply zA rfl
  . rintro K' ac X ⟨u1,u2,u3⟩
    have y0:=zh (u2) 0 rfl;obtain⟨z0,z1,z2,z3,z4,z5,_⟩:=Kg (u3);have q0:=s'.out X u1 0 _ rfl;have q1:=s'.out X u1 1 _ rfl;have q2:=s'.out X u1 2 _ rfl;have q3:=s'.out X u1 3 _ rfl;have q4:=s'.out X u1 4 _ rfl;have q5:=s'.out X u1 5 _ rfl;simp only[Nat.zero_mul,Nat.add_zero] at q0 q1 q2 q3 q4 q5;clear u1 u2 u3;go_simp;exact ac
 refine zx rfl ?_;intro K' ac;go_simp;refine mM.out.mono ?_;rintro e w3 ⟨g3,cc,rfl,u',mc,Ty,fU⟩;have Nu:Aw (Wrote (fun z=>z=mb) w1 w3):=Eg.out.trans fU (fun _ _ e=>e);refine ac _ _ ⟨aV.out _ Nu.out,tA.out _ Nu.out⟩ ?_;have fw:=zH mc;have aN:=zH Ty;have OO:=Nu.out.size;have hg31:w1.heap.size<=g3:=u';have hsB:=HB.out.size;have EM:=(tA.out _ Nu.out).2;obtain⟨v0,v1,v2,v3,v4,v5,_⟩:=Kg (EM);obtain⟨m3,Wy⟩:=Ty.ops;have dl:=Wy.look2 yL HT.out (HZ.out w3) f.h.op;have Nv:Aw (Wrote (fun z=>z=mb) w w3):=(Wrote.of_below HB.out).trans Nu.out (fun _ _ e=>e);clear ac K' fU mc Ty mM EM Wy eG
 repeat
  apply zA rfl
  . rintro K' ac X u
    clear u;go_simp;exact ac
 refine zO ?_
 by_cases oG:f.h.op=10
 case pos=>
  have cW:RR=xQ (ptn s) (yB s f.h.p.toNat) a:=by rw[<-rY.out];unfold uT;rw[Li oG]
  have nR:opG b0 c1 c2 c3 f.h.op=J (knF b0):=by rw[oG];rfl
  rw[nR] at dl;simp only[Option.getD_some,Option.isSome_some] at dl;unfold knF at dl;have cI:=zH (kop10 HF.out cU oC f.h (J ⟨bf,of,Z⟩) f.args.length cf g3 cc a nG.out w3 aN.out fw.out (Cy.out.2.2.1 oG));rw[<-cW] at cI;have Lt:Aw (RR.length=ptn s):=by rw[<-rY.out];exact vI ..
  clear cW nR oG  aB;go_wp2_with fail;refine cI.out.mono ?_;rintro e w5 ⟨g5,rfl,dv,fO,rR,dM⟩;have iM:=zH fO;have fM:=zH rR;have nh:Aw (Wrote (fun z=>z=mb) w w5):=Nv.out.trans dM (fun _ _ e=>e);have ie:w.heap.size<=g5:=by omega
  clear fO rR dM cI;go_wp2_with fail
  go_ret2
  exact⟨g5,ptn s,rfl,ie,iM.out.ownB Lt.out (by omega),fM.out,nh.out⟩
 by_cases rW:f.h.op=11
 case pos=>
  have cW:RR=evG s f.h.g a:=by rw[<-rY.out];unfold uT;rw[Lg (by omega)];rw[Li rW]
  have nR:opG b0 c1 c2 c3 f.h.op=J (grF c1):=by rw[rW];rfl
  rw[nR] at dl;simp only[Option.getD_some,Option.isSome_some] at dl;unfold grF at dl;have cI:=zH (kop11 HF.out cU oC f.h (J ⟨bf,of,Z⟩) f.args.length cf g3 cc a nG.out w3 aN.out fw.out (Cy.out.2.2.2 (.inl rW)));rw[<-cW] at cI;have Lt:Aw (RR.length=ptn s):=by rw[<-rY.out];exact vI ..
  clear cW nR rW oG aB;go_wp2_with fail;refine cI.out.mono ?_;rintro e w5 ⟨g5,rfl,dv,fO,rR,dM⟩;have iM:=zH fO;have fM:=zH rR;have nh:Aw (Wrote (fun z=>z=mb) w w5):=Nv.out.trans dM (fun _ _ e=>e);have ie:w.heap.size<=g5:=by omega
  clear fO rR dM cI;go_wp2_with fail
  go_ret2
  exact⟨g5,ptn s,rfl,ie,iM.out.ownB Lt.out (by omega),fM.out,nh.out⟩
 by_cases CZ:f.h.op=12
 case pos=>
  have cW:RR=xQ (ptn s) (kp s f.h.g) a:=by rw[<-rY.out];unfold uT;rw[Lg (by omega)];rw[Lg (by omega)];rw[Li CZ]
  have nR:opG b0 c1 c2 c3 f.h.op=J (grF c2):=by rw[CZ];rfl
  rw[nR] at dl;simp only[Option.getD_some,Option.isSome_some] at dl;unfold grF at dl;have cI:=zH (kop12 ip.out.1 ip.out.2.1 HF.out ip.out.2.2 cU oC f.h (J ⟨bf,of,Z⟩) f.args.length cf g3 cc a nG.out w3 aN.out fw.out (Cy.out.2.2.2 (.inr (.inl CZ))));rw[<-cW] at cI;have Lt:Aw (RR.length=ptn s):=by rw[<-rY.out];exact vI ..
  clear cW nR CZ oG rW aB;go_wp2_with fail;refine cI.out.mono ?_;rintro e w5 ⟨g5,rfl,dv,fO,rR,dM⟩;have iM:=zH fO;have fM:=zH rR;have nh:Aw (Wrote (fun z=>z=mb) w w5):=Nv.out.trans dM (fun _ _ e=>e);have ie:w.heap.size<=g5:=by omega
  clear fO rR dM cI;go_wp2_with fail
  go_ret2
  exact⟨g5,ptn s,rfl,ie,iM.out.ownB Lt.out (by omega),fM.out,nh.out⟩
 by_cases rV:f.h.op=13
 case pos=>
  have cW:RR=yg (ptn s) (evG s f.h.g) a (ptn s):=by rw[<-rY.out];unfold uT;rw[Lg (by omega)];rw[Lg (by omega)];rw[Lg (by omega)];rw[Li rV]
  have nR:opG b0 c1 c2 c3 f.h.op=J (grF c3):=by rw[rV];rfl
  rw[nR] at dl;simp only[Option.getD_some,Option.isSome_some] at dl;unfold grF at dl;have cI:=zH (kop13 HF.out cU oC f.h (J ⟨bf,of,Z⟩) f.args.length cf g3 cc a nG.out w3 aN.out fw.out (Cy.out.2.2.2 (.inr (.inr rV))));rw[<-cW] at cI;have Lt:Aw (RR.length=ptn s):=by rw[<-rY.out];exact vI ..
  clear cW nR rV oG rW CZ aB;go_wp2_with fail;refine cI.out.mono ?_;rintro e w5 ⟨g5,rfl,dv,fO,rR,dM⟩;have iM:=zH fO;have fM:=zH rR;have nh:Aw (Wrote (fun z=>z=mb) w w5):=Nv.out.trans dM (fun _ _ e=>e);have ie:w.heap.size<=g5:=by omega
  clear fO rR dM cI;go_wp2_with fail
  go_ret2
  exact⟨g5,ptn s,rfl,ie,iM.out.ownB Lt.out (by omega),fM.out,nh.out⟩
 have nR:opG b0 c1 c2 c3 f.h.op=Z:=by unfold opG opQ;rw[Lg oG,Lg rW,Lg CZ,Lg rV]
 rw[nR] at dl;simp only[Option.getD_none,Option.isSome_none] at dl
 by_cases h7:f.h.op=7
 case pos=>
  have cW:RR=ja (ptn s) a:=by rw[<-rY.out];unfold uT;rw[Lg oG,Lg rW,Lg CZ,Lg rV,Li h7]
  have dH:=zH cW;have e7:(f.h.op==7)=AA:=by rw[h7];rfl
  clear nR h7 oG rW CZ rV aB cW;go_wp2_with fail
  go_loopw [61] (fun i wr=>∃j:Nat,j<=ptn s/\i=O U (j:Int)/\Aw (OwnB wr g3 cc (wI (ja (ptn s) a) a j))/\Aw (BoolK g3 w3 wr)) (fun i _=>ptn s-(Au i).toNat)
  case atStart=>exact⟨0,by omega,rfl,by rw[Qt];exact fw,BoolK.refl _ _⟩
  obtain⟨j,hj,rfl,an,bC⟩:=hrel;have hwj:IntKind.i64.wrap ((j:Int)+1)=((j+1:Nat):Int):=by rw[Ls];omega
  by_cases aa:j<ptn s
  . have cP:j<a.length:=by rw[nG.out];exact aa
    have eN:(ja (ptn s) a).length=ptn s:=qa ..;have iA:(ja (ptn s) a).length=a.length:=by rw[eN,nG.out]
    have fa:=wH iA j;have y0:=an.out.cell j (by rw[fa];exact cP);have f0:=an.out.froz j;have hlw:=an.out.lt;rw[midB_at iA cP] at y0;obtain⟨x,hx⟩:=Ki (a[j]'cP);rw[hx] at y0;have oQ:(ja (ptn s) a)[j]'(by rw[eN];exact aa)=!x:=by rw[<-zt (by rw[eN];exact aa) AC,ua aa,zt cP,hx]
    have ck:=an.out.set j (!x);have tk:=midB_set iA cP;rw[oQ] at tk;rw[tk] at ck;have iF:=zH ck;have si:=zH (bC.out.set y0 (!x));have CP:(0:Int)<=(j:Int):=by omega
    have rN:(j:Int)<(ptn s:Int):=by omega
    clear ck tk oQ hx fa iA eN an bC cP
    cases x with
    | false=>
     go_wp2_with fail
     go_roundw
     case rel=>exact⟨j+1,by omega,by go_num,iF,si⟩
     case measure=>simp[Au];omega
    | true=>
     go_wp2_with fail
     go_roundw
     case rel=>exact⟨j+1,by omega,by go_num,iF,si⟩
     case measure=>simp[Au];omega
  obtain rfl:ptn s=j:=by omega
  have rN:¬(ptn s:Int)<(ptn s:Int):=by omega
  have eN:(ja (ptn s) a).length=ptn s:=qa ..;have iF:Aw (OwnB wr g3 cc RR):=by have h:=an.out;rw[midB_all (by rw[eN,nG.out]) (by rw[nG.out])] at h;rw[dH.out];exact h
  have Og:=zH (aN.out.bools fw.out bC.out (by omega));have nf:=zH (BoolK.wrote Nv.out bC.out (by omega));have ie:w.heap.size<=g3:=by omega
  clear an bC eN;go_wp2_with fail
  go_ret2
  exact⟨g3,cc,rfl,ie,iF.out,Og.out,nf.out⟩
 have PR:1<f.args.length:=by
  have h1:=Cy.out.2.1;have h3:=UF.out;unfold arN at h1;rw[Li (by omega)] at h1;omega
 have hkj1:(1:Int)<(f.args.length:Int):=by omega
 obtain⟨bf2,of2,A2,cA2,eA,rO,rg⟩:=aB.out 1 PR
 cases eA
 have fD:f.args.getD 1 default=f.args[1]:=zt PR _;have aY:RA f.args[1]=b:=by rw[<-fD];exact HBD.out
 rw[aY] at rg;have hd3:Ar w3.heap.size w3 w3.drew:=(Ll _ w3).drew;have WM:Aw (Wrote (fun z=>z=mb) w1 w3.drew):=Nu.out.trans (Wrote.of_below hd3) (fun _ _ e=>e);have cI:=zH (rg w3.drew (aV.out _ WM.out) (aN.out.call hd3));have sZ:=zH rO;have e7:(f.h.op==7)=AC:=by rw[R5];exact h7
 have h89:f.h.op=8\/f.h.op=9:=by have h3:=UF.out;omega
 have dH:Aw (RR=if f.h.op=8 then kj (ptn s) a b else orL (ptn s) a b):=by
  show RR=_;rw[<-rY.out];unfold uT;rw[Lg oG,Lg rW,Lg CZ,Lg rV,Lg h7]
 have H89:=zH h89;have hmb3:mb≠g3:=by obtain⟨m,F,hK⟩:=aN.out.kw;exact map_ne fw.out hK.map
 have eG:Aw ((fun X=>Ar B w X/\X.heap[w.heap.size]?=J (Ai #[I AR out.length cr] 38 (0,0))/\X.heap[w.heap.size+1]?=J (Ai #[O U f.h.op,O U f.h.p,O U f.h.o,O U f.h.v,O U f.h.g,I (J ⟨bf,of,Z⟩) f.args.length cf] 41 (0,0))) w3.drew):=⟨aV.out _ WM.out,tA.out _ WM.out⟩;clear nR h7 oG rW CZ rV h89 aB rO rg fD aY hd3;go_upto_region 16 with fail
 refine zw [(0,AA),(1,AA),(2,AA),(3,AA),(4,AA),(5,AA),(6,AA),(7,AC),(8,AA),(9,AA),(10,AA),(11,AA),(12,AA)] (fun X=>Ar B w X/\X.heap[w.heap.size]?=J (Ai #[I AR out.length cr] 38 (0,0))/\X.heap[w.heap.size+1]?=J (Ai #[O U f.h.op,O U f.h.p,O U f.h.o,O U f.h.v,O U f.h.g,I (J ⟨bf,of,Z⟩) f.args.length cf] 41 (0,0))) (by kernel_rfl) (by kernel_rfl) eG.out ?_
 repeat
  apply zA rfl
  . rintro K' ac X ⟨u1,u2,u3⟩
    have y0:=zh (u2) 0 rfl;obtain⟨z0,z1,z2,z3,z4,z5,_⟩:=Kg (u3);have q0:=sZ.out X u1 0 _ rfl;have q1:=sZ.out X u1 1 _ rfl;have q2:=sZ.out X u1 2 _ rfl;have q3:=sZ.out X u1 3 _ rfl;have q4:=sZ.out X u1 4 _ rfl;have q5:=sZ.out X u1 5 _ rfl;simp only[Nat.one_mul,Nat.add_zero] at q0 q1 q2 q3 q4 q5;clear u1 u2 u3;go_simp;exact ac
 refine zx rfl ?_;intro K' ac;go_simp;refine cI.out.mono ?_;rintro e w5 ⟨g5,cd,rfl,dv,lN,rR,dM⟩;have WN:Aw (Wrote (fun z=>z=mb) w1 w5):=WM.out.trans dM (fun _ _ e=>e);refine ac _ _ ⟨aV.out _ WN.out,tA.out _ WN.out⟩ ?_;have lE:=zH lN;have fM:=zH rR;have hs35:w3.heap.size<=w5.heap.size:=dM.size;have hg53:w3.heap.size<=g5:=dv;have ML:=fw.out.lt;have HA5:Aw (OwnB w5 g3 cc a):=fw.out.same (dM.block g3 ML (fun e=>hmb3 (by have:g3=mb:=e;omega)));have HWW5:Aw (Wrote (fun z=>z=mb) w w5):=(Wrote.of_below HB.out).trans WN.out (fun _ _ e=>e);have Md:=zH (tA.out _ WN.out).2;clear ac K' dM lN rR cI eG v0 v1 v2 v3 v4 v5 dl
 repeat
  apply zA rfl
  . rintro K' ac X u
    clear u;go_simp;exact ac
 refine zO ?_;go_wp2_with fail
 go_loopw [90] (fun i wr=>∃j:Nat,j<=ptn s/\i=O U (j:Int)/\Aw (OwnB wr g3 cc (wI RR a j))/\Aw (BoolK g3 w5 wr)) (fun i _=>ptn s-(Au i).toNat)
 case atStart=>exact⟨0,by omega,rfl,by rw[Qt];exact HA5,BoolK.refl _ _⟩
 obtain⟨j,hj,rfl,an,bC⟩:=hrel;have hwj:IntKind.i64.wrap ((j:Int)+1)=((j+1:Nat):Int):=by rw[Ls];omega
 have sM:RR.length=ptn s:=by
  rw[dH.out];split
  . exact yP ..
  exact vZ ..
 have iA:RR.length=a.length:=by rw[sM,nG.out]
 by_cases aa:j<ptn s
 . have cP:j<a.length:=by rw[nG.out];exact aa
   have sB:j<b.length:=by rw[nF.out];exact aa
   have fa:=wH iA j;have y0:=an.out.cell j (by rw[fa];exact cP);have f0:=an.out.froz j;have hlw:=an.out.lt;rw[midB_at iA cP] at y0;have z0:=(LH (a:=⟨g5,j,Z⟩) (bC.out.heap g5 (by omega))).trans (lE.out.cell j sB);have fr:=(bC.out.heap (w.heap.size+1) (by omega)).trans Md.out;have v0:=zh fr 0 rfl;obtain⟨x,hx⟩:=Ki (a[j]'cP);obtain⟨y,hy⟩:=Ki (b[j]'sB);rw[hx] at y0;rw[hy] at z0;have CP:(0:Int)<=(j:Int):=by omega
   have rN:(j:Int)<(ptn s:Int):=by omega
   have tk:=midB_set iA cP;rcases H89.out with h8 | h9
   . have e8:(f.h.op==8)=AA:=by rw[h8];rfl
     have oQ:RR[j]'(by rw[sM];exact aa)=(x&&y):=by
      rw[<-zt (by rw[sM];exact aa) AC,dH.out,Li h8,zt (by rw[yP];exact aa),wX aa,zt cP,zt sB,hx,hy]
     rw[oQ] at tk;have ck:=an.out.set j (x&&y);rw[tk] at ck;have iF:=zH ck;have si:=zH (bC.out.set y0 (x&&y));clear ck tk oQ hx hy fa iA sM an bC cP sB h8 fr
     cases x with
     | false=>
      cases y with
      | false=>
       go_wp2_with fail
       go_roundw
       case rel=>exact⟨j+1,by omega,by go_num,iF,si⟩
       case measure=>simp[Au];omega
      | true=>
       go_wp2_with fail
       go_roundw
       case rel=>exact⟨j+1,by omega,by go_num,iF,si⟩
       case measure=>simp[Au];omega
     | true=>
      cases y with
      | false=>
       go_wp2_with fail
       go_roundw
       case rel=>exact⟨j+1,by omega,by go_num,iF,si⟩
       case measure=>simp[Au];omega
      | true=>
       go_wp2_with fail
       go_roundw
       case rel=>exact⟨j+1,by omega,by go_num,iF,si⟩
       case measure=>simp[Au];omega
   have e8:(f.h.op==8)=AC:=by rw[h9];rfl
   have oQ:RR[j]'(by rw[sM];exact aa)=(x||y):=by
    rw[<-zt (by rw[sM];exact aa) AC,dH.out,Lg (by omega),zt (by rw[vZ];exact aa),orL_at aa,zt cP,zt sB,hx,hy]
   rw[oQ] at tk;have ck:=an.out.set j (x||y);rw[tk] at ck;have iF:=zH ck;have si:=zH (bC.out.set y0 (x||y));clear ck tk oQ hx hy fa iA sM an bC cP sB h9 fr
   cases x with
   | false=>
    cases y with
    | false=>
     go_wp2_with fail
     go_roundw
     case rel=>exact⟨j+1,by omega,by go_num,iF,si⟩
     case measure=>simp[Au];omega
    | true=>
     go_wp2_with fail
     go_roundw
     case rel=>exact⟨j+1,by omega,by go_num,iF,si⟩
     case measure=>simp[Au];omega
   | true=>
    cases y with
    | false=>
     go_wp2_with fail
     go_roundw
     case rel=>exact⟨j+1,by omega,by go_num,iF,si⟩
     case measure=>simp[Au];omega
    | true=>
     go_wp2_with fail
     go_roundw
     case rel=>exact⟨j+1,by omega,by go_num,iF,si⟩
     case measure=>simp[Au];omega
 obtain rfl:ptn s=j:=by omega
 have rN:¬(ptn s:Int)<(ptn s:Int):=by omega
 have iF:Aw (OwnB wr g3 cc RR):=by have h:=an.out;rw[midB_all (by rw[sM,nG.out]) (by rw[nG.out])] at h;exact h
 have Og:=zH (fM.out.bools HA5.out bC.out (by omega));have nf:=zH (BoolK.wrote HWW5.out bC.out (by omega));have ie:w.heap.size<=g3:=by omega
 clear an bC sM iA;go_wp2_with fail
 go_ret2
 exact⟨g3,cc,rfl,ie,iF.out,Og.out,nf.out⟩
end
section
open Go.RowKit Go.Shelf
theorem JH{N:Nat}{w:Ba}{B:Nat}:∀ {d:Nat} {f:Fm} {A:Bb},FsAt w B d A f.args->kK N d f=0->uE d f=AC->evOk N d f
 | 0,f,A,hA,h,ht=>⟨(Qm h).1,hA⟩
 | d+1,f,A,hA,h,ht=>by
  obtain⟨h1,h2⟩:=Qm (R:=kK N d) h;have ht2:(jS f.h.op||f.args.any (uE d))=AC:=ht;rw[Bool.or_eq_false_iff] at ht2
  have Na:f.h.op<=17:=by
   unfold xV at h1
   by_cases e:f.h.op<0\/17<f.h.op
   . rw[Li e] at h1;cases h1
   . omega
  refine⟨h1,?_,fun x hx=>?_⟩
  . have:=ht2.1
    unfold jS at this;rw[RF] at this;omega
  . obtain⟨i,hi,rfl⟩:=LI hx
    obtain⟨b,o,e,aa,hr⟩:=hA (by omega);obtain⟨A',c',_,hB⟩:=hr i hi;refine JH hB (h2 _ hx) ?_;have:=List.any_eq_false.1 ht2.2 _ hx;simpa using this
theorem QA(s:Sy)(hs:LowS s)(hf:xz s.p)(hv:yh s=0)(K N:Nat)(hF:Fine s K N)(cU:1<=ptn s)(oC:ptn s<=700)(out:List Int)(iQ:¬(0<out.length/\out.length≠s.vs.length))(cr:Nat)(AR A SV AV AX:Bb)(kc ks kv kx B bw mb mo b0 c1 c2 c3:Nat):∀(d:Nat) (f:Fm) (AF:Bb) (cf:Nat) (w:Ba),evOk N d f->FsAt w B d AF f.args->EvC s out AR A SV AV AX kc ks kv kx B bw mb mo b0 c1 c2 c3 w ->
  As Aq 28 #[Al (J ⟨bw,0,Z⟩),Ak #[I AR out.length cr],.agg (f.vs AF cf),.map (J mo)] w (RetEv s out AR A SV AV AX kc ks kv kx B bw mb mo b0 c1 c2 c3 (vK s out d f) w)
 | 0,f,AF,cf,w,fB,hA,hE=>by
  have h0:f.args.length=0:=by rw[fB.2];rfl
  have h1:f.h.op<=13:=nod_leaf (by rw[<-h0];exact fB.1);have:=Y0 s hs hf hv K N hF cU oC out iQ cr AR A SV AV AX kc ks kv kx B bw mb mo b0 c1 c2 c3 f AF cf fB.1 h1 (fun _=>List.replicate (ptn s) AC) (fun _=>LQ) w hE (fun i hi=>by omega);rw[Li h0] at this;exact this
 | d+1,f,AF,cf,w,fB,hA,hE=>
  Y0 s hs hf hv K N hF cU oC out iQ cr AR A SV AV AX kc ks kv kx B bw mb mo b0 c1 c2 c3 f AF cf fB.1 fB.2.1 (vK s out d) (vJ s out d) w hE (fun i hi=>by
   obtain⟨b,o,e,aa,hr⟩:=hA (by omega);obtain⟨A',c',h1,h2⟩:=hr i hi
   exact⟨b,o,A',c',e,fun X hX j v hv=>(hX.cell aa).trans (h1 j v hv),fun X hX hEX=>QA s hs hf hv K N hF cU oC out iQ cr AR A SV AV AX kc ks kv kx B bw mb mo b0 c1 c2 c3 d _ A' c' X (fB.2.2 _ (Ld hi)) (h2.keep hX) hEX⟩)
end
section
open Go.RowKit Go.Shelf
attribute [local go_sem] Oper.semAt_some
theorem XM(s:Sy)(hs:LowS s)(hf:xz s.p)(g:Int)(set:List Bool)(A SV AV AX AB:Bb)(kc ks kv kx kb:Nat)(f':set.length<=1000000)(w:Ba)(hS:SyAt w w.heap.size A SV AV AX s)(ce:BAt w w.heap.size AB set) :
  As Aq 19 #[.agg (s.vs_ A kc SV ks AV kv AX kx),O U g,I AB set.length kb] w (vR (evyE s g set) w):=by
 obtain⟨w1,ab,d0,aK,hB⟩:=zk w (s.vs_ A kc SV ks AV kv AX kx) 35;have HO:=zH (uN s hs hf g set A SV AV AX AB kc ks kv kx kb f' w1 (hS.up hB));have mt:Aw (∀X,Ar w1.heap.size w1 X->BAt X X.heap.size AB set):=fun X hX=>(((ce.keep hB).more hB.size).keep hX).more hX.size
 have HC:Aw (yi s g set=0->∃G:Nat,g=(G:Int)/\set.length=ptn s/\evyE s g set=(evG s g set,0)/\∀(bw:Nat) (X:Ba),Ar w1.heap.size w1 X->KwAt X X.heap.size bw (ptn s) s.n.toNat (yB s)->As Aq 42 #[Al (J ⟨bw,0,Z⟩),O U (G:Int),I AB (ptn s) kb] X (RetB (evG s g set) X)):=fun h=>by
  obtain⟨G,hg,hG,hN,cU,oC,hl,i9⟩:=jm hf h;refine⟨G,hg,hl,Lg (by simpa using h),fun bw X hX hK=>?_⟩;unfold evG;rw[i9];exact ko bw (ptn s) s.n.toNat (yB s) cU (by omega) hN G hG AB kb set hl X hK (mt.out X hX)
 unfold RetB at HC;obtain⟨E,hE⟩:=Ki (yi s g set);obtain⟨R,hR⟩:=Ki (evyE s g set);have Ek:Aw (E≠0->R=([],E)):=fun h=>by rw[<-hR,<-hE] at *;exact Li h
 unfold RetOp at HO;unfold vR;rw[hE] at HO HC;rw[hR] at HC ⊢;obtain⟨n,hn⟩:=Ki (ptn s);rw[hn] at HO HC;unfold Sy.vs_ at ab d0 HO ⊢;have ai:=zH ab;have HB:=zH hB;clear ab d0 hB ce hE hR hS hs hf mt hn;go_enter func19,ntmps19;go_wp2_with fail;rw[ai.out];go_wp2_with fail;refine HO.out.mono ?_;rintro e w2 ⟨ag,dX⟩;have aw:=zH ag;rcases dX with ⟨h0,rfl⟩ | ⟨rfl,bw,rfl,hK⟩
 . have e0:(E != 0)=AA:=by simpa using h0
   have fE:Aw (R=([],E)):=Ek.out h0;go_wp2_with fail
   go_ret2
   rw[fE.out];exact⟨Z,0,rfl,fun h=>absurd h (by simp),Lc HB.out aw.out⟩
 obtain⟨G,rfl,hl,fE,hc⟩:=HC.out rfl;have sg:=zH (hc bw w2 aw.out hK);have rY:=zH fE;rw[hl];go_wp2_with fail;refine sg.out.mono ?_;rintro e w3 ⟨g3,rfl,u',mA,aj⟩;have ir:=zH mA;have aJ:=zH (HB.out.trans ((Lc aw.out aj).mono HB.out.size));go_wp2_with fail
 go_ret2
 rw[rY.out];exact⟨J ⟨g3,0,Z⟩,_,rfl,ir.out.at_ ir.out.lt,aJ.out⟩
theorem gO(s:Sy)(hs:LowS s)(hf:xz s.p)(g:Int)(set:List Bool)(A SV AV AX AB:Bb)(kc ks kv kx kb:Nat)(f':set.length<=1000000)(w:Ba)(hS:SyAt w w.heap.size A SV AV AX s)(ce:BAt w w.heap.size AB set) :
  As Aq 20 #[.agg (s.vs_ A kc SV ks AV kv AX kx),O U g,I AB set.length kb] w (vR (dstE s g set) w):=by
 obtain⟨w1,ab,d0,aK,hB⟩:=zk w (s.vs_ A kc SV ks AV kv AX kx) 35;have HO:=zH (Zv s hs hf g set A SV AV AX AB kc ks kv kx kb f' w1 (hS.up hB));have mt:Aw (∀X,Ar w1.heap.size w1 X->BAt X X.heap.size AB set):=fun X hX=>(((ce.keep hB).more hB.size).keep hX).more hX.size
 have HC:Aw (yi s g set=0->set.length=ptn s/\dstE s g set=(xQ (ptn s) (kp s g) set,0)/\∀(bw mb:Nat) (X:Ba),Ar w1.heap.size w1 X->KwD s A SV AV AX kc ks kv kx w1.heap.size X bw mb 0 (fun _=>Z)->As Aq 43 #[Al (J ⟨bw,0,Z⟩),O U g,I AB (ptn s) kb] X fun e w'=>∃g' m' F',e=Am (I (J ⟨g',0,Z⟩) (ptn s) (ptn s))/\X.heap.size<=g'/\BRow w' g' (xQ (ptn s) (kp s g) set)/\KwD s A SV AV AX kc ks kv kx w1.heap.size w' bw mb m' F'/\Wrote (fun z=>z=mb) X w'):=fun h=>by
  obtain⟨G,hg,hG,hN,cU,oC,hl,i9⟩:=jm hf h;exact⟨hl,Lg (by simpa using h),fun bw mb X hX hK=>QB s hs hf A SV AV AX kc ks kv kx w1.heap.size g (Xb h).1 (by omega) AB kb set hl bw mb 0 _ X hK (mt.out X hX)⟩
 have ip:Aw (∀X,Ar w1.heap.size w1 X->SyAt X w1.heap.size A SV AV AX s):=fun X hX=>(hS.up hB).keep hX
 obtain⟨E,hE⟩:=Ki (yi s g set);obtain⟨R,hR⟩:=Ki (dstE s g set);have Ek:Aw (E≠0->R=([],E)):=fun h=>by rw[<-hR,<-hE] at *;exact Li h
 unfold RetOpG at HO;unfold vR;rw[hE] at HO HC;rw[hR] at HC ⊢;obtain⟨n,hn⟩:=Ki (ptn s);have ff:=zH hn;rw[hn] at HO HC;unfold Sy.vs_ at ab d0 HO ⊢;have ai:=zH ab;have HB:=zH hB;clear ab d0 hB ce hE hR hS hs hf mt hn;go_enter func20,ntmps20;go_wp2_with fail;rw[ai.out];go_wp2_with fail;refine HO.out.mono ?_;rintro e w2 ⟨ag,dX⟩;have aw:=zH ag;rcases dX with ⟨h0,rfl⟩ | ⟨rfl,bw,rfl,hK,mb,oS,lm,AQ,cQ,bk⟩
 . have e0:(E != 0)=AA:=by simpa using h0
   have fE:Aw (R=([],E)):=Ek.out h0;go_wp2_with fail
   go_ret2
   rw[fE.out];exact⟨Z,0,rfl,fun h=>absurd h (by simp),Lc HB.out aw.out⟩
 obtain⟨hl,fE,hc⟩:=HC.out rfl;have HKD:Aw (KwD s A SV AV AX kc ks kv kx w1.heap.size w2 bw mb 0 (fun _=>Z)):=⟨by rw[ff.out];exact hK,⟨AQ,cQ,by rw[ff.out];exact bk⟩,lm,fun g v h=>(by cases h),ip.out w2 aw.out,aw.out.size,oS⟩;have sg:=zH (hc bw mb w2 aw.out HKD.out);have rY:=zH fE;rw[hl];go_wp2_with fail;refine sg.out.mono ?_;rintro e w3 ⟨g3,m3,F3,rfl,u',mA,rM,dV⟩;have ir:=zH mA
 have aJ:Aw (Ar w.heap.size w w3):=by
  have h2:=aw.out.size;have h3:=dV.size;exact HB.out.trans ⟨dV.os.trans aw.out.os,dV.tape.trans aw.out.tape,dV.output.trans aw.out.output,by omega,fun k hk=>(dV.block k (by omega) (by show ¬k=mb;omega)).trans (aw.out.block k (by omega))⟩
 go_wp2_with fail
 go_ret2
 rw[rY.out];refine⟨J ⟨g3,0,Z⟩,n,?_,ir.out.at_ ir.out.lt,aJ.out⟩;dsimp only;rw[yO]
 rfl
theorem Y1(s:Sy)(hs:LowS s)(hf:xz s.p)(q:Int)(set:List Bool)(A SV AV AX AB:Bb)(kc ks kv kx kb:Nat)(_Kq:set.length<=1000000)(w:Ba)(hS:SyAt w w.heap.size A SV AV AX s)(ce:BAt w w.heap.size AB set) :
  As Aq 18 #[.agg (s.vs_ A kc SV ks AV kv AX kx),O U q,I AB set.length kb] w (vR (knwE s q set) w):=by
 obtain⟨w1,ab,d0,aK,hB⟩:=zk w (s.vs_ A kc SV ks AV kv AX kx) 35;have HO:=zH (Jr s hs hf A SV AV AX kc ks kv kx w1 (hS.up hB));have mt:Aw (∀X,Ar w1.heap.size w1 X->BAt X X.heap.size AB set):=fun X hX=>(((ce.keep hB).more hB.size).keep hX).more hX.size
 have nD:Aw (yh s=0->∃N:Nat,s.n=(N:Int)/\N<=5/\ptn s<=700):=fun h=>by
  obtain⟨_,K,N,hF⟩:=yJ hf h;have hk:=hF.k;have oF:=hF.k6;have:=LU hF.lx (show s.p.k.toNat+1<=7 by omega);exact⟨N,hF.n,hF.n5,by unfold ptn;omega⟩
 have HE:Aw (knwE s q set=if yh s≠0 then ([],yh s) else if q<0\/s.n<=q then ([],2) else if set.length≠ptn s then ([],15) else (xQ (ptn s) (yB s q.toNat) set,0)):=rfl;obtain⟨R,hR⟩:=Ki (knwE s q set);rw[hR] at HE ⊢;obtain⟨r,hr⟩:=Ki (yh s);unfold RetKw at HO;unfold vR;rw[hr] at HO nD HE;obtain⟨n,hn⟩:=Ki (ptn s);rw[hn] at HO nD HE;unfold Sy.vs_ at ab d0 HO ⊢;have ai:=zH ab;have HB:=zH hB;have HD:=zH d0;clear ab d0 hB ce hR hr hS hs hf hn;go_enter func18,ntmps18;go_wp2_with fail;rw[ai.out];go_wp2_with fail;refine HO.out.mono ?_;rintro e w2 ⟨ag,dX⟩;have aw:=zH ag;have bQ:=zH (Lc HB.out ag);have nk:=zH (La ag HD.out);rcases dX with ⟨h0,rfl⟩ | ⟨rfl,bw,rfl,hK⟩
 . have e0:(r != 0)=AA:=by simpa using h0
   have fE:Aw (R=([],r)):=HE.out.trans (Li h0);go_wp2_with fail
   go_ret2
   rw[fE.out];exact⟨Z,0,rfl,fun h=>absurd h (by simp),bQ.out⟩
 obtain⟨N,hN,Tn,oC⟩:=nD.out rfl;have HE:Aw (R=_):=HE.out.trans (Lg (by simp));rw[hN] at HE;have q7:w2.cell? ⟨w.heap.size,7,Z⟩=J (O U (N:Int)):=by rw[<-hN];exact zh nk.out 7 rfl
 have HK:=zH hK;have z10:=hK.size;have ff:=zH hN
 by_cases pX:q<0
 . have e0:decide (q<0)=AA:=Lm pX
   have fE:Aw (R=([],2)):=HE.out.trans (Li (.inl pX));go_wp2_with fail
   go_ret2
   rw[fE.out];exact⟨Z,0,rfl,fun h=>absurd h (by simp),bQ.out⟩
 by_cases pW:(N:Int)<=q
 . have e1:decide (q>=(N:Int))=AA:=Lm pW
   have fE:Aw (R=([],2)):=HE.out.trans (Li (.inr pW));go_wp2_with fail
   go_ret2
   rw[fE.out];exact⟨Z,0,rfl,fun h=>absurd h (by simp),bQ.out⟩
 have HE:Aw (R=_):=HE.out.trans (Lg (by omega))
 by_cases hl:set.length=n
 case neg=>
  have e2:((set.length:Int) != (n:Int))=AA:=by simpa using(by omega:¬(set.length:Int)=(n:Int))
  have fE:Aw (R=([],15)):=HE.out.trans (Li hl);go_wp2_with fail
  go_ret2
  rw[fE.out];exact⟨Z,0,rfl,fun h=>absurd h (by simp),bQ.out⟩
 have fE:Aw (R=(xQ n (yB s q.toNat) set,0)):=HE.out.trans (Lg (by simpa using hl));obtain⟨k,rfl⟩:=Lp (show 0<=q by omega);rw[Lo] at fE;have sg:=zH (uP bw n s.n.toNat (yB s) (by omega) k (by rw[ff.out,Lo];omega) AB kb set hl w2 HK.out (mt.out w2 aw.out));rw[hl];unfold RetB at sg;go_wp2_with fail;refine sg.out.mono ?_;rintro e w3 ⟨g3,rfl,u',mA,aj⟩;have ir:=zH mA;have aJ:=zH (Lc bQ.out aj);go_wp2_with fail
 go_ret2
 rw[fE.out];exact⟨J ⟨g3,0,Z⟩,_,rfl,ir.out.at_ ir.out.lt,aJ.out⟩
def ZX(s:Sy)(out:List Int)(d:Nat)(f:Fm):List Bool×Int:=
 if yh s≠0 then ([],yh s) else if 0<out.length/\out.length≠s.vs.length then ([],15) else if qH s.n d f≠0 then ([],qH s.n d f) else if uE d f=AA then ([],11) else (vK s out d f,0)
theorem fml_nods{n:Int}{d:Nat}{f:Fm}(h:qH n d f=0):kK n.toNat d f=0:=by
 unfold qH at h
 split at h
 . cases h
 split at h
 . rename_i h2;exact absurd h h2
 exact h
theorem QC(s:Sy)(hs:LowS s)(hf:xz s.p)(out:List Int)(d:Nat)(f:Fm)(aX:(yd d f).1<=1000000)(A SV AV AX AF AR:Bb)(kc ks kv kx cf cr:Nat)(w:Ba)(hT:RowTab w)(hS:SyAt w w.heap.size A SV AV AX s)(hO:IAt w w.heap.size AR out)(hA:FsAt w w.heap.size d AF f.args) :
  As Aq 9 #[.agg (s.vs_ A kc SV ks AV kv AX kx),Ak #[I AR out.length cr],.agg (f.vs AF cf)] w (vR (ZX s out d f) w):=by
 obtain⟨wa,dU,da,fG,ik⟩:=zk w (s.vs_ A kc SV ks AV kv AX kx) 35;obtain⟨wb,en,db,fi,fb⟩:=zk wa #[I AR out.length cr] 38;obtain⟨w1,ab,dc,ns,eF⟩:=zk wb (f.vs AF cf) 41;have hB:Ar w.heap.size w w1:=(ik.trans (fb.mono (by omega))).trans (eF.mono (by omega));have da:w1.heap[w.heap.size]?=J (Ai (s.vs_ A kc SV ks AV kv AX kx) 35 (0,0)):=Lb eF (by omega) (Lb fb (by omega) da);have db:w1.heap[w.heap.size+1]?=J (Ai #[I AR out.length cr] 38 (0,0)):=by rw[<-fG];exact Lb eF (by omega) db
 have dc:w1.heap[w.heap.size+1+1]?=J (Ai (f.vs AF cf) 41 (0,0)):=by rw[<-fG,<-fi];exact dc
 have cO:w1.heap.size=w.heap.size+3:=by omega
 have MX:=hT.1;have HV:=zH (wh s hs hf A SV AV AX kc ks kv kx w1 (hS.up hB));have HE:Aw (ZX s out d f=if yh s≠0 then ([],yh s) else if 0<out.length/\out.length≠s.vs.length then ([],15) else if qH s.n d f≠0 then ([],qH s.n d f) else if uE d f=AA then ([],11) else (vK s out d f,0)):=rfl;have nD:=zH (fun h=>yJ hf h);have Oi:Aw (∀X,Ar w1.heap.size w1 X->FsAt X w1.heap.size d AF f.args):=fun X hX=>((hA.keep hB).more hB.size).keep hX
 have nH:=zH (fun (X:Ba) (hX:Ar w1.heap.size w1 X)=>Xj s.n d f AF cf X ((Oi.out X hX).more hX.size) aX);have HTF:=zH (fun (X:Ba) (hX:Ar w1.heap.size w1 X)=>X7 d f AF cf X (hT.keep (Lc hB hX) MX) ((Oi.out X hX).more hX.size) aX);have o8:=zH (fun (X:Ba) (hX:Ar w1.heap.size w1 X)=>jp s hs hf A SV AV AX kc ks kv kx X ((hS.up hB).up hX));have ip:Aw (∀X,Ar w1.heap.size w1 X->SyAt X w1.heap.size A SV AV AX s):=fun X hX=>(hS.up hB).keep hX
 have Cj:Aw (∀X,Ar w1.heap.size w1 X->IAt X w1.heap.size AR out):=fun X hX=>((hO.keep hB).more hB.size).keep hX
 have dH:=zH (fun (h:yh s=0) (iQ:¬(0<out.length/\out.length≠s.vs.length)) (hE:qH s.n d f=0) (ht:uE d f=AC)=>(by
  obtain⟨_,K,N,hF⟩:=yJ hf h;have hp:=hF.n1;have hn:=hF.n
  obtain⟨f1,f2,_⟩:=Qh (s:=s) (g:=0) hf (by
   unfold yn;rw[Lg (by rw[h];simp),Lg];have:(0:Int)<2^s.n.toNat:=Int.pow_pos (by decide)
   omega)
  have hN:s.n.toNat=N:=by omega
  have fB:evOk N d f:=JH (Oi.out w1 (Ll _ _)) (by rw[<-hN];exact fml_nods hE) ht
  exact⟨f1,f2,fun B bw mb mo b0 c1 c2 c3 X hX hE=>QA s hs hf h K N hF f1 f2 out iQ cr AR A SV AV AX kc ks kv kx B bw mb mo b0 c1 c2 c3 d f AF cf X fB hX hE⟩:1<=ptn s/\ptn s<=700/\∀(B bw mb mo b0 c1 c2 c3:Nat) (X:Ba),FsAt X B d AF f.args->EvC s out AR A SV AV AX kc ks kv kx B bw mb mo b0 c1 c2 c3 X ->
   As Aq 28 #[Al (J ⟨bw,0,Z⟩),Ak #[I AR out.length cr],.agg (f.vs AF cf),.map (J mo)] X (RetEv s out AR A SV AV AX kc ks kv kx B bw mb mo b0 c1 c2 c3 (vK s out d f) X)))
 have HNS:Aw ((vK s out d f).length=ptn s):=vJ s out d f;obtain⟨E,hE⟩:=Ki (ZX s out d f);unfold vR;rw[hE] at HE ⊢;obtain⟨r,hr⟩:=Ki (yh s);unfold JP at o8;rw[hr] at HV HE nD o8 dH;unfold Sy.vs_ at dU da HV o8 ⊢;unfold Fm.vs at ab dc nH HTF dH ⊢;have Nx:=zH dU;have pH:=zH en;have KQ:=zH ab;have HB:=zH hB
 have aV:Aw (∀X,Ar w1.heap.size w1 X->X.heap[w.heap.size]?=J (Ai #[O U s.p.t.n,O U s.p.t.ins,O U s.p.t.outs,I A s.p.t.cases.length kc,O U s.p.a.n,I SV s.p.a.sts.length ks,O U s.p.k,O U s.n,I AV s.vs.length kv,I AX s.xs.length kx] 35 (0,0))/\X.heap[w.heap.size+1]?=J (Ai #[I AR out.length cr] 38 (0,0))/\X.heap[w.heap.size+1+1]?=J (Ai #[O U f.h.op,O U f.h.p,O U f.h.o,O U f.h.v,O U f.h.g,I AF f.args.length cf] 41 (0,0))):=
  fun X hX=>⟨Lb hX (by omega) da,Lb hX (by omega) db,Lb hX (by omega) dc⟩
 obtain⟨p0,p1,p2,p3,p4,p5,p6,p7,p8,p9⟩:=zN (da);clear dU en ab da db dc fG fi ns ik fb eF hB hT MX hS hO hA aX hE hr hs hf;go_enter func9,ntmps9;go_upto_region 1 with fail
 rw[Nx.out,pH.out,KQ.out];go_wp2_with fail;refine HV.out.mono ?_;rintro e w2 ⟨rfl,ag⟩;have G2:=zH ag
 by_cases h0:r=0
 case neg=>
  have e0:(r != 0)=AA:=by simpa using h0
  have hR:Aw (E=([],r)):=HE.out.trans (Li h0);have bQ:=zH (Lc HB.out G2.out);go_wp2_with fail
  go_ret2
  rw[hR.out];exact⟨Z,0,rfl,fun h=>absurd h (by simp),bQ.out⟩
 subst h0;have au:=zH (HE.out.trans (Lg (by simp)));have HEV2:=zH (dH.out rfl);obtain⟨D0,D1,D2⟩:=aV.out _ G2.out;have p8:=zh D0 8 rfl;have r0:=zh D1 0 rfl;go_upto_region 5 with fail
 by_cases dG:0<out.length/\out.length≠s.vs.length
 case pos=>
  have e0:(0:Int)<(out.length:Int):=by omega
  have e1:((out.length:Int) != (s.vs.length:Int))=AA:=by simp;omega
  have hR:Aw (E=([],15)):=au.out.trans (Li dG);have bQ:=zH (Lc HB.out G2.out);go_wp2_with fail
  go_ret2
  rw[hR.out];exact⟨Z,0,rfl,fun h=>absurd h (by simp),bQ.out⟩
 have aN:=zH (au.out.trans (Lg dG));have Me:=zH (HEV2.out dG)
 go_cut [30] from 21 (fun s30 wx=>s30=Aj AC/\wx=w2)
 case first=>
  have ag:out.length=0\/out.length=s.vs.length:=by omega
  by_cases h1:out.length=0
  . have e0:¬(0:Int)<(out.length:Int):=by omega
    clear dG ag h1 nH HTF o8 ip Cj Oi HNS aV aN Me;go_wp2_with fail
    go_meet
    exact⟨rfl,rfl⟩
  have e0:(0:Int)<(out.length:Int):=by omega
  have e1:((out.length:Int) != (s.vs.length:Int))=AC:=by simp;omega
  go_wp2_with fail
  go_meet
  exact⟨rfl,rfl⟩
 case rest=>
 obtain⟨rfl,rfl⟩:=hcut;have HC:=zH (nH.out _ G2.out);obtain⟨q,hq⟩:=Ki (qH s.n d f);rw[hq] at HC aN Me;obtain⟨D0,D1,D2⟩:=aV.out _ G2.out;have p7:=zh D0 7 rfl;obtain⟨q0,q1,q2,q3,q4,q5,_⟩:=Kg (D2);go_wp2_with fail;refine HC.out.mono ?_;rintro e w3 ⟨rfl,aj⟩;have G3:=zH (Lc G2.out aj)
 by_cases h0:q=0
 case neg=>
  have e0:(q != 0)=AA:=by simpa using h0
  have hR:Aw (E=([],q)):=aN.out.trans (Li h0);have bQ:=zH (Lc HB.out G3.out);go_wp2_with fail
  go_ret2
  rw[hR.out];exact⟨Z,0,rfl,fun h=>absurd h (by simp),bQ.out⟩
 subst h0;have du:=zH (aN.out.trans (Lg (by simp)));have Es:=zH (Me.out rfl);have HC:=zH (HTF.out _ G3.out);obtain⟨t,ht⟩:=Ki (uE d f);rw[ht] at HC du Es;obtain⟨D0,D1,D2⟩:=aV.out _ G3.out;obtain⟨q0,q1,q2,q3,q4,q5,_⟩:=Kg (D2);go_wp2_with fail;refine HC.out.mono ?_;rintro e w4 ⟨rfl,aG⟩;have G4:=zH (Lc G3.out aG);clear aG HC q0 q1 q2 q3 q4 q5
 cases t with
 | true=>
  have hR:Aw (E=([],11)):=du.out.trans (Li rfl);have bQ:=zH (Lc HB.out G4.out);clear du Es o8 ip Cj Oi HNS aV;go_wp2_with fail
  go_ret2
  rw[hR.out];exact⟨Z,0,rfl,fun h=>absurd h (by simp),bQ.out⟩
 | false=>
  have fM:=zH (du.out.trans (Lg (by simp)));obtain⟨cU,oC,ak⟩:=Es.out rfl;have mL:=zH ak;have HC:=zH (o8.out _ G4.out);clear du Es o8 ak;obtain⟨D0,D1,D2⟩:=aV.out _ G4.out;obtain⟨p0,p1,p2,p3,p4,p5,p6,p7,p8,p9⟩:=zN (D0);clear D0 D1 D2;go_wp2_with fail;refine HC.out.mono ?_;rintro e w5 ⟨aA,dX⟩;have G5:=zH (Lc G4.out aA);have hs45:=aA.size;clear aA HC p0 p1 p2 p3 p4 p5 p6 p7 p8 p9;rcases dX with ⟨h0,_⟩ | ⟨_,bw,rfl,hK,mb,oS,lm,AQ,cQ,bk⟩
  . exact absurd rfl h0
  have hl4:=G4.out.size;have nP:=G5.out.size;have HKD:Aw (KwD s A SV AV AX kc ks kv kx w1.heap.size w5 bw mb 0 (fun _=>Z)):=⟨hK,⟨AQ,cQ,bk⟩,lm,fun g v h=>(by cases h),ip.out _ G5.out,G5.out.size,by omega⟩;have hmlt:=lm.lt;have IE:Ar w5.heap.size w5 w5.drew:=(Ll _ w5).drew;have G5d:Aw (Ar w1.heap.size w1 w5.drew):=G5.out.trans (IE.mono nP);have HOPS:=zH (kops_any bw w5.drew);clear hK lm bk;go_upto_region 15 with fail
  refine zw [(0,AA),(1,AA),(2,AA),(3,AA),(4,AC),(5,AC),(6,AA),(7,AA),(8,AA),(9,AA)] (fun X=>X.heap[w.heap.size]?=J (Ai #[O U s.p.t.n,O U s.p.t.ins,O U s.p.t.outs,I A s.p.t.cases.length kc,O U s.p.a.n,I SV s.p.a.sts.length ks,O U s.p.k,O U s.n,I AV s.vs.length kv,I AX s.xs.length kx] 35 (0,0))/\X.heap[w.heap.size+1]?=J (Ai #[I AR out.length cr] 38 (0,0))/\X.heap[w.heap.size+1+1]?=J (Ai #[O U f.h.op,O U f.h.p,O U f.h.o,O U f.h.v,O U f.h.g,I AF f.args.length cf] 41 (0,0))) (by kernel_rfl) (by kernel_rfl) (aV.out _ G5d.out) ?_
  repeat
   apply zA rfl
   . rintro K' ac X ⟨u1,u2,u3⟩
     have y0:=zh (u2) 0 rfl;obtain⟨z0,z1,z2,z3,z4,z5,_⟩:=Kg (u3);clear u1 u2 u3;go_simp;exact ac
  refine zx rfl ?_;intro K' ac;go_simp;refine HOPS.out.mono ?_;rintro e w6 ⟨mo,m6,y1,y2,y3,rfl,hmo,hM6,hO6,cX⟩;have SY:Ar w5.heap.size w5 w6:=IE.trans cX;have G6:=zH (G5.out.trans (SY.mono nP));have hmo':w5.heap.size<=mo:=hmo;have UY:=zH (mL.out w1.heap.size bw mb mo _ y1 y2 y3 w6 (Oi.out _ G6.out) ⟨⟨0,_,HKD.out.call SY⟩,⟨m6,hM6⟩,hO6,by omega,Cj.out _ G6.out⟩);refine ac _ _ (aV.out _ G6.out) ?_;refine zx rfl ?_;intro K' ac;go_simp;refine UY.out.mono ?_;rintro e w7 ⟨g7,c7,rfl,lQ,EE,hE7,rj⟩;have MJ:=G6.out.size;have G7:Aw (Ar w1.heap.size w1 w7):=G6.out.trans (rj.below (by omega) (fun k hk e=>by have:k=mb:=e;omega));refine ac _ _ (aV.out _ G7.out) ?_;have sS:=zH EE;have bQ:=zH (Lc HB.out G7.out)
  repeat
   apply zA rfl
   . rintro K' ac X u
     go_simp;exact ac
  refine zO ?_;go_wp2_with fail
  go_ret2
  rw[fM.out];refine⟨J ⟨g7,0,Z⟩,c7,?_,sS.out.at_ sS.out.lt,bQ.out⟩;dsimp only;rw[HNS.out]
  rfl
end
section
def ex7A:List Bool:=[AC,AC,AC,AC,AC,AC,AC,AA]
def JG:List Bool:=[AC,AA,AC,AA,AC,AA,AC,AA]
def ex7N:List Bool:=List.replicate 8 AC
def ex7L:List Int:=[-1,-1,-1,-1,0,0,0,1]
def ex7F:Fm:=.mk ⟨13,0,0,0,3⟩ [.mk ⟨6,0,0,1,0⟩ []]
theorem ev_congr{n:Nat}{cls TI:Nat->List Int}:∀ {ps:List Nat} (_:∀q∈ps,cls q=TI q) (o set:List Bool),ps.foldl (fun o p=>kj n o (xQ n (cls p) set)) o=ps.foldl (fun o p=>kj n o (xQ n (TI p) set)) o
 | [],_,_,_=>rfl
 | q::ps,h,o,set=>by
  rw[Nz,Nz,h q (by simp)];exact ev_congr (fun p hp=>h p (by simp[hp])) _ _
theorem ex7_evg(a:List Bool):evG yA 3 a=evL 8 wQ [0,1] a:=by
 unfold evG evL;rw[qw.1,qw.2.2];refine ev_congr (fun q hq=>?_) _ _;rcases LL.1 hq with rfl | hq
 . exact Ya.1
 rw[L4] at hq;subst hq;exact Ya.2
theorem j7:evG yA 3=evL 8 wQ [0,1]:=funext ex7_evg
theorem ex7_k0:knwE yA 0 yq=(ex7A,0):=by
 unfold knwE;rw[Z9,JC.2,qw.2.2,show((0:Int)).toNat=0 from rfl,Ya.1];decide +kernel
theorem ex7_k1:knwE yA 1 yq=(yq,0):=by
 unfold knwE;rw[Z9,JC.2,qw.2.2,show((1:Int)).toNat=1 from rfl,Ya.2];decide +kernel
theorem ex7_ev:evyE yA 3 yq=(ex7A,0):=by
 unfold evyE;rw[ud.1,ex7_evg];decide +kernel
theorem ex7_ds:dstE yA 3 yq=(yq,0):=by
 unfold dstE;have h:kp yA 3=ex6C:=by decide +kernel
 rw[ud.1,qw.2.2,h];decide +kernel
theorem JZ{F:Nat->List Bool}{M m:Nat}(h1:F (M+1)=F M)(h2:∀k,k<M->F (k+1)≠F k)(g1:F (m+1)=F m)(g2:∀k,k<m->F (k+1)≠F k):M=m:=by
 by_cases h:M<m
 . exact absurd h1 (g2 M h)
 by_cases h':m<M
 . exact absurd g1 (h2 m h')
 omega
theorem JE:yg 8 (evL 8 wQ [0,1]) yq (2+1)=yg 8 (evL 8 wQ [0,1]) yq 2/\(∀k,k<2->yg 8 (evL 8 wQ [0,1]) yq (k+1)≠yg 8 (evL 8 wQ [0,1]) yq k)/\yg 8 (evL 8 wQ [0,1]) yq 2=ex7N:=by decide +kernel
theorem JF:qc 8 (evL 8 wQ [0,1]) yq (2+1)=qc 8 (evL 8 wQ [0,1]) yq 2/\(∀k,k<2->qc 8 (evL 8 wQ [0,1]) yq (k+1)≠qc 8 (evL 8 wQ [0,1]) yq k)/\Jk 8 (evL 8 wQ [0,1]) yq 2=ex7L:=by decide +kernel
theorem ex7_co{M:Nat}(h1:yg (ptn yA) (evG yA 3) yq (M+1)=yg (ptn yA) (evG yA 3) yq M)(h2:∀k,k<M->yg (ptn yA) (evG yA 3) yq (k+1)≠yg (ptn yA) (evG yA 3) yq k):M=2/\yg (ptn yA) (evG yA 3) yq M=ex7N:=by
 rw[j7,qw.2.2] at h1;simp only[j7,qw.2.2] at h2;have e:=JZ (F:=yg 8 (evL 8 wQ [0,1]) yq) h1 h2 JE.1 JE.2.1;subst e;rw[j7,qw.2.2];exact⟨rfl,JE.2.2⟩
theorem ex7_le{M:Nat}(h1:qc (ptn yA) (evG yA 3) yq (M+1)=qc (ptn yA) (evG yA 3) yq M)(h2:∀k,k<M->qc (ptn yA) (evG yA 3) yq (k+1)≠qc (ptn yA) (evG yA 3) yq k):Jk (ptn yA) (evG yA 3) yq M=ex7L:=by
 rw[j7,qw.2.2] at h1;simp only[j7,qw.2.2] at h2;have e:=JZ (F:=qc 8 (evL 8 wQ [0,1]) yq) h1 h2 JF.1 JF.2.1;subst e;rw[j7,qw.2.2];exact JF.2.2
theorem ex7_eva:ZX yA [] 1 ex7F=(JG,0):=by
 unfold ZX;have h2:qH yA.n 1 ex7F=0:=by rw[JC.2];decide +kernel
 have h3:uE 1 ex7F=AC:=by decide +kernel
 have h4:qP yA [] ⟨6,0,0,1,0⟩=JG:=by decide +kernel
 have h5:vK yA [] 1 ex7F=JG:=by
  show uT yA ⟨13,0,0,0,3⟩ (qP yA [] ⟨6,0,0,1,0⟩) (vK yA [] 0 default)=JG;rw[h4];show yg (ptn yA) (evG yA 3) JG (ptn yA)=JG;rw[j7,qw.2.2];decide +kernel
 rw[Z9,h2,h3,h5]
 rfl
end
section
open Go.RowKit Go.Shelf
attribute [local go_sem] Oper.semAt_some
theorem uK(A B:Bb)(ca cb n:Nat)(hn:n<=100000)(a b:List Bool)(ha:a.length=n)(hb:b.length=n)(w:Ba)(hA:BAt w w.heap.size A a)(hB:BAt w w.heap.size B b) :
  As Aq 67 #[I A n ca,I B n cb] w (RetB (kj n a b) w):=by
 have HA:=zH hA;have iW:=zH ha;have HB:=zH hB;have pN:=zH hb;have eq:=qb n hn;obtain⟨rs,cD⟩:=Ki (kj n a b);have i8:rs.length=n:=by rw[<-cD];exact yP ..
 have dO:=zH i8
 have fg:Aw (∀k (h:k<n),rs[k]'(by rw[dO.out];exact h)=(a[k]'(by rw[iW.out];exact h)&&b[k]'(by rw[pN.out];exact h))):=fun k h=>by
  subst cD;rw[wX h,zt (by omega),zt (by omega)]
 unfold RetB;rw[cD,i8];go_enter func67,ntmps67;go_upto_region 2 with fail
 obtain⟨w3,dV,d3,eK,ct⟩:=zk w (xT (List.replicate n AC)) 4;rw[dV];have lU:=zH (HA.out.keep ct);have aJ:=zH (HB.out.keep ct);have io:=zH ct;have lD:Aw (BRow w3 w.heap.size (yZ rs 0)):=by rw[jJ,dO.out];exact d3
 obtain⟨g,hg⟩:=Ki w.heap.size;rw[hg] at lU aJ io lD eK ⊢;go_wp2_with fail
 go_loopw [6] (fun i wr=>∃k:Nat,k<=n/\i=O U (k:Int)/\Aw (BRow wr g (yZ rs k))/\Aw (Ar g w3 wr)) (fun i _=>n-(Au i).toNat)
 case atStart=>exact⟨0,by omega,rfl,lD,Ll _ _⟩
 obtain⟨k,hk,rfl,ay,aQ⟩:=hrel;have mO:IntKind.i64.wrap ((k:Int)+1)=((k+1:Nat):Int):=by rw[Ls];omega
 by_cases aa:k<n
 . obtain⟨b1,o1,rfl,aq,z0⟩:=(lU.out.keep aQ.out).at_ k (by rw[iW.out];exact aa)
   obtain⟨b2,o2,rfl,ag,z1⟩:=(aJ.out.keep aQ.out).at_ k (by rw[pN.out];exact aa);have bL:=fg.out k aa;obtain⟨x,hx⟩:=Ki (a[k]'(by rw[iW.out];exact aa));rw[hx] at z0 bL;obtain⟨y,hy⟩:=Ki (b[k]'(by rw[pN.out];exact aa));rw[hy] at z1 bL;have cP:k<rs.length:=by rw[dO.out];exact aa
   have fa:=vD rs (PK cP);have y0:=zh ay.out k (qN (yZ rs k) k (by omega));have f0:=zi ay.out k
   have dY:Aw (BRow (wr.setCell ⟨g,k,Z⟩ (Aj (x&&y))) g (yZ rs (k+1))):=by
    rw[<-bL,<-vC rs cP];show _=_;rw[Lq wr _ k _ _ _ ay.out,kh]
   have ot:=zH (aQ.out.setCell (p:=⟨g,k,Z⟩) (by show g<=g;omega) (Aj (x&&y)));obtain⟨u,hu⟩:=Ki ((yZ rs k)[k]'(by omega));rw[hu] at y0;have dh:(0:Int)<=(k:Int):=by omega
   have aW:(k:Int)<(n:Int):=by omega
   cases x with
   | false=>
    go_wp2_with fail
    go_roundw
    case rel=>exact⟨k+1,by omega,by go_num,dY,ot⟩
    case measure=>simp[Au];omega
   | true=>
    go_wp2_with fail
    go_roundw
    case rel=>exact⟨k+1,by omega,by go_num,dY,ot⟩
    case measure=>simp[Au];omega
 obtain rfl:n=k:=by omega
 have aW:¬(n:Int)<(n:Int):=by omega
 have HE:Aw (BRow wr g rs):=by have:=ay.out;rwa[show yZ rs n=rs by rw[<-dO.out];exact vE rs] at this
 have rG:=zH (io.out.trans aQ.out);subst hg;go_wp2_with fail;go_ret;exact⟨w.heap.size,rfl,Le _,HE.out,rG.out⟩
theorem YA(A:Bb)(ca n:Nat)(hn:n<=100000)(a:List Bool)(ha:a.length=n)(w:Ba)(hA:BAt w w.heap.size A a) :
  As Aq 66 #[I A n ca] w (RetB (ja n a) w):=by
 have HA:=zH hA;have iW:=zH ha;have eq:=qb n hn;obtain⟨rs,cD⟩:=Ki (ja n a);have i8:rs.length=n:=by rw[<-cD];exact qa ..
 have dO:=zH i8
 have fg:Aw (∀k (h:k<n),rs[k]'(by rw[dO.out];exact h)=!(a[k]'(by rw[iW.out];exact h))):=fun k h=>by
  subst cD;rw[<-zt (by rw[dO.out];exact h) AC,ua h,zt (by omega)]
 unfold RetB;rw[cD,i8];go_enter func66,ntmps66;go_upto_region 2 with fail
 obtain⟨w3,dV,d3,eK,ct⟩:=zk w (xT (List.replicate n AC)) 4;rw[dV];have lU:=zH (HA.out.keep ct);have io:=zH ct;have lD:Aw (BRow w3 w.heap.size (yZ rs 0)):=by rw[jJ,dO.out];exact d3
 obtain⟨g,hg⟩:=Ki w.heap.size;rw[hg] at lU io lD eK ⊢;go_wp2_with fail
 go_loopw [4] (fun i wr=>∃k:Nat,k<=n/\i=O U (k:Int)/\Aw (BRow wr g (yZ rs k))/\Aw (Ar g w3 wr)) (fun i _=>n-(Au i).toNat)
 case atStart=>exact⟨0,by omega,rfl,lD,Ll _ _⟩
 obtain⟨k,hk,rfl,ay,aQ⟩:=hrel;have mO:IntKind.i64.wrap ((k:Int)+1)=((k+1:Nat):Int):=by rw[Ls];omega
 by_cases aa:k<n
 . obtain⟨b1,o1,rfl,aq,z0⟩:=(lU.out.keep aQ.out).at_ k (by rw[iW.out];exact aa)
   have bL:=fg.out k aa;obtain⟨x,hx⟩:=Ki (a[k]'(by rw[iW.out];exact aa));rw[hx] at z0 bL;have cP:k<rs.length:=by rw[dO.out];exact aa
   have fa:=vD rs (PK cP);have y0:=zh ay.out k (qN (yZ rs k) k (by omega));have f0:=zi ay.out k
   have dY:Aw (BRow (wr.setCell ⟨g,k,Z⟩ (Aj (!x))) g (yZ rs (k+1))):=by
    rw[<-bL,<-vC rs cP];show _=_;rw[Lq wr _ k _ _ _ ay.out,kh]
   have ot:=zH (aQ.out.setCell (p:=⟨g,k,Z⟩) (by show g<=g;omega) (Aj (!x)));obtain⟨u,hu⟩:=Ki ((yZ rs k)[k]'(by omega));rw[hu] at y0;have dh:(0:Int)<=(k:Int):=by omega
   have aW:(k:Int)<(n:Int):=by omega
   cases x with
   | false=>
    go_wp2_with fail
    go_roundw
    case rel=>exact⟨k+1,by omega,by go_num,dY,ot⟩
    case measure=>simp[Au];omega
   | true=>
    go_wp2_with fail
    go_roundw
    case rel=>exact⟨k+1,by omega,by go_num,dY,ot⟩
    case measure=>simp[Au];omega
 obtain rfl:n=k:=by omega
 have aW:¬(n:Int)<(n:Int):=by omega
 have HE:Aw (BRow wr g rs):=by have:=ay.out;rwa[show yZ rs n=rs by rw[<-dO.out];exact vE rs] at this
 have rG:=zH (io.out.trans aQ.out);subst hg;go_wp2_with fail;go_ret;exact⟨w.heap.size,rfl,Le _,HE.out,rG.out⟩
theorem ins_step{ls:List Int}{set:List Bool}{i j:Nat}:(∀m,m<j+1->ls.getD m 0=ls.getD i 0->set.getD m AC=AA)↔(∀m,m<j->ls.getD m 0=ls.getD i 0->set.getD m AC=AA)/\(ls.getD j 0=ls.getD i 0->set.getD j AC=AA):=by
 constructor
 . exact fun h=>⟨fun m hm=>h m (by omega),h j (by omega)⟩
 rintro⟨h1,h2⟩ m hm
 by_cases e:m=j
 . subst e;exact h2
 exact h1 m (by omega)
theorem YC(A B:Bb)(ca cb n:Nat)(hn:n<=100000)(ls:List Int)(set:List Bool)(ha:ls.length=n)(hb:set.length=n)(w:Ba)(hA:IAt w w.heap.size A ls)(hB:BAt w w.heap.size B set) :
  As Aq 69 #[I A n ca,I B n cb] w (RetB (xQ n ls set) w):=by
 have HA:=zH hA;have HB:=zH hB;have iW:=zH ha;have pN:=zH hb;have eq:=qb n hn;obtain⟨rs,cD⟩:=Ki (xQ n ls set);have i8:rs.length=n:=by rw[<-cD];exact yO ..
 have dO:=zH i8
 have fg:Aw (∀i (h:i<n) (v:Bool),(v=AA↔∀m,m<n->ls.getD m 0=ls.getD i 0->set.getD m AC=AA)->rs[i]'(by rw[dO.out];exact h)=v):=fun i h v hv=>by
  subst cD;rw[Z6 h];exact NG.2 (by rw[Sa];exact hv.symm)
 unfold RetB;rw[cD,i8];clear hA hB ha hb cD;go_enter func69,ntmps69;go_upto_region 2 with fail
 obtain⟨w3,dV,d3,eK,ct⟩:=zk w (xT (List.replicate n AC)) 4;rw[dV];have lU:=zH (HA.out.keep ct);have aJ:=zH (HB.out.keep ct);have io:=zH ct;have lD:Aw (BRow w3 w.heap.size (yZ rs 0)):=by rw[jJ,dO.out];exact d3
 clear dV d3 ct eq HA HB i8;obtain⟨g,hg⟩:=Ki w.heap.size;rw[hg] at lU aJ io lD eK ⊢;have HG:=zH hg;clear hg;go_wp2_with fail
 go_loopw [6] (fun i wr=>∃k:Nat,k<=n/\i=O U (k:Int)/\Aw (BRow wr g (yZ rs k))/\Aw (Ar g w3 wr)) (fun i _=>n-(Au i).toNat)
 case atStart=>exact⟨0,by omega,rfl,lD,Ll _ _⟩
 obtain⟨k,hk,rfl,ay,aQ⟩:=hrel;clear lD
 by_cases aa:k<n
 . have cP:k<rs.length:=by rw[dO.out];exact aa
   have fa:=vD rs (PK cP);have y0:=zh ay.out k (qN (yZ rs k) k (by omega));have f0:=zi ay.out k
   have dY:Aw (BRow (wr.setCell ⟨g,k,Z⟩ (Aj AA)) g ((yZ rs k).set k AA)):=by
    show _=_;rw[Lq wr _ k _ _ _ ay.out,kh]
   have ot:=zH (aQ.out.setCell (p:=⟨g,k,Z⟩) (by show g<=g;omega) (Aj AA));obtain⟨u,hu⟩:=Ki ((yZ rs k)[k]'(by omega));rw[hu] at y0;have dh:(0:Int)<=(k:Int):=by omega
   have aW:(k:Int)<(n:Int):=by omega
   have ML:=zj ay.out;have Df:=zH fa;clear hu ay aQ fa cP;go_wp2_with fail;obtain⟨w4,fN⟩:=Ki (wr.setCell ⟨g,k,Z⟩ (Aj AA));rw[fN] at dY ot ⊢;clear fN y0 f0 ML
   go_loopw [7] (fun j wr=>∃(m:Nat) (v:Bool),m<=n/\j=O U (m:Int)/\Aw (BRow wr g ((yZ rs k).set k v))/\Aw (v=AA↔∀q,q<m->ls.getD q 0=ls.getD k 0->set.getD q AC=AA)/\Aw (Ar g w3 wr)) (fun j _=>n-(Au j).toNat)
   case atStart=>exact⟨0,AA,by omega,rfl,dY,⟨fun _ q h=>absurd h (by omega),fun _=>rfl⟩,ot⟩
   obtain⟨m,v,hm,rfl,ay,hv,aQ⟩:=hrel;clear dY ot;have oz:IntKind.i64.wrap ((m:Int)+1)=((m+1:Nat):Int):=by rw[Ls];omega
   by_cases EH:m<n
   . obtain⟨b1,o1,rfl,aq,z0⟩:=(lU.out.keep aQ.out).at_ m (by rw[iW.out];exact EH)
     obtain⟨b1',o1',e1,_,z1⟩:=(lU.out.keep aQ.out).at_ k (by rw[iW.out];exact aa)
     cases e1
     obtain⟨b2,o2,rfl,ag,z2⟩:=(aJ.out.keep aQ.out).at_ m (by rw[pN.out];exact EH);have hx:ls.getD m 0=ls[m]'(by rw[iW.out];exact EH):=zt (by rw[iW.out];exact EH) 0;have lK:ls.getD k 0=ls[k]'(by rw[iW.out];exact aa):=zt (by rw[iW.out];exact aa) 0;have hy:set.getD m AC=set[m]'(by rw[pN.out];exact EH):=zt (by rw[pN.out];exact EH) AC;rw[<-hx] at z0;rw[<-lK] at z1;rw[<-hy] at z2;have dq:=zH (ins_step (ls:=ls) (set:=set) (i:=k) (j:=m));have ML:=zj ay.out;have hkf:k<((yZ rs k).set k v).length:=by rw[Ri];have:=Df.out;rw[this];have:=dO.out;omega
     have y0:=zh ay.out k (qN ((yZ rs k).set k v) k hkf);have f0:=zi ay.out k
     have dY:Aw (BRow (wr.drewN 1 |>.setCell ⟨g,k,Z⟩ (Aj AC)) g ((yZ rs k).set k AC)):=by
      show _=_;rw[Lq (wr.drewN 1) _ k _ _ _ ay.out,kh,List.set_set]
     obtain⟨u,hu⟩:=Ki (((yZ rs k).set k v)[k]'hkf);rw[hu] at y0;obtain⟨x,hX⟩:=Ki (ls.getD m 0);obtain⟨xk,hXK⟩:=Ki (ls.getD k 0);obtain⟨y,hY⟩:=Ki (set.getD m AC);rw[hX] at z0 dq;rw[hXK] at z1 dq hv;rw[hY] at z2 dq;have WV:=zH hXK;have lO:(0:Int)<=(m:Int):=by omega
     have po:(m:Int)<(n:Int):=by omega
     clear hx lK hy hu hkf hX hY hXK
     by_cases tL:x=xk
     . subst tL
       have e1:decide (x=x)=AA:=by simp
       cases y with
       | true=>
        have oL:Aw (v=AA↔∀q,q<m+1->ls.getD q 0=x->set.getD q AC=AA):=by
         rw[Aw,dq.out,hv.out];simp
        have oV:Aw (∀p,BRow (wr.drewN p) g ((yZ rs k).set k v)):=fun p=>ay.out
        have sI:Aw (∀p,Ar g w3 (wr.drewN p)):=fun p=>zP aQ.out p
        clear hv dq ay aQ dY y0 f0;go_wp2_with fail;go_quiet (fail);go_wp2_with fail
        go_roundw
        case rel=>exact⟨m+1,v,by omega,by go_num,oV.out _,by rw[WV.out];exact oL,sI.out _⟩
        case measure=>simp[Au];omega
       | false=>
        have oL:Aw (AC=AA↔∀q,q<m+1->ls.getD q 0=x->set.getD q AC=AA):=by
         rw[Aw,dq.out];simp
        have oV:Aw (∀p,BRow ((wr.drewN p).setCell ⟨g,k,Z⟩ (Aj AC)) g ((yZ rs k).set k AC)):=fun p=>by
         show _=_;rw[Lq (wr.drewN p) _ k _ _ _ ay.out,kh,List.set_set]
        have sI:Aw (∀p,Ar g w3 ((wr.drewN p).setCell ⟨g,k,Z⟩ (Aj AC))):=fun p=>(zP aQ.out p).setCell (p:=⟨g,k,Z⟩) (by show g<=g;omega) (Aj AC)
        have Of:Aw (∀p,(wr.drewN p).heap[g]?=J (Ai (xT ((yZ rs k).set k v)) 4 (0,0))):=fun p=>ay.out
        clear hv dq ay aQ dY y0 f0;go_wp2_with fail;go_quiet (fail);rename_i nq _;have y0:=zh (Of.out nq) k (qN ((yZ rs k).set k v) k (by rw[Ri];have:=Df.out;rw[this];have:=dO.out;omega));have f0:=zi (Of.out nq) k;go_wp2_with fail
        go_roundw
        case rel=>exact⟨m+1,AC,by omega,by go_num,oV.out _,by rw[WV.out];exact oL,sI.out _⟩
        case measure=>simp[Au];omega
     have e1:decide (x=xk)=AC:=Lj tL
     have oL:Aw (v=AA↔∀q,q<m+1->ls.getD q 0=xk->set.getD q AC=AA):=by
      rw[Aw,dq.out,hv.out];simp[tL]
     have oV:Aw (∀p,BRow (wr.drewN p) g ((yZ rs k).set k v)):=fun p=>ay.out
     have sI:Aw (∀p,Ar g w3 (wr.drewN p)):=fun p=>zP aQ.out p
     clear hv dq ay aQ dY y0 f0;go_wp2_with fail;go_quiet (fail);go_wp2_with fail
     go_roundw
     case rel=>exact⟨m+1,v,by omega,by go_num,oV.out _,by rw[WV.out];exact oL,sI.out _⟩
     simp[Au];omega
   obtain rfl:m=n:=by omega
   have po:¬(m:Int)<(m:Int):=by omega
   have cP:k<rs.length:=by rw[dO.out];exact aa
   have bL:=fg.out k aa v hv.out
   have oV:Aw (BRow wr g (yZ rs (k+1))):=by
    rw[<-vC rs cP,bL];exact ay
   have mO:IntKind.i64.wrap ((k:Int)+1)=((k+1:Nat):Int):=by rw[Ls];omega
   clear bL hv ay;go_wp2_with fail
   go_roundw
   case rel=>exact⟨k+1,by omega,by go_num,oV,aQ⟩
   simp[Au];omega
 obtain rfl:n=k:=by omega
 have aW:¬(n:Int)<(n:Int):=by omega
 have HE:Aw (BRow wr g rs):=by have:=ay.out;rwa[show yZ rs n=rs by rw[<-dO.out];exact vE rs] at this
 have rG:=zH (io.out.trans aQ.out);clear ay aQ lU aJ fg;go_wp2_with fail;go_ret;exact⟨g,rfl,by rw[HG.out];exact Le _,HE.out,by rw[HG.out];exact rG.out⟩
theorem not_none(n:Nat):ja n (List.replicate n AC)=List.replicate n AA:=by
 refine NZ (by rw[qa];simp) fun i h1 h2=>?_
 have hi:i<n:=by rw[qa] at h1;exact h1
 rw[<-zt h1 AC,ua hi];simp[List.getD_eq_getElem?_getD,hi]
theorem YG(n:Nat)(hn:n<=100000)(w:Ba):As Aq 117 #[O U (n:Int)] w (RetB (List.replicate n AA) w):=by
 have eq:=qb n hn;obtain⟨w3,dV,d3,eK,ct⟩:=zk w (xT (List.replicate n AC)) 4;have hr:BRow w3 w.heap.size (List.replicate n AC):=d3;have HC:=zH (YA (J ⟨w.heap.size,0,Z⟩) n n hn (List.replicate n AC) (by simp) w3 (hr.at_ hr.lt));rw[not_none] at HC;unfold RetB at HC ⊢;rw[LQ] at HC ⊢;have io:=zH dV;have aJ:=zH ct;clear dV d3 ct hr;go_enter func117,ntmps117;go_wp2_with fail;rw[io.out];go_wp2_with fail;refine HC.out.mono ?_;rintro e w4 ⟨g4,rfl,tm,CK,aG⟩;have pJ:=zH CK;have dT:=zH (Lc aJ.out aG);have dv:w.heap.size<=g4:=by omega
 go_wp2_with fail;go_ret;exact⟨g4,rfl,dv,pJ.out,dT.out⟩
def ZT(n:Nat)(ls:List Int):List Bool:=ls.foldl (fun o i=>o.set i.toNat AA) (List.replicate n AC)
theorem YP(n:Nat)(ls:List Int):(ZT n ls).length=n:=by
 unfold ZT;refine snocI (P:=fun ls=>(ls.foldl (fun (o:List Bool) (i:Int)=>o.set i.toNat AA) (List.replicate n AC)).length=n) (by simp) (fun l x h=>?_) ls;rw[N2];show(List.set _ _ _).length=n;rw[Ri];exact h
theorem onlL_snoc(n:Nat)(ls:List Int){k:Nat}(hk:k<ls.length):ZT n (ls.take (k+1))=(ZT n (ls.take k)).set ls[k].toNat AA:=by
 unfold ZT;rw[Lr hk,N2]
 rfl
theorem brow_set{w:Ba}{g:Nat}{bs:List Bool}(h:BRow w g bs)(k:Nat)(x:Bool):BRow (w.setCell ⟨g,k,Z⟩ (Aj x)) g (bs.set k x):=by
 unfold BRow at *;rw[World.setCell,PG,Li rfl,h];simp[xT,List.map_set]
theorem only37_any(n:Nat)(hn:n<=100000)(ls:List Int)(hl:ls.length<=1000)(pu:∀(k:Nat) (h:k<ls.length),∃j:Nat,ls[k]=(j:Int)/\j<n)(A:Bb)(c:Nat)(w:Ba)(hI:IAt w w.heap.size A ls) :
  As Aq 17 #[O U (n:Int),I A ls.length c] w (RetB (ZT n ls) w):=by
 have eq:=qb n hn;unfold RetB;rw[YP];have HI:=zH hI;have Cp:=zH pu;go_enter func17,ntmps17;go_upto_region 2 with fail
 obtain⟨w3,dV,d3,eK,ct⟩:=zk w (xT (List.replicate n AC)) 4;rw[dV];have mK:=zH (HI.out.keep ct);have io:=zH ct;have lD:Aw (BRow w3 w.heap.size (ZT n (ls.take 0))):=by rw[L1];exact d3
 obtain⟨g,hg⟩:=Ki w.heap.size;rw[hg] at mK io lD eK ⊢;go_wp2_with fail
 go_loopw [12] (fun i wr=>∃k:Nat,k<=ls.length/\i=O U (k:Int)/\Aw (BRow wr g (ZT n (ls.take k)))/\Aw (Ar g w3 wr)) (fun i _=>ls.length-(Au i).toNat)
 case atStart=>exact⟨0,by omega,rfl,lD,Ll _ _⟩
 obtain⟨k,hk,rfl,ay,aQ⟩:=hrel;have mO:IntKind.i64.wrap ((k:Int)+1)=((k+1:Nat):Int):=by rw[Ls];omega
 by_cases aa:k<ls.length
 . obtain⟨b1,o1,rfl,aq,z0⟩:=(mK.out.keep aQ.out).at_ k aa
   obtain⟨j,hj,hjn⟩:=Cp.out k aa;rw[hj] at z0;have aL:=YP n (ls.take k);have y0:=zh ay.out j (qN (ZT n (ls.take k)) j (by omega));have f0:=zi ay.out j;have ck:=brow_set ay.out j AA;have eo:=onlL_snoc n ls aa;rw[hj,Lo] at eo;rw[<-eo] at ck;have dY:=zH ck;have ot:=zH (aQ.out.setCell (p:=⟨g,j,Z⟩) (by show g<=g;omega) (Aj AA));obtain⟨u,hu⟩:=Ki ((ZT n (ls.take k))[j]'(by omega));rw[hu] at y0;have CP:(0:Int)<=(j:Int):=by omega
   have rN:(j:Int)<(n:Int):=by omega
   have dh:(0:Int)<=(k:Int):=by omega
   have aW:(k:Int)<(ls.length:Int):=by omega
   go_wp2_with fail
   go_roundw
   case rel=>exact⟨k+1,by omega,by go_num,dY,ot⟩
   simp[Au];omega
 have aW:¬(k:Int)<(ls.length:Int):=by omega
 have HE:Aw (BRow wr g (ZT n ls)):=by have:=ay.out;rwa[Nd (by omega)] at this
 have rG:=zH (io.out.trans aQ.out);subst hg;go_wp2_with fail;go_ret;exact⟨w.heap.size,rfl,Le _,HE.out,rG.out⟩
def RetSysGC(r:Sy×Int)(A SV:Bb)(w:Ba)(e:Ending)(w':Ba):Prop:=r.2=0->∃kc ks AV kv AX kx,e=Am (.tuple #[.agg (r.1.vs_ A kc SV ks AV kv AX kx),O U r.2]) /\
 (∀W,w'.heap.size<=W.heap.size->(∀k,w.heap.size<=k->k<w'.heap.size->W.heap[k]?=w'.heap[k]?)->CAt W W.heap.size A r.1.p.t.cases->SAt W W.heap.size SV r.1.p.a.sts->SyAt W W.heap.size A SV AV AX r.1/\XCap W AX r.1.xs)/\Ar w.heap.size w w'
def RetSysG(r:Sy×Int)(A SV:Bb)(w:Ba)(e:Ending)(w':Ba):Prop:=r.2=0->∃kc ks AV kv AX kx,e=Am (.tuple #[.agg (r.1.vs_ A kc SV ks AV kv AX kx),O U r.2]) /\
 (∀W,w'.heap.size<=W.heap.size->(∀k,w.heap.size<=k->k<w'.heap.size->W.heap[k]?=w'.heap[k]?)->CAt W W.heap.size A r.1.p.t.cases->SAt W W.heap.size SV r.1.p.a.sts->SyAt W W.heap.size A SV AV AX r.1)/\Ar w.heap.size w w'
theorem Jf(p:Pb)(hf:xz p)(A:Bb)(kc:Nat)(SV:Bb)(ks:Nat)(w:Ba)(hA:CAt w w.heap.size A p.t.cases)(hS:SAt w w.heap.size SV p.a.sts) :
  As Aq 39 #[.agg (p.vs A kc SV ks)] w (RetSysGC (yj p) A SV w):=by
 have HC:=zH (fun (w':Ba) (h1:CAt w' w'.heap.size A p.t.cases) (h2:SAt w' w'.heap.size SV p.a.sts)=>vj p hf.1 A kc SV ks w' h1 h2)
 have HN:=zH (fun (w':Ba) (h0:zY p=0) (h:SAt w' w'.heap.size SV p.a.sts)=>
  gj p hf.1 (xv hf.1.2 (yf h0).2.1).1 (xv hf.1.2 (yf h0).2.1).2.1 p.k.toNat 4096 (by have:=(yf h0).2.2.2.1;omega) (by have:=(yf h0).2.2.2.2;omega) (by decide) A kc SV ks w' h)
 have HB:=zH (fun (h0:zY p=0) (iV:yx p<=60) (w':Ba) (h1:CAt w' w'.heap.size A p.t.cases) (h2:SAt w' w'.heap.size SV p.a.sts)=>QX p hf h0 iV A kc SV ks w' h1 h2);have oh:=zH (@xy p);have fy:=zH (@qd p);have Ci:=zH (@kg p);have Cl:=zH (@num_many p);have nj:=zH hf.2;obtain⟨R,hR⟩:=Ki (yj p);rw[hR] at oh fy Ci ⊢;obtain⟨w1,ab,d0,d1,aK,bP⟩:=yV w (p.vs A kc SV ks) #[O U 0,O U 0,O U 0,I Z 0 0,O U 0,I Z 0 0,O U 0,O U 0,I Z 0 0,I Z 0 0] 29 35;have HA:=zH ((hA.keep bP).more bP.size);have HS:=zH ((hS.keep bP).more bP.size);unfold Pb.vs at ab d0 ⊢;have ai:=zH ab;have bK:=zH d0;have cN:=zH d1;have mN:=zH bP;obtain⟨p0,p1,p2,p3,p4,p5,p6,_⟩:=Kf d0;obtain⟨E,hE⟩:=Ki (zY p);have od:=zH hE;rw[hE] at HC oh;obtain⟨M,hM⟩:=Ki (p.t.cases.length*xA 4096 (yw p.a p.k.toNat 0));have pM:Aw (YQ p=M):=hM;rw[hM] at HN;clear ab d0 d1 bP hA hS hf hR hE hM;go_enter func39,ntmps39;go_wp2_with fail;rw[ai.out];go_wp2_with fail;refine(HC.out w1 HA.out HS.out).mono ?_;rintro e w2 ⟨rfl,ag⟩;have B2:=zH (mN.out.trans (ag.mono (by omega)));have Et:=zH ((HA.out.keep ag).more ag.size);have dS:=zH ((HS.out.keep ag).more ag.size);have eQ:=ag.size;have d0:=La ag bK.out;have d1:=La ag cN.out;have dD:=zH d0;have az:=zH d1;clear ag HC ai bK cN HA HS p0 p1 p2 p3 p4 p5 p6;obtain⟨p0,p1,p2,p3,p4,p5,p6,_⟩:=Kf d0
 by_cases h0:E=0
 case neg=>
  have hR:=zH (oh.out h0);have e0:(E != 0)=AA:=by simpa using h0
  have y0:=zh d1 0 rfl;have f0:=zi d1 0;have y1:=zh d1 1 rfl;have f1:=zi d1 1;have y2:=zh d1 2 rfl;have f2:=zi d1 2;have y3:=zh d1 3 rfl;have f3:=zi d1 3;have y4:=zh d1 4 rfl;have f4:=zi d1 4;have y5:=zh d1 5 rfl;have f5:=zi d1 5;have y6:=zh d1 6 rfl;have f6:=zi d1 6;have y7:=zh d1 7 rfl;have f7:=zi d1 7;have y8:=zh d1 8 rfl;have f8:=zi d1 8;have y9:=zh d1 9 rfl;have f9:=zi d1 9;obtain⟨k1,k2,k3⟩:=xX (O U 0) (O U 0) (O U 0) (I Z 0 0) (O U 0) (I Z 0 0) (O U 0) (O U 0) (I Z 0 0) (I Z 0 0) d1 B2.out (by omega:w.heap.size<=w.heap.size+1);obtain⟨WF,ft⟩:=Ki (((((((((((w2.setCell ⟨w.heap.size+1,0,Z⟩ (O U 0)).setCell ⟨w.heap.size+1,1,Z⟩ (O U 0)).setCell ⟨w.heap.size+1,2,Z⟩ (O U 0)).setCell ⟨w.heap.size+1,3,Z⟩ (I Z 0 0)).setCell ⟨w.heap.size+1,4,Z⟩ (O U 0)).setCell ⟨w.heap.size+1,5,Z⟩ (I Z 0 0)).setCell ⟨w.heap.size+1,6,Z⟩ (O U 0)).setCell ⟨w.heap.size+1,7,Z⟩ (O U 0)).setCell ⟨w.heap.size+1,8,Z⟩ (I Z 0 0)).setCell ⟨w.heap.size+1,9,Z⟩ (I Z 0 0)));rw[ft] at k1 k2 k3;have Cu:=zH k1;have sd:=zH k2;have Ep:=zH k3;have ru:=zH ft;clear k1 k2 k3 ft;clear fy Ci Cl HN HB nj h0 d0 d1;go_wp2_with fail;rw[ru.out];obtain⟨z0,z1,z2,z3,z4,z5,z6,z7,z8,z9⟩:=zN Cu.out
  refine LG (v:=.tuple #[Ak #[O U 0,O U 0,O U 0,I Z 0 0,O U 0,I Z 0 0,O U 0,O U 0,I Z 0 0,I Z 0 0],O U E]) (by simp[results,results39,go_sem,z0,z1,z2,z3,z4,z5,z6,z7,z8,z9]) rfl ?_;rw[hR.out];exact fun h=>absurd h (by simpa using e0)
 case pos=>
 subst h0;clear oh;go_wp2_with fail;refine(HN.out w2 od.out dS.out).mono ?_;rintro e w3 ⟨rfl,aj⟩;have B3:=zH (B2.out.trans (aj.mono (by omega)));have lU:=zH ((Et.out.keep aj).more aj.size);have oY:=zH ((dS.out.keep aj).more aj.size);have eK:=aj.size;have d0:=La aj dD.out;have d1:=La aj az.out;have Of:=zH d0;have Cz:=zH d1;clear aj HN dD az Et dS p0 p1 p2 p3 p4 p5 p6
 by_cases hm:4096<M
 case pos=>
  have hR:=zH (fy.out od.out ((Cl.out od.out).1 (by rw[pM.out];exact hm)));have hmi:(4096:Int)<(M:Int):=by omega
  have y0:=zh d1 0 rfl;have f0:=zi d1 0;have y1:=zh d1 1 rfl;have f1:=zi d1 1;have y2:=zh d1 2 rfl;have f2:=zi d1 2;have y3:=zh d1 3 rfl;have f3:=zi d1 3;have y4:=zh d1 4 rfl;have f4:=zi d1 4;have y5:=zh d1 5 rfl;have f5:=zi d1 5;have y6:=zh d1 6 rfl;have f6:=zi d1 6;have y7:=zh d1 7 rfl;have f7:=zi d1 7;have y8:=zh d1 8 rfl;have f8:=zi d1 8;have y9:=zh d1 9 rfl;have f9:=zi d1 9;obtain⟨k1,k2,k3⟩:=xX (O U 0) (O U 0) (O U 0) (I Z 0 0) (O U 0) (I Z 0 0) (O U 0) (O U 0) (I Z 0 0) (I Z 0 0) d1 B3.out (by omega:w.heap.size<=w.heap.size+1);obtain⟨WF,ft⟩:=Ki (((((((((((w3.setCell ⟨w.heap.size+1,0,Z⟩ (O U 0)).setCell ⟨w.heap.size+1,1,Z⟩ (O U 0)).setCell ⟨w.heap.size+1,2,Z⟩ (O U 0)).setCell ⟨w.heap.size+1,3,Z⟩ (I Z 0 0)).setCell ⟨w.heap.size+1,4,Z⟩ (O U 0)).setCell ⟨w.heap.size+1,5,Z⟩ (I Z 0 0)).setCell ⟨w.heap.size+1,6,Z⟩ (O U 0)).setCell ⟨w.heap.size+1,7,Z⟩ (O U 0)).setCell ⟨w.heap.size+1,8,Z⟩ (I Z 0 0)).setCell ⟨w.heap.size+1,9,Z⟩ (I Z 0 0)));rw[ft] at k1 k2 k3;have Cu:=zH k1;have sd:=zH k2;have Ep:=zH k3;have ru:=zH ft;clear k1 k2 k3 ft;clear fy Ci Cl HB nj d0 d1;go_wp2_with fail;rw[ru.out];obtain⟨z0,z1,z2,z3,z4,z5,z6,z7,z8,z9⟩:=zN Cu.out
  refine LG (v:=.tuple #[Ak #[O U 0,O U 0,O U 0,I Z 0 0,O U 0,I Z 0 0,O U 0,O U 0,I Z 0 0,I Z 0 0],O U 17]) (by simp[results,results39,go_sem,z0,z1,z2,z3,z4,z5,z6,z7,z8,z9]) rfl ?_;rw[hR.out];exact fun h=>absurd h (by decide)
 case neg=>
 have y':¬(4096<yx p):=fun h=>hm (by rw[<-pM.out];exact(Cl.out od.out).2 h)
 have iV:yx p<=60:=by
  rcases nj.out od.out with h | h
  . exact h
  exact absurd h y'
 have hR:=zH (Ci.out od.out (by omega));have hmi:¬((4096:Int)<(M:Int)):=by omega
 have Vm:=zH (HB.out od.out iV w3 lU.out oY.out);have sX:=zH (Z0 p od.out iV).1;obtain⟨p0,p1,p2,p3,p4,p5,p6,_⟩:=Kf d0;clear fy Ci Cl HB nj y' iV d0 d1 pM;go_wp2_with fail
 all_goals first | (exfalso;omega) | skip
 refine Vm.out.mono ?_;rintro e w4 ⟨AV,kv,AE,ke,rfl,hV,hX,aG⟩;have B4:=zH (B3.out.trans (aG.mono (by omega)));have KS:=zH hV;have KP:=zH hX;have oA:=aG.size;have d1:=La aG Cz.out;have HG1:=zH d1;have Mn:=zH ((lU.out.keep aG).more aG.size);have Db:=zH ((oY.out.keep aG).more aG.size);clear hV hX aG Vm Of Cz p0 p1 p2 p3 p4 p5 p6 d1;obtain⟨W5,dM,b5,lL,nc⟩:=zk w4 #[O U p.t.n,O U p.t.ins,O U p.t.outs,I A p.t.cases.length kc,O U p.a.n,I SV p.a.sts.length ks,O U p.k,O U p.t.n,.slice AV (zK p (zD p)).1.length kv,.slice AE (zK p (zD p)).2.length ke] 35;have d1:=La nc HG1.out;have B5:=zH (B4.out.trans (nc.mono (by omega)));have cj:=zH nc;have nh:=zH dM;obtain⟨x0,x1,x2,x3,x4,x5,x6,x7,x8,x9⟩:=zN b5;have hfv:¬((8192:Int)<((zK p (zD p)).1.length:Int)):=by have:=sX.out;omega
 clear dM nc b5;go_simp;rename_i mZ;refine mZ _ _ ?_;clear mZ;refine L8 rfl fun K5 cM=>?_
 go_simp;refine cM _ _ ?_;refine L8 rfl fun K5 cM=>?_
 go_simp;rw[nh.out];refine cM _ _ ?_;have y0:=zh d1 0 rfl;have f0:=zi d1 0;have y1:=zh d1 1 rfl;have f1:=zi d1 1;have y2:=zh d1 2 rfl;have f2:=zi d1 2;have y3:=zh d1 3 rfl;have f3:=zi d1 3;have y4:=zh d1 4 rfl;have f4:=zi d1 4;have y5:=zh d1 5 rfl;have f5:=zi d1 5;have y6:=zh d1 6 rfl;have f6:=zi d1 6;have y7:=zh d1 7 rfl;have f7:=zi d1 7;have y8:=zh d1 8 rfl;have f8:=zi d1 8;have y9:=zh d1 9 rfl;have f9:=zi d1 9;obtain⟨k1,k2,k3⟩:=xX (O U p.t.n) (O U p.t.ins) (O U p.t.outs) (I A p.t.cases.length kc) (O U p.a.n) (I SV p.a.sts.length ks) (O U p.k) (O U p.t.n) (.slice AV (zK p (zD p)).1.length kv) (.slice AE (zK p (zD p)).2.length ke) d1 B5.out (by omega:w.heap.size<=w.heap.size+1);obtain⟨WF,ft⟩:=Ki (((((((((((W5.setCell ⟨w.heap.size+1,0,Z⟩ (O U p.t.n)).setCell ⟨w.heap.size+1,1,Z⟩ (O U p.t.ins)).setCell ⟨w.heap.size+1,2,Z⟩ (O U p.t.outs)).setCell ⟨w.heap.size+1,3,Z⟩ (I A p.t.cases.length kc)).setCell ⟨w.heap.size+1,4,Z⟩ (O U p.a.n)).setCell ⟨w.heap.size+1,5,Z⟩ (I SV p.a.sts.length ks)).setCell ⟨w.heap.size+1,6,Z⟩ (O U p.k)).setCell ⟨w.heap.size+1,7,Z⟩ (O U p.t.n)).setCell ⟨w.heap.size+1,8,Z⟩ (.slice AV (zK p (zD p)).1.length kv)).setCell ⟨w.heap.size+1,9,Z⟩ (.slice AE (zK p (zD p)).2.length ke)));rw[ft] at k1 k2 k3;have Cu:=zH k1;have sd:=zH k2;have Ep:=zH k3;have ru:=zH ft;clear k1 k2 k3 ft;clear d1;go_wp2_with fail;rw[ru.out]
 obtain⟨z0,z1,z2,z3,z4,z5,z6,z7,z8,z9⟩:=zN Cu.out;refine LG (v:=.tuple #[Ak #[O U p.t.n,O U p.t.ins,O U p.t.outs,I A p.t.cases.length kc,O U p.a.n,I SV p.a.sts.length ks,O U p.k,O U p.t.n,.slice AV (zK p (zD p)).1.length kv,.slice AE (zK p (zD p)).2.length ke],O U 0]) (by simp[results,results39,go_sem,z0,z1,z2,z3,z4,z5,z6,z7,z8,z9]) rfl ?_;rw[hR.out];have eJ:∀k,k≠w.heap.size+1->k<w4.heap.size->WF.heap[k]?=w4.heap[k]?:=fun k a b=>(Ep.out.2.1 k a).trans (cj.out.block k b)
 have hz:w4.heap.size<=WF.heap.size:=by have:=cj.out.size;have:=Ep.out.2.2;omega
 have hV5:=KS.out.of_same fun k hk=>eJ k (by have:=(KS.out.lt' k hk).1;omega) (KS.out.lt' k hk).2
 have hX5:=KP.out.keep yc (w':=WF) ⟨hz,fun k hs hl=>eJ k (by omega) hl⟩ fun k hk=>eJ k (by have:=(KP.out.lt k hk).1;omega) (KP.out.lt k hk).2
 refine fun _=>⟨kc,ks,AV,kv,AE,ke,rfl,fun W hl hW hc hs=>?_,sd.out⟩
 obtain⟨AV',kv',eV,hT⟩:=(hV5.of_same (w':=W) fun k hk=>hW k (by have:=(hV5.lt' k hk).1;omega) (hV5.lt' k hk).2).form (by have:=sX.out;omega)
 cases eV
 obtain⟨AE',ke',eE,_,_,MU,hXC⟩:=uf (hX5.keep yc (w':=W) ⟨hl,fun k hs hl=>hW k (by omega) hl⟩ fun k hk=>hW k (by have:=(hX5.lt k hk).1;omega) (hX5.lt k hk).2)
 cases eE
 exact⟨⟨hc,hs,hT.rows,MU⟩,hXC⟩
theorem rbuildG_any(p:Pb)(hf:xz p)(A:Bb)(kc:Nat)(SV:Bb)(ks:Nat)(w:Ba)(hA:CAt w w.heap.size A p.t.cases)(hS:SAt w w.heap.size SV p.a.sts) :
  As Aq 39 #[.agg (p.vs A kc SV ks)] w (RetSysG (yj p) A SV w):=by
 refine(Jf p hf A kc SV ks w hA hS).mono fun e w' h h0=>?_
 obtain⟨kc,ks,AV,kv,AX,kx,h1,h2,h3⟩:=h h0;exact⟨kc,ks,AV,kv,AX,kx,h1,fun W a b c d=>(h2 W a b c d).1,h3⟩
theorem XP(w:Ba):As Aq 16 #[] w fun e w'=>∃A kc SV ks AV kv AX kx,e=Am (.agg (yA.vs_ A kc SV ks AV kv AX kx))/\SyAt w' w'.heap.size A SV AV AX yA/\Ar w.heap.size w w':=by
 obtain⟨a0,S6,e0,tg,ig⟩:=zk w #[O U 0,O U 0,O U 0,I Z 0 0,O U 0,I Z 0 0,O U 0,O U 0,I Z 0 0,I Z 0 0] 35;obtain⟨a1,fK,e1,aK,aq⟩:=zk a0 #[O U 0,O U 0] 3;obtain⟨a2,iK,e2,eQ,ag⟩:=zk a1 #[O U 0,O U 0] 3;obtain⟨a3,S0,e3,eK,aj⟩:=zk a2 #[I (J ⟨w.heap.size+1+1,0,Z⟩) 2 2] 36;obtain⟨a4,DT,e4,oA,aG⟩:=zk a3 #[O U 0,O U 1] 3;obtain⟨a5,ha5,e5,lL,aA⟩:=zk a4 #[O U 0,O U 0] 3;obtain⟨a6,Wq,e6,lY,cX⟩:=zk a5 #[I (J ⟨w.heap.size+1+1+1+1+1,0,Z⟩) 2 2] 36;obtain⟨a7,ha7,e7,nt,fT⟩:=zk a6 #[I (J ⟨w.heap.size+1,0,Z⟩) 2 2,I (J ⟨w.heap.size+1+1+1,0,Z⟩) 1 1,I Z 0 0,I (J ⟨w.heap.size+1+1+1+1,0,Z⟩) 2 2,I (J ⟨w.heap.size+1+1+1+1+1+1,0,Z⟩) 1 1,I Z 0 0] 87;obtain⟨a8,ha8,e8,CJ,dQ⟩:=zk a7 #[O U 2,O U 2,O U 1,I (J ⟨w.heap.size+1+1+1+1+1+1+1,0,Z⟩) 2 2] 24;obtain⟨a9,ha9,e9,tO,dJ⟩:=zk a8 #[O U 2,O U 1,O U 3,O U 0,O U 0,O U 0,O U 0,O U 0,O U 2,O U 3,O U 3,O U 0,O U 0,O U 0,O U 0,O U 0] 94;obtain⟨a10,S5,Bd,oO,bn⟩:=zk a9 #[I (J ⟨w.heap.size+1+1+1+1+1+1+1+1+1,0,Z⟩) 2 2] 95;obtain⟨oI,S2,fL,tP,cF⟩:=zk a10 #[O U 2,I (J ⟨w.heap.size+1+1+1+1+1+1+1+1+1+1,0,Z⟩) 1 1] 27;rw[tg] at e1 aK;rw[aK] at e2 eQ;rw[eQ] at e3 eK
 rw[eK] at e4 oA;rw[oA] at e5 lL;rw[lL] at e6 lY;rw[lY] at e7 nt;rw[nt] at e8 CJ;rw[CJ] at e9 tO;rw[tO] at Bd oO;rw[oO] at fL tP;have D0:Aw (oI.heap[w.heap.size]?=J (Ai #[O U 0,O U 0,O U 0,I Z 0 0,O U 0,I Z 0 0,O U 0,O U 0,I Z 0 0,I Z 0 0] 35 (0,0))):=Lb cF (by omega) (Lb bn (by omega) (Lb dJ (by omega) (Lb dQ (by omega) (Lb fT (by omega) (Lb cX (by omega) (Lb aA (by omega) (Lb aG (by omega) (Lb aj (by omega) (Lb ag (by omega) (Lb aq (by omega) (e0)))))))))));have D1:Aw (oI.heap[w.heap.size+1]?=J (Ai #[O U 0,O U 0] 3 (0,0))):=Lb cF (by omega) (Lb bn (by omega) (Lb dJ (by omega) (Lb dQ (by omega) (Lb fT (by omega) (Lb cX (by omega) (Lb aA (by omega) (Lb aG (by omega) (Lb aj (by omega) (Lb ag (by omega) (e1))))))))))
 have D2:Aw (oI.heap[w.heap.size+1+1]?=J (Ai #[O U 0,O U 0] 3 (0,0))):=Lb cF (by omega) (Lb bn (by omega) (Lb dJ (by omega) (Lb dQ (by omega) (Lb fT (by omega) (Lb cX (by omega) (Lb aA (by omega) (Lb aG (by omega) (Lb aj (by omega) (e2)))))))));have D3:Aw (oI.heap[w.heap.size+1+1+1]?=J (Ai #[I (J ⟨w.heap.size+1+1,0,Z⟩) 2 2] 36 (0,0))):=Lb cF (by omega) (Lb bn (by omega) (Lb dJ (by omega) (Lb dQ (by omega) (Lb fT (by omega) (Lb cX (by omega) (Lb aA (by omega) (Lb aG (by omega) (e3))))))));have D4:Aw (oI.heap[w.heap.size+1+1+1+1]?=J (Ai #[O U 0,O U 1] 3 (0,0))):=Lb cF (by omega) (Lb bn (by omega) (Lb dJ (by omega) (Lb dQ (by omega) (Lb fT (by omega) (Lb cX (by omega) (Lb aA (by omega) (e4)))))));have D5:Aw (oI.heap[w.heap.size+1+1+1+1+1]?=J (Ai #[O U 0,O U 0] 3 (0,0))):=Lb cF (by omega) (Lb bn (by omega) (Lb dJ (by omega) (Lb dQ (by omega) (Lb fT (by omega) (Lb cX (by omega) (e5))))))
 have D6:Aw (oI.heap[w.heap.size+1+1+1+1+1+1]?=J (Ai #[I (J ⟨w.heap.size+1+1+1+1+1,0,Z⟩) 2 2] 36 (0,0))):=Lb cF (by omega) (Lb bn (by omega) (Lb dJ (by omega) (Lb dQ (by omega) (Lb fT (by omega) (e6)))));have D7:Aw (oI.heap[w.heap.size+1+1+1+1+1+1+1]?=J (Ai #[I (J ⟨w.heap.size+1,0,Z⟩) 2 2,I (J ⟨w.heap.size+1+1+1,0,Z⟩) 1 1,I Z 0 0,I (J ⟨w.heap.size+1+1+1+1,0,Z⟩) 2 2,I (J ⟨w.heap.size+1+1+1+1+1+1,0,Z⟩) 1 1,I Z 0 0] 87 (0,0))):=Lb cF (by omega) (Lb bn (by omega) (Lb dJ (by omega) (Lb dQ (by omega) (e7))));have D8:Aw (oI.heap[w.heap.size+1+1+1+1+1+1+1+1]?=J (Ai #[O U 2,O U 2,O U 1,I (J ⟨w.heap.size+1+1+1+1+1+1+1,0,Z⟩) 2 2] 24 (0,0))):=Lb cF (by omega) (Lb bn (by omega) (Lb dJ (by omega) (e8)));have D9:Aw (oI.heap[w.heap.size+1+1+1+1+1+1+1+1+1]?=J (Ai #[O U 2,O U 1,O U 3,O U 0,O U 0,O U 0,O U 0,O U 0,O U 2,O U 3,O U 3,O U 0,O U 0,O U 0,O U 0,O U 0] 94 (0,0))):=Lb cF (by omega) (Lb bn (by omega) (e9))
 have D10:Aw (oI.heap[w.heap.size+1+1+1+1+1+1+1+1+1+1]?=J (Ai #[I (J ⟨w.heap.size+1+1+1+1+1+1+1+1+1,0,Z⟩) 2 2] 95 (0,0))):=Lb cF (by omega) (Bd);have D11:Aw (oI.heap[w.heap.size+1+1+1+1+1+1+1+1+1+1+1]?=J (Ai #[O U 2,I (J ⟨w.heap.size+1+1+1+1+1+1+1+1+1+1,0,Z⟩) 1 1] 27 (0,0))):=fL;have HB:Aw (Ar w.heap.size w oI):=(((((((((((ig).trans (aq.mono (by omega))).trans (ag.mono (by omega))).trans (aj.mono (by omega))).trans (aG.mono (by omega))).trans (aA.mono (by omega))).trans (cX.mono (by omega))).trans (fT.mono (by omega))).trans (dQ.mono (by omega))).trans (dJ.mono (by omega))).trans (bn.mono (by omega))).trans (cF.mono (by omega));have HA0:=zH S6;have HA1:=zH fK;have Et:=zH iK;have lU:=zH S0;have Mn:=zH DT;have HA5:=zH ha5;have HA6:=zH Wq;have HA7:=zH ha7;have HA8:=zH ha8;have HA9:=zH ha9;have HA10:=zH S5;have HA11:=zH S2;have HS:=zH tP;clear S6 e0 ig fK e1 aq iK e2 ag S0 e3 aj DT e4 aG ha5 e5 aA Wq e6 cX ha7 e7 fT ha8 e8 dQ ha9 e9 dJ S5 Bd bn S2 fL cF tg aK eQ eK oA lL lY nt CJ tO oO tP;go_enter func16,ntmps16;go_upto_region 3 with fail
 rw[HA0.out,HA1.out,Et.out,lU.out,Mn.out,HA5.out,HA6.out,HA7.out,HA8.out,HA9.out,HA10.out,HA11.out]
 have UV:Aw (∀X:Ba,oI.heap.size<=X.heap.size->(∀k,w.heap.size<k->k<oI.heap.size->X.heap[k]?=oI.heap[k]?)->CAt X X.heap.size (J ⟨w.heap.size+1+1+1+1+1+1+1,0,Z⟩) XQ.t.cases/\SAt X X.heap.size (J ⟨w.heap.size+1+1+1+1+1+1+1+1+1+1,0,Z⟩) XQ.a.sts):=fun X hl hX=>by
  have E1:=(hX _ (by omega) (zj D1.out)).trans D1.out;have E2:=(hX _ (by omega) (zj D2.out)).trans D2.out;have E3:=(hX _ (by omega) (zj D3.out)).trans D3.out;have E4:=(hX _ (by omega) (zj D4.out)).trans D4.out;have E5:=(hX _ (by omega) (zj D5.out)).trans D5.out;have E6:=(hX _ (by omega) (zj D6.out)).trans D6.out;have E7:=(hX _ (by omega) (zj D7.out)).trans D7.out;have E9:=(hX _ (by omega) (zj D9.out)).trans D9.out;have E10:=(hX _ (by omega) (zj D10.out)).trans D10.out;have i0:IAtS (fun _=>True) X _ [0,0]:=wM trivial E1;have i1:IAtS (fun _=>True) X _ [0,0]:=wM trivial E2;have i3:IAtS (fun _=>True) X _ [0,1]:=wM trivial E4;have i4:IAtS (fun _=>True) X _ [0,0]:=wM trivial E5;have l2:=lats_one (v:=[0,0]) (S:=fun _=>True) trivial E3 i1;have l5:=lats_one (v:=[0,0]) (S:=fun _=>True) trivial E6 i4
  have hCA:CAt X X.heap.size (J ⟨w.heap.size+1+1+1+1+1+1+1,0,Z⟩) XQ.t.cases:=fun _=>⟨_,0,rfl,zj E7,fun i hi=>by
   have h2:i=0\/i=1:=by have:i<2:=hi;omega
   rcases h2 with rfl | rfl
   . exact⟨_,_,_,zh E7 0 rfl,zh E7 1 rfl,zh E7 2 rfl,⟨_,2,rfl,i0.iat⟩,⟨_,1,rfl,l2.lat⟩,⟨Z,0,rfl,LAt.nil _ _ _⟩⟩
   . exact⟨_,_,_,zh E7 3 rfl,zh E7 4 rfl,zh E7 5 rfl,⟨_,2,rfl,i3.iat⟩,⟨_,1,rfl,l5.lat⟩,⟨Z,0,rfl,LAt.nil _ _ _⟩⟩⟩
  have MZ:SAt X X.heap.size (J ⟨w.heap.size+1+1+1+1+1+1+1+1+1+1,0,Z⟩) XQ.a.sts:=fun _=>⟨_,0,rfl,zj E10,fun i hi=>by
   obtain rfl:i=0:=by have:i<1:=hi;omega
   refine⟨_,2,zh E10 0 rfl,fun _=>⟨_,0,rfl,zj E9,fun i hi k u hu=>?_⟩⟩;have tl:i=0\/i=1:=by have:i<2:=hi;omega
   have hk8:k<8:=by
    rcases tl with rfl | rfl
    . exact(Lu.1 hu).1
    . exact(Lu.1 hu).1
   rw[<-hu];have h8:k=0\/k=1\/k=2\/k=3\/k=4\/k=5\/k=6\/k=7:=by omega
   rcases tl with rfl | rfl
   . rcases h8 with rfl | rfl | rfl | rfl | rfl | rfl | rfl | rfl
     all_goals exact zh E9 _ rfl
   . rcases h8 with rfl | rfl | rfl | rfl | rfl | rfl | rfl | rfl
     all_goals exact zh E9 _ rfl⟩
  exact⟨hCA,MZ⟩
 obtain⟨hCA,MZ⟩:=UV.out oI (Le _) (fun _ _ _=>rfl);have aT:=rbuildG_any XQ JD _ 2 _ 1 oI hCA MZ;have HR:Aw (yj XQ=(yA,0)):=Prod.ext rfl ex_ok;rw[HR.out] at aT;have rQ:XQ.vs (J ⟨w.heap.size+1+1+1+1+1+1+1,0,Z⟩) 2 (J ⟨w.heap.size+1+1+1+1+1+1+1+1+1+1,0,Z⟩) 1=#[O U 2,O U 2,O U 1,I (J ⟨w.heap.size+1+1+1+1+1+1+1,0,Z⟩) 2 2,O U 2,I (J ⟨w.heap.size+1+1+1+1+1+1+1+1+1+1,0,Z⟩) 1 1,O U 1]:=rfl;rw[rQ] at aT;have HBD:=zH aT;obtain⟨x0,x1,x2,x3,_⟩:=Kb D8.out;obtain⟨y0,y1,_⟩:=Ka D11.out;go_wp2_with fail;refine HBD.out.mono ?_;rintro e w9 hG;obtain⟨Dm,Dl,AV,kv,AX,kx,rfl,Te,dJ⟩:=hG rfl;dsimp only at Te ⊢;obtain⟨T,hT⟩:=Ki yA;rw[hT] at Te;have HT:=zH hT;have ip:=zH Te;have Ho:=zH (Lc HB.out dJ);have bK:=zH (La dJ D0.out);rw[hT];unfold Sy.vs_;have U7:=zH dJ;go_upto_region 4 with fail
 obtain⟨W10,Ta,TH,oO,bn⟩:=zk w9 #[O U T.p.t.n,O U T.p.t.ins,O U T.p.t.outs,I (J ⟨w.heap.size+1+1+1+1+1+1+1,0,Z⟩) T.p.t.cases.length Dm,O U T.p.a.n,I (J ⟨w.heap.size+1+1+1+1+1+1+1+1+1+1,0,Z⟩) T.p.a.sts.length Dl,O U T.p.k,O U T.n,I AV T.vs.length kv,I AX T.xs.length kx] 35;rw[Ta];have hz:=zj bK.out;have lJ:=zH (Lb bn hz bK.out);have td:=zH (Lc Ho.out bn);have Hd:Aw (∀k,k<w9.heap.size->W10.heap[k]?=w9.heap[k]?):=fun k hk=>bn.block k hk
 obtain⟨q0,q1,q2,q3,q4,q5,q6,q7,q8,q9⟩:=zN TH;obtain⟨r0,r1,r2,r3,r4,r5,r6,r7,r8,r9⟩:=zN lJ.out;have g0:=zi lJ.out 0;have g1:=zi lJ.out 1;have g2:=zi lJ.out 2;have g3:=zi lJ.out 3;have g4:=zi lJ.out 4;have g5:=zi lJ.out 5;have g6:=zi lJ.out 6;have g7:=zi lJ.out 7;have g8:=zi lJ.out 8;have g9:=zi lJ.out 9;clear Ta TH bn bK;go_wp2_with fail;obtain⟨WF,ft,f1,f2,f3,f4⟩:=set10 lJ.out (O U T.p.t.n) (O U T.p.t.ins) (O U T.p.t.outs) (I (J ⟨w.heap.size+1+1+1+1+1+1+1,0,Z⟩) T.p.t.cases.length Dm) (O U T.p.a.n) (I (J ⟨w.heap.size+1+1+1+1+1+1+1+1+1+1,0,Z⟩) T.p.a.sts.length Dl) (O U T.p.k) (O U T.n) (I AV T.vs.length kv) (I AX T.xs.length kx);rw[ft]
 (try simp only[Exit.inBlock,Exit.then])
 refine LG (results_cell_row (P:=Aq) rfl _ _ w.heap.size 35 _ (0,0) _ rfl f1 PH rfl (by kernel_rfl)) rfl ?_;have hAl:=U7.out.size;have pD:=HS.out;refine⟨_,Dm,_,Dl,AV,kv,AX,⟨kx,by first | rfl | (rw[HT.out];rfl)⟩,?_,?_⟩
 . have hag:∀k,w.heap.size<k->k<w9.heap.size->WF.heap[k]?=w9.heap[k]?:=fun k h1 h2=>(f2 k (by omega)).trans (Hd.out k h2)
   have pR:w9.heap.size<=WF.heap.size:=by have:=f4;omega
   obtain⟨hc,hs⟩:=UV.out WF (by omega) fun k h1 h2=>(hag k h1 (by omega)).trans (U7.out.block k h2)
   try rw[HT.out]
   refine ip.out WF pR (fun k h1 h2=>hag k (by omega) h2) ?_ ?_
   . rw[<-HT.out];exact hc
   rw[<-HT.out];exact hs
 exact td.out.trans (f3 _ (Le _))
end
section
open Go.RowKit
attribute [local go_sem] Oper.semAt_some
theorem vz{w:Ba}{g:Nat}{xs:List Int}{t:TypeId}(h:w.heap[g]?=J (Ai ((xs.map (O U)).toArray) t (0,0))):IAt w w.heap.size (J ⟨g,0,Z⟩) xs:=fun _=>
 ⟨g,0,rfl,zj h,fun i hi=>by rw[LO];exact zh h i (by simp[hi])⟩
end
section
open Go.RowKit Go.Shelf
attribute [local go_sem] Oper.semAt_some
theorem kLevels_any(s:Sy)(hs:LowS s)(hf:xz s.p)(g:Int)(set:List Bool)(A SV AV AX AB:Bb)(kc ks kv kx kb:Nat)(f':set.length<=1000000)(w:Ba)(hS:SyAt w w.heap.size A SV AV AX s)(ce:BAt w w.heap.size AB set) :
  As Aq 22 #[.agg (s.vs_ A kc SV ks AV kv AX kx),O U g,I AB set.length kb] w (RetLv s g set w):=by
 obtain⟨w1,ab,d0,aK,hB⟩:=zk w (s.vs_ A kc SV ks AV kv AX kx) 35;have HO:=zH (uN s hs hf g set A SV AV AX AB kc ks kv kx kb f' w1 (hS.up hB));have mt:Aw (∀X,Ar w1.heap.size w1 X->BAt X X.heap.size AB set):=fun X hX=>(((ce.keep hB).more hB.size).keep hX).more hX.size
 have HC:Aw (yi s g set=0->∃(G M:Nat),g=(G:Int)/\M<=ptn s/\qc (ptn s) (evG s g) set (M+1)=qc (ptn s) (evG s g) set M/\(∀m,m<M->qc (ptn s) (evG s g) set (m+1)≠qc (ptn s) (evG s g) set m)/\set.length=ptn s/\1<=ptn s/\ptn s<=700/\(∀m,(qc (ptn s) (evG s g) set m).length=ptn s) /\
   ∀(bw:Nat) (x:List Bool) (hx:x.length=ptn s) (AQ:Bb) (cQ:Nat) (X:Ba),KwAt X X.heap.size bw (ptn s) s.n.toNat (yB s)->BAt X X.heap.size AQ x->As Aq 42 #[Al (J ⟨bw,0,Z⟩),O U (G:Int),I AQ (ptn s) cQ] X fun e w'=>∃g':Nat,e=Am (I (J ⟨g',0,Z⟩) (ptn s) (ptn s))/\X.heap.size<=g'/\BRow w' g' (evG s g x)/\Ar X.heap.size X w'):=fun h=>by
  obtain⟨G,hg,hG,hN,cU,oC,hl,i9⟩:=jm hf h;obtain⟨M,m1,m2,m3⟩:=ZZ (F:=qc (ptn s) (evL (ptn s) (yB s) (psG s g)) set) (YX hl) (levS_falls hl);refine⟨G,M,hg,m1,m2,m3,hl,cU,oC,YX hl,fun bw x hx AQ cQ X hK hB=>?_⟩;unfold evG;rw[i9];have:=ko bw (ptn s) s.n.toNat (yB s) cU (by omega) hN G hG AQ cQ x hx X hK hB;unfold RetB at this;rwa[xR] at this
 have dH:Aw (∀x,(evG s g x).length=ptn s):=fun x=>xR _ _ _ _
 unfold RetOp at HO;unfold RetLv;obtain⟨E,hE⟩:=Ki (yi s g set);rw[hE] at HO HC ⊢;obtain⟨n,hn⟩:=Ki (ptn s);rw[hn] at HO HC dH ⊢;obtain⟨EV,hEV⟩:=Ki (evG s g);rw[hEV] at HC dH ⊢;have dq:Aw (∀m,kj n (qc n EV set m) (EV (qc n EV set m))=qc n EV set (m+1)):=fun _=>rfl
 have oZ:Aw (∀m,(qG n EV set m).length=n):=fun m=>outS_len _ _ _ m
 have HON:Aw (∀k j,j<n->(qG n EV set (k+1)).getD j 0=if (qc n EV set k).getD j AC then (k:Int) else (qG n EV set k).getD j 0):=fun k j h=>by
  rw[qG,xL (by simpa using h),LS,Po]
 have HOR:Aw (∀k j,j<n->(Jk n EV set k).getD j 0=if (qc n EV set k).getD j AC then (n:Int) else (qG n EV set k).getD j 0):=fun k j h=>by
  unfold Jk;rw[xL (by simpa using h),LS,Po]
 have HORL:Aw (∀k,(Jk n EV set k).length=n):=fun k=>by show _=_;simp[Jk]
 have HL0:Aw (qc n EV set 0=set):=rfl;have Hi:Aw (qG n EV set 0=List.replicate n (-1)):=rfl;unfold Sy.vs_ at ab d0 HO ⊢;have ai:=zH ab;have HB:=zH hB;clear ab d0 hB hS ce hs hf hE hn hEV;go_enter func22,ntmps22;go_wp2_with fail;rw[ai.out];go_wp2_with fail;refine HO.out.mono ?_;rintro e w2 ⟨ag,dX⟩;have aw:=zH ag;rcases dX with ⟨h0,rfl⟩ | ⟨rfl,bw,rfl,hK⟩
 . have e0:(E != 0)=AA:=by simpa using h0
   go_wp2_with fail
   go_ret2
   exact⟨Lc HB.out aw.out,.inl ⟨h0,rfl⟩⟩
 obtain⟨G,M,rfl,m1,m2,m3,hl,cU,oC,Tr,hc⟩:=HC.out rfl;have sg:=zH (hc bw);have HM:=zH (And.intro m1 (And.intro m2 m3));have ic:=zH Tr;have HK:=zH hK;have HSL:=zH hl;have z10:=hK.size;have hlK:=hK.lt;have aP:=fun (X:Ba) (hX:BAt X X.heap.size AB set)=>clone_kBl AB n kb (set.map Aj) X (by rw[LJ,hl,NW]) (by rw[<-hl];exact hX.raw) (fun u hu=>by obtain⟨x,_,rfl⟩:=LZ.1 hu;rfl) (by omega)
 have mL:=zH aP;obtain⟨wa,dU,da,fG,ik⟩:=zk w2 #[O U (-1)] 3;have HRP:=zH (repeatN_any n w2.heap.size cU (by omega) (-1) wa da);have Nx:=zH dU;have HBa:=zH ik;rw[hl];clear HC hc m1 m2 m3 hK hl Tr aP dU da ik;go_wp2_with fail;rw[Nx.out];refine HRP.out.mono ?_;rintro e w3 ⟨fu,rfl,u',mA,aj⟩;have IC:w2.heap.size<=fu:=by omega
 have ir:=zH mA;have aJ:=zH (HBa.out.trans (aj.mono (by omega)));have sr:=aJ.out.size;have HC4:=zH (mL.out w3 (mt.out w3 (Lc aw.out aJ.out)));go_wp2_with fail;refine HC4.out.mono ?_;rintro e w4 ⟨v4,rfl,sw,aG⟩;obtain⟨A4,c4,rfl,_,_,_⟩:=sw.form;have U6:Aw (BAt w4 w4.heap.size A4 (qc n EV set 0)):=by rw[HL0.out];exact BAt.of_own sw HSL.out (fun _ _=>rfl) (Le _)
 have pJ:Aw (RowAt w4 fu (qG n EV set 0)):=by rw[Hi.out];exact Lb aG ir.out.lt ir.out
 have dT:=zH (aJ.out.trans (aG.mono sr));obtain⟨LV,hLV⟩:=Ki (qc n EV set);rw[hLV] at U6 ic dq HON HOR HM;go_wp2_with fail
 go_loopw [11,12] (fun o i wr=>∃(k:Nat) (AQ:Bb) (cQ:Nat),k<=M/\i=O U (k:Int)/\o=I AQ n cQ/\Aw (BAt wr wr.heap.size AQ (LV k))/\Aw (RowAt wr fu (qG n EV set k))/\Aw (Ar w2.heap.size w2 wr)) (fun _ i _=>M+1-(Au i).toNat)
 case atStart=>exact⟨0,A4,c4,by omega,rfl,rfl,U6,pJ,dT⟩
 obtain⟨k,AQ,cQ,hk,rfl,rfl,IM,Dz,aQ⟩:=hrel;have Dv:=aQ.out.size;have HC:=zH (sg.out (LV k) (ic.out k) AQ cQ wr ((HK.out.keep aQ.out).more Dv) IM.out);go_wp2_with fail;refine HC.out.mono ?_;rintro e w5 ⟨g5,rfl,dv,fO,aA⟩;have U5:=zH ((IM.out.keep aA).more aA.size);have lE:Aw (RowAt w5 fu (qG n EV set k)):=Lb aA Dz.out.lt Dz.out;have cj:=zH (aQ.out.trans (aA.mono Dv));have Wm:=gM AQ (J ⟨g5,0,Z⟩) cQ n n (by omega) (LV k) (EV (LV k)) (ic.out k) (dH.out _) w5 U5.out (fO.at_ fO.lt);unfold RetB at Wm;rw[dq.out,ic.out] at Wm;have UY:=zH Wm;go_wp2_with fail;refine UY.out.mono ?_;rintro e w6 ⟨g6,rfl,iI,pV,cX⟩;have tc:=zH ((U5.out.keep cX).more cX.size);have rB:Aw (RowAt w6 fu (qG n EV set k)):=Lb cX lE.out.lt lE.out;have rz:=zH pV;have fA:=zH (Lc cj.out cX);have hg6n:g6≠fu:=by have:=lE.out.lt;omega
 have iJ:=Yb (J ⟨g6,0,Z⟩) AQ n cQ (LV (k+1)) (LV k) w6 w6.heap.size (Le _) (pV.at_ pV.lt) tc.out (by rw[ic.out];omega) (by rw[ic.out];omega);rw[ic.out,ic.out] at iJ;have tD:=zH iJ;go_wp2_with fail;refine tD.out.mono ?_;rintro e w7 ⟨rfl,q,rfl⟩;have pQ:=zH (fA.out.trans (zP (Ll _ _) q));have U4:Aw (BAt (w6.drewN q) (w6.drewN q).heap.size AQ (LV k)):=tc.out.keep (zP (Ll _ _) q);have Hf:Aw (BRow (w6.drewN q) g6 (LV (k+1))):=rz.out;have sS:Aw (RowAt (w6.drewN q) fu (qG n EV set k)):=rB.out;obtain⟨wN,hwN⟩:=Ki (w6.drewN q);rw[hwN] at pQ U4 Hf sS ⊢;obtain⟨w6,rfl⟩:∃x,x=wN:=⟨_,rfl⟩;have tc:=U4;have rB:=sS;have rz:=Hf;have fA:=pQ;obtain⟨bq,oq,rfl,hbq,zq⟩:=tc.out.at_ 0 (by rw[ic.out];omega);have pb:=zH (row_ne rB.out zq);have z10:=((HK.out.keep fA.out)).size;have hs26:=fA.out.size
 by_cases fh:LV (k+1)=LV k
 · have PW : k = M := by
    refine NL fun bj=>?_
    exact HM.out.2.2 k (by omega) fh
   subst PW;have e0:decide (LV (k+1)=LV k)=AA:=Lm fh;rw[e0];obtain⟨nw,pY⟩:=Ki (Jk n EV set k);have o9:Aw (nw.length=n):=by rw[<-pY];exact HORL.out k
   have o8:Aw (∀j,j<n->nw.getD j 0=if (LV k).getD j AC then (n:Int) else (qG n EV set k).getD j 0):=fun j h=>by
    subst pY;exact HOR.out k j h
   have K8:=zH pY;go_wp2_with fail;obtain⟨wL,rfl⟩:∃x,x=w6:=⟨_,rfl⟩
   go_loopw [53] (fun i wr=>∃j:Nat,j<=n/\i=O U (j:Int)/\Aw (RowAt wr fu (vg nw (qG n EV set k) j))/\Aw (∀z,z≠fu->wr.heap[z]?=wL.heap[z]?)/\Aw (Ar w2.heap.size wL wr)/\wL.heap.size<=wr.heap.size) (fun i _=>n-(Au i).toNat)
   case atStart=>exact⟨0,by omega,rfl,by rw[Qr];exact rB,fun _ _=>rfl,Ll _ _,Le _⟩
   obtain⟨j,hj,rfl,aR,lZ,cV,Ib⟩:=hrel
   by_cases aa:j<n
   . obtain⟨b1,o1,e1,aq,z0⟩:=tc.out.at_ j (by rw[ic.out];exact aa)
     cases e1
     have z0:=(LH (lZ.out _ pb.out)).trans z0;have mS:=o8.out j aa;have cP:j<(qG n EV set k).length:=by rw[oZ.out];exact aa
     have iA:nw.length=(qG n EV set k).length:=by rw[o9.out,oZ.out]
     rw[xL (by rw[iA];exact cP),zt (by rw[ic.out];exact aa),xL cP] at mS;have fa:=wG iA j;have y0:=aR.out.cell j (by rw[fa];exact cP);have f0:=aR.out.froz j;rw[Jv iA cP] at y0;have CP:(0:Int)<=(j:Int):=by omega
     have rN:(j:Int)<(n:Int):=by omega
     obtain⟨x,hx⟩:=Ki ((LV k)[j]'(by rw[ic.out];exact aa));rw[hx] at z0 mS;obtain⟨ol,l7⟩:=Ki ((qG n EV set k)[j]'cP);rw[l7] at mS y0
     cases x with
     | true=>
      rw[Li rfl] at mS;have ck:=aR.out.set j (n:Int);rw[<-mS,YU iA cP,mS] at ck;have iE:=zH ck;have K6:Aw (∀z,z≠fu->(wr.setCell ⟨fu,j,Z⟩ (O U (n:Int))).heap[z]?=wL.heap[z]?):=fun z hz=>(Lh wr ⟨fu,j,Z⟩ _ z hz).trans (lZ.out z hz)
      have dZ:=zH (cV.out.setCell (p:=⟨fu,j,Z⟩) (by show w2.heap.size<=fu;exact IC) (O U (n:Int)));have HSJ:wL.heap.size<=(wr.setCell ⟨fu,j,Z⟩ (O U (n:Int))).heap.size:=by simpa[World.setCell] using Ib
      go_wp2_with fail
      go_roundw
      case rel=>exact⟨j+1,by omega,by go_num,iE,K6,dZ,HSJ⟩
      case measure=>simp[Au];omega
     | false=>
      rw[Lg (by simp)] at mS;have iE:Aw (RowAt wr fu (vg nw (qG n EV set k) (j+1))):=by rw[<-Qs iA cP (by rw[mS,l7])];exact aR
      go_wp2_with fail
      go_roundw
      case rel=>exact⟨j+1,by omega,by go_num,iE,lZ,cV,Ib⟩
      case measure=>simp[Au];omega
   obtain rfl:n=j:=by omega
   have iE:Aw (RowAt wr fu nw):=by have h:=aR.out;rwa[midL_all (by rw[o9.out,oZ.out]) (by rw[oZ.out])] at h
   have rG:=zH (HB.out.trans ((aw.out.trans ((fA.out.trans cV.out).mono aw.out.size)).mono HB.out.size));have ie:w.heap.size<=fu:=by have:=HB.out.size;have:=aw.out.size;omega
   have Ux:Aw (RowAt wr fu (Jk n EV set k)):=by rw[K8.out];exact iE
   go_wp2_with fail
   go_ret2
   exact⟨rG.out,k,fu,rfl,HM.out.2.1,HM.out.2.2,ie,Ux.out⟩
 have PW : k < M := by
  refine NL fun bj=>?_
  have:k=M:=by omega
  subst this;exact fh HM.out.2.1
 have e0:decide (LV (k+1)=LV k)=AC:=Lj fh;rw[e0];obtain⟨mv,In⟩:∃mv:Int,(k:Int)=mv:=⟨_,rfl⟩;obtain⟨nw,pY⟩:=Ki (qG n EV set (k+1));have o9:Aw (nw.length=n):=by rw[<-pY];exact oZ.out (k+1)
 have o8:Aw (∀j,j<n->nw.getD j 0=if (LV k).getD j AC then mv else (qG n EV set k).getD j 0):=fun j h=>by
  subst pY;rw[<-In];exact HON.out k j h
 have K8:=zH pY;have NV:=zH In;rw[In];go_wp2_with fail;obtain⟨wL,rfl⟩:∃x,x=w6:=⟨_,rfl⟩
 go_loopw [53] (fun i wr=>∃j:Nat,j<=n/\i=O U (j:Int)/\Aw (RowAt wr fu (vg nw (qG n EV set k) j))/\Aw (∀z,z≠fu->wr.heap[z]?=wL.heap[z]?)/\Aw (Ar w2.heap.size wL wr)/\wL.heap.size<=wr.heap.size) (fun i _=>n-(Au i).toNat)
 case atStart=>exact⟨0,by omega,rfl,by rw[Qr];exact rB,fun _ _=>rfl,Ll _ _,Le _⟩
 obtain⟨j,hj,rfl,aR,lZ,cV,Ib⟩:=hrel
 by_cases aa:j<n
 . obtain⟨b1,o1,e1,aq,z0⟩:=tc.out.at_ j (by rw[ic.out];exact aa)
   cases e1
   have z0:=(LH (lZ.out _ pb.out)).trans z0;have mS:=o8.out j aa;have cP:j<(qG n EV set k).length:=by rw[oZ.out];exact aa
   have iA:nw.length=(qG n EV set k).length:=by rw[o9.out,oZ.out]
   rw[xL (by rw[iA];exact cP),zt (by rw[ic.out];exact aa),xL cP] at mS;have fa:=wG iA j;have y0:=aR.out.cell j (by rw[fa];exact cP);have f0:=aR.out.froz j;rw[Jv iA cP] at y0;have CP:(0:Int)<=(j:Int):=by omega
   have rN:(j:Int)<(n:Int):=by omega
   obtain⟨x,hx⟩:=Ki ((LV k)[j]'(by rw[ic.out];exact aa));rw[hx] at z0 mS;obtain⟨ol,l7⟩:=Ki ((qG n EV set k)[j]'cP);rw[l7] at mS y0
   cases x with
   | true=>
    rw[Li rfl] at mS;have ck:=aR.out.set j mv;rw[<-mS,YU iA cP,mS] at ck;have iE:=zH ck;have K6:Aw (∀z,z≠fu->(wr.setCell ⟨fu,j,Z⟩ (O U mv)).heap[z]?=wL.heap[z]?):=fun z hz=>(Lh wr ⟨fu,j,Z⟩ _ z hz).trans (lZ.out z hz)
    have dZ:=zH (cV.out.setCell (p:=⟨fu,j,Z⟩) (by show w2.heap.size<=fu;exact IC) (O U mv));have HSJ:wL.heap.size<=(wr.setCell ⟨fu,j,Z⟩ (O U mv)).heap.size:=by simpa[World.setCell] using Ib
    go_wp2_with fail
    go_roundw
    case rel=>exact⟨j+1,by omega,by go_num,iE,K6,dZ,HSJ⟩
    case measure=>simp[Au];omega
   | false=>
    rw[Lg (by simp)] at mS;have iE:Aw (RowAt wr fu (vg nw (qG n EV set k) (j+1))):=by rw[<-Qs iA cP (by rw[mS,l7])];exact aR
    go_wp2_with fail
    go_roundw
    case rel=>exact⟨j+1,by omega,by go_num,iE,lZ,cV,Ib⟩
    case measure=>simp[Au];omega
 obtain rfl:n=j:=by omega
 have iE:Aw (RowAt wr fu nw):=by have h:=aR.out;rwa[midL_all (by rw[o9.out,oZ.out]) (by rw[oZ.out])] at h
 have HR9:Aw (BRow wr g6 (LV (k+1))):=(lZ.out g6 hg6n).trans rz.out;have HBA9:Aw (BAt wr wr.heap.size (J ⟨g6,0,Z⟩) (LV (k+1))):=HR9.out.at_ HR9.out.lt;have HRO9:Aw (RowAt wr fu (qG n EV set (k+1))):=by rw[K8.out];exact iE
 have Ho:=zH (fA.out.trans cV.out);have In:=NV.out;have EI:=HM.out.1;have mO:IntKind.i64.wrap ((k:Int)+1)=(k:Int)+1:=by rw[Ls];omega
 subst In;go_wp2_with fail
 go_roundw
 case rel=>exact⟨k+1,_,_,by omega,by go_num,rfl,HBA9,HRO9,Ho⟩
 simp[Au];omega
theorem only_ok{ls:List Int}{n:Nat}(h:∀x∈ls,0<=x/\x<(n:Int))(k:Nat)(hk:k<ls.length):∃j:Nat,ls[k]=(j:Int)/\j<n:=by
 obtain⟨h1,h2⟩:=h _ (Ld hk);obtain⟨j,hj⟩:=Lp h1;exact⟨j,hj,by omega⟩
theorem vu(ls:List Int)(L:List Bool)(m:Nat)(hm:ls.length=m)(h:∀x∈ls,0<=x/\x<((8:Nat):Int))(hl:ls.length<=1000)(he:ZT 8 ls=L)(A:Bb)(c:Nat)(w:Ba)(hI:IAt w w.heap.size A ls) :
  As Aq 17 #[O U 8,I A m c] w fun e w'=>∃g,e=Am (I (J ⟨g,0,Z⟩) 8 8)/\BAt w' w'.heap.size (J ⟨g,0,Z⟩) L/\Ar w.heap.size w w':=by
 have Ac:=only37_any 8 (by decide) ls hl (only_ok h) A c w hI;unfold RetB at Ac;rw[YP,hm,he] at Ac;exact Ac.mono fun e w' ⟨g,e1,_,h2,h3⟩=>⟨g,e1,h2.at_ h2.lt,h3⟩
theorem gU(L:List Bool)(h8:L.length=8)(A A':Bb)(c c':Nat)(w:Ba)(h:BAt w w.heap.size A L)(h':BAt w w.heap.size A' L) :
  As Aq 11 #[I A 8 c,I A' 8 c'] w fun e w'=>e=Am (Aj AA)/\Ar w.heap.size w w':=by
 have Ac:=Yb A A' c c' L L w w.heap.size (Le _) h h' (by omega) (by omega);rw[h8,show decide (L=L)=AA by simp] at Ac;exact Ac.mono fun e w' ⟨h1,n,h2⟩=>⟨h1,by rw[h2];exact zP (Ll _ _) n⟩
theorem eqi_lit(L:List Int)(h8:L.length=8)(A A':Bb)(c c':Nat)(w:Ba)(h:IAt w w.heap.size A L)(h':IAt w w.heap.size A' L) :
  As Aq 23 #[I A 8 c,I A' 8 c'] w fun e w'=>e=Am (Aj AA)/\Ar w.heap.size w w':=by
 have Ac:=eqI_any A A' c c' L L w w.heap.size h h' (by omega) (by omega);rw[h8,show decide (L=L)=AA by simp] at Ac;exact Ac.mono fun e w' ⟨h1,n,h2⟩=>⟨h1,by rw[h2];exact zP (Ll _ _) n⟩
theorem leaf_at{w:Ba}{g:Nat}(h:w.heap[g]?=J (Ai #[O U 6,O U 0,O U 0,O U 1,O U 0,I Z 0 0] 41 (0,0))):FsAt w w.heap.size 1 (J ⟨g,0,Z⟩) ex7F.args:=fun _=>
 ⟨g,0,rfl,zj h,fun i hi=>by
  have h0:i=0:=by have:ex7F.args.length=1:=rfl;omega
  subst h0
  exact⟨Z,0,fun j v hv=>by simp only[Nat.zero_mul,Nat.zero_add];exact zh h j hv,rfl⟩⟩
theorem kG(w:Ba)(hT:RowTab w):As Aq 8 #[] w fun e w'=>e=Am (Aj AA)/\Ar w.heap.size w w':=by
 go_enter func8,ntmps8;go_wp2_with fail;refine(XP w).mono ?_;rintro e w1 ⟨A,kc,SV,ks,AV,kv,AX,kx,rfl,hS,aq⟩;have C1:=zH (fun (AB:Bb) (kb:Nat) (X:Ba) (h:SyAt X X.heap.size A SV AV AX yA) (hb:BAt X X.heap.size AB yq)=>(by have:=Y1 yA j6 jd 0 yq A SV AV AX AB kc ks kv kx kb (by decide) X h hb;rw[ex7_k0] at this;exact this:As Aq 18 #[.agg (yA.vs_ A kc SV ks AV kv AX kx),O U 0,I AB 8 kb] X fun e w'=>∃A' c',e=Am (.tuple #[I A' 8 c',O U 0])/\BAt w' w'.heap.size A' ex7A/\Ar X.heap.size X w'));have C2:=zH (fun (AB:Bb) (kb:Nat) (X:Ba) (h:SyAt X X.heap.size A SV AV AX yA) (hb:BAt X X.heap.size AB yq)=>(by have:=Y1 yA j6 jd 1 yq A SV AV AX AB kc ks kv kx kb (by decide) X h hb;rw[ex7_k1] at this;exact this:As Aq 18 #[.agg (yA.vs_ A kc SV ks AV kv AX kx),O U 1,I AB 8 kb] X fun e w'=>∃A' c',e=Am (.tuple #[I A' 8 c',O U 0])/\BAt w' w'.heap.size A' yq/\Ar X.heap.size X w'));have C3:=zH (fun (AB:Bb) (kb:Nat) (X:Ba) (h:SyAt X X.heap.size A SV AV AX yA) (hb:BAt X X.heap.size AB yq)=>(by have:=XM yA j6 jd 3 yq A SV AV AX AB kc ks kv kx kb (by decide) X h hb;rw[ex7_ev] at this;exact this:As Aq 19 #[.agg (yA.vs_ A kc SV ks AV kv AX kx),O U 3,I AB 8 kb] X fun e w'=>∃A' c',e=Am (.tuple #[I A' 8 c',O U 0])/\BAt w' w'.heap.size A' ex7A/\Ar X.heap.size X w'))
 have C4:=zH (fun (AB:Bb) (kb:Nat) (X:Ba) (h:SyAt X X.heap.size A SV AV AX yA) (hb:BAt X X.heap.size AB yq)=>(by have:=gO yA j6 jd 3 yq A SV AV AX AB kc ks kv kx kb (by decide) X h hb;rw[ex7_ds] at this;exact this:As Aq 20 #[.agg (yA.vs_ A kc SV ks AV kv AX kx),O U 3,I AB 8 kb] X fun e w'=>∃A' c',e=Am (.tuple #[I A' 8 c',O U 0])/\BAt w' w'.heap.size A' yq/\Ar X.heap.size X w'))
 have C5:=zH (fun (AB:Bb) (kb:Nat) (X:Ba) (h:SyAt X X.heap.size A SV AV AX yA) (hb:BAt X X.heap.size AB yq)=>((kCommon_any yA j6 jd 3 yq A SV AV AX AB kc ks kv kx kb (by decide) X h hb).mono (fun e w' hq=>by
  obtain⟨hb,h | ⟨_,M,gr,rfl,_,h1,h2,_,h3⟩⟩:=hq
  . exact absurd ud.1 h.1
  . obtain⟨rfl,hN⟩:=ex7_co h1 h2
    rw[hN] at h3
    exact⟨gr,by rw[qw.2.2];rfl,h3.at_ h3.lt,hb⟩):As Aq 21 #[.agg (yA.vs_ A kc SV ks AV kv AX kx),O U 3,I AB 8 kb] X fun e w'=>∃gr,e=Am (.tuple #[I (J ⟨gr,0,Z⟩) 8 8,O U 2,O U 0])/\BAt w' w'.heap.size (J ⟨gr,0,Z⟩) ex7N/\Ar X.heap.size X w'))
 have C6:=zH (fun (AB:Bb) (kb:Nat) (X:Ba) (h:SyAt X X.heap.size A SV AV AX yA) (hb:BAt X X.heap.size AB yq)=>((kLevels_any yA j6 jd 3 yq A SV AV AX AB kc ks kv kx kb (by decide) X h hb).mono (fun e w' hq=>by
  obtain⟨hb,h | ⟨_,M,gr,rfl,h1,h2,_,h3⟩⟩:=hq
  . exact absurd ud.1 h.1
  . have hN:=ex7_le h1 h2
    rw[hN] at h3
    exact⟨gr,by rw[qw.2.2],h3.iat,hb⟩):As Aq 22 #[.agg (yA.vs_ A kc SV ks AV kv AX kx),O U 3,I AB 8 kb] X fun e w'=>∃gr,e=Am (.tuple #[I (J ⟨gr,0,Z⟩) 8 8,O U 0])/\IAt w' w'.heap.size (J ⟨gr,0,Z⟩) ex7L/\Ar X.heap.size X w'))
 have C7:=zH (fun (AF:Bb) (X:Ba) (hT:RowTab X) (h:SyAt X X.heap.size A SV AV AX yA) (hA:FsAt X X.heap.size 1 AF ex7F.args)=>(by have:=QC yA j6 jd [] 1 ex7F (by decide) A SV AV AX AF Z kc ks kv kx 1 0 X hT h (fun h0=>absurd h0 (by simp)) hA;rw[ex7_eva] at this;exact this:As Aq 9 #[.agg (yA.vs_ A kc SV ks AV kv AX kx),Ak #[I Z 0 0],Ak #[O U 13,O U 0,O U 0,O U 0,O U 3,I AF 1 1]] X fun e w'=>∃A' c',e=Am (.tuple #[I A' 8 c',O U 0])/\BAt w' w'.heap.size A' JG/\Ar X.heap.size X w'));obtain⟨T,AN⟩:=Ki yA;rw[AN] at hS C1 C2 C3 C4 C5 C6 C7 ⊢;unfold Sy.vs_ at C1 C2 C3 C4 C5 C6 C7 ⊢;clear AN;go_upto_region 2 with fail
 obtain⟨w2,bZ,d2,eQ,ag⟩:=zk w1 #[O U T.p.t.n,O U T.p.t.ins,O U T.p.t.outs,I A T.p.t.cases.length kc,O U T.p.a.n,I SV T.p.a.sts.length ks,O U T.p.k,O U T.n,I AV T.vs.length kv,I AX T.xs.length kx] 35;rw[bZ];have SY2:=zH (hS.up ag);have DB2:=zH d2;have TB2:=zH ((hT.keep aq hT.1).keep ag (LF hT.1 aq.size));have aw:=zH (Lc aq ag);clear bZ d2 eQ ag hS aq hT;go_wp2_with fail;obtain⟨w3,dV,d3,eK,aj⟩:=zk w2 #[O U 4,O U 5,O U 6,O U 7] 3;rw[dV];have DX3:=zH d3;have SY3:=zH (SY2.out.up aj);have DB3:=zH (La aj DB2.out);have TB3:=zH (TB2.out.keep aj TB2.out.1);have aJ:=zH (Lc aw.out aj);clear aj SY2 DB2 TB2 aw;clear dV d3 eK;refine(vu [4,5,6,7] yq 4 rfl (by decide) (by decide) (by decide) (J ⟨w2.heap.size,0,Z⟩) 4 w3 (vz DX3.out)).mono ?_;rintro e w4 ⟨g4,rfl,B4,aG⟩;clear DX3;have fz:=zH B4;clear B4;have SY4:=zH (SY3.out.up aG);have DB4:=zH (La aG DB3.out);have TB4:=zH (TB3.out.keep aG TB3.out.1);have dT:=zH (Lc aJ.out aG);clear aG SY3 DB3 TB3 aJ;have KO:=fz;clear fz;obtain⟨p0,p1,p2,p3,p4,p5,p6,p7,p8,p9⟩:=zN (DB4.out);go_wp2_with fail;refine(C1.out (J ⟨g4,0,Z⟩) 8 w4 SY4.out KO.out).mono ?_;rintro e w5 ⟨ARa,cRa,rfl,B5,aA⟩;have fz:=zH B5;clear B5 p0 p1 p2 p3 p4 p5 p6 p7 p8 p9 C1;have SY5:=zH (SY4.out.up aA)
 have DB5:=zH (La aA DB4.out);have TB5:=zH (TB4.out.keep aA TB4.out.1);have cj:=zH (Lc dT.out aA);have KN:=zH ((KO.out.keep aA).more aA.size);clear aA SY4 DB4 TB4 dT KO;have Ui:=fz;clear fz;obtain⟨p0,p1,p2,p3,p4,p5,p6,p7,p8,p9⟩:=zN (DB5.out);go_wp2_with fail;refine(C2.out (J ⟨g4,0,Z⟩) 8 w5 SY5.out KN.out).mono ?_;rintro e w6 ⟨ARb,cRb,rfl,B6,cX⟩;have fz:=zH B6;clear B6 p0 p1 p2 p3 p4 p5 p6 p7 p8 p9 C2;have SY6:=zH (SY5.out.up cX);have DB6:=zH (La cX DB5.out);have TB6:=zH (TB5.out.keep cX TB5.out.1);have fA:=zH (Lc cj.out cX);have KM:=zH ((KN.out.keep cX).more cX.size);have Uh:=zH ((Ui.out.keep cX).more cX.size);clear cX SY5 DB5 TB5 cj KN Ui;have Ud:=fz;clear fz;obtain⟨p0,p1,p2,p3,p4,p5,p6,p7,p8,p9⟩:=zN (DB6.out);go_wp2_with fail;refine(C3.out (J ⟨g4,0,Z⟩) 8 w6 SY6.out KM.out).mono ?_;rintro e w7 ⟨ARc,cRc,rfl,B7,fT⟩;have fz:=zH B7;clear B7 p0 p1 p2 p3 p4 p5 p6 p7 p8 p9 C3;have SY7:=zH (SY6.out.up fT);have DB7:=zH (La fT DB6.out);have TB7:=zH (TB6.out.keep fT TB6.out.1);have pQ:=zH (Lc fA.out fT);have KL:=zH ((KM.out.keep fT).more fT.size);have Ug:=zH ((Uh.out.keep fT).more fT.size);have Uc:=zH ((Ud.out.keep fT).more fT.size);clear fT SY6 DB6 TB6 fA KM Uh Ud;have T9:=fz;clear fz;obtain⟨p0,p1,p2,p3,p4,p5,p6,p7,p8,p9⟩:=zN (DB7.out)
 go_wp2_with fail;refine(C4.out (J ⟨g4,0,Z⟩) 8 w7 SY7.out KL.out).mono ?_;rintro e w8 ⟨ARd,cRd,rfl,B8,dQ⟩;have fz:=zH B8;clear B8 p0 p1 p2 p3 p4 p5 p6 p7 p8 p9 C4;have SY8:=zH (SY7.out.up dQ);have DB8:=zH (La dQ DB7.out);have TB8:=zH (TB7.out.keep dQ TB7.out.1);have U8:=zH (Lc pQ.out dQ);have T4:=zH ((KL.out.keep dQ).more dQ.size);have Uf:=zH ((Ug.out.keep dQ).more dQ.size);have Ub:=zH ((Uc.out.keep dQ).more dQ.size);have T8:=zH ((T9.out.keep dQ).more dQ.size);clear dQ SY7 DB7 TB7 pQ KL Ug Uc T9;have T6:=fz;clear fz;go_wp2_with fail;obtain⟨w9,OA,d9,tO,dJ⟩:=zk w8 #[O U 7] 3;rw[OA];have DX9:=zH d9;have SY9:=zH (SY8.out.up dJ);have DB9:=zH (La dJ DB8.out);have TB9:=zH (TB8.out.keep dJ TB8.out.1);have Ho:=zH (Lc U8.out dJ);have T2:=zH ((T4.out.keep dJ).more dJ.size);have Ue:=zH ((Uf.out.keep dJ).more dJ.size);have Ua:=zH ((Ub.out.keep dJ).more dJ.size);have T7:=zH ((T8.out.keep dJ).more dJ.size);have T5:=zH ((T6.out.keep dJ).more dJ.size);clear dJ SY8 DB8 TB8 U8 T4 Uf Ub T8 T6;clear OA d9 tO;refine(vu [7] ex7A 1 rfl (by decide) (by decide) (by decide) (J ⟨w8.heap.size,0,Z⟩) 1 w9 (vz DX9.out)).mono ?_;rintro e iu ⟨fu,rfl,Ms,bn⟩;clear DX9;have fz:=zH Ms;clear Ms;have T0:=zH (SY9.out.up bn);have VF:=zH (La bn DB9.out)
 have KG:=zH (TB9.out.keep bn TB9.out.1);have td:=zH (Lc Ho.out bn);have Fr:=zH ((T2.out.keep bn).more bn.size);have Cc:=zH ((Ue.out.keep bn).more bn.size);have GJ:=zH ((Ua.out.keep bn).more bn.size);have Gt:=zH ((T7.out.keep bn).more bn.size);have Gc:=zH ((T5.out.keep bn).more bn.size);clear bn SY9 DB9 TB9 Ho T2 Ue Ua T7 T5;have rt:=fz;clear fz;go_wp2_with fail;refine(gU ex7A rfl ARa (J ⟨fu,0,Z⟩) cRa 8 iu Cc.out rt.out).mono ?_;rintro e w11 ⟨rfl,cF⟩;have TZ:=zH (T0.out.up cF);have VE:=zH (La cF VF.out);have KF:=zH (KG.out.keep cF KG.out.1);have CC:=zH (Lc td.out cF);have Bh:=zH ((Fr.out.keep cF).more cF.size);have GZ:=zH ((Cc.out.keep cF).more cF.size);have Cb:=zH ((GJ.out.keep cF).more cF.size);have Gs:=zH ((Gt.out.keep cF).more cF.size);have Gb:=zH ((Gc.out.keep cF).more cF.size);have BT:=zH ((rt.out.keep cF).more cF.size);clear cF T0 VF KG td Fr Cc GJ Gt Gc rt;go_wp2_with fail;refine(gU yq rfl ARb (J ⟨g4,0,Z⟩) cRb 8 w11 Cb.out Bh.out).mono ?_;rintro e w12 ⟨rfl,fq⟩;have TY:=zH (TZ.out.up fq);have VD:=zH (La fq VE.out);have KE:=zH (KF.out.keep fq KF.out.1);have Vl:=zH (Lc CC.out fq)
 have Fq:=zH ((Bh.out.keep fq).more fq.size);have GY:=zH ((GZ.out.keep fq).more fq.size);have GI:=zH ((Cb.out.keep fq).more fq.size);have Gr:=zH ((Gs.out.keep fq).more fq.size);have Ga:=zH ((Gb.out.keep fq).more fq.size);have BS:=zH ((BT.out.keep fq).more fq.size);clear fq TZ VE KF CC Bh GZ Cb Gs Gb BT;go_wp2_with fail;obtain⟨w13,OE,d13,OO,dL⟩:=zk w12 #[O U 7] 3;rw[OE];have Vq:=zH d13;have TX:=zH (TY.out.up dL);have VC:=zH (La dL VD.out);have KD:=zH (KE.out.keep dL KE.out.1);have Vk:=zH (Lc Vl.out dL);have Fp:=zH ((Fq.out.keep dL).more dL.size);have GX:=zH ((GY.out.keep dL).more dL.size);have GH:=zH ((GI.out.keep dL).more dL.size);have Gq:=zH ((Gr.out.keep dL).more dL.size);have F9:=zH ((Ga.out.keep dL).more dL.size);have BR:=zH ((BS.out.keep dL).more dL.size);clear dL TY VD KE Vl Fq GY GI Gr Ga BS;clear OE d13 OO;refine(vu [7] ex7A 1 rfl (by decide) (by decide) (by decide) (J ⟨w12.heap.size,0,Z⟩) 1 w13 (vz Vq.out)).mono ?_;rintro e w14 ⟨g14,rfl,B14,dC⟩;clear Vq;have fz:=zH B14;clear B14;have TW:=zH (TX.out.up dC);have VB:=zH (La dC VC.out);have KC:=zH (KD.out.keep dC KD.out.1);have rH:=zH (Lc Vk.out dC)
 have Fo:=zH ((Fp.out.keep dC).more dC.size);have GW:=zH ((GX.out.keep dC).more dC.size);have GG:=zH ((GH.out.keep dC).more dC.size);have Ca:=zH ((Gq.out.keep dC).more dC.size);have F8:=zH ((F9.out.keep dC).more dC.size);have BQ:=zH ((BR.out.keep dC).more dC.size);clear dC TX VC KD Vk Fp GX GH Gq F9 BR;have rq:=fz;clear fz;go_wp2_with fail;refine(gU ex7A rfl ARc (J ⟨g14,0,Z⟩) cRc 8 w14 Ca.out rq.out).mono ?_;rintro e w15 ⟨rfl,eD⟩;have TV:=zH (TW.out.up eD);have VA:=zH (La eD VB.out);have KB:=zH (KC.out.keep eD KC.out.1);have Vj:=zH (Lc rH.out eD);have Bg:=zH ((Fo.out.keep eD).more eD.size);have GV:=zH ((GW.out.keep eD).more eD.size);have GF:=zH ((GG.out.keep eD).more eD.size);have Gp:=zH ((Ca.out.keep eD).more eD.size);have B9:=zH ((F8.out.keep eD).more eD.size);have BP:=zH ((BQ.out.keep eD).more eD.size);have BC:=zH ((rq.out.keep eD).more eD.size);clear eD TW VB KC rH Fo GW GG Ca F8 BQ rq;go_wp2_with fail;refine(gU yq rfl ARd (J ⟨g4,0,Z⟩) cRd 8 w15 B9.out Bg.out).mono ?_;rintro e w16 ⟨rfl,ez⟩;have KJ:=zH (TV.out.up ez);have Mq:=zH (La ez VA.out);have KA:=zH (KB.out.keep ez KB.out.1)
 have Vi:=zH (Lc Vj.out ez);have Bf:=zH ((Bg.out.keep ez).more ez.size);have GU:=zH ((GV.out.keep ez).more ez.size);have GE:=zH ((GF.out.keep ez).more ez.size);have Gn:=zH ((Gp.out.keep ez).more ez.size);have F7:=zH ((B9.out.keep ez).more ez.size);have BO:=zH ((BP.out.keep ez).more ez.size);have BA:=zH ((BC.out.keep ez).more ez.size);clear ez TV VA KB Vj Bg GV GF Gp B9 BP BC;obtain⟨p0,p1,p2,p3,p4,p5,p6,p7,p8,p9⟩:=zN (Mq.out);go_wp2_with fail;refine(C5.out (J ⟨g4,0,Z⟩) 8 w16 KJ.out Bf.out).mono ?_;rintro e w17 ⟨gx,rfl,B17,ey⟩;have fz:=zH B17;clear B17 p0 p1 p2 p3 p4 p5 p6 p7 p8 p9 C5;have KI:=zH (KJ.out.up ey);have Mp:=zH (La ey Mq.out);have Kz:=zH (KA.out.keep ey KA.out.1);have Vh:=zH (Lc Vi.out ey);have Be:=zH ((Bf.out.keep ey).more ey.size);have GT:=zH ((GU.out.keep ey).more ey.size);have GD:=zH ((GE.out.keep ey).more ey.size);have Gm:=zH ((Gn.out.keep ey).more ey.size);have F6:=zH ((F7.out.keep ey).more ey.size);have BN:=zH ((BO.out.keep ey).more ey.size);have Bz:=zH ((BA.out.keep ey).more ey.size);clear ey KJ Mq KA Vi Bf GU GE Gn F7 BO BA;have FH:=fz;clear fz;obtain⟨p0,p1,p2,p3,p4,p5,p6,p7,p8,p9⟩:=zN (Mp.out);go_wp2_with fail
 refine(C6.out (J ⟨g4,0,Z⟩) 8 w17 KI.out Be.out).mono ?_;rintro e w18 ⟨gl,rfl,B18,dK⟩;have fz:=zH B18;clear B18 p0 p1 p2 p3 p4 p5 p6 p7 p8 p9 C6;have TU:=zH (KI.out.up dK);have Mo:=zH (La dK Mp.out);have Ky:=zH (Kz.out.keep dK Kz.out.1);have Vg:=zH (Lc Vh.out dK);have Fn:=zH ((Be.out.keep dK).more dK.size);have GS:=zH ((GT.out.keep dK).more dK.size);have GC:=zH ((GD.out.keep dK).more dK.size);have Gl:=zH ((Gm.out.keep dK).more dK.size);have FZ:=zH ((F6.out.keep dK).more dK.size);have BM:=zH ((BN.out.keep dK).more dK.size);have By:=zH ((Bz.out.keep dK).more dK.size);have FG:=zH ((FH.out.keep dK).more dK.size);clear dK KI Mp Kz Vh Be GT GD Gm F6 BN Bz FH;have FP:=fz;clear fz;obtain⟨p0,p1,p2,p3,p4,p5,p6,p7,p8,p9⟩:=zN (Mo.out);go_wp2_with fail;obtain⟨w19,OD,d19,hs19,dB⟩:=zk w18 #[O U 6,O U 0,O U 0,O U 1,O U 0,I Z 0 0] 41;rw[OD];have Vp:=zH d19;have KH:=zH (TU.out.up dB);have Vz:=zH (La dB Mo.out);have Ee:=zH (Ky.out.keep dB Ky.out.1);have Vf:=zH (Lc Vg.out dB);have Fl:=zH ((Fn.out.keep dB).more dB.size);have GR:=zH ((GS.out.keep dB).more dB.size);have GB:=zH ((GC.out.keep dB).more dB.size)
 have Gk:=zH ((Gl.out.keep dB).more dB.size);have FY:=zH ((FZ.out.keep dB).more dB.size);have BK:=zH ((BM.out.keep dB).more dB.size);have Bx:=zH ((By.out.keep dB).more dB.size);have FF:=zH ((FG.out.keep dB).more dB.size);have FO:=zH ((FP.out.keep dB).more dB.size);clear dB TU Mo Ky Vg Fn GS GC Gl FZ BM By FG FP;clear OD d19 hs19;refine(C7.out (J ⟨w18.heap.size,0,Z⟩) w19 Ee.out KH.out (leaf_at Vp.out)).mono ?_;rintro e w20 ⟨Ay,cy,rfl,B20,dz⟩;have fz:=zH B20;clear B20 p0 p1 p2 p3 p4 p5 p6 p7 p8 p9 C7 Vp;have TT:=zH (KH.out.up dz);have Vy:=zH (La dz Vz.out);have Kx:=zH (Ee.out.keep dz Ee.out.1);have Ve:=zH (Lc Vf.out dz);have Fk:=zH ((Fl.out.keep dz).more dz.size);have GQ:=zH ((GR.out.keep dz).more dz.size);have GA:=zH ((GB.out.keep dz).more dz.size);have Gj:=zH ((Gk.out.keep dz).more dz.size);have FX:=zH ((FY.out.keep dz).more dz.size);have BJ:=zH ((BK.out.keep dz).more dz.size);have Bw:=zH ((Bx.out.keep dz).more dz.size);have FE:=zH ((FF.out.keep dz).more dz.size);have FN:=zH ((FO.out.keep dz).more dz.size);clear dz KH Vz Ee Vf Fl GR GB Gk FY BK Bx FF FO;have Fy:=fz;clear fz;go_wp2_with fail
 refine(vu [] ex7N 0 rfl (by decide) (by decide) (by decide) Z 0 w20 (fun h0=>absurd h0 (by simp))).mono ?_;rintro e w21 ⟨g21,rfl,B21,dn⟩;have fz:=zH B21;clear B21;have TS:=zH (TT.out.up dn);have Vx:=zH (La dn Vy.out);have Kw:=zH (Kx.out.keep dn Kx.out.1);have Vd:=zH (Lc Ve.out dn);have Fj:=zH ((Fk.out.keep dn).more dn.size);have GP:=zH ((GQ.out.keep dn).more dn.size);have Gz:=zH ((GA.out.keep dn).more dn.size);have Gi:=zH ((Gj.out.keep dn).more dn.size);have FW:=zH ((FX.out.keep dn).more dn.size);have BI:=zH ((BJ.out.keep dn).more dn.size);have Bv:=zH ((Bw.out.keep dn).more dn.size);have BY:=zH ((FE.out.keep dn).more dn.size);have FM:=zH ((FN.out.keep dn).more dn.size);have Fw:=zH ((Fy.out.keep dn).more dn.size);clear dn TT Vy Kx Ve Fk GQ GA Gj FX BJ Bw FE FN Fy;have rp:=fz;clear fz;go_wp2_with fail;refine(gU ex7N rfl (J ⟨gx,0,Z⟩) (J ⟨g21,0,Z⟩) 8 8 w21 BY.out rp.out).mono ?_;rintro e w22 ⟨rfl,dg⟩;have TR:=zH (TS.out.up dg);have Vv:=zH (La dg Vx.out);have Kv:=zH (Kw.out.keep dg Kw.out.1);have Vc:=zH (Lc Vd.out dg);have Fi:=zH ((Fj.out.keep dg).more dg.size);have GO:=zH ((GP.out.keep dg).more dg.size)
 have Gy:=zH ((Gz.out.keep dg).more dg.size);have Gh:=zH ((Gi.out.keep dg).more dg.size);have FV:=zH ((FW.out.keep dg).more dg.size);have BH:=zH ((BI.out.keep dg).more dg.size);have Bu:=zH ((Bv.out.keep dg).more dg.size);have FD:=zH ((BY.out.keep dg).more dg.size);have FL:=zH ((FM.out.keep dg).more dg.size);have Fv:=zH ((Fw.out.keep dg).more dg.size);have Bn:=zH ((rp.out.keep dg).more dg.size);clear dg TS Vx Kw Vd Fj GP Gz Gi FW BI Bv BY FM Fw rp;go_wp2_with fail;obtain⟨w23,OC,d23,sr,df⟩:=zk w22 #[O U (-1),O U (-1),O U (-1),O U (-1),O U 0,O U 0,O U 0,O U 1] 3;rw[OC];have Vo:=zH d23;have TQ:=zH (TR.out.up df);have Vu:=zH (La df Vv.out);have Ku:=zH (Kv.out.keep df Kv.out.1);have Vb:=zH (Lc Vc.out df);have Fg:=zH ((Fi.out.keep df).more df.size);have GN:=zH ((GO.out.keep df).more df.size);have Gx:=zH ((Gy.out.keep df).more df.size);have Gg:=zH ((Gh.out.keep df).more df.size);have FU:=zH ((FV.out.keep df).more df.size);have BG:=zH ((BH.out.keep df).more df.size);have Bs:=zH ((Bu.out.keep df).more df.size);have FC:=zH ((FD.out.keep df).more df.size);have BZ:=zH ((FL.out.keep df).more df.size)
 have Fu:=zH ((Fv.out.keep df).more df.size);have Bm:=zH ((Bn.out.keep df).more df.size);clear df TR Vv Kv Vc Fi GO Gy Gh FV BH Bu FD FL Fv Bn;clear OC d23 sr;refine(eqi_lit ex7L rfl (J ⟨gl,0,Z⟩) (J ⟨w22.heap.size,0,Z⟩) 8 8 w23 BZ.out (vz Vo.out)).mono ?_;rintro e w24 ⟨rfl,de⟩;clear Vo;have TP:=zH (TQ.out.up de);have Vt:=zH (La de Vu.out);have Kt:=zH (Ku.out.keep de Ku.out.1);have Va:=zH (Lc Vb.out de);have Ff:=zH ((Fg.out.keep de).more de.size);have GM:=zH ((GN.out.keep de).more de.size);have Gw:=zH ((Gx.out.keep de).more de.size);have Gf:=zH ((Gg.out.keep de).more de.size);have FS:=zH ((FU.out.keep de).more de.size);have BF:=zH ((BG.out.keep de).more de.size);have Br:=zH ((Bs.out.keep de).more de.size);have FB:=zH ((FC.out.keep de).more de.size);have FK:=zH ((BZ.out.keep de).more de.size);have Ft:=zH ((Fu.out.keep de).more de.size);have Bl:=zH ((Bm.out.keep de).more de.size);clear de TQ Vu Ku Vb Fg GN Gx Gg FU BG Bs FC BZ Fu Bm;go_wp2_with fail;obtain⟨w25,OB,d25,hs25,cZ⟩:=zk w24 #[O U 1,O U 3,O U 5,O U 7] 3;rw[OB];have Vn:=zH d25;have TO:=zH (TP.out.up cZ)
 have Vs:=zH (La cZ Vt.out);have Ks:=zH (Kt.out.keep cZ Kt.out.1);have U':=zH (Lc Va.out cZ);have Fe:=zH ((Ff.out.keep cZ).more cZ.size);have GL:=zH ((GM.out.keep cZ).more cZ.size);have Gv:=zH ((Gw.out.keep cZ).more cZ.size);have Ge:=zH ((Gf.out.keep cZ).more cZ.size);have FR:=zH ((FS.out.keep cZ).more cZ.size);have BE:=zH ((BF.out.keep cZ).more cZ.size);have Bp:=zH ((Br.out.keep cZ).more cZ.size);have FA:=zH ((FB.out.keep cZ).more cZ.size);have FJ:=zH ((FK.out.keep cZ).more cZ.size);have Fs:=zH ((Ft.out.keep cZ).more cZ.size);have Bj:=zH ((Bl.out.keep cZ).more cZ.size);clear cZ TP Vt Kt Va Ff GM Gw Gf FS BF Br FB FK Ft Bl;clear OB d25 hs25;refine(vu [1,3,5,7] JG 4 rfl (by decide) (by decide) (by decide) (J ⟨w24.heap.size,0,Z⟩) 4 w25 (vz Vn.out)).mono ?_;rintro e w26 ⟨g26,rfl,B26,cY⟩;clear Vn;have fz:=zH B26;clear B26;have TN:=zH (TO.out.up cY);have Vr:=zH (La cY Vs.out);have Kr:=zH (Ks.out.keep cY Ks.out.1);have U9:=zH (Lc U'.out cY);have Fd:=zH ((Fe.out.keep cY).more cY.size);have GK:=zH ((GL.out.keep cY).more cY.size);have Gu:=zH ((Gv.out.keep cY).more cY.size);have Gd:=zH ((Ge.out.keep cY).more cY.size)
 have FQ:=zH ((FR.out.keep cY).more cY.size);have BD:=zH ((BE.out.keep cY).more cY.size);have Bo:=zH ((Bp.out.keep cY).more cY.size);have Fz:=zH ((FA.out.keep cY).more cY.size);have FI:=zH ((FJ.out.keep cY).more cY.size);have BU:=zH ((Fs.out.keep cY).more cY.size);have Bi:=zH ((Bj.out.keep cY).more cY.size);clear cY TO Vs Ks U' Fe GL Gv Ge FR BE Bp FA FJ Fs Bj;have rn:=fz;clear fz;go_wp2_with fail;refine(gU JG rfl Ay (J ⟨g26,0,Z⟩) cy 8 w26 BU.out rn.out).mono ?_;rintro e w27 ⟨rfl,cS⟩;have SY27:=zH (TN.out.up cS);have DB27:=zH (La cS Vr.out);have TB27:=zH (Kr.out.keep cS Kr.out.1);have HB27:=zH (Lc U9.out cS);have S4x27:=zH ((Fd.out.keep cS).more cS.size);have Rax27:=zH ((GK.out.keep cS).more cS.size);have Rbx27:=zH ((Gu.out.keep cS).more cS.size);have Rcx27:=zH ((Gd.out.keep cS).more cS.size);have Rdx27:=zH ((FQ.out.keep cS).more cS.size);have S10x27:=zH ((BD.out.keep cS).more cS.size);have S14x27:=zH ((Bo.out.keep cS).more cS.size);have Rxx27:=zH ((Fz.out.keep cS).more cS.size);have Rlx27:=zH ((FI.out.keep cS).more cS.size);have Ryx27:=zH ((BU.out.keep cS).more cS.size);have S21x27:=zH ((Bi.out.keep cS).more cS.size);have S26x27:=zH ((rn.out.keep cS).more cS.size)
 clear cS TN Vr Kr U9 Fd GK Gu Gd FQ BD Bo Fz FI BU Bi rn;go_wp2_with fail;go_ret;exact⟨rfl,HB27.out⟩
end
section
open Go.RowKit
attribute [local go_sem] Oper.semAt_some
def wY(w:Ba)(e:Ending)(w':Ba):Prop:=∃b:Bool,e=Am (Aj b)/\Ar w.heap.size w w'
def RetIx(w:Ba)(e:Ending)(w':Ba):Prop:=∃r:Int,e=Am (O U r)/\Ar w.heap.size w w'
theorem Yp(f g:Fm)(A B:Bb)(c e:Nat)(w:Ba)(hl:f.args.length<=1000000)
  (DA:RecAt w A f.args fun cs _ X=>∀(y:Fm) (B':Bb) (e' d':Nat),FsAt X X.heap.size d' B' y.args->As Aq 77 #[.agg cs,.agg (y.vs B' e')] X (wY X))
  (hrg:RecAt w B g.args fun cs y X=>∃(B':Bb) (e' d':Nat),cs=y.vs B' e'/\FsAt X X.heap.size d' B' y.args) :
  As Aq 77 #[.agg (f.vs A c),.agg (g.vs B e)] w (wY w):=by
 obtain⟨w1,ab,d0,d1,aK,hB⟩:=yV w (f.vs A c) (g.vs B e) 41 41;have NH:=zH DA;have Uy:=zH hrg;unfold Fm.vs at ab d0 d1 ⊢;unfold wY at NH ⊢;obtain⟨l,aU⟩:=Ki f.args;obtain⟨u,huu⟩:=Ki g.args;rw[aU] at ab d0 NH hl ⊢;rw[huu] at ab d1 Uy ⊢;obtain⟨n,hn⟩:=Ki l.length;have HN:=zH hn;rw[hn] at ab d0 hl ⊢;obtain⟨m,hm⟩:=Ki u.length;have HM:=zH hm;rw[hm] at ab d1 ⊢;obtain⟨a0,S6⟩:=Ki f.h.op;obtain⟨a1,fK⟩:=Ki f.h.p;obtain⟨a2,iK⟩:=Ki f.h.o;obtain⟨a3,S0⟩:=Ki f.h.v;obtain⟨a4,DT⟩:=Ki f.h.g;obtain⟨b0,ig⟩:=Ki g.h.op;obtain⟨b1,aq⟩:=Ki g.h.p;obtain⟨b2,ag⟩:=Ki g.h.o;obtain⟨b3,aj⟩:=Ki g.h.v;obtain⟨b4,aG⟩:=Ki g.h.g;rw[S6,fK,iK,S0,DT] at ab d0 ⊢;rw[ig,aq,ag,aj,aG] at ab d1 ⊢;have ai:=zH ab;have HB:=zH hB;have D0:Aw (∀X,Ar w1.heap.size w1 X->X.heap[w.heap.size]?=J (Ai #[O U a0,O U a1,O U a2,O U a3,O U a4,I A n c] 41 (0,0))):=fun X hX=>La hX d0
 have D1:Aw (∀X,Ar w1.heap.size w1 X->X.heap[w.heap.size+1]?=J (Ai #[O U b0,O U b1,O U b2,O U b3,O U b4,I B m e] 41 (0,0))):=fun X hX=>La hX d1
 obtain⟨p0,p1,p2,p3,p4,p5,_⟩:=Kg (d0);obtain⟨q0,q1,q2,q3,q4,q5,_⟩:=Kg (d1);clear ab d0 d1 hB DA hrg aU huu hn hm S6 fK iK S0 DT ig aq ag aj aG;have HF:Aw (∀X,Ar w1.heap.size w1 X->∀b:Bool,∃b':Bool,Am (Aj b)=Am (Aj b')/\Ar w.heap.size w X):=fun X hX b=>⟨b,rfl,Lc HB.out hX⟩
 go_enter func77,ntmps77;go_upto_region 1 with fail
 rw[ai.out];obtain⟨x0,oK⟩:∃x,(a0 != b0)=x:=⟨_,rfl⟩;obtain⟨x1,my⟩:∃x,(a1 != b1)=x:=⟨_,rfl⟩;obtain⟨x2,Ox⟩:∃x,(a2 != b2)=x:=⟨_,rfl⟩;obtain⟨x3,hx3⟩:∃x,(a3 != b3)=x:=⟨_,rfl⟩;obtain⟨x4,hx4⟩:∃x,(a4 != b4)=x:=⟨_,rfl⟩;obtain⟨x5,My⟩:∃x,((n:Int) != (m:Int))=x:=⟨_,rfl⟩
 cases x0
 case true=>
  go_wp2_with fail;go_ret
  first | exact HF.out _ (Ll _ _) AC | exact(HB.out)
 cases x1
 case true=>
  go_wp2_with fail;go_ret
  first | exact HF.out _ (Ll _ _) AC | exact(HB.out)
 cases x2
 case true=>
  go_wp2_with fail;go_ret
  first | exact HF.out _ (Ll _ _) AC | exact(HB.out)
 cases x3
 case true=>
  go_wp2_with fail;go_ret
  first | exact HF.out _ (Ll _ _) AC | exact(HB.out)
 cases x4
 case true=>
  clear NH Uy;go_wp2_with fail;go_ret
  first | exact HF.out _ (Ll _ _) AC | exact(HB.out)
 cases x5
 case true=>
  clear NH Uy;go_wp2_with fail;go_ret
  first | exact HF.out _ (Ll _ _) AC | exact(HB.out)
 have EI:m=n:=by
  have:=My;simp at this;omega
 subst EI;go_wp2_with fail
 go_loopw [5] (fun i wr=>∃k:Nat,k<=m/\i=O U (k:Int)/\Aw (Ar w1.heap.size w1 wr)) (fun i _=>m-(Au i).toNat)
 case atStart=>exact⟨0,by omega,rfl,Ll _ _⟩
 obtain⟨k,hk,rfl,ay⟩:=hrel;clear p0 p1 p2 p3 p4 p5 q0 q1 q2 q3 q4 q5 ai;have mO:IntKind.i64.wrap ((k:Int)+1)=((k+1:Nat):Int):=by rw[Ls];omega
 obtain⟨p0,p1,p2,p3,p4,p5,_⟩:=Kg (D0.out _ ay.out);obtain⟨q0,q1,q2,q3,q4,q5,_⟩:=Kg (D1.out _ ay.out)
 by_cases aa:k<m
 . have dh:(0:Int)<=(k:Int):=by omega
   have aW:(k:Int)<(m:Int):=by omega
   obtain⟨bb,ob,A',c',eA,aY,ah,ak⟩:=NH.out k (by rw[HN.out];exact aa);obtain⟨bu,ou,B',e',eB,hbu,EO,fB⟩:=Uy.out k (by rw[HM.out];exact aa);subst eA;subst eB;have oy:Ar w.heap.size w wr:=Lc HB.out ay.out;have pS:=oy.drew;obtain⟨B2,e2,d2,eq2,hfs⟩:=fB _ pS;have hC:=ak _ pS _ B2 e2 d2 hfs;rw[<-eq2] at hC;have hc:=ah _ pS;have nU:=EO _ pS;obtain⟨x,hx⟩:=Ki (l[k]'(by rw[HN.out];exact aa));obtain⟨y,hy⟩:=Ki (u[k]'(by rw[HM.out];exact aa));simp only[hx] at hc hC;simp only[hy] at nU hC;obtain⟨⟨h0,h1,h2,h3,h4⟩,xl⟩:=x;obtain⟨⟨i0,i1,i2,i3,i4⟩,yl⟩:=y;have hc:∀j v,#[O U h0,O U h1,O U h2,O U h3,O U h4,I A' xl.length c'][j]?=J v->wr.drew.cell? ⟨bb,ob+k*6+j,Z⟩=J v:=hc;have nU:∀j v,#[O U i0,O U i1,O U i2,O U i3,O U i4,I B' yl.length e'][j]?=J v->wr.drew.cell? ⟨bu,ou+k*6+j,Z⟩=J v:=nU;simp only[Fm.vs,Fm.args,Fm.h] at hC;have HC:=zH hC;have z0:wr.drew.cell? ⟨bb,ob+k*6,Z⟩=J (O U h0):=hc 0 _ rfl;have z1:wr.drew.cell? ⟨bb,ob+k*6+1,Z⟩=J (O U h1):=hc 1 _ rfl;have z2:wr.drew.cell? ⟨bb,ob+k*6+2,Z⟩=J (O U h2):=hc 2 _ rfl;have z3:wr.drew.cell? ⟨bb,ob+k*6+3,Z⟩=J (O U h3):=hc 3 _ rfl;have z4:wr.drew.cell? ⟨bb,ob+k*6+4,Z⟩=J (O U h4):=hc 4 _ rfl;have z5:wr.drew.cell? ⟨bb,ob+k*6+5,Z⟩=J (I A' xl.length c'):=hc 5 _ rfl
   have v0:wr.drew.cell? ⟨bu,ou+k*6,Z⟩=J (O U i0):=nU 0 _ rfl;have v1:wr.drew.cell? ⟨bu,ou+k*6+1,Z⟩=J (O U i1):=nU 1 _ rfl;have v2:wr.drew.cell? ⟨bu,ou+k*6+2,Z⟩=J (O U i2):=nU 2 _ rfl;have v3:wr.drew.cell? ⟨bu,ou+k*6+3,Z⟩=J (O U i3):=nU 3 _ rfl;have v4:wr.drew.cell? ⟨bu,ou+k*6+4,Z⟩=J (O U i4):=nU 4 _ rfl;have v5:wr.drew.cell? ⟨bu,ou+k*6+5,Z⟩=J (I B' yl.length e'):=nU 5 _ rfl;have sV:=zH ay.out.drew;clear ah EO ak fB hC hx hy hc nU hfs eq2 pS oy ay;go_upto_region 6 with fail
   refine zw [(0,AA),(1,AA),(2,AA),(3,AA),(4,AA),(5,AA),(6,AA),(7,AA),(8,AA),(9,AA),(10,AC),(11,AC)] (fun X=>X=wr.drew) (by kernel_rfl) (by kernel_rfl) rfl ?_;have p5:wr.drew.cell? ⟨w.heap.size,5,Z⟩=J (I (J ⟨bb,ob,Z⟩) m c):=p5;have q5:wr.drew.cell? ⟨w.heap.size+1,5,Z⟩=J (I (J ⟨bu,ou,Z⟩) m e):=q5
   repeat
    apply zA rfl
    . rintro K' ac X rfl
      go_simp;exact ac
   refine xg rfl (by kernel_rfl) ?_;intro K' ac;go_simp;refine HC.out.mono ?_;rintro e w3 ⟨bo,rfl,aj⟩;have aJ:=zH (Lc sV.out aj);refine ac (fun _=>True) _ _ trivial ?_;clear ac K' aj HC z0 z1 z2 z3 z4 z5 v0 v1 v2 v3 v4 v5;refine zx rfl ?_;intro K' ac;go_simp;refine ac _ _ trivial ?_;clear ac K';refine zO ?_
   cases bo with
   | false=>
    clear NH Uy;go_wp2_with fail;go_ret
    first | exact HF.out _ aJ.out AC | exact⟨⟨AC,rfl⟩,Lc HB.out aJ.out⟩ | exact Lc HB.out aJ.out
   | true=>
    go_wp2_with fail
    go_roundw
    case rel=>exact⟨k+1,by omega,by go_num,aJ⟩
    case measure=>simp[Au];omega
 obtain rfl:k=m:=by omega
 have aW:¬(k:Int)<(k:Int):=by omega
 go_wp2_with fail;go_ret
 first | exact HF.out _ ay.out AA | exact⟨.inr rfl,Lc HB.out ay.out⟩ | exact .inr ⟨rfl,Lc HB.out ay.out⟩ | exact⟨⟨AA,rfl⟩,Lc HB.out ay.out⟩ | exact⟨AA,rfl,Lc HB.out ay.out⟩ | exact Lc HB.out ay.out
theorem wn{d:Nat}{f x:Fm}(h:(yd (d+1) f).1<=1000000)(hx:x∈f.args):(yd d x).1<=1000000:=Lz (jy (yd d) hx) h
theorem Qc:∀(d:Nat) (f:Fm) (A:Bb) (c:Nat) (w:Ba),FsAt w w.heap.size d A f.args->(yd d f).1<=1000000->∀(g:Fm) (B:Bb) (e d':Nat),FsAt w w.heap.size d' B g.args ->
  As Aq 77 #[.agg (f.vs A c),.agg (g.vs B e)] w (wY w)
 | 0,f,A,c,w,hA,hb,g,B,e,d',hB=>by
  have h0:f.args=[]:=hA
  exact Yp f g A B c e w (by rw[h0];decide) (RecAt.none hA) (by
   cases d' with
   | zero=>exact RecAt.none hB
   | succ d'=>exact RecAt.of hB fun y B' e' X _ hX=>⟨B',e',d',rfl,hX⟩)
 | d+1,f,A,c,w,hA,hb,g,B,e,d',hB=>by
  have h1:(zX (yd d) f.args).1<=1000000:=hb;have h3:=qf (yd d) (qm d) f.args;refine Yp f g A B c e w (by omega) (RecAt.of hA fun x A' c' X hx hX y B' e' d' hY=>Qc d x A' c' X hX (wn hb hx) y B' e' d' hY) ?_
  cases d' with
  | zero=>exact RecAt.none hB
  | succ d'=>exact RecAt.of hB fun y B' e' X _ hX=>⟨B',e',d',rfl,hX⟩
structure FmE where
 f:Fm
 A:Bb
 c:Nat
def FmE.cs(q:FmE):List Ax:=[O U q.f.h.op,O U q.f.h.p,O U q.f.h.o,O U q.f.h.v,O U q.f.h.g,I q.A q.f.args.length q.c]
def FmE.ok(w:Ba)(B:Nat)(q:FmE):Prop:=∃d,FsAt w B d q.A q.f.args/\(yd d q.f).1<=1000000
def FlAt(w:Ba)(B:Nat)(A:Bb)(qs:List FmE):Prop:=0<qs.length->∃b o,A=J ⟨b,o,Z⟩/\b<B/\∀i (hi:i<qs.length) j v,(qs[i].cs)[j]?=J v->w.cell? ⟨b,o+i*6+j,Z⟩=J v
theorem FlAt.keep{w w':Ba}{B:Nat}{A:Bb}{qs:List FmE}(h:FlAt w B A qs)(hb:Ar B w w'):FlAt w' B A qs:=fun h0=>by
 obtain⟨b,o,e,aa,hr⟩:=h h0;exact⟨b,o,e,aa,fun i hi j v hv=>(hb.cell aa).trans (hr i hi j v hv)⟩
theorem FmE.ok.keep{w w':Ba}{B:Nat}{q:FmE}(h:q.ok w B)(hb:Ar B w w'):q.ok w' B:=by obtain⟨d,h1,h2⟩:=h;exact⟨d,h1.keep hb,h2⟩
theorem FmE.ok.more{w:Ba}{B B':Nat}{q:FmE}(h:q.ok w B)(hb:B<=B'):q.ok w B':=by obtain⟨d,h1,h2⟩:=h;exact⟨d,h1.more hb,h2⟩
theorem rindexF_any(qs:List FmE)(n:Nat)(hn:qs.length=n)(VY:n<=1000000)(A:Bb)(c:Nat)(g:Fm)(B:Bb)(e d':Nat)(w:Ba)(hA:FlAt w w.heap.size A qs)(hq:∀q∈qs,q.ok w w.heap.size)(hB:FsAt w w.heap.size d' B g.args) :
  As Aq 37 #[I A n c,.agg (g.vs B e)] w (RetIx w):=by
 obtain⟨w1,ab,d0,aK,bP⟩:=zk w (g.vs B e) 41;have HN:=zH hn;have HA:=zH (hA.keep bP);have HQ:Aw (∀X,Ar w1.heap.size w1 X->∀q∈qs,q.ok X X.heap.size):=fun X hX q hm=>((((hq q hm).keep bP).more bP.size).keep hX).more hX.size
 have HG:Aw (∀X,Ar w1.heap.size w1 X->FsAt X X.heap.size d' B g.args):=fun X hX=>(((hB.keep bP).more bP.size).keep hX).more hX.size
 have Uu:Aw (∀(q:FmE) (X:Ba),q.ok X X.heap.size->FsAt X X.heap.size d' B g.args->As Aq 77 #[.agg (q.f.vs q.A q.c),.agg (g.vs B e)] X (wY X)):=fun q X h1 h2=>by
  obtain⟨d,h3,h4⟩:=h1;exact Qc d q.f q.A q.c X h3 h4 g B e d' h2
 unfold Fm.vs at ab d0 Uu ⊢;unfold wY at Uu;unfold RetIx;obtain⟨m,hm⟩:=Ki g.args.length;rw[hm] at ab d0 Uu ⊢;obtain⟨b0,ig⟩:=Ki g.h.op;obtain⟨b1,aq⟩:=Ki g.h.p;obtain⟨b2,ag⟩:=Ki g.h.o;obtain⟨b3,aj⟩:=Ki g.h.v;obtain⟨b4,aG⟩:=Ki g.h.g;rw[ig,aq,ag,aj,aG] at ab d0 Uu ⊢;have ai:=zH ab;have HB:=zH bP;have D1:Aw (∀X,Ar w1.heap.size w1 X->X.heap[w.heap.size]?=J (Ai #[O U b0,O U b1,O U b2,O U b3,O U b4,I B m e] 41 (0,0))):=fun X hX=>La hX d0
 clear ab d0 bP hA hq hB hn hm ig aq ag aj aG;go_enter func37,ntmps37;go_wp2_with fail;rw[ai.out];go_wp2_with fail
 go_loopw [5] (fun i wr=>∃k:Nat,k<=n/\i=O U (k:Int)/\Aw (Ar w1.heap.size w1 wr)) (fun i _=>n-(Au i).toNat)
 case atStart=>exact⟨0,by omega,rfl,Ll _ _⟩
 obtain⟨k,hk,rfl,ay⟩:=hrel;have mO:IntKind.i64.wrap ((k:Int)+1)=((k+1:Nat):Int):=by rw[Ls];omega
 by_cases aa:k<n
 . have dh:(0:Int)<=(k:Int):=by omega
   have aW:(k:Int)<(n:Int):=by omega
   have Wb:k<qs.length:=by rw[HN.out];exact aa
   obtain⟨bb,ob,eA,aY,hc⟩:=(HA.out.keep (ay.out.drew.mono HB.out.size)) (by omega);subst eA;have hc:=hc k Wb;have HC:=zH (Uu.out qs[k] wr.drew (HQ.out _ ay.out.drew _ (Ld Wb)) (HG.out _ ay.out.drew));obtain⟨q,CL⟩:=Ki (qs[k]);rw[CL] at hc HC;obtain⟨⟨⟨h0,h1,h2,h3,h4⟩,xl⟩,A',c'⟩:=q;simp only[Fm.args,Fm.h] at HC;have hc:∀j v,[O U h0,O U h1,O U h2,O U h3,O U h4,I A' xl.length c'][j]?=J v->wr.drew.cell? ⟨bb,ob+k*6+j,Z⟩=J v:=hc;have z0:wr.drew.cell? ⟨bb,ob+k*6,Z⟩=J (O U h0):=hc 0 _ rfl;have z1:wr.drew.cell? ⟨bb,ob+k*6+1,Z⟩=J (O U h1):=hc 1 _ rfl;have z2:wr.drew.cell? ⟨bb,ob+k*6+2,Z⟩=J (O U h2):=hc 2 _ rfl;have z3:wr.drew.cell? ⟨bb,ob+k*6+3,Z⟩=J (O U h3):=hc 3 _ rfl;have z4:wr.drew.cell? ⟨bb,ob+k*6+4,Z⟩=J (O U h4):=hc 4 _ rfl;have z5:wr.drew.cell? ⟨bb,ob+k*6+5,Z⟩=J (I A' xl.length c'):=hc 5 _ rfl;have dd:=D1.out _ ay.out.drew;obtain⟨q0,q1,q2,q3,q4,q5,_⟩:=Kg (dd);have sV:=zH ay.out.drew;go_upto_region 4 with fail
   refine zw [(0,AA),(1,AA),(2,AA),(3,AA),(4,AA),(5,AC)] (fun X=>X=wr.drew) (by kernel_rfl) (by kernel_rfl) rfl ?_
   repeat
    apply zA rfl
    . rintro K' ac X rfl
      go_simp;exact ac
   refine xg rfl (by kernel_rfl) ?_;intro K' ac;go_simp;refine HC.out.mono ?_;rintro e w3 ⟨bo,rfl,aj⟩;have aJ:=zH (Lc sV.out aj);refine ac (fun _=>True) _ _ trivial ?_;refine zO ?_
   cases bo with
   | true=>
    have bQ:=zH (Lc HB.out aJ.out);go_wp2_with fail;go_ret
    first | exact bQ.out | exact⟨⟨_,rfl⟩,bQ.out⟩ | exact⟨_,rfl,bQ.out⟩
   | false=>
    go_wp2_with fail
    go_roundw
    case rel=>exact⟨k+1,by omega,by go_num,aJ⟩
    case measure=>simp[Au];omega
 obtain rfl:k=n:=by omega
 have aW:¬(k:Int)<(k:Int):=by omega
 have bQ:=zH (Lc HB.out ay.out);go_wp2_with fail;go_ret
 first | exact bQ.out | exact⟨⟨_,rfl⟩,bQ.out⟩ | exact⟨_,rfl,bQ.out⟩
end
end Go.Proofs.YtjedjoeidcbffaaGreatDoor
