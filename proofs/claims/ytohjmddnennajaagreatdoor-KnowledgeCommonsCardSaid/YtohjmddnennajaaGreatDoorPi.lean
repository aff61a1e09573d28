/- Parts KnwK KnwL KnwM KnwN KnwO KnwH KnwR ExF37 R37A Only37 RBldG Ex36 Aw36 KnwF. -/
import Derived.Test.YtohjmddnennajaaGreatDoorProg
import Derived.Test.YtohjmddnennajaaGreatDoorPh
import Derived.Test.YtohjmddnennajaaGreatDoorPf
import Derived.Test.YtohjmddnennajaaGreatDoorPg
import Derived.Deep.QuietTactic
import Derived.BigQuiet
import Derived.Test.YtohjmddnennajaaGreatDoorPe

namespace Go.Proofs.YtohjmddnennajaaGreatDoor
set_option maxRecDepth 100000
set_option maxHeartbeats 4000000
section
open Go.RowKit Go.Shelf
attribute [local go_sem] Oper.semAt_some
theorem QG(bw n N:Nat)(cls:Nat->List Int)(h1:1<=n)(hn:n<=100000)(hN:N<=5)(G:Nat)(hG:G<32)(B:Bb)(cb:Nat)(set:List Bool)(hb:set.length=n)(M:Nat)(hMn:M<=n)(hM:zP n (evL n cls (zL G N)) set (M+1)=zP n (evL n cls (zL G N)) set M)(hlt:∀m,m<M->zP n (evL n cls (zL G N)) set (m+1)≠zP n (evL n cls (zL G N)) set m)
  (w:Ba) (hK:KwAt w w.heap.size bw n N cls) (hB:BAt w w.heap.size B set) :
  Calls Tryz.prog 71 #[.pointer (some ⟨bw,0,none⟩),.int .i64 (G:Int),.slice B n cb] w (xe (zP n (evL n cls (zL G N)) set M) w):=by
 have HC:=zH (wW bw n N cls h1 hn hN G hG B cb set hb M hMn hM hlt w hK hB);unfold xe;rw[xp];clear hK hB hM hlt;go_enter Tryz.func71,Tryz.ntmps71;go_wp2_with fail;refine HC.out.mono ?_;rintro e w2 ⟨g2,rfl,hg2,hr2,hb2⟩;have HR2:=zH hr2;have HB2:=zH hb2;clear hr2 hb2 HC;go_wp2_with fail;go_ret;exact⟨g2,rfl,hg2,HR2.out,HB2.out⟩
theorem Yi(h:Fh)(AF:Bb)(lf cf:Nat)(AB:Bb)(n kb bw c:Nat)(w:Ba)(Q:Ba->Ending->Ba->Prop)(hc:GrB w c 26 bw)(hr:∀X e w',Q X e w'->∃A' n' c',e=.returned (.slice A' n' c'))
  (hq:∀X,Below w.heap.size w X->Calls Tryz.prog 26 #[.pointer (some ⟨bw,0,none⟩),.int .i64 h.g,.slice AB n kb] X (Q X)) :
  Calls Tryz.prog 69 #[.agg #[.int .i64 h.op,.int .i64 h.p,.int .i64 h.o,.int .i64 h.v,.int .i64 h.g,.slice AF lf cf],.slice AB n kb,.pointer (some ⟨c,0,none⟩)] w fun e w'=>∃X,Below w.heap.size w X/\Q X e w':=by
 obtain⟨w1,hw1,d0,hs1,hB⟩:=zn w #[.int .i64 h.op,.int .i64 h.p,.int .i64 h.o,.int .i64 h.v,.int .i64 h.g,.slice AF lf cf] 66;have HC:=zH (hq w1 hB);have HR:=zH hr;have q0:=zh (hc.keep hB) 0 rfl;have p4:=zh d0 4 rfl;unfold Yp at q0;have HW1:=zH hw1;have HB:=zH hB;clear hw1 d0 hB hc hr hq;go_enter Tryz.func69,Tryz.ntmps69;go_upto_region 1 with fail
 rw[HW1.out];go_wp2_with fail;refine HC.out.mono ?_;intro e w2 hQ;obtain⟨A',n',c',rfl⟩:=HR.out _ _ _ hQ;have HQ:=zH hQ;clear hQ HC HR HW1;go_wp2_with fail;go_ret;exact⟨w1,HB.out,HQ.out⟩
theorem uS(h:Fh)(AF:Bb)(lf cf:Nat)(AB:Bb)(n kb bw c:Nat)(w:Ba)(Q:Ba->Ending->Ba->Prop)(hc:GrB w c 36 bw)(hr:∀X e w',Q X e w'->∃A' n' c',e=.returned (.slice A' n' c'))
  (hq:∀X,Below w.heap.size w X->Calls Tryz.prog 36 #[.pointer (some ⟨bw,0,none⟩),.int .i64 h.g,.slice AB n kb] X (Q X)) :
  Calls Tryz.prog 69 #[.agg #[.int .i64 h.op,.int .i64 h.p,.int .i64 h.o,.int .i64 h.v,.int .i64 h.g,.slice AF lf cf],.slice AB n kb,.pointer (some ⟨c,0,none⟩)] w fun e w'=>∃X,Below w.heap.size w X/\Q X e w':=by
 obtain⟨w1,hw1,d0,hs1,hB⟩:=zn w #[.int .i64 h.op,.int .i64 h.p,.int .i64 h.o,.int .i64 h.v,.int .i64 h.g,.slice AF lf cf] 66;have HC:=zH (hq w1 hB);have HR:=zH hr;have q0:=zh (hc.keep hB) 0 rfl;have p4:=zh d0 4 rfl;unfold Yp at q0;have HW1:=zH hw1;have HB:=zH hB;clear hw1 d0 hB hc hr hq;go_enter Tryz.func69,Tryz.ntmps69;go_upto_region 1 with fail
 rw[HW1.out];go_wp2_with fail;refine HC.out.mono ?_;intro e w2 hQ;obtain⟨A',n',c',rfl⟩:=HR.out _ _ _ hQ;have HQ:=zH hQ;clear hQ HC HR HW1;go_wp2_with fail;go_ret;exact⟨w1,HB.out,HQ.out⟩
theorem QH(h:Fh)(AF:Bb)(lf cf:Nat)(AB:Bb)(n kb bw c:Nat)(w:Ba)(Q:Ba->Ending->Ba->Prop)(hc:GrB w c 71 bw)(hr:∀X e w',Q X e w'->∃A' n' c',e=.returned (.slice A' n' c'))
  (hq:∀X,Below w.heap.size w X->Calls Tryz.prog 71 #[.pointer (some ⟨bw,0,none⟩),.int .i64 h.g,.slice AB n kb] X (Q X)) :
  Calls Tryz.prog 69 #[.agg #[.int .i64 h.op,.int .i64 h.p,.int .i64 h.o,.int .i64 h.v,.int .i64 h.g,.slice AF lf cf],.slice AB n kb,.pointer (some ⟨c,0,none⟩)] w fun e w'=>∃X,Below w.heap.size w X/\Q X e w':=by
 obtain⟨w1,hw1,d0,hs1,hB⟩:=zn w #[.int .i64 h.op,.int .i64 h.p,.int .i64 h.o,.int .i64 h.v,.int .i64 h.g,.slice AF lf cf] 66;have HC:=zH (hq w1 hB);have HR:=zH hr;have q0:=zh (hc.keep hB) 0 rfl;have p4:=zh d0 4 rfl;unfold Yp at q0;have HW1:=zH hw1;have HB:=zH hB;clear hw1 d0 hB hc hr hq;go_enter Tryz.func69,Tryz.ntmps69;go_upto_region 1 with fail
 rw[HW1.out];go_wp2_with fail;refine HC.out.mono ?_;intro e w2 hQ;obtain⟨A',n',c',rfl⟩:=HR.out _ _ _ hQ;have HQ:=zH hQ;clear hQ HC HR HW1;go_wp2_with fail;go_ret;exact⟨w1,HB.out,HQ.out⟩
theorem kone_any(h:Fh)(AF:Bb)(lf cf:Nat)(AB:Bb)(n kb bw b0:Nat)(w:Ba)(Q:Ba->Ending->Ba->Prop)(hc:w.heap[b0]?=some (.cells #[.pointer (some ⟨bw,0,none⟩)] 67 (0,0)))(hr:∀X e w',Q X e w'->∃A' n' c',e=.returned (.slice A' n' c'))
  (hq:∀X,Below w.heap.size w X->Calls Tryz.prog 35 #[.pointer (some ⟨bw,0,none⟩),.int .i64 h.p,.slice AB n kb] X (Q X)) :
  Calls Tryz.prog 70 #[.agg #[.int .i64 h.op,.int .i64 h.p,.int .i64 h.o,.int .i64 h.v,.int .i64 h.g,.slice AF lf cf],.slice AB n kb,.pointer (some ⟨b0,0,none⟩)] w fun e w'=>∃X,Below w.heap.size w X/\Q X e w':=by
 obtain⟨w1,hw1,d0,hs1,hB⟩:=zn w #[.int .i64 h.op,.int .i64 h.p,.int .i64 h.o,.int .i64 h.v,.int .i64 h.g,.slice AF lf cf] 66;have HC:=zH (hq w1 hB);have HR:=zH hr;have q0:=zh (La hB hc) 0 rfl;have p1:=zh d0 1 rfl;have HW1:=zH hw1;have HB:=zH hB;clear hw1 d0 hB hc hr hq;go_enter Tryz.func70,Tryz.ntmps70;go_upto_region 1 with fail
 rw[HW1.out];go_wp2_with fail;refine HC.out.mono ?_;intro e w2 hQ;obtain⟨A',n',c',rfl⟩:=HR.out _ _ _ hQ;have HQ:=zH hQ;clear hQ HC HR HW1;go_wp2_with fail;go_ret;exact⟨w1,HB.out,HQ.out⟩
end
section
open Go.RowKit Go.Shelf
def orL(n:Nat)(a b:List Bool):List Bool:=(List.range n).map fun i=>a.getD i false||b.getD i false
theorem gM(n:Nat)(a b:List Bool):(orL n a b).length=n:=by simp[orL]
theorem orL_at{n:Nat}{a b:List Bool}{i:Nat}(h:i<n):(orL n a b)[i]'(by rw[gM];exact h)=(a.getD i false||b.getD i false):=by
 simp only[orL,List.getElem_map,List.getElem_range]
def gF(s:Sy)(h:Fh)(a b:List Bool):List Bool:=
 if h.op=10 then xU (ptn s) (yx s h.p.toNat) a
 else if h.op=11 then evG s h.g a
 else if h.op=12 then xU (ptn s) (kn s h.g) a
 else if h.op=13 then zP (ptn s) (evG s h.g) a (ptn s)
 else if h.op=7 then uc (ptn s) a
 else if h.op=8 then qG (ptn s) a b
 else orL (ptn s) a b
theorem jH(s:Sy)(h:Fh)(a b:List Bool):(gF s h a b).length=ptn s:=by
 unfold gF
 repeat' split
 . exact yI _ _ _
 . exact xL _ _ _ _
 . exact yI _ _ _
 . exact xp _
 . exact qU _ _
 . exact yr _ _ _
 . exact gM _ _ _
def gG(s:Sy)(out:List Int):Nat->Fm->List Bool
 | 0,f=>ur s out f.h
 | d+1,f=>if f.args.length=0 then ur s out f.h else gF s f.h (gG s out d (f.args.getD 0 default)) (gG s out d (f.args.getD 1 default))
theorem QX(s:Sy)(out:List Int):∀d f,(gG s out d f).length=ptn s
 | 0,f=>Z5 s out f.h
 | d+1,f=>by
  unfold gG
  split
  . exact Z5 s out f.h
  . exact jH ..
def evOk(N:Nat):Nat->Fm->Prop
 | 0,f=>qL N f.h f.args.length=0/\f.args=[]
 | d+1,f=>qL N f.h f.args.length=0/\f.h.op<=13/\∀x∈f.args,evOk N d x
def uh(a b:List Bool)(k:Nat):List Bool:=a.take k++b.drop k
theorem YO(a b:List Bool):uh a b 0=b:=by simp[uh]
theorem QD{a b:List Bool}(h:a.length=b.length){k:Nat}(hk:k=b.length):uh a b k=a:=by subst hk;simp[uh,<-h]
theorem ug{a b:List Bool}(h:a.length=b.length)(k:Nat):(uh a b k).length=b.length:=by simp[uh];omega
theorem midB_at{a b:List Bool}(h:a.length=b.length){k:Nat}(hk:k<b.length):(uh a b k)[k]'(by rw[ug h];exact hk)=b[k]:=by
 unfold uh;rw[N9 (by simp;omega)];simp[show min k a.length=k by omega]
theorem QC{a b:List Bool}(h:a.length=b.length){k:Nat}(hk:k<=b.length)(i:Nat):(uh a b k)[i]?=if i<k then a[i]? else b[i]?:=by
 unfold uh
 by_cases e:i<k
 . rw[Lh e,LP (by simp;omega),NR,Lh e]
 . rw[Lg e,LM (by simp;omega),PZ]
   congr 1
   simp;omega
theorem QB{a b:List Bool}(h:a.length=b.length){k:Nat}(hk:k<b.length):(uh a b k).set k (a[k]'(by omega))=uh a b (k+1):=by
 refine List.ext_getElem? fun i=>?_
 rw[RP,QC h (by omega),QC h (by omega),ug h]
 by_cases e:k=i
 . subst e
   rw[Lh rfl,Lh hk,Lh (by omega),Lm]
 . rw[Lg e]
   by_cases e2:i<k
   . rw[Lh e2,Lh (by omega)]
   . rw[Lg e2,Lg (by omega)]
def OwnB(w:Ba)(g cap:Nat)(bs:List Bool):Prop:=∃cur:Array Value,w.heap[g]?=some (.cells cur 4 (0,0))/\cur.size=cap/\bs.length<=cap/\cap<=maxLen/\cur.toList.take bs.length=bs.map .bool
theorem OwnB.lt{w:Ba}{g cap:Nat}{bs:List Bool}(h:OwnB w g cap bs):g<w.heap.size:=by obtain⟨_,h1,_⟩:=h;exact zj h1
theorem OwnB.cell{w:Ba}{g cap:Nat}{bs:List Bool}(h:OwnB w g cap bs)(k:Nat)(hk:k<bs.length):w.cell? ⟨g,k,none⟩=some (.bool bs[k]):=by
 obtain⟨cur,h1,h2,h3,_,h4⟩:=h;refine zh h1 k ?_;have e:(cur.toList.take bs.length)[k]?=(bs.map Value.bool)[k]?:=by rw[h4]
 rw[NR,Lh hk,RQ,Lm hk] at e;simpa using e
theorem OwnB.froz{w:Ba}{g cap:Nat}{bs:List Bool}(h:OwnB w g cap bs)(k:Nat):w.frozen? ⟨g,k,none⟩=false:=by
 obtain⟨cur,h1,_⟩:=h;exact zi h1 k
theorem OwnB.set{w:Ba}{g cap:Nat}{bs:List Bool}(h:OwnB w g cap bs)(k:Nat)(x:Bool):OwnB (w.setCell ⟨g,k,none⟩ (.bool x)) g cap (bs.set k x):=by
 obtain⟨cur,h1,h2,h3,h5,h4⟩:=h;refine⟨cur.setIfInBounds k (.bool x),?_,by simpa using h2,by simpa using h3,h5,?_⟩
 . rw[World.setCell,Pq,Lh rfl,h1];rfl
 . rw[PP,Array.toList_setIfInBounds,List.take_set,h4,RO]
theorem OwnB.of{w:Ba}{base:Nat}{A:Bb}{n c:Nat}{bs:List Bool}(hl:bs.length=n)(h1:1<=n)(h:OwnR kBl w base (.slice A n c) n (bs.map .bool)):∃g,A=some ⟨g,0,none⟩/\base<=g/\OwnB w g c bs:=by
 rcases h.2 with ⟨_,h0⟩ | ⟨g,cap,cur,e,hb,hg,hle,hcm,hsz,htk⟩
 . omega
 . cases e
   exact⟨g,rfl,hb,cur,hg,by rw[hsz];exact NW _,by omega,hcm,by rw[hl,<-htk];show _=cur.toList.take (n*1);rw[NW]⟩
theorem BRow.ownB{w:Ba}{g n:Nat}{bs:List Bool}(h:BRow w g bs)(hl:bs.length=n)(hn:n<=100000):OwnB w g n bs:=
 ⟨xv bs,h,by simpa[xv] using hl,by omega,by unfold maxLen;omega,by rw[show(xv bs).toList=bs.map .bool by simp[xv]];exact Nz (by simp)⟩
theorem OwnB.at_{w:Ba}{g c B:Nat}{bs:List Bool}(h:OwnB w g c bs)(hB:g<B):BAt w B (some ⟨g,0,none⟩) bs:=fun _=>⟨g,0,rfl,hB,fun i hi=>by rw[LH];exact h.cell i hi⟩
theorem OwnB.same{w w':Ba}{g c:Nat}{bs:List Bool}(h:OwnB w g c bs)(e:w'.heap[g]?=w.heap[g]?):OwnB w' g c bs:=by
 obtain⟨cur,h1,rest⟩:=h;exact⟨cur,e.trans h1,rest⟩
structure BoolK(g:Nat)(w w':Ba):Prop where
 cell:∀(p:Addr) (v:Value),w.cell? p=some v->(∀b,v≠.bool b)->w'.cell? p=some v
 heap:∀z,z≠g->w'.heap[z]?=w.heap[z]?
 size:w'.heap.size=w.heap.size
 os:w'.os=w.os
 tape:w'.tape=w.tape
 output:w'.output=w.output
theorem BoolK.refl(g:Nat)(w:Ba):BoolK g w w:=⟨fun _ _ h _=>h,fun _ _=>rfl,rfl,rfl,rfl,rfl⟩
theorem BoolK.set{g k:Nat}{w w':Ba}{y:Bool}(h:BoolK g w w')(hc:w'.cell? ⟨g,k,none⟩=some (.bool y))(x:Bool):BoolK g w (w'.setCell ⟨g,k,none⟩ (.bool x)):=by
 refine⟨fun p v hp hv=>?_,fun z hz=>(Lf w' ⟨g,k,none⟩ _ z hz).trans (h.heap z hz),by simpa[World.setCell] using h.size,h.os,h.tape,h.output⟩;have h1:=h.cell p v hp hv
 by_cases e:(⟨g,k,none⟩:Addr)=p
 . subst e
   rw[hc] at h1;exact absurd (NI h1).symm (hv y)
 . exact(World.cell?_setCell_other (h:=e) ..).trans h1
theorem BoolK.below{g B:Nat}{w w':Ba}(h:BoolK g w w')(hg:B<=g):Below B w w':=⟨h.os,h.tape,h.output,by rw[h.size];exact Le _,fun k hk=>h.heap k (by omega)⟩
theorem BoolK.iat{g B:Nat}{w w':Ba}(h:BoolK g w w'){A:Bb}{xs:List Int}(hx:IAt w B A xs):IAt w' B A xs:=fun h0=>by
 obtain⟨b,off,e,hlt,hc⟩:=hx h0;exact⟨b,off,e,hlt,fun i hi=>h.cell _ _ (hc i hi) (fun b e=>by cases e)⟩
theorem KwAt.bools{g B bw n N:Nat}{cls:Nat->List Int}{w w':Ba}(hk:KwAt w B bw n N cls)(h:BoolK g w w'):KwAt w' B bw n N cls:=by
 obtain⟨b,off,cC,h1,h2,h3⟩:=hk.rows;refine⟨hk.lt,h.cell _ _ hk.size (fun b e=>by cases e),⟨b,off,cC,h.cell _ _ h1 (fun b e=>by cases e),h2,fun q hq=>?_⟩,hk.len⟩;obtain⟨A,c,h4,h5⟩:=h3 q hq;exact⟨A,c,h.cell _ _ h4 (fun b e=>by cases e),h.iat h5⟩
section
variable {s:Sy} {A SV AV AX:Bb} {kc ks kv kx B:Nat} {w w':Ba} {bw mb m:Nat} {F:Int->Option Value}
theorem KwD.bools(h:KwD s A SV AV AX kc ks kv kx B w bw mb m F){g:Nat}(hb:BoolK g w w')(hg:B<=g)(h1:bw≠g)(h2:mb≠g):KwD s A SV AV AX kc ks kv kx B w' bw mb m F:=by
 obtain⟨AQ,cQ,hbk⟩:=h.blk;have hz:=hb.size;refine⟨by rw[hz];exact h.kw.bools hb,⟨AQ,cQ,(hb.heap _ h1).trans hbk⟩,h.map.same (hb.heap _ h2),fun q v hv=>?_,h.sys.keep (hb.below hg),by rw[hz];exact h.lowB,h.low⟩;obtain⟨A',c',e,hI⟩:=h.vals q v hv;exact⟨A',c',e,by rw[hz];exact hb.iat hI⟩
end
structure EvC(s:Sy)(out:List Int)(AR A SV AV AX:Bb)(kc ks kv kx B bw mb mo b0 c1 c2 c3:Nat)(w:Ba):Prop where
 kw:∃m F,KwD s A SV AV AX kc ks kv kx B w bw mb m F
 ops:∃m,MapOf (Value.int .i64) w mo m (opG b0 c1 c2 c3)
 at_:OpsAt w bw b0 c1 c2 c3
 ne:mo≠mb
 out:IAt w B AR out
section
variable {s:Sy} {out:List Int} {AR A SV AV AX:Bb} {kc ks kv kx B bw mb mo b0 c1 c2 c3:Nat} {w w':Ba}
theorem OpsAt.keep(h:OpsAt w bw b0 c1 c2 c3)(hk:∀z,¬z=mb->z<w.heap.size->w'.heap[z]?=w.heap[z]?)(hm:∃m F,MapOf (Value.int .i64) w mb m F):OpsAt w' bw b0 c1 c2 c3:=by
 obtain⟨m,F,es,clock,hmb,_⟩:=hm;have ne:∀z (cs:Array Value) t,w.heap[z]?=some (.cells cs t (0,0))->¬z=mb:=fun z cs t hz e=>by rw[e,hmb] at hz;cases hz
 exact⟨(hk _ (ne _ _ _ h.b0) (zj h.b0)).trans h.b0,(hk _ (ne _ _ _ h.c1) (zj h.c1)).trans h.c1,(hk _ (ne _ _ _ h.c2) (zj h.c2)).trans h.c2,(hk _ (ne _ _ _ h.c3) (zj h.c3)).trans h.c3⟩
theorem EvC.wrote(h:EvC s out AR A SV AV AX kc ks kv kx B bw mb mo b0 c1 c2 c3 w)(hw:Wrote (fun z=>z=mb) w w')(hk:∃m F,KwD s A SV AV AX kc ks kv kx B w' bw mb m F):EvC s out AR A SV AV AX kc ks kv kx B bw mb mo b0 c1 c2 c3 w':=by
 obtain⟨m,F,hK⟩:=h.kw;obtain⟨m',hM⟩:=h.ops;exact⟨hk,⟨m',hM.same (hw.block _ hM.lt h.ne)⟩,h.at_.keep (fun z hz hl=>hw.block z hl hz) ⟨m,F,hK.map⟩,h.ne,h.out.keep (hw.below hK.lowB (fun k hk e=>by have:=hK.low;omega))⟩
theorem EvC.call(h:EvC s out AR A SV AV AX kc ks kv kx B bw mb mo b0 c1 c2 c3 w)(hb:Below w.heap.size w w'):EvC s out AR A SV AV AX kc ks kv kx B bw mb mo b0 c1 c2 c3 w':=by
 obtain⟨m,F,hK⟩:=h.kw;exact h.wrote (Wrote.of_below hb) ⟨m,F,hK.call hb⟩
def RetEv(s:Sy)(out:List Int)(AR A SV AV AX:Bb)(kc ks kv kx B bw mb mo b0 c1 c2 c3:Nat)(R:List Bool)(w:Ba)(e:Ending)(w':Ba):Prop:=
 ∃g c,e=.returned (.tuple #[.slice (some ⟨g,0,none⟩) (ptn s) c,.int .i64 0])/\w.heap.size<=g/\OwnB w' g c R/\EvC s out AR A SV AV AX kc ks kv kx B bw mb mo b0 c1 c2 c3 w'/\Wrote (fun z=>z=mb) w w'
end
end
section
open Go.RowKit Go.Shelf
theorem YL{N:Nat}{h:Fh}{k:Nat}(he:qL N h k=0):0<=h.op/\(k:Int)=arN h.op/\(h.op=10->0<=h.p/\h.p<=(N:Int)-1)/\(h.op=11\/h.op=12\/h.op=13->0<=h.g/\h.g<=(2:Int)^N-1):=by
 unfold qL at he
 by_cases h1:h.op<0\/17<h.op
 . rw[Lh h1] at he;cases he
 rw[Lg h1] at he
 by_cases h2:(k:Int)≠arN h.op
 . rw[Lh h2] at he;cases he
 rw[Lg h2] at he
 split at he
 . cases he
 rename_i h3;refine⟨by omega,by simpa using h2,fun e=>?_,fun e=>?_⟩
 . have hu:usP h.op=true:=by unfold usP;rw[Np];omega
   exact NB fun hn=>h3 (.inl ⟨hu,hn⟩)
 . have hu:usG h.op=true:=by unfold usG;rw[Np];omega
   exact NB fun hn=>h3 (.inr (.inr (.inr ⟨hu,hn⟩)))
section
variable {n:Nat} {cls:Nat->List Int} {ps:List Nat}
theorem YK{set:List Bool}{M:Nat}(hM:zP n (evL n cls ps) set (M+1)=zP n (evL n cls ps) set M):∀m,zP n (evL n cls ps) set (M+m)=zP n (evL n cls ps) set M
 | 0=>rfl
 | m+1=>by
  show zP n (evL n cls ps) set (M+m+1)=_;rw[zP,YK hM m];exact hM
theorem now_up{set:List Bool}{M:Nat}(hM:zP n (evL n cls ps) set (M+1)=zP n (evL n cls ps) set M)(h:M<=n):zP n (evL n cls ps) set n=zP n (evL n cls ps) set M:=by
 have:=YK hM (n-M);rwa[show M+(n-M)=n by omega] at this
end
def RetOq(s:Sy)(out:List Int)(AR A SV AV AX:Bb)(kc ks kv kx B bw mb mo b0 c1 c2 c3:Nat)(R:List Bool)(w:Ba)(e:Ending)(w':Ba):Prop:=
 ∃g',e=.returned (.slice (some ⟨g',0,none⟩) (ptn s) (ptn s))/\w.heap.size<=g'/\BRow w' g' R/\EvC s out AR A SV AV AX kc ks kv kx B bw mb mo b0 c1 c2 c3 w'/\Wrote (fun z=>z=mb) w w'
section
variable {s:Sy} (hs:LowS s) (hf:yR s.p) {K N:Nat} (hF:Fine s K N) (hv:zV s=0) (hn1:1<=ptn s) (hn7:ptn s<=700) {out:List Int} {AR A SV AV AX:Bb} {kc ks kv kx B bw mb mo b0 c1 c2 c3:Nat}
 (h:Fh) (AF:Bb) (lf cf g3 c:Nat) (a:List Bool) (ha:a.length=ptn s) (w:Ba) (E:EvC s out AR A SV AV AX kc ks kv kx B bw mb mo b0 c1 c2 c3 w) (hg:OwnB w g3 c a)
include hF hn1 hn7 ha E hg
theorem kop10(hp:0<=h.p/\h.p<=(N:Int)-1):Calls Tryz.prog 70 #[.agg #[.int .i64 h.op,.int .i64 h.p,.int .i64 h.o,.int .i64 h.v,.int .i64 h.g,.slice AF lf cf],.slice (some ⟨g3,0,none⟩) (ptn s) c,.pointer (some ⟨b0,0,none⟩)] w (RetOq s out AR A SV AV AX kc ks kv kx B bw mb mo b0 c1 c2 c3 (xU (ptn s) (yx s h.p.toNat) a) w):=by
 refine(kone_any h AF lf cf (some ⟨g3,0,none⟩) (ptn s) c bw b0 w (fun X e w'=>xe (xU (ptn s) (yx s h.p.toNat) a) X e w') E.at_.b0 (fun X e w' hq=>?_) (fun X hX=>?_)).mono ?_
 . obtain⟨g',rfl,_⟩:=hq;exact⟨_,_,_,rfl⟩
 . obtain⟨m,F,hK⟩:=(E.call hX).kw
   obtain⟨q,hq⟩:=Lr hp.1;have hn:=hF.n;rw[hq];exact vC bw (ptn s) s.n.toNat (yx s) (by omega) q (by omega) (some ⟨g3,0,none⟩) c a ha X hK.kw (((hg.at_ hg.lt).keep hX).more hX.size)
 . rintro e w' ⟨X,hX,hQ⟩
   unfold xe at hQ;rw[yI] at hQ;obtain⟨g',rfl,h1,h2,h3⟩:=hQ;have hb:=Lc hX h3;exact⟨g',rfl,Lz hX.size h1,h2,E.call hb,Wrote.of_below hb⟩
theorem kop11(hG:0<=h.g/\h.g<=(2:Int)^N-1):Calls Tryz.prog 69 #[.agg #[.int .i64 h.op,.int .i64 h.p,.int .i64 h.o,.int .i64 h.v,.int .i64 h.g,.slice AF lf cf],.slice (some ⟨g3,0,none⟩) (ptn s) c,.pointer (some ⟨c1,0,none⟩)] w (RetOq s out AR A SV AV AX kc ks kv kx B bw mb mo b0 c1 c2 c3 (evG s h.g a) w):=by
 obtain⟨G,hg0⟩:=Lr hG.1;have hn:=hF.n;have hn5:=hF.n5;have hNN:s.n.toNat=N:=by omega
 have hG32:G<32:=by
  have h1:(2:Int)^N<=32:=by
   have:∀k,k<=5->(2:Int)^k<=32:=by decide
   exact this N hn5
  omega
 have hps:psG s h.g=zL G s.n.toNat:=by rw[hg0];rfl
 refine(Yi h AF lf cf (some ⟨g3,0,none⟩) (ptn s) c bw c1 w (fun X e w'=>xe (evG s h.g a) X e w') E.at_.c1 (fun X e w' hq=>?_) (fun X hX=>?_)).mono ?_
 . obtain⟨g',rfl,_⟩:=hq;exact⟨_,_,_,rfl⟩
 . obtain⟨m,F,hK⟩:=(E.call hX).kw
   unfold evG;rw[hps,hg0];exact qz bw (ptn s) s.n.toNat (yx s) hn1 (by omega) (by omega) G hG32 (some ⟨g3,0,none⟩) c a ha X hK.kw (((hg.at_ hg.lt).keep hX).more hX.size)
 . rintro e w' ⟨X,hX,hQ⟩
   have hl:(evG s h.g a).length=ptn s:=by unfold evG;exact xL ..
   unfold xe at hQ;rw[hl] at hQ;obtain⟨g',rfl,h1,h2,h3⟩:=hQ;have hb:=Lc hX h3;exact⟨g',rfl,Lz hX.size h1,h2,E.call hb,Wrote.of_below hb⟩
theorem kop13(hG:0<=h.g/\h.g<=(2:Int)^N-1):Calls Tryz.prog 69 #[.agg #[.int .i64 h.op,.int .i64 h.p,.int .i64 h.o,.int .i64 h.v,.int .i64 h.g,.slice AF lf cf],.slice (some ⟨g3,0,none⟩) (ptn s) c,.pointer (some ⟨c3,0,none⟩)] w (RetOq s out AR A SV AV AX kc ks kv kx B bw mb mo b0 c1 c2 c3 (zP (ptn s) (evG s h.g) a (ptn s)) w):=by
 obtain⟨G,hg0⟩:=Lr hG.1;have hn:=hF.n;have hn5:=hF.n5;have hNN:s.n.toNat=N:=by omega
 have hG32:G<32:=by
  have h1:(2:Int)^N<=32:=by
   have:∀k,k<=5->(2:Int)^k<=32:=by decide
   exact this N hn5
  omega
 have hps:psG s h.g=zL G s.n.toNat:=by rw[hg0];rfl
 refine(QH h AF lf cf (some ⟨g3,0,none⟩) (ptn s) c bw c3 w (fun X e w'=>xe (zP (ptn s) (evG s h.g) a (ptn s)) X e w') E.at_.c3 (fun X e w' hq=>?_) (fun X hX=>?_)).mono ?_
 . obtain⟨g',rfl,_⟩:=hq;exact⟨_,_,_,rfl⟩
 . obtain⟨m,F,hK⟩:=(E.call hX).kw
   unfold evG;rw[hps,hg0];obtain⟨M,m1,m2,m3⟩:=kY (F:=zP (ptn s) (evL (ptn s) (yx s) (zL G s.n.toNat)) a) xp qT;rw[now_up m2 m1];exact QG bw (ptn s) s.n.toNat (yx s) hn1 (by omega) (by omega) G hG32 (some ⟨g3,0,none⟩) c a ha M m1 m2 m3 X hK.kw (((hg.at_ hg.lt).keep hX).more hX.size)
 . rintro e w' ⟨X,hX,hQ⟩
   have hl:(zP (ptn s) (evG s h.g) a (ptn s)).length=ptn s:=by unfold evG;exact xp ..
   unfold xe at hQ;rw[hl] at hQ;obtain⟨g',rfl,h1,h2,h3⟩:=hQ;have hb:=Lc hX h3;exact⟨g',rfl,Lz hX.size h1,h2,E.call hb,Wrote.of_below hb⟩
include hs hf hv in
theorem kop12(hG:0<=h.g/\h.g<=(2:Int)^N-1):Calls Tryz.prog 69 #[.agg #[.int .i64 h.op,.int .i64 h.p,.int .i64 h.o,.int .i64 h.v,.int .i64 h.g,.slice AF lf cf],.slice (some ⟨g3,0,none⟩) (ptn s) c,.pointer (some ⟨c2,0,none⟩)] w (RetOq s out AR A SV AV AX kc ks kv kx B bw mb mo b0 c1 c2 c3 (xU (ptn s) (kn s h.g) a) w):=by
 have hn:=hF.n;have hNN:s.n.toNat=N:=by omega
 have hr:zZ s h.g=0:=by
  unfold zZ;rw[Lg (by simpa using hv),hNN,Lg (by omega)]
 refine(uS h AF lf cf (some ⟨g3,0,none⟩) (ptn s) c bw c2 w (fun X e w'=>(∃m F,KwD s A SV AV AX kc ks kv kx B X bw mb m F)/\∃g' m' F',e=.returned (.slice (some ⟨g',0,none⟩) (ptn s) (ptn s))/\X.heap.size<=g'/\BRow w' g' (xU (ptn s) (kn s h.g) a)/\KwD s A SV AV AX kc ks kv kx B w' bw mb m' F'/\Wrote (fun z=>z=mb) X w') E.at_.c2 (fun X e w' hq=>?_) (fun X hX=>?_)).mono ?_
 . obtain⟨_,g',m',F',rfl,_⟩:=hq;exact⟨_,_,_,rfl⟩
 . obtain⟨m,F,hK⟩:=(E.call hX).kw
   exact(YS s hs hf A SV AV AX kc ks kv kx B h.g hr (by omega) (some ⟨g3,0,none⟩) c a ha bw mb m F X hK (((hg.at_ hg.lt).keep hX).more hX.size)).mono fun e w' hq=>⟨⟨m,F,hK⟩,hq⟩
 . rintro e w' ⟨X,hX,_,g',m',F',rfl,h1,h2,h3,h4⟩
   have hw:Wrote (fun z=>z=mb) w w':=(Wrote.of_below hX).trans h4 (fun _ _ e=>e);exact⟨g',rfl,Lz hX.size h1,h2,E.wrote hw ⟨m',F',h3⟩,hw⟩
end
end
section
open Go.RowKit Go.Shelf
attribute [local go_sem] Oper.semAt_some
section
variable {s:Sy} {out:List Int} {AR A SV AV AX:Bb} {kc ks kv kx B bw mb mo b0 c1 c2 c3:Nat} {w w':Ba}
theorem jL{w:Ba}{g c b:Nat}{bs:List Bool}{cs:Array Value}{t:TypeId}(ho:OwnB w g c bs)(h:w.heap[b]?=some (.cells cs t (0,0)))(ht:t≠4):b≠g:=by
 obtain⟨cur,h1,_⟩:=ho;intro e;subst e;rw[h1] at h;injection h with h
 injection h with _ h2 _
 exact ht h2.symm
theorem JX{w:Ba}{g c b m:Nat}{bs:List Bool}{F:Int->Option Value}(ho:OwnB w g c bs)(h:MapOf (Value.int .i64) w b m F):b≠g:=by
 obtain⟨cur,h1,_⟩:=ho;obtain⟨es,clock,h2,_⟩:=h;intro e;subst e;rw[h1] at h2
 cases h2
theorem EvC.bools(E:EvC s out AR A SV AV AX kc ks kv kx B bw mb mo b0 c1 c2 c3 w){g c:Nat}{bs:List Bool}(ho:OwnB w g c bs)(hb:BoolK g w w')(hg:B<=g):EvC s out AR A SV AV AX kc ks kv kx B bw mb mo b0 c1 c2 c3 w':=by
 obtain⟨m,F,hK⟩:=E.kw;obtain⟨m',hM⟩:=E.ops;obtain⟨AQ,cQ,hbk⟩:=hK.blk;have h0:=E.at_
 exact⟨⟨m,F,hK.bools hb hg (jL ho hbk (by decide)) (JX ho hK.map)⟩,⟨m',hM.same (hb.heap _ (JX ho hM))⟩,
  ⟨(hb.heap _ (jL ho h0.b0 (by decide))).trans h0.b0,(hb.heap _ (jL ho h0.c1 (by decide))).trans h0.c1,(hb.heap _ (jL ho h0.c2 (by decide))).trans h0.c2,(hb.heap _ (jL ho h0.c3 (by decide))).trans h0.c3⟩,E.ne,hb.iat E.out⟩
theorem BoolK.wrote{g:Nat}{R:Nat->Prop}{v:Ba}(h:Wrote R v w)(hb:BoolK g w w')(hg:v.heap.size<=g):Wrote R v w':=
 ⟨hb.os.trans h.os,hb.tape.trans h.tape,hb.output.trans h.output,by rw[hb.size];exact h.size,fun k hk hr=>(hb.heap k (by omega)).trans (h.block k hk hr)⟩
end
theorem atm_fine{s:Sy}{K N:Nat}(hF:Fine s K N)(hv:zV s=0){out:List Int}(hout:¬(0<out.length/\out.length≠s.vs.length)){f:Fm}(hnod:qL N f.h f.args.length=0)(hk:f.args.length=0):atmE s out 0 f=(ur s out f.h,0):=by
 have hn:=hF.n;have h1:=hF.n1;have h5:=hF.n5;have ha:f.args=[]:=Py.1 hk;have hN:s.n.toNat=N:=by omega
 have hE:qW s.n 0 f=0:=by
  unfold qW;rw[Lg (by omega)];have h2:gI (xI 0 f)=0:=by unfold xI;rw[ha];rfl
  rw[Lg (by rw[h2];simp),hN];unfold kK Qu;rw[Lg (by rw[hnod];simp),ha]
  rfl
 unfold atmE;rw[Lg (by rw[hv];simp),Lg hout,Lg (by rw[hE];simp),Lg (by omega)]
theorem ZE(s:Sy)(hs:LowS s)(hf:yR s.p)(hv:zV s=0)(K N:Nat)(hF:Fine s K N)(hn1:1<=ptn s)(hn7:ptn s<=700)(out:List Int)(hout:¬(0<out.length/\out.length≠s.vs.length))(cr:Nat)(AR A SV AV AX:Bb)(kc ks kv kx B bw mb mo b0 c1 c2 c3:Nat)(f:Fm)(AF:Bb)(cf:Nat)(hnod:qL N f.h f.args.length=0)(hop:f.h.op<=13)(RA:Fm->List Bool)(hRA:∀x,(RA x).length=ptn s)(w:Ba)(hE:EvC s out AR A SV AV AX kc ks kv kx B bw mb mo b0 c1 c2 c3 w)
  (hrec:∀i (hi:i<f.args.length),∃b o A' c',AF=some ⟨b,o,none⟩/\(∀X,Below B w X->∀j v,(f.args[i].vs A' c')[j]?=some v->X.cell? ⟨b,o+i*6+j,none⟩=some v) /\
   ∀X,Below B w X->EvC s out AR A SV AV AX kc ks kv kx B bw mb mo b0 c1 c2 c3 X->Calls Tryz.prog 40 #[.pointer (some ⟨bw,0,none⟩),.agg #[.slice AR out.length cr],.agg (f.args[i].vs A' c'),.map (some mo)] X (RetEv s out AR A SV AV AX kc ks kv kx B bw mb mo b0 c1 c2 c3 (RA f.args[i]) X)) :
  Calls Tryz.prog 40 #[.pointer (some ⟨bw,0,none⟩),.agg #[.slice AR out.length cr],.agg (f.vs AF cf),.map (some mo)] w (RetEv s out AR A SV AV AX kc ks kv kx B bw mb mo b0 c1 c2 c3 (if f.args.length=0 then ur s out f.h else gF s f.h (RA (f.args.getD 0 default)) (RA (f.args.getD 1 default))) w):=by
 unfold Fm.vs at hrec ⊢;obtain⟨wa,hwa,da,hsa,hBa⟩:=zn w #[.slice AR out.length cr] 63;obtain⟨w1,hw1,db,hsb,hBb⟩:=zn wa #[.int .i64 f.h.op,.int .i64 f.h.p,.int .i64 f.h.o,.int .i64 f.h.v,.int .i64 f.h.g,.slice AF f.args.length cf] 66;have hB:Below w.heap.size w w1:=hBa.trans (hBb.mono (by omega));have da1:=(hBb.block w.heap.size (by omega)).trans da;rw[hsa] at db;have E1:=hE.call hB;have HE1:=zH E1;obtain⟨m0,F0,hK0⟩:=hE.kw;have hlmb:=hK0.map.lt;have hBmb:=hK0.low;have hBlo:=hK0.lowB;have HRX:Hid (∀X,Wrote (fun z=>z=mb) w1 X->X.heap[w.heap.size]?=some (.cells #[.slice AR out.length cr] 63 (0,0))/\X.heap[w.heap.size+1]?=some (.cells #[.int .i64 f.h.op,.int .i64 f.h.p,.int .i64 f.h.o,.int .i64 f.h.v,.int .i64 f.h.g,.slice AF f.args.length cf] 66 (0,0))):=fun X hX=>⟨(hX.block _ (by omega) (by show ¬_=mb;omega)).trans da1,(hX.block _ (by omega) (by show ¬_=mb;omega)).trans db⟩
 have HBX:Hid (∀X,Wrote (fun z=>z=mb) w1 X->Below B w X):=fun X hX=>(hB.mono hBlo).trans (hX.below (by have:=hB.size;omega) (fun k hk e=>by have:k=mb:=e;omega))
 have hd:Below w1.heap.size w1 w1.drew:=(Lo _ w1).drew;have HWD:Hid (Wrote (fun z=>z=mb) w1 w1.drew):=Wrote.of_below hd;have HED:=zH (E1.call hd);have hfac:=YL hnod;have HREC:=zH hrec;have HRA:=zH hRA;have HWA:=zH hwa;have HWB:=zH hw1;have HB:=zH hB;have HF:=zH hF;obtain⟨v0,v1,v2,v3,v4,v5,_⟩:=Kg (db)
 by_cases hk:f.args.length=0
 case pos=>
  obtain⟨m1,F1,hK1⟩:=E1.kw;obtain⟨AQ,cQ,hbk⟩:=hK1.blk;have hat:=atm_fine hF hv hout hnod hk;have hal:(ur s out f.h).length=ptn s:=Z5 s out f.h;have HAT:=zH (atomN_any s hs hf out 0 f (by unfold xI;rw[Py.1 hk];decide) A SV AV AX AF AR kc ks kv kx cf cr w1.drew ((hK1.sys.more hK1.lowB).up hd) (((E1.out.more hK1.lowB).keep hd).more hd.size) (show f.args=[] from Py.1 hk));unfold RetBN at HAT;unfold Fm.vs at HAT;rw[hat] at HAT;simp only[hal] at HAT;unfold Sy.vs_ at HAT;have HKP:=zH (And.intro hbk (And.intro da1 db));have HAL:=zH hal;have HK:=zH hk;have e0:((f.args.length:Int)==0)=true:=by rw[hk];rfl
  rw[Lh hk];clear hwa da hsa hBa hw1 db hsb hBb hB da1 E1 hE hK0 hrec hRA hfac hnod hop hs hf hF hv hout hK1 hbk hat hal HREC HRA HED hd hk;go_enter Tryz.func40,Tryz.ntmps40;go_upto_region 1 with fail
  rw[HWA.out,HWB.out];go_upto_region 2 with fail
  refine zz [(0,true),(1,true),(2,true),(3,true),(4,true),(5,true),(6,false),(7,true),(8,true),(9,true),(10,true)] (fun X=>X.heap[bw]?=some (.cells #[.int .i64 s.p.t.n,.int .i64 s.p.t.ins,.int .i64 s.p.t.outs,.slice A s.p.t.cases.length kc,.int .i64 s.p.a.n,.slice SV s.p.a.sts.length ks,.int .i64 s.p.k,.int .i64 s.n,.slice AV s.vs.length kv,.slice AX s.xs.length kx,.int .i64 (ptn s:Int),.slice AQ s.n.toNat cQ,.map (some mb)] 77 (0,0))/\X.heap[w.heap.size]?=some (.cells #[.slice AR out.length cr] 63 (0,0))/\X.heap[w.heap.size+1]?=some (.cells #[.int .i64 f.h.op,.int .i64 f.h.p,.int .i64 f.h.o,.int .i64 f.h.v,.int .i64 f.h.g,.slice AF f.args.length cf] 66 (0,0))) (by kernel_rfl) (by kernel_rfl) HKP.out ?_
  repeat
   apply zG rfl
   . rintro K' hK' X ⟨u1,u2,u3⟩
     obtain⟨x0,x1,x2,x3,x4,x5,x6,x7,x8,x9⟩:=zB (u1);have y0:=zh (u2) 0 rfl;obtain⟨z0,z1,z2,z3,z4,z5,_⟩:=Kg (u3);clear u1 u2 u3;go_simp;exact hK'
  refine zE rfl ?_;intro K' hK';go_simp;refine HAT.out.mono ?_;rintro e w4 ⟨A4,c4,rfl,ho4,hb4⟩;have HO4:=zH ho4;have HB4:=zH hb4;obtain⟨k1,k2,k3⟩:=HKP.out;refine hK' _ _ ⟨Lb hb4 (zj (w:=w1) k1) k1,Lb hb4 (zj (w:=w1) k2) k2,Lb hb4 (zj (w:=w1) k3) k3⟩ ?_;clear hK' K' k1 k2 k3 ho4 hb4 HAT
  repeat
   apply zG rfl
   . rintro K' hK' X u
     clear u;go_simp;exact hK'
  refine zQ ?_;go_wp2_with fail;obtain⟨g4,rfl,hg4,hown⟩:=OwnB.of HAL.out hn1 HO4.out;have HOW:=zH hown;clear hown HO4
  go_ret2
  have hbw:Below w1.heap.size w1 w4:=((Lo _ w1).drew).trans HB4.out;have hww:Below w.heap.size w w4:=Lc HB.out hbw;exact⟨g4,c4,rfl,Lz HB.out.size hg4,HOW.out,HE1.out.call hbw,Wrote.of_below hww⟩
 have hki:0<f.args.length:=by omega
 obtain⟨bf,of,A',c',rfl,hcells,hcall⟩:=hrec 0 hki;have hs12:w.heap.size+1<w1.heap.size:=by omega
 have hop7:7<=f.h.op:=by
  obtain⟨h1,h2,_⟩:=hfac;unfold arN at h2
  by_cases e:f.h.op<=6
  . rw[Lg (by omega),Lh e] at h2;omega
  . omega
 have hkj:(0:Int)<(f.args.length:Int):=by omega
 have e0:((f.args.length:Int)==0)=false:=by rw[Rt];omega
 rw[Lg hk];have HCE0:=zH hcells;have HC1:=zH (hcall w1.drew (HBX.out _ HWD.out) HED.out);have hg0:f.args.getD 0 default=f.args[0]:=zt hki _;rw[hg0];obtain⟨a,hadef⟩:=Ki (RA f.args[0]);have hla:a.length=ptn s:=by rw[<-hadef];exact hRA _
 rw[hadef] at HC1 ⊢;obtain⟨b,hbdef⟩:=Ki (RA (f.args.getD 1 default));have hlb:b.length=ptn s:=by rw[<-hbdef];exact hRA _
 rw[hbdef];obtain⟨RR,hRR⟩:=Ki (gF s f.h a b);rw[hRR];have HRR:=zH hRR;have HLA:=zH hla;have HLB:=zH hlb;have HBD:=zH hbdef;have HFAC:=zH hfac;have HOP:=zH (And.intro hop7 hop);have HSY:=zH (And.intro hs (And.intro hf hv));have HKP:Hid ((fun X=>Below B w X/\X.heap[w.heap.size]?=some (.cells #[.slice AR out.length cr] 63 (0,0))/\X.heap[w.heap.size+1]?=some (.cells #[.int .i64 f.h.op,.int .i64 f.h.p,.int .i64 f.h.o,.int .i64 f.h.v,.int .i64 f.h.g,.slice (some ⟨bf,of,none⟩) f.args.length cf] 66 (0,0))) w1.drew):=⟨HBX.out _ HWD.out,HRX.out _ HWD.out⟩;have HK:=zH hk;have ht:Tryz.prog.underlying 103=some (.map 3 135):=Tryz.underlying103;have hz:∀W:Ba,(zeroValue 135).run Tryz.prog W=.ok .nilFunc W:=fun W=>by kernel_rfl
 have HT:=zH ht;have HZ:=zH hz;clear hwa da hsa hBa hw1 db hsb hBb hB da1 E1 hE hK0 hrec HRA hRA hfac hnod hop hs hf hF hv hout HED hd hcells hcall hg0 hadef hbdef hRR hla hlb hop7 hk ht hz HE1;go_enter Tryz.func40,Tryz.ntmps40;go_upto_region 1 with fail
 rw[HWA.out,HWB.out];go_upto_region 3 with fail
 refine zz [(0,true),(1,true),(2,true),(3,true),(4,true),(5,true),(6,true),(7,false),(8,true),(9,true),(10,true),(11,true),(12,true)] (fun X=>Below B w X/\X.heap[w.heap.size]?=some (.cells #[.slice AR out.length cr] 63 (0,0))/\X.heap[w.heap.size+1]?=some (.cells #[.int .i64 f.h.op,.int .i64 f.h.p,.int .i64 f.h.o,.int .i64 f.h.v,.int .i64 f.h.g,.slice (some ⟨bf,of,none⟩) f.args.length cf] 66 (0,0))) (by kernel_rfl) (by kernel_rfl) HKP.out ?_
 repeat
  apply zG rfl
  . rintro K' hK' X ⟨u1,u2,u3⟩
    have y0:=zh (u2) 0 rfl;obtain⟨z0,z1,z2,z3,z4,z5,_⟩:=Kg (u3);have q0:=HCE0.out X u1 0 _ rfl;have q1:=HCE0.out X u1 1 _ rfl;have q2:=HCE0.out X u1 2 _ rfl;have q3:=HCE0.out X u1 3 _ rfl;have q4:=HCE0.out X u1 4 _ rfl;have q5:=HCE0.out X u1 5 _ rfl;simp only[Nat.zero_mul,Nat.add_zero] at q0 q1 q2 q3 q4 q5;clear u1 u2 u3;go_simp;exact hK'
 refine zE rfl ?_;intro K' hK';go_simp;refine HC1.out.mono ?_;rintro e w3 ⟨g3,cc,rfl,hg3,ho3,hE3,hW3⟩;have W13:Hid (Wrote (fun z=>z=mb) w1 w3):=HWD.out.trans hW3 (fun _ _ e=>e);refine hK' _ _ ⟨HBX.out _ W13.out,HRX.out _ W13.out⟩ ?_;have HO3:=zH ho3;have HE3:=zH hE3;have hs13:=W13.out.size;have hg31:w1.heap.size<=g3:=hg3;have hsB:=HB.out.size;have hfo:=(HRX.out _ W13.out).2;obtain⟨v0,v1,v2,v3,v4,v5,_⟩:=Kg (hfo);obtain⟨m3,hM3⟩:=hE3.ops;have hlk:=hM3.look2 yp HT.out (HZ.out w3) f.h.op;have HWW:Hid (Wrote (fun z=>z=mb) w w3):=(Wrote.of_below HB.out).trans W13.out (fun _ _ e=>e);clear hK' K' hW3 ho3 hE3 HC1 hfo hM3 HKP
 repeat
  apply zG rfl
  . rintro K' hK' X u
    clear u;go_simp;exact hK'
 refine zQ ?_
 by_cases h10:f.h.op=10
 case pos=>
  have hev:RR=xU (ptn s) (yx s f.h.p.toNat) a:=by rw[<-HRR.out];unfold gF;rw[Lh h10]
  have hfn:opG b0 c1 c2 c3 f.h.op=some (knF b0):=by rw[h10];rfl
  rw[hfn] at hlk;simp only[Option.getD_some,Option.isSome_some] at hlk;unfold knF at hlk;have HC2:=zH (kop10 HF.out hn1 hn7 f.h (some ⟨bf,of,none⟩) f.args.length cf g3 cc a HLA.out w3 HE3.out HO3.out (HFAC.out.2.2.1 h10));rw[<-hev] at HC2;have HLR:Hid (RR.length=ptn s):=by rw[<-HRR.out];exact jH ..
  clear hev hfn h10  HREC;go_wp2_with fail;refine HC2.out.mono ?_;rintro e w5 ⟨g5,rfl,hg5,hr5,hE5,hW5⟩;have HR5:=zH hr5;have HE5:=zH hE5;have HW5:Hid (Wrote (fun z=>z=mb) w w5):=HWW.out.trans hW5 (fun _ _ e=>e);have hgw:w.heap.size<=g5:=by omega
  clear hr5 hE5 hW5 HC2;go_wp2_with fail
  go_ret2
  exact⟨g5,ptn s,rfl,hgw,HR5.out.ownB HLR.out (by omega),HE5.out,HW5.out⟩
 by_cases h11:f.h.op=11
 case pos=>
  have hev:RR=evG s f.h.g a:=by rw[<-HRR.out];unfold gF;rw[Lg (by omega)];rw[Lh h11]
  have hfn:opG b0 c1 c2 c3 f.h.op=some (grF c1):=by rw[h11];rfl
  rw[hfn] at hlk;simp only[Option.getD_some,Option.isSome_some] at hlk;unfold grF at hlk;have HC2:=zH (kop11 HF.out hn1 hn7 f.h (some ⟨bf,of,none⟩) f.args.length cf g3 cc a HLA.out w3 HE3.out HO3.out (HFAC.out.2.2.2 (.inl h11)));rw[<-hev] at HC2;have HLR:Hid (RR.length=ptn s):=by rw[<-HRR.out];exact jH ..
  clear hev hfn h11 h10 HREC;go_wp2_with fail;refine HC2.out.mono ?_;rintro e w5 ⟨g5,rfl,hg5,hr5,hE5,hW5⟩;have HR5:=zH hr5;have HE5:=zH hE5;have HW5:Hid (Wrote (fun z=>z=mb) w w5):=HWW.out.trans hW5 (fun _ _ e=>e);have hgw:w.heap.size<=g5:=by omega
  clear hr5 hE5 hW5 HC2;go_wp2_with fail
  go_ret2
  exact⟨g5,ptn s,rfl,hgw,HR5.out.ownB HLR.out (by omega),HE5.out,HW5.out⟩
 by_cases h12:f.h.op=12
 case pos=>
  have hev:RR=xU (ptn s) (kn s f.h.g) a:=by rw[<-HRR.out];unfold gF;rw[Lg (by omega)];rw[Lg (by omega)];rw[Lh h12]
  have hfn:opG b0 c1 c2 c3 f.h.op=some (grF c2):=by rw[h12];rfl
  rw[hfn] at hlk;simp only[Option.getD_some,Option.isSome_some] at hlk;unfold grF at hlk;have HC2:=zH (kop12 HSY.out.1 HSY.out.2.1 HF.out HSY.out.2.2 hn1 hn7 f.h (some ⟨bf,of,none⟩) f.args.length cf g3 cc a HLA.out w3 HE3.out HO3.out (HFAC.out.2.2.2 (.inr (.inl h12))));rw[<-hev] at HC2;have HLR:Hid (RR.length=ptn s):=by rw[<-HRR.out];exact jH ..
  clear hev hfn h12 h10 h11 HREC;go_wp2_with fail;refine HC2.out.mono ?_;rintro e w5 ⟨g5,rfl,hg5,hr5,hE5,hW5⟩;have HR5:=zH hr5;have HE5:=zH hE5;have HW5:Hid (Wrote (fun z=>z=mb) w w5):=HWW.out.trans hW5 (fun _ _ e=>e);have hgw:w.heap.size<=g5:=by omega
  clear hr5 hE5 hW5 HC2;go_wp2_with fail
  go_ret2
  exact⟨g5,ptn s,rfl,hgw,HR5.out.ownB HLR.out (by omega),HE5.out,HW5.out⟩
 by_cases h13:f.h.op=13
 case pos=>
  have hev:RR=zP (ptn s) (evG s f.h.g) a (ptn s):=by rw[<-HRR.out];unfold gF;rw[Lg (by omega)];rw[Lg (by omega)];rw[Lg (by omega)];rw[Lh h13]
  have hfn:opG b0 c1 c2 c3 f.h.op=some (grF c3):=by rw[h13];rfl
  rw[hfn] at hlk;simp only[Option.getD_some,Option.isSome_some] at hlk;unfold grF at hlk;have HC2:=zH (kop13 HF.out hn1 hn7 f.h (some ⟨bf,of,none⟩) f.args.length cf g3 cc a HLA.out w3 HE3.out HO3.out (HFAC.out.2.2.2 (.inr (.inr h13))));rw[<-hev] at HC2;have HLR:Hid (RR.length=ptn s):=by rw[<-HRR.out];exact jH ..
  clear hev hfn h13 h10 h11 h12 HREC;go_wp2_with fail;refine HC2.out.mono ?_;rintro e w5 ⟨g5,rfl,hg5,hr5,hE5,hW5⟩;have HR5:=zH hr5;have HE5:=zH hE5;have HW5:Hid (Wrote (fun z=>z=mb) w w5):=HWW.out.trans hW5 (fun _ _ e=>e);have hgw:w.heap.size<=g5:=by omega
  clear hr5 hE5 hW5 HC2;go_wp2_with fail
  go_ret2
  exact⟨g5,ptn s,rfl,hgw,HR5.out.ownB HLR.out (by omega),HE5.out,HW5.out⟩
 have hfn:opG b0 c1 c2 c3 f.h.op=none:=by unfold opG opQ;rw[Lg h10,Lg h11,Lg h12,Lg h13]
 rw[hfn] at hlk;simp only[Option.getD_none,Option.isSome_none] at hlk
 by_cases h7:f.h.op=7
 case pos=>
  have hev:RR=uc (ptn s) a:=by rw[<-HRR.out];unfold gF;rw[Lg h10,Lg h11,Lg h12,Lg h13,Lh h7]
  have HEV:=zH hev;have e7:(f.h.op==7)=true:=by rw[h7];rfl
  clear hfn h7 h10 h11 h12 h13 HREC hev;go_wp2_with fail
  go_loopw [61] (fun i wr=>∃j:Nat,j<=ptn s/\i=.int .i64 (j:Int)/\Hid (OwnB wr g3 cc (uh (uc (ptn s) a) a j))/\Hid (BoolK g3 w3 wr)) (fun i _=>ptn s-(intOf i).toNat)
  case atStart=>exact⟨0,by omega,rfl,by rw[YO];exact HO3,BoolK.refl _ _⟩
  case round=>
   obtain⟨j,hj,rfl,hown,hbk⟩:=hrel;have hwj:IntKind.i64.wrap ((j:Int)+1)=((j+1:Nat):Int):=by rw[Lp];omega
   by_cases hlt:j<ptn s
   . have hkb:j<a.length:=by rw[HLA.out];exact hlt
     have hnl:(uc (ptn s) a).length=ptn s:=qU ..;have hab:(uc (ptn s) a).length=a.length:=by rw[hnl,HLA.out]
     have hml:=ug hab j;have y0:=hown.out.cell j (by rw[hml];exact hkb);have f0:=hown.out.froz j;have hlw:=hown.out.lt;rw[midB_at hab hkb] at y0;obtain⟨x,hx⟩:=Ki (a[j]'hkb);rw[hx] at y0;have hnv:(uc (ptn s) a)[j]'(by rw[hnl];exact hlt)=!x:=by rw[<-zt (by rw[hnl];exact hlt) false,Xu hlt,zt hkb,hx]
     have hset:=hown.out.set j (!x);have hms:=QB hab hkb;rw[hnv] at hms;rw[hms] at hset;have HOW:=zH hset;have HBK:=zH (hbk.out.set y0 (!x));have hj0:(0:Int)<=(j:Int):=by omega
     have hj1:(j:Int)<(ptn s:Int):=by omega
     clear hset hms hnv hx hml hab hnl hown hbk hkb
     cases x with
     | false=>
      go_wp2_with fail
      go_roundw
      case rel=>exact⟨j+1,by omega,by go_num,HOW,HBK⟩
      case measure=>simp[intOf];omega
     | true=>
      go_wp2_with fail
      go_roundw
      case rel=>exact⟨j+1,by omega,by go_num,HOW,HBK⟩
      case measure=>simp[intOf];omega
   . obtain rfl:ptn s=j:=by omega
     have hj1:¬(ptn s:Int)<(ptn s:Int):=by omega
     have hnl:(uc (ptn s) a).length=ptn s:=qU ..;have HOW:Hid (OwnB wr g3 cc RR):=by have h:=hown.out;rw[QD (by rw[hnl,HLA.out]) (by rw[HLA.out])] at h;rw[HEV.out];exact h
     have HEE:=zH (HE3.out.bools HO3.out hbk.out (by omega));have HWE:=zH (BoolK.wrote HWW.out hbk.out (by omega));have hgw:w.heap.size<=g3:=by omega
     clear hown hbk hnl;go_wp2_with fail
     go_ret2
     exact⟨g3,cc,rfl,hgw,HOW.out,HEE.out,HWE.out⟩
 have hki1:1<f.args.length:=by
  have h1:=HFAC.out.2.1;have h3:=HOP.out;unfold arN at h1;rw[Lh (by omega)] at h1;omega
 have hkj1:(1:Int)<(f.args.length:Int):=by omega
 obtain⟨bf2,of2,A2,cA2,eA,hcells2,hcall2⟩:=HREC.out 1 hki1
 cases eA
 have hg1:f.args.getD 1 default=f.args[1]:=zt hki1 _;have hbb:RA f.args[1]=b:=by rw[<-hg1];exact HBD.out
 rw[hbb] at hcall2;have hd3:Below w3.heap.size w3 w3.drew:=(Lo _ w3).drew;have WD3:Hid (Wrote (fun z=>z=mb) w1 w3.drew):=W13.out.trans (Wrote.of_below hd3) (fun _ _ e=>e);have HC2:=zH (hcall2 w3.drew (HBX.out _ WD3.out) (HE3.out.call hd3));have HCE1:=zH hcells2;have e7:(f.h.op==7)=false:=by rw[Rt];exact h7
 have h89:f.h.op=8\/f.h.op=9:=by have h3:=HOP.out;omega
 have HEV:Hid (RR=if f.h.op=8 then qG (ptn s) a b else orL (ptn s) a b):=by
  show RR=_;rw[<-HRR.out];unfold gF;rw[Lg h10,Lg h11,Lg h12,Lg h13,Lg h7]
 have H89:=zH h89;have hmb3:mb≠g3:=by obtain⟨m,F,hK⟩:=HE3.out.kw;exact JX HO3.out hK.map
 have HKP:Hid ((fun X=>Below B w X/\X.heap[w.heap.size]?=some (.cells #[.slice AR out.length cr] 63 (0,0))/\X.heap[w.heap.size+1]?=some (.cells #[.int .i64 f.h.op,.int .i64 f.h.p,.int .i64 f.h.o,.int .i64 f.h.v,.int .i64 f.h.g,.slice (some ⟨bf,of,none⟩) f.args.length cf] 66 (0,0))) w3.drew):=⟨HBX.out _ WD3.out,HRX.out _ WD3.out⟩;clear hfn h7 h10 h11 h12 h13 h89 HREC hcells2 hcall2 hg1 hbb hd3;go_upto_region 16 with fail
 refine zz [(0,true),(1,true),(2,true),(3,true),(4,true),(5,true),(6,true),(7,false),(8,true),(9,true),(10,true),(11,true),(12,true)] (fun X=>Below B w X/\X.heap[w.heap.size]?=some (.cells #[.slice AR out.length cr] 63 (0,0))/\X.heap[w.heap.size+1]?=some (.cells #[.int .i64 f.h.op,.int .i64 f.h.p,.int .i64 f.h.o,.int .i64 f.h.v,.int .i64 f.h.g,.slice (some ⟨bf,of,none⟩) f.args.length cf] 66 (0,0))) (by kernel_rfl) (by kernel_rfl) HKP.out ?_
 repeat
  apply zG rfl
  . rintro K' hK' X ⟨u1,u2,u3⟩
    have y0:=zh (u2) 0 rfl;obtain⟨z0,z1,z2,z3,z4,z5,_⟩:=Kg (u3);have q0:=HCE1.out X u1 0 _ rfl;have q1:=HCE1.out X u1 1 _ rfl;have q2:=HCE1.out X u1 2 _ rfl;have q3:=HCE1.out X u1 3 _ rfl;have q4:=HCE1.out X u1 4 _ rfl;have q5:=HCE1.out X u1 5 _ rfl;simp only[Nat.one_mul,Nat.add_zero] at q0 q1 q2 q3 q4 q5;clear u1 u2 u3;go_simp;exact hK'
 refine zE rfl ?_;intro K' hK';go_simp;refine HC2.out.mono ?_;rintro e w5 ⟨g5,cd,rfl,hg5,ho5,hE5,hW5⟩;have W15:Hid (Wrote (fun z=>z=mb) w1 w5):=WD3.out.trans hW5 (fun _ _ e=>e);refine hK' _ _ ⟨HBX.out _ W15.out,HRX.out _ W15.out⟩ ?_;have HO5:=zH ho5;have HE5:=zH hE5;have hs35:w3.heap.size<=w5.heap.size:=hW5.size;have hg53:w3.heap.size<=g5:=hg5;have hl3:=HO3.out.lt;have HA5:Hid (OwnB w5 g3 cc a):=HO3.out.same (hW5.block g3 hl3 (fun e=>hmb3 (by have:g3=mb:=e;omega)));have HWW5:Hid (Wrote (fun z=>z=mb) w w5):=(Wrote.of_below HB.out).trans W15.out (fun _ _ e=>e);have HFO:=zH (HRX.out _ W15.out).2;clear hK' K' hW5 ho5 hE5 HC2 HKP v0 v1 v2 v3 v4 v5 hlk
 repeat
  apply zG rfl
  . rintro K' hK' X u
    clear u;go_simp;exact hK'
 refine zQ ?_;go_wp2_with fail
 go_loopw [90] (fun i wr=>∃j:Nat,j<=ptn s/\i=.int .i64 (j:Int)/\Hid (OwnB wr g3 cc (uh RR a j))/\Hid (BoolK g3 w5 wr)) (fun i _=>ptn s-(intOf i).toNat)
 case atStart=>exact⟨0,by omega,rfl,by rw[YO];exact HA5,BoolK.refl _ _⟩
 case round=>
  obtain⟨j,hj,rfl,hown,hbk⟩:=hrel;have hwj:IntKind.i64.wrap ((j:Int)+1)=((j+1:Nat):Int):=by rw[Lp];omega
  have hRL:RR.length=ptn s:=by
   rw[HEV.out];split
   . exact yr ..
   . exact gM ..
  have hab:RR.length=a.length:=by rw[hRL,HLA.out]
  by_cases hlt:j<ptn s
  . have hkb:j<a.length:=by rw[HLA.out];exact hlt
    have hkb2:j<b.length:=by rw[HLB.out];exact hlt
    have hml:=ug hab j;have y0:=hown.out.cell j (by rw[hml];exact hkb);have f0:=hown.out.froz j;have hlw:=hown.out.lt;rw[midB_at hab hkb] at y0;have z0:=(LA (a:=⟨g5,j,none⟩) (hbk.out.heap g5 (by omega))).trans (HO5.out.cell j hkb2);have fr:=(hbk.out.heap (w.heap.size+1) (by omega)).trans HFO.out;have v0:=zh fr 0 rfl;obtain⟨x,hx⟩:=Ki (a[j]'hkb);obtain⟨y,hy⟩:=Ki (b[j]'hkb2);rw[hx] at y0;rw[hy] at z0;have hj0:(0:Int)<=(j:Int):=by omega
    have hj1:(j:Int)<(ptn s:Int):=by omega
    have hms:=QB hab hkb;rcases H89.out with h8 | h9
    . have e8:(f.h.op==8)=true:=by rw[h8];rfl
      have hnv:RR[j]'(by rw[hRL];exact hlt)=(x&&y):=by
       rw[<-zt (by rw[hRL];exact hlt) false,HEV.out,Lh h8,zt (by rw[yr];exact hlt),uu hlt,zt hkb,zt hkb2,hx,hy]
      rw[hnv] at hms;have hset:=hown.out.set j (x&&y);rw[hms] at hset;have HOW:=zH hset;have HBK:=zH (hbk.out.set y0 (x&&y));clear hset hms hnv hx hy hml hab hRL hown hbk hkb hkb2 h8 fr
      cases x with
      | false=>
       cases y with
       | false=>
        go_wp2_with fail
        go_roundw
        case rel=>exact⟨j+1,by omega,by go_num,HOW,HBK⟩
        case measure=>simp[intOf];omega
       | true=>
        go_wp2_with fail
        go_roundw
        case rel=>exact⟨j+1,by omega,by go_num,HOW,HBK⟩
        case measure=>simp[intOf];omega
      | true=>
       cases y with
       | false=>
        go_wp2_with fail
        go_roundw
        case rel=>exact⟨j+1,by omega,by go_num,HOW,HBK⟩
        case measure=>simp[intOf];omega
       | true=>
        go_wp2_with fail
        go_roundw
        case rel=>exact⟨j+1,by omega,by go_num,HOW,HBK⟩
        case measure=>simp[intOf];omega
    . have e8:(f.h.op==8)=false:=by rw[h9];rfl
      have hnv:RR[j]'(by rw[hRL];exact hlt)=(x||y):=by
       rw[<-zt (by rw[hRL];exact hlt) false,HEV.out,Lg (by omega),zt (by rw[gM];exact hlt),orL_at hlt,zt hkb,zt hkb2,hx,hy]
      rw[hnv] at hms;have hset:=hown.out.set j (x||y);rw[hms] at hset;have HOW:=zH hset;have HBK:=zH (hbk.out.set y0 (x||y));clear hset hms hnv hx hy hml hab hRL hown hbk hkb hkb2 h9 fr
      cases x with
      | false=>
       cases y with
       | false=>
        go_wp2_with fail
        go_roundw
        case rel=>exact⟨j+1,by omega,by go_num,HOW,HBK⟩
        case measure=>simp[intOf];omega
       | true=>
        go_wp2_with fail
        go_roundw
        case rel=>exact⟨j+1,by omega,by go_num,HOW,HBK⟩
        case measure=>simp[intOf];omega
      | true=>
       cases y with
       | false=>
        go_wp2_with fail
        go_roundw
        case rel=>exact⟨j+1,by omega,by go_num,HOW,HBK⟩
        case measure=>simp[intOf];omega
       | true=>
        go_wp2_with fail
        go_roundw
        case rel=>exact⟨j+1,by omega,by go_num,HOW,HBK⟩
        case measure=>simp[intOf];omega
  . obtain rfl:ptn s=j:=by omega
    have hj1:¬(ptn s:Int)<(ptn s:Int):=by omega
    have HOW:Hid (OwnB wr g3 cc RR):=by have h:=hown.out;rw[QD (by rw[hRL,HLA.out]) (by rw[HLA.out])] at h;exact h
    have HEE:=zH (HE5.out.bools HA5.out hbk.out (by omega));have HWE:=zH (BoolK.wrote HWW5.out hbk.out (by omega));have hgw:w.heap.size<=g3:=by omega
    clear hown hbk hRL hab;go_wp2_with fail
    go_ret2
    exact⟨g3,cc,rfl,hgw,HOW.out,HEE.out,HWE.out⟩
end
section
open Go.RowKit Go.Shelf
theorem ffs_all:∀ {l:List Int},Ym l=0->∀x∈l,x=0
 | [],_,x,hx=>by cases hx
 | e::l,h,x,hx=>by
  unfold Ym at h
  by_cases he:e≠0
  . rw[Lh he] at h;exact absurd h he
  . rw[Lg he] at h
    rcases L5.1 hx with rfl | hx
    . simpa using he
    . exact ffs_all h x hx
theorem YM{N:Nat}{R:Fm->Int}{f:Fm}(h:Qu N R f=0):qL N f.h f.args.length=0/\∀x∈f.args,R x=0:=by
 unfold Qu at h
 by_cases he:qL N f.h f.args.length≠0
 . rw[Lh he] at h;exact absurd h he
 . rw[Lg he] at h
   exact⟨by simpa using he,fun x hx=>ffs_all h _ (LX.2 ⟨x,hx,rfl⟩)⟩
theorem evOk_of{N:Nat}{w:Ba}{B:Nat}:∀ {d:Nat} {f:Fm} {A:Bb},FsAt w B d A f.args->kK N d f=0->Ya d f=false->evOk N d f
 | 0,f,A,hA,h,ht=>⟨(YM h).1,hA⟩
 | d+1,f,A,hA,h,ht=>by
  obtain⟨h1,h2⟩:=YM (R:=kK N d) h;have ht2:(gB f.h.op||f.args.any (Ya d))=false:=ht;rw[Bool.or_eq_false_iff] at ht2
  have h17:f.h.op<=17:=by
   unfold qL at h1
   by_cases e:f.h.op<0\/17<f.h.op
   . rw[Lh e] at h1;cases h1
   . omega
  refine⟨h1,?_,fun x hx=>?_⟩
  . have:=ht2.1
    unfold gB at this;rw[decide_eq_false_iff_not] at this;omega
  . obtain⟨i,hi,rfl⟩:=LQ hx
    obtain⟨b,o,e,hlt,hr⟩:=hA (by omega);obtain⟨A',c',_,hB⟩:=hr i hi;refine evOk_of hB (h2 _ hx) ?_;have:=List.any_eq_false.1 ht2.2 _ hx;simpa using this
theorem nod_leaf{N:Nat}{h:Fh}(he:qL N h 0=0):h.op<=13:=by
 obtain⟨h0,h1,_⟩:=YL he;unfold arN at h1
 by_cases e:h.op=8\/h.op=9\/h.op=17
 . rw[Lh e] at h1;simp at h1
 . rw[Lg e] at h1
   by_cases e2:h.op<=6
   . omega
   . rw[Lg e2] at h1;simp at h1
theorem YR(s:Sy)(hs:LowS s)(hf:yR s.p)(hv:zV s=0)(K N:Nat)(hF:Fine s K N)(hn1:1<=ptn s)(hn7:ptn s<=700)(out:List Int)(hout:¬(0<out.length/\out.length≠s.vs.length))(cr:Nat)(AR A SV AV AX:Bb)(kc ks kv kx B bw mb mo b0 c1 c2 c3:Nat):∀(d:Nat) (f:Fm) (AF:Bb) (cf:Nat) (w:Ba),evOk N d f->FsAt w B d AF f.args->EvC s out AR A SV AV AX kc ks kv kx B bw mb mo b0 c1 c2 c3 w ->
  Calls Tryz.prog 40 #[.pointer (some ⟨bw,0,none⟩),.agg #[.slice AR out.length cr],.agg (f.vs AF cf),.map (some mo)] w (RetEv s out AR A SV AV AX kc ks kv kx B bw mb mo b0 c1 c2 c3 (gG s out d f) w)
 | 0,f,AF,cf,w,hok,hA,hE=>by
  have h0:f.args.length=0:=by rw[hok.2];rfl
  have h1:f.h.op<=13:=nod_leaf (by rw[<-h0];exact hok.1);have:=ZE s hs hf hv K N hF hn1 hn7 out hout cr AR A SV AV AX kc ks kv kx B bw mb mo b0 c1 c2 c3 f AF cf hok.1 h1 (fun _=>List.replicate (ptn s) false) (fun _=>LB) w hE (fun i hi=>by omega);rw[Lh h0] at this;exact this
 | d+1,f,AF,cf,w,hok,hA,hE=>
  ZE s hs hf hv K N hF hn1 hn7 out hout cr AR A SV AV AX kc ks kv kx B bw mb mo b0 c1 c2 c3 f AF cf hok.1 hok.2.1 (gG s out d) (QX s out d) w hE (fun i hi=>by
   obtain⟨b,o,e,hlt,hr⟩:=hA (by omega);obtain⟨A',c',h1,h2⟩:=hr i hi
   exact⟨b,o,A',c',e,fun X hX j v hv=>(hX.cell hlt).trans (h1 j v hv),fun X hX hEX=>YR s hs hf hv K N hF hn1 hn7 out hout cr AR A SV AV AX kc ks kv kx B bw mb mo b0 c1 c2 c3 d _ A' c' X (hok.2.2 _ (Ld hi)) (h2.keep hX) hEX⟩)
end
section
open Go.RowKit Go.Shelf
attribute [local go_sem] Oper.semAt_some
theorem Yj(s:Sy)(hs:LowS s)(hf:yR s.p)(g:Int)(set:List Bool)(A SV AV AX AB:Bb)(kc ks kv kx kb:Nat)(hsl:set.length<=1000000)(w:Ba)(hS:SyAt w w.heap.size A SV AV AX s)(hB0:BAt w w.heap.size AB set) :
  Calls Tryz.prog 16 #[.agg (s.vs_ A kc SV ks AV kv AX kx),.int .i64 g,.slice AB set.length kb] w (gA (evyE s g set) w):=by
 obtain⟨w1,hw1,d0,hs1,hB⟩:=zn w (s.vs_ A kc SV ks AV kv AX kx) 35;have HO:=zH (vB s hs hf g set A SV AV AX AB kc ks kv kx kb hsl w1 (hS.up hB));have HBA:Hid (∀X,Below w1.heap.size w1 X->BAt X X.heap.size AB set):=fun X hX=>(((hB0.keep hB).more hB.size).keep hX).more hX.size
 have HC:Hid (zN s g set=0->∃G:Nat,g=(G:Int)/\set.length=ptn s/\evyE s g set=(evG s g set,0)/\∀(bw:Nat) (X:Ba),Below w1.heap.size w1 X->KwAt X X.heap.size bw (ptn s) s.n.toNat (yx s)->Calls Tryz.prog 26 #[.pointer (some ⟨bw,0,none⟩),.int .i64 (G:Int),.slice AB (ptn s) kb] X (xe (evG s g set) X)):=fun h=>by
  obtain⟨G,hg,hG,hN,hn1,hn7,hl,hps⟩:=xE hf h;refine⟨G,hg,hl,Lg (by simpa using h),fun bw X hX hK=>?_⟩;unfold evG;rw[hps];exact qz bw (ptn s) s.n.toNat (yx s) hn1 (by omega) hN G hG AB kb set hl X hK (HBA.out X hX)
 unfold xe at HC;obtain⟨E,hE⟩:=Ki (zN s g set);obtain⟨R,hR⟩:=Ki (evyE s g set);have HR0:Hid (E≠0->R=([],E)):=fun h=>by rw[<-hR,<-hE] at *;exact Lh h
 unfold RetOp at HO;unfold gA;rw[hE] at HO HC;rw[hR] at HC ⊢;obtain⟨n,hn⟩:=Ki (ptn s);rw[hn] at HO HC;unfold Sy.vs_ at hw1 d0 HO ⊢;have HW1:=zH hw1;have HB:=zH hB;obtain⟨p0,p1,p2,p3,p4,p5,p6,p7,p8,p9⟩:=zB (d0);clear hw1 d0 hB hB0 hE hR hS hs hf HBA hn;go_enter Tryz.func16,Tryz.ntmps16;go_wp2_with fail;rw[HW1.out];go_wp2_with fail;refine HO.out.mono ?_;rintro e w2 ⟨hb2,hcase⟩;have HB2:=zH hb2;clear p0 p1 p2 p3 p4 p5 p6 p7 p8 p9 hb2 HO HW1;rcases hcase with ⟨h0,rfl⟩ | ⟨rfl,bw,rfl,hK⟩
 . have e0:(E != 0)=true:=by simpa using h0
   have hRR:Hid (R=([],E)):=HR0.out h0;clear HC HR0;go_wp2_with fail
   go_ret2
   rw[hRR.out];exact⟨none,0,rfl,fun h=>absurd h (by simp),Lc HB.out HB2.out⟩
 obtain⟨G,rfl,hl,hRR,hc⟩:=HC.out rfl;have HCC:=zH (hc bw w2 HB2.out hK);have HRR:=zH hRR;rw[hl];clear HC hc hK hl HR0 hRR;go_wp2_with fail;refine HCC.out.mono ?_;rintro e w3 ⟨g3,rfl,hg3,hr3,hb3⟩;have HR3:=zH hr3;have HB3:=zH (HB.out.trans ((Lc HB2.out hb3).mono HB.out.size));clear hr3 hb3 HCC;go_wp2_with fail
 go_ret2
 rw[HRR.out];exact⟨some ⟨g3,0,none⟩,_,rfl,HR3.out.at_ HR3.out.lt,HB3.out⟩
theorem uU(s:Sy)(hs:LowS s)(hf:yR s.p)(g:Int)(set:List Bool)(A SV AV AX AB:Bb)(kc ks kv kx kb:Nat)(hsl:set.length<=1000000)(w:Ba)(hS:SyAt w w.heap.size A SV AV AX s)(hB0:BAt w w.heap.size AB set) :
  Calls Tryz.prog 17 #[.agg (s.vs_ A kc SV ks AV kv AX kx),.int .i64 g,.slice AB set.length kb] w (gA (dstE s g set) w):=by
 obtain⟨w1,hw1,d0,hs1,hB⟩:=zn w (s.vs_ A kc SV ks AV kv AX kx) 35;have HO:=zH (wO s hs hf g set A SV AV AX AB kc ks kv kx kb hsl w1 (hS.up hB));have HBA:Hid (∀X,Below w1.heap.size w1 X->BAt X X.heap.size AB set):=fun X hX=>(((hB0.keep hB).more hB.size).keep hX).more hX.size
 have HC:Hid (zN s g set=0->set.length=ptn s/\dstE s g set=(xU (ptn s) (kn s g) set,0)/\∀(bw mb:Nat) (X:Ba),Below w1.heap.size w1 X->KwD s A SV AV AX kc ks kv kx w1.heap.size X bw mb 0 (fun _=>none)->Calls Tryz.prog 36 #[.pointer (some ⟨bw,0,none⟩),.int .i64 g,.slice AB (ptn s) kb] X fun e w'=>∃g' m' F',e=.returned (.slice (some ⟨g',0,none⟩) (ptn s) (ptn s))/\X.heap.size<=g'/\BRow w' g' (xU (ptn s) (kn s g) set)/\KwD s A SV AV AX kc ks kv kx w1.heap.size w' bw mb m' F'/\Wrote (fun z=>z=mb) X w'):=fun h=>by
  obtain⟨G,hg,hG,hN,hn1,hn7,hl,hps⟩:=xE hf h;exact⟨hl,Lg (by simpa using h),fun bw mb X hX hK=>YS s hs hf A SV AV AX kc ks kv kx w1.heap.size g (vF h).1 (by omega) AB kb set hl bw mb 0 _ X hK (HBA.out X hX)⟩
 have HSY:Hid (∀X,Below w1.heap.size w1 X->SyAt X w1.heap.size A SV AV AX s):=fun X hX=>(hS.up hB).keep hX
 have HCL:Hid (∀q,(yx s q).length=ptn s):=fun q=>ZX s q
 obtain⟨E,hE⟩:=Ki (zN s g set);obtain⟨R,hR⟩:=Ki (dstE s g set);have HR0:Hid (E≠0->R=([],E)):=fun h=>by rw[<-hR,<-hE] at *;exact Lh h
 unfold RetOpG at HO;unfold gA;rw[hE] at HO HC;rw[hR] at HC ⊢;obtain⟨n,hn⟩:=Ki (ptn s);have HNN:=zH hn;rw[hn] at HO HC;unfold Sy.vs_ at hw1 d0 HO ⊢;have HW1:=zH hw1;have HB:=zH hB;obtain⟨p0,p1,p2,p3,p4,p5,p6,p7,p8,p9⟩:=zB (d0);clear hw1 d0 hB hB0 hE hR hS hs hf HBA hn;go_enter Tryz.func17,Tryz.ntmps17;go_wp2_with fail;rw[HW1.out];go_wp2_with fail;refine HO.out.mono ?_;rintro e w2 ⟨hb2,hcase⟩;have HB2:=zH hb2;clear p0 p1 p2 p3 p4 p5 p6 p7 p8 p9 hb2 HO HW1;rcases hcase with ⟨h0,rfl⟩ | ⟨rfl,bw,rfl,hK,mb,hmb,hmm,AQ,cQ,hbx⟩
 . have e0:(E != 0)=true:=by simpa using h0
   have hRR:Hid (R=([],E)):=HR0.out h0;clear HC HR0;go_wp2_with fail
   go_ret2
   rw[hRR.out];exact⟨none,0,rfl,fun h=>absurd h (by simp),Lc HB.out HB2.out⟩
 obtain⟨hl,hRR,hc⟩:=HC.out rfl;have HKD:Hid (KwD s A SV AV AX kc ks kv kx w1.heap.size w2 bw mb 0 (fun _=>none)):=⟨by rw[HNN.out];exact hK,⟨AQ,cQ,by rw[HNN.out];exact hbx⟩,hmm,fun g v h=>(by cases h),HSY.out w2 HB2.out,HB2.out.size,hmb⟩;have HCC:=zH (hc bw mb w2 HB2.out HKD.out);have HRR:=zH hRR;rw[hl];clear HC hc hK hl HR0 hRR hmm hbx HSY;go_wp2_with fail;refine HCC.out.mono ?_;rintro e w3 ⟨g3,m3,F3,rfl,hg3,hr3,hk3,hw3⟩;have HR3:=zH hr3;have HK3:=zH hk3
 have HB3:Hid (Below w.heap.size w w3):=by
  have h1:=HB.out.size;have h2:=HB2.out.size;have h3:=hw3.size;exact HB.out.trans ⟨hw3.os.trans HB2.out.os,hw3.tape.trans HB2.out.tape,hw3.output.trans HB2.out.output,by omega,fun k hk=>(hw3.block k (by omega) (by show ¬k=mb;omega)).trans (HB2.out.block k (by omega))⟩
 clear hr3 hk3 hw3 HCC;go_wp2_with fail
 go_ret2
 rw[HRR.out];refine⟨some ⟨g3,0,none⟩,n,?_,HR3.out.at_ HR3.out.lt,HB3.out⟩;dsimp only;rw[yI]
 rfl
theorem ZF(s:Sy)(hs:LowS s)(hf:yR s.p)(q:Int)(set:List Bool)(A SV AV AX AB:Bb)(kc ks kv kx kb:Nat)(_hsl:set.length<=1000000)(w:Ba)(hS:SyAt w w.heap.size A SV AV AX s)(hB0:BAt w w.heap.size AB set) :
  Calls Tryz.prog 15 #[.agg (s.vs_ A kc SV ks AV kv AX kx),.int .i64 q,.slice AB set.length kb] w (gA (J6 s q set) w):=by
 obtain⟨w1,hw1,d0,hs1,hB⟩:=zn w (s.vs_ A kc SV ks AV kv AX kx) 35;have HO:=zH (Xv s hs hf A SV AV AX kc ks kv kx w1 (hS.up hB));have HBA:Hid (∀X,Below w1.heap.size w1 X->BAt X X.heap.size AB set):=fun X hX=>(((hB0.keep hB).more hB.size).keep hX).more hX.size
 have HVF:Hid (zV s=0->∃N:Nat,s.n=(N:Int)/\N<=5/\ptn s<=700):=fun h=>by
  obtain⟨_,K,N,hF⟩:=yn hf h;have hk:=hF.k;have hk6:=hF.k6;have:=LO hF.lx (show s.p.k.toNat+1<=7 by omega);exact⟨N,hF.n,hF.n5,by unfold ptn;omega⟩
 have HE:Hid (J6 s q set=if zV s≠0 then ([],zV s) else if q<0\/s.n<=q then ([],2) else if set.length≠ptn s then ([],15) else (xU (ptn s) (yx s q.toNat) set,0)):=rfl;obtain⟨R,hR⟩:=Ki (J6 s q set);rw[hR] at HE ⊢;obtain⟨r,hr⟩:=Ki (zV s);unfold RetKw at HO;unfold gA;rw[hr] at HO HVF HE;obtain⟨n,hn⟩:=Ki (ptn s);rw[hn] at HO HVF HE;unfold Sy.vs_ at hw1 d0 HO ⊢;have HW1:=zH hw1;have HB:=zH hB;have HD:=zH d0;obtain⟨p0,p1,p2,p3,p4,p5,p6,p7,p8,p9⟩:=zB (d0);clear hw1 d0 hB hB0 hR hr hS hs hf hn;go_enter Tryz.func15,Tryz.ntmps15;go_wp2_with fail;rw[HW1.out];go_wp2_with fail;refine HO.out.mono ?_;rintro e w2 ⟨hb2,hcase⟩;have HB2:=zH hb2;have HBF:=zH (Lc HB.out hb2);have HD2:=zH (La hb2 HD.out);clear p0 p1 p2 p3 p4 p5 p6 p7 p8 p9 hb2 HO HW1 HD;rcases hcase with ⟨h0,rfl⟩ | ⟨rfl,bw,rfl,hK⟩
 . have e0:(r != 0)=true:=by simpa using h0
   have hRR:Hid (R=([],r)):=HE.out.trans (Lh h0);clear HE HVF;go_wp2_with fail
   go_ret2
   rw[hRR.out];exact⟨none,0,rfl,fun h=>absurd h (by simp),HBF.out⟩
 obtain⟨N,hN,hN5,hn7⟩:=HVF.out rfl;have HE:Hid (R=_):=HE.out.trans (Lg (by simp));rw[hN] at HE;have q7:w2.cell? ⟨w.heap.size,7,none⟩=some (.int .i64 (N:Int)):=by rw[<-hN];exact zh HD2.out 7 rfl
 have l7:=zj HD2.out;have HK:=zH hK;have z10:=hK.size;have lK:=hK.lt;have HNN:=zH hN;clear HVF hK hN
 by_cases hq0:q<0
 . have e0:decide (q<0)=true:=Lk hq0
   have hRR:Hid (R=([],2)):=HE.out.trans (Lh (.inl hq0));clear HE z10;go_wp2_with fail
   go_ret2
   rw[hRR.out];exact⟨none,0,rfl,fun h=>absurd h (by simp),HBF.out⟩
 have e0:decide (q<0)=false:=Li hq0
 by_cases hq1:(N:Int)<=q
 . have e1:decide (q>=(N:Int))=true:=Lk hq1
   have hRR:Hid (R=([],2)):=HE.out.trans (Lh (.inr hq1));clear HE z10;go_wp2_with fail
   go_ret2
   rw[hRR.out];exact⟨none,0,rfl,fun h=>absurd h (by simp),HBF.out⟩
 have e1:decide (q>=(N:Int))=false:=Li (by omega);have HE:Hid (R=_):=HE.out.trans (Lg (by omega))
 by_cases hl:set.length=n
 case neg=>
  have e2:((set.length:Int) != (n:Int))=true:=by simpa using(by omega:¬(set.length:Int)=(n:Int))
  have e3:¬(set.length:Int)=(n:Int):=by omega
  have hRR:Hid (R=([],15)):=HE.out.trans (Lh hl);clear HE;go_wp2_with fail
  go_ret2
  rw[hRR.out];exact⟨none,0,rfl,fun h=>absurd h (by simp),HBF.out⟩
 have hRR:Hid (R=(xU n (yx s q.toNat) set,0)):=HE.out.trans (Lg (by simpa using hl));obtain⟨k,rfl⟩:=Lr (show 0<=q by omega);rw[Ls] at hRR;have HCC:=zH (vC bw n s.n.toNat (yx s) (by omega) k (by rw[HNN.out,Ls];omega) AB kb set hl w2 HK.out (HBA.out w2 HB2.out));have hll:(set.length:Int)=(n:Int):=by omega
 rw[hl];unfold xe at HCC;clear HE hl hll;go_wp2_with fail;refine HCC.out.mono ?_;rintro e w3 ⟨g3,rfl,hg3,hr3,hb3⟩;have HR3:=zH hr3;have HB3:=zH (Lc HBF.out hb3);clear hr3 hb3 HCC;go_wp2_with fail
 go_ret2
 rw[hRR.out];exact⟨some ⟨g3,0,none⟩,_,rfl,HR3.out.at_ HR3.out.lt,HB3.out⟩
def evaE(s:Sy)(out:List Int)(d:Nat)(f:Fm):List Bool×Int:=
 if zV s≠0 then ([],zV s) else if 0<out.length/\out.length≠s.vs.length then ([],15) else if qW s.n d f≠0 then ([],qW s.n d f) else if Ya d f=true then ([],11) else (gG s out d f,0)
theorem fml_nods{n:Int}{d:Nat}{f:Fm}(h:qW n d f=0):kK n.toNat d f=0:=by
 unfold qW at h
 split at h
 . cases h
 . split at h
   . rename_i h2;exact absurd h h2
   . exact h
theorem kEval_any(s:Sy)(hs:LowS s)(hf:yR s.p)(out:List Int)(d:Nat)(f:Fm)(hsz:(xI d f).1<=1000000)(A SV AV AX AF AR:Bb)(kc ks kv kx cf cr:Nat)(w:Ba)(hT:RowTab w)(hS:SyAt w w.heap.size A SV AV AX s)(hO:IAt w w.heap.size AR out)(hA:FsAt w w.heap.size d AF f.args) :
  Calls Tryz.prog 18 #[.agg (s.vs_ A kc SV ks AV kv AX kx),.agg #[.slice AR out.length cr],.agg (f.vs AF cf)] w (gA (evaE s out d f) w):=by
 obtain⟨wa,hwa,da,hsa,hBa⟩:=zn w (s.vs_ A kc SV ks AV kv AX kx) 35;obtain⟨wb,hwb,db,hsb,hBb⟩:=zn wa #[.slice AR out.length cr] 63;obtain⟨w1,hw1,dc,hsc,hBc⟩:=zn wb (f.vs AF cf) 66;have hB:Below w.heap.size w w1:=(hBa.trans (hBb.mono (by omega))).trans (hBc.mono (by omega));have da:w1.heap[w.heap.size]?=some (.cells (s.vs_ A kc SV ks AV kv AX kx) 35 (0,0)):=Lb hBc (by omega) (Lb hBb (by omega) da);have db:w1.heap[w.heap.size+1]?=some (.cells #[.slice AR out.length cr] 63 (0,0)):=by rw[<-hsa];exact Lb hBc (by omega) db
 have dc:w1.heap[w.heap.size+1+1]?=some (.cells (f.vs AF cf) 66 (0,0)):=by rw[<-hsa,<-hsb];exact dc
 have hz1:w1.heap.size=w.heap.size+3:=by omega
 have hT1:=hT.1;have HV:=zH (vO s hs hf A SV AV AX kc ks kv kx w1 (hS.up hB));have HE:Hid (evaE s out d f=if zV s≠0 then ([],zV s) else if 0<out.length/\out.length≠s.vs.length then ([],15) else if qW s.n d f≠0 then ([],qW s.n d f) else if Ya d f=true then ([],11) else (gG s out d f,0)):=rfl;have HVF:=zH (fun h=>yn hf h);have HAF:Hid (∀X,Below w1.heap.size w1 X->FsAt X w1.heap.size d AF f.args):=fun X hX=>((hA.keep hB).more hB.size).keep hX
 have HFC:=zH (fun (X:Ba) (hX:Below w1.heap.size w1 X)=>ZU s.n d f AF cf X ((HAF.out X hX).more hX.size) hsz);have HTF:=zH (fun (X:Ba) (hX:Below w1.heap.size w1 X)=>Yx d f AF cf X (hT.keep (Lc hB hX) hT1) ((HAF.out X hX).more hX.size) hsz);have HNW:=zH (fun (X:Ba) (hX:Below w1.heap.size w1 X)=>kr s hs hf A SV AV AX kc ks kv kx X ((hS.up hB).up hX));have HSY:Hid (∀X,Below w1.heap.size w1 X->SyAt X w1.heap.size A SV AV AX s):=fun X hX=>(hS.up hB).keep hX
 have HOU:Hid (∀X,Below w1.heap.size w1 X->IAt X w1.heap.size AR out):=fun X hX=>((hO.keep hB).more hB.size).keep hX
 have HEV:=zH (fun (h:zV s=0) (hout:¬(0<out.length/\out.length≠s.vs.length)) (hE:qW s.n d f=0) (ht:Ya d f=false)=>(by
  obtain⟨_,K,N,hF⟩:=yn hf h;have hp:=hF.n1;have hn:=hF.n
  obtain⟨f1,f2,_⟩:=YF (s:=s) (g:=0) hf (by
   unfold zZ;rw[Lg (by rw[h];simp),Lg];have:(0:Int)<2^s.n.toNat:=Int.pow_pos (by decide)
   omega)
  have hN:s.n.toNat=N:=by omega
  have hok:evOk N d f:=evOk_of (HAF.out w1 (Lo _ _)) (by rw[<-hN];exact fml_nods hE) ht
  exact⟨f1,f2,fun B bw mb mo b0 c1 c2 c3 X hX hE=>YR s hs hf h K N hF f1 f2 out hout cr AR A SV AV AX kc ks kv kx B bw mb mo b0 c1 c2 c3 d f AF cf X hok hX hE⟩:1<=ptn s/\ptn s<=700/\∀(B bw mb mo b0 c1 c2 c3:Nat) (X:Ba),FsAt X B d AF f.args->EvC s out AR A SV AV AX kc ks kv kx B bw mb mo b0 c1 c2 c3 X ->
   Calls Tryz.prog 40 #[.pointer (some ⟨bw,0,none⟩),.agg #[.slice AR out.length cr],.agg (f.vs AF cf),.map (some mo)] X (RetEv s out AR A SV AV AX kc ks kv kx B bw mb mo b0 c1 c2 c3 (gG s out d f) X)))
 have HNS:Hid ((gG s out d f).length=ptn s):=QX s out d f;obtain⟨E,hE⟩:=Ki (evaE s out d f);unfold gA;rw[hE] at HE ⊢;obtain⟨r,hr⟩:=Ki (zV s);unfold XP at HNW;rw[hr] at HV HE HVF HNW HEV;unfold Sy.vs_ at hwa da HV HNW ⊢;unfold Fm.vs at hw1 dc HFC HTF HEV ⊢;have HWA:=zH hwa;have HWB:=zH hwb;have HWC:=zH hw1;have HB:=zH hB
 have HBX:Hid (∀X,Below w1.heap.size w1 X->X.heap[w.heap.size]?=some (.cells #[.int .i64 s.p.t.n,.int .i64 s.p.t.ins,.int .i64 s.p.t.outs,.slice A s.p.t.cases.length kc,.int .i64 s.p.a.n,.slice SV s.p.a.sts.length ks,.int .i64 s.p.k,.int .i64 s.n,.slice AV s.vs.length kv,.slice AX s.xs.length kx] 35 (0,0))/\X.heap[w.heap.size+1]?=some (.cells #[.slice AR out.length cr] 63 (0,0))/\X.heap[w.heap.size+1+1]?=some (.cells #[.int .i64 f.h.op,.int .i64 f.h.p,.int .i64 f.h.o,.int .i64 f.h.v,.int .i64 f.h.g,.slice AF f.args.length cf] 66 (0,0))):=
  fun X hX=>⟨Lb hX (by omega) da,Lb hX (by omega) db,Lb hX (by omega) dc⟩
 obtain⟨p0,p1,p2,p3,p4,p5,p6,p7,p8,p9⟩:=zB (da);clear hwa hwb hw1 da db dc hsa hsb hsc hBa hBb hBc hB hT hT1 hS hO hA hsz hE hr hs hf;go_enter Tryz.func18,Tryz.ntmps18;go_upto_region 1 with fail
 rw[HWA.out,HWB.out,HWC.out];go_wp2_with fail;refine HV.out.mono ?_;rintro e w2 ⟨rfl,hb2⟩;have G2:=zH hb2;clear hb2 HV HWA HWB HWC p0 p1 p2 p3 p4 p5 p6 p7 p8 p9
 by_cases h0:r=0
 case neg=>
  have e0:(r != 0)=true:=by simpa using h0
  have hR:Hid (E=([],r)):=HE.out.trans (Lh h0);have HBF:=zH (Lc HB.out G2.out);clear HE HVF HFC HTF HNW HSY HOU HAF HEV HNS HBX;go_wp2_with fail
  go_ret2
  rw[hR.out];exact⟨none,0,rfl,fun h=>absurd h (by simp),HBF.out⟩
 subst h0;have HE2:=zH (HE.out.trans (Lg (by simp)));have HEV2:=zH (HEV.out rfl);clear HE HVF HEV;obtain⟨D0,D1,D2⟩:=HBX.out _ G2.out;have p8:=zh D0 8 rfl;have r0:=zh D1 0 rfl;clear D0 D1 D2;go_upto_region 5 with fail
 by_cases hbad:0<out.length/\out.length≠s.vs.length
 case pos=>
  have e0:(0:Int)<(out.length:Int):=by omega
  have e1:((out.length:Int) != (s.vs.length:Int))=true:=by simp;omega
  have HBAD:=zH hbad;have hR:Hid (E=([],15)):=HE2.out.trans (Lh hbad);have HBF:=zH (Lc HB.out G2.out);clear HE2 HEV2 HFC HTF HNW HSY HOU HAF HNS HBX hbad;go_wp2_with fail
  go_ret2
  rw[hR.out];exact⟨none,0,rfl,fun h=>absurd h (by simp),HBF.out⟩
 have HE3:=zH (HE2.out.trans (Lg hbad));have HEV3:=zH (HEV2.out hbad);clear HE2 HEV2
 go_cut [30] from 21 (fun s30 wx=>s30=.bool false/\wx=w2)
 case first=>
  have hb2:out.length=0\/out.length=s.vs.length:=by omega
  by_cases h1:out.length=0
  . have e0:¬(0:Int)<(out.length:Int):=by omega
    clear hbad hb2 h1 HFC HTF HNW HSY HOU HAF HNS HBX HE3 HEV3;go_wp2_with fail
    go_meet
    exact⟨rfl,rfl⟩
  . have e0:(0:Int)<(out.length:Int):=by omega
    have e1:((out.length:Int) != (s.vs.length:Int))=false:=by simp;omega
    clear hbad hb2 h1 HFC HTF HNW HSY HOU HAF HNS HBX HE3 HEV3;go_wp2_with fail
    go_meet
    exact⟨rfl,rfl⟩
 case rest=>
 obtain⟨rfl,rfl⟩:=hcut;clear p8 r0 hbad;have HC:=zH (HFC.out _ G2.out);obtain⟨q,hq⟩:=Ki (qW s.n d f);rw[hq] at HC HE3 HEV3;obtain⟨D0,D1,D2⟩:=HBX.out _ G2.out;have p7:=zh D0 7 rfl;obtain⟨q0,q1,q2,q3,q4,q5,_⟩:=Kg (D2);clear D0 D1 D2 HFC hq;go_wp2_with fail;refine HC.out.mono ?_;rintro e w3 ⟨rfl,hb3⟩;have G3:=zH (Lc G2.out hb3);clear hb3 HC p7 q0 q1 q2 q3 q4 q5
 by_cases h0:q=0
 case neg=>
  have e0:(q != 0)=true:=by simpa using h0
  have hR:Hid (E=([],q)):=HE3.out.trans (Lh h0);have HBF:=zH (Lc HB.out G3.out);clear HE3 HEV3 HTF HNW HSY HOU HAF HNS HBX;go_wp2_with fail
  go_ret2
  rw[hR.out];exact⟨none,0,rfl,fun h=>absurd h (by simp),HBF.out⟩
 subst h0;have HE4:=zH (HE3.out.trans (Lg (by simp)));have HEV4:=zH (HEV3.out rfl);clear HE3 HEV3;have HC:=zH (HTF.out _ G3.out);obtain⟨t,ht⟩:=Ki (Ya d f);rw[ht] at HC HE4 HEV4;obtain⟨D0,D1,D2⟩:=HBX.out _ G3.out;obtain⟨q0,q1,q2,q3,q4,q5,_⟩:=Kg (D2);clear D0 D1 D2 HTF ht;go_wp2_with fail;refine HC.out.mono ?_;rintro e w4 ⟨rfl,hb4⟩;have G4:=zH (Lc G3.out hb4);clear hb4 HC q0 q1 q2 q3 q4 q5
 cases t with
 | true=>
  have hR:Hid (E=([],11)):=HE4.out.trans (Lh rfl);have HBF:=zH (Lc HB.out G4.out);clear HE4 HEV4 HNW HSY HOU HAF HNS HBX;go_wp2_with fail
  go_ret2
  rw[hR.out];exact⟨none,0,rfl,fun h=>absurd h (by simp),HBF.out⟩
 | false=>
  have HE5:=zH (HE4.out.trans (Lg (by simp)));obtain⟨hn1,hn7,hcall⟩:=HEV4.out rfl;have HCL:=zH hcall;have HC:=zH (HNW.out _ G4.out);clear HE4 HEV4 HNW hcall;obtain⟨D0,D1,D2⟩:=HBX.out _ G4.out;obtain⟨p0,p1,p2,p3,p4,p5,p6,p7,p8,p9⟩:=zB (D0);clear D0 D1 D2;go_wp2_with fail;refine HC.out.mono ?_;rintro e w5 ⟨hb5,hcase⟩;have G5:=zH (Lc G4.out hb5);have hs45:=hb5.size;clear hb5 HC p0 p1 p2 p3 p4 p5 p6 p7 p8 p9;rcases hcase with ⟨h0,_⟩ | ⟨_,bw,rfl,hK,mb,hmb,hmm,AQ,cQ,hbx⟩
  . exact absurd rfl h0
  have hl4:=G4.out.size;have hl5:=G5.out.size;have HKD:Hid (KwD s A SV AV AX kc ks kv kx w1.heap.size w5 bw mb 0 (fun _=>none)):=⟨hK,⟨AQ,cQ,hbx⟩,hmm,fun g v h=>(by cases h),HSY.out _ G5.out,G5.out.size,by omega⟩;have hmlt:=hmm.lt;have hd5:Below w5.heap.size w5 w5.drew:=(Lo _ w5).drew;have G5d:Hid (Below w1.heap.size w1 w5.drew):=G5.out.trans (hd5.mono hl5);have HOPS:=zH (kops_any bw w5.drew);clear hK hmm hbx;go_upto_region 15 with fail
  refine zz [(0,true),(1,true),(2,true),(3,true),(4,false),(5,false),(6,true),(7,true),(8,true),(9,true)] (fun X=>X.heap[w.heap.size]?=some (.cells #[.int .i64 s.p.t.n,.int .i64 s.p.t.ins,.int .i64 s.p.t.outs,.slice A s.p.t.cases.length kc,.int .i64 s.p.a.n,.slice SV s.p.a.sts.length ks,.int .i64 s.p.k,.int .i64 s.n,.slice AV s.vs.length kv,.slice AX s.xs.length kx] 35 (0,0))/\X.heap[w.heap.size+1]?=some (.cells #[.slice AR out.length cr] 63 (0,0))/\X.heap[w.heap.size+1+1]?=some (.cells #[.int .i64 f.h.op,.int .i64 f.h.p,.int .i64 f.h.o,.int .i64 f.h.v,.int .i64 f.h.g,.slice AF f.args.length cf] 66 (0,0))) (by kernel_rfl) (by kernel_rfl) (HBX.out _ G5d.out) ?_
  repeat
   apply zG rfl
   . rintro K' hK' X ⟨u1,u2,u3⟩
     have y0:=zh (u2) 0 rfl;obtain⟨z0,z1,z2,z3,z4,z5,_⟩:=Kg (u3);clear u1 u2 u3;go_simp;exact hK'
  refine zE rfl ?_;intro K' hK';go_simp;refine HOPS.out.mono ?_;rintro e w6 ⟨mo,m6,y1,y2,y3,rfl,hmo,hM6,hO6,hb6⟩;have hb56:Below w5.heap.size w5 w6:=hd5.trans hb6;have G6:=zH (G5.out.trans (hb56.mono hl5));have hmo':w5.heap.size<=mo:=hmo;have HC6:=zH (HCL.out w1.heap.size bw mb mo _ y1 y2 y3 w6 (HAF.out _ G6.out) ⟨⟨0,_,HKD.out.call hb56⟩,⟨m6,hM6⟩,hO6,by omega,HOU.out _ G6.out⟩);refine hK' _ _ (HBX.out _ G6.out) ?_;clear hK' K' hM6 hO6 HOPS;refine zE rfl ?_;intro K' hK';go_simp;refine HC6.out.mono ?_;rintro e w7 ⟨g7,c7,rfl,hg7,ho7,hE7,hW7⟩;have hl6:=G6.out.size;have hs7:=hW7.size;have G7:Hid (Below w1.heap.size w1 w7):=G6.out.trans (hW7.below (by omega) (fun k hk e=>by have:k=mb:=e;omega));refine hK' _ _ (HBX.out _ G7.out) ?_;have HO7:=zH ho7;have HBF:=zH (Lc HB.out G7.out);clear hK' K' ho7 hE7 hW7 HC6
  repeat
   apply zG rfl
   . rintro K' hK' X u
     clear u;go_simp;exact hK'
  refine zQ ?_;go_wp2_with fail
  go_ret2
  rw[HE5.out];refine⟨some ⟨g7,0,none⟩,c7,?_,HO7.out.at_ HO7.out.lt,HBF.out⟩;dsimp only;rw[HNS.out]
  rfl
end
section
def QW:List Bool:=[false,false,false,false,false,false,false,true]
def XJ:List Bool:=[false,true,false,true,false,true,false,true]
def ex7N:List Bool:=List.replicate 8 false
def ex7L:List Int:=[-1,-1,-1,-1,0,0,0,1]
def ex7F:Fm:=.mk ⟨13,0,0,0,3⟩ [.mk ⟨6,0,0,1,0⟩ []]
theorem QZ{n:Nat}{cls cls':Nat->List Int}:∀ {ps:List Nat} (_:∀q∈ps,cls q=cls' q) (o set:List Bool),ps.foldl (fun o p=>qG n o (xU n (cls p) set)) o=ps.foldl (fun o p=>qG n o (xU n (cls' p) set)) o
 | [],_,_,_=>rfl
 | q::ps,h,o,set=>by
  rw[Pc,Pc,h q (by simp)];exact QZ (fun p hp=>h p (by simp[hp])) _ _
theorem ex7_evg(a:List Bool):evG yh 3 a=evL 8 um [0,1] a:=by
 unfold evG evL;rw[xX.1,xX.2.2];refine QZ (fun q hq=>?_) _ _;rcases L5.1 hq with rfl | hq
 . exact gT.1
 . rw[L8] at hq
   subst hq;exact gT.2
theorem je:evG yh 3=evL 8 um [0,1]:=funext ex7_evg
theorem ex7_k0:J6 yh 0 yb=(QW,0):=by
 unfold J6;rw[gS,XF.2,xX.2.2,show((0:Int)).toNat=0 from rfl,gT.1];decide +kernel
theorem ex7_k1:J6 yh 1 yb=(yb,0):=by
 unfold J6;rw[gS,XF.2,xX.2.2,show((1:Int)).toNat=1 from rfl,gT.2];decide +kernel
theorem ex7_ev:evyE yh 3 yb=(QW,0):=by
 unfold evyE;rw[jW.1,ex7_evg];decide +kernel
theorem ex7_ds:dstE yh 3 yb=(yb,0):=by
 unfold dstE;have h:kn yh 3=ex6C:=by decide +kernel
 rw[jW.1,xX.2.2,h];decide +kernel
theorem vP{F:Nat->List Bool}{M m:Nat}(h1:F (M+1)=F M)(h2:∀k,k<M->F (k+1)≠F k)(g1:F (m+1)=F m)(g2:∀k,k<m->F (k+1)≠F k):M=m:=by
 by_cases h:M<m
 . exact absurd h1 (g2 M h)
 . by_cases h':m<M
   . exact absurd g1 (h2 m h')
   . omega
theorem XH:zP 8 (evL 8 um [0,1]) yb (2+1)=zP 8 (evL 8 um [0,1]) yb 2/\(∀k,k<2->zP 8 (evL 8 um [0,1]) yb (k+1)≠zP 8 (evL 8 um [0,1]) yb k)/\zP 8 (evL 8 um [0,1]) yb 2=ex7N:=by decide +kernel
theorem XI:ya 8 (evL 8 um [0,1]) yb (2+1)=ya 8 (evL 8 um [0,1]) yb 2/\(∀k,k<2->ya 8 (evL 8 um [0,1]) yb (k+1)≠ya 8 (evL 8 um [0,1]) yb k)/\jb 8 (evL 8 um [0,1]) yb 2=ex7L:=by decide +kernel
theorem ex7_co{M:Nat}(h1:zP (ptn yh) (evG yh 3) yb (M+1)=zP (ptn yh) (evG yh 3) yb M)(h2:∀k,k<M->zP (ptn yh) (evG yh 3) yb (k+1)≠zP (ptn yh) (evG yh 3) yb k):M=2/\zP (ptn yh) (evG yh 3) yb M=ex7N:=by
 rw[je,xX.2.2] at h1;simp only[je,xX.2.2] at h2;have e:=vP (F:=zP 8 (evL 8 um [0,1]) yb) h1 h2 XH.1 XH.2.1;subst e;rw[je,xX.2.2];exact⟨rfl,XH.2.2⟩
theorem ex7_le{M:Nat}(h1:ya (ptn yh) (evG yh 3) yb (M+1)=ya (ptn yh) (evG yh 3) yb M)(h2:∀k,k<M->ya (ptn yh) (evG yh 3) yb (k+1)≠ya (ptn yh) (evG yh 3) yb k):jb (ptn yh) (evG yh 3) yb M=ex7L:=by
 rw[je,xX.2.2] at h1;simp only[je,xX.2.2] at h2;have e:=vP (F:=ya 8 (evL 8 um [0,1]) yb) h1 h2 XI.1 XI.2.1;subst e;rw[je,xX.2.2];exact XI.2.2
theorem ex7_eva:evaE yh [] 1 ex7F=(XJ,0):=by
 unfold evaE;have h2:qW yh.n 1 ex7F=0:=by rw[XF.2];decide +kernel
 have h3:Ya 1 ex7F=false:=by decide +kernel
 have h4:ur yh [] ⟨6,0,0,1,0⟩=XJ:=by decide +kernel
 have h5:gG yh [] 1 ex7F=XJ:=by
  show gF yh ⟨13,0,0,0,3⟩ (ur yh [] ⟨6,0,0,1,0⟩) (gG yh [] 0 default)=XJ;rw[h4];show zP (ptn yh) (evG yh 3) XJ (ptn yh)=XJ;rw[je,xX.2.2];decide +kernel
 rw[gS,h2,h3,h5]
 rfl
end
section
open Go.RowKit Go.Shelf
attribute [local go_sem] Oper.semAt_some
theorem vy(A B:Bb)(ca cb n:Nat)(hn:n<=100000)(a b:List Bool)(ha:a.length=n)(hb:b.length=n)(w:Ba)(hA:BAt w w.heap.size A a)(hB:BAt w w.heap.size B b) :
  Calls Tryz.prog 27 #[.slice A n ca,.slice B n cb] w (xe (qG n a b) w):=by
 have HA:=zH hA;have HLa:=zH ha;have HB:=zH hB;have HLb:=zH hb;have hmk:=xC n hn;obtain⟨rs,hrs⟩:=Ki (qG n a b);have hrl:rs.length=n:=by rw[<-hrs];exact yr ..
 have HRL:=zH hrl
 have HAT:Hid (∀k (h:k<n),rs[k]'(by rw[HRL.out];exact h)=(a[k]'(by rw[HLa.out];exact h)&&b[k]'(by rw[HLb.out];exact h))):=fun k h=>by
  subst hrs;rw[uu h,zt (by omega),zt (by omega)]
 unfold xe;rw[hrs,hrl];clear hA hB ha hb hrs;go_enter Tryz.func27,Tryz.ntmps27;go_upto_region 2 with fail
 obtain⟨w3,hw3,d3,hs3,hB3⟩:=zn w (xv (List.replicate n false)) 4;rw[hw3];have HA3:=zH (HA.out.keep hB3);have HB3:=zH (HB.out.keep hB3);have HW3:=zH hB3;have HZ0:Hid (BRow w3 w.heap.size (yD rs 0)):=by rw[kP,HRL.out];exact d3
 clear hw3 d3 hB3 hmk HA HB hrl;obtain⟨g,hg⟩:=Ki w.heap.size;rw[hg] at HA3 HB3 HW3 HZ0 hs3 ⊢;go_wp2_with fail
 go_loopw [6] (fun i wr=>∃k:Nat,k<=n/\i=.int .i64 (k:Int)/\Hid (BRow wr g (yD rs k))/\Hid (Below g w3 wr)) (fun i _=>n-(intOf i).toNat)
 case atStart=>exact⟨0,by omega,rfl,HZ0,Lo _ _⟩
 case round=>
  obtain⟨k,hk,rfl,hbr,hbw⟩:=hrel;clear HZ0;have hwk:IntKind.i64.wrap ((k:Int)+1)=((k+1:Nat):Int):=by rw[Lp];omega
  by_cases hlt:k<n
  . obtain⟨b1,o1,rfl,hb1,z0⟩:=(HA3.out.keep hbw.out).at_ k (by rw[HLa.out];exact hlt)
    obtain⟨b2,o2,rfl,hb2,z1⟩:=(HB3.out.keep hbw.out).at_ k (by rw[HLb.out];exact hlt);have hat:=HAT.out k hlt;obtain⟨x,hx⟩:=Ki (a[k]'(by rw[HLa.out];exact hlt));rw[hx] at z0 hat;obtain⟨y,hy⟩:=Ki (b[k]'(by rw[HLb.out];exact hlt));rw[hy] at z1 hat;have hkb:k<rs.length:=by rw[HRL.out];exact hlt
    have hml:=jC rs (PT hkb);have y0:=zh hbr.out k (qi (yD rs k) k (by omega));have f0:=zi hbr.out k
    have HNEW:Hid (BRow (wr.setCell ⟨g,k,none⟩ (.bool (x&&y))) g (yD rs (k+1))):=by
     rw[<-hat,<-jB rs hkb];show _=_;rw[Ll wr _ k _ _ _ hbr.out,qw]
    have HBN:=zH (hbw.out.setCell (p:=⟨g,k,none⟩) (by show g<=g;omega) (.bool (x&&y)));obtain⟨u,hu⟩:=Ki ((yD rs k)[k]'(by omega));rw[hu] at y0;have hk0:(0:Int)<=(k:Int):=by omega
    have hk1:(k:Int)<(n:Int):=by omega
    have hl3:=zj hbr.out;clear hx hy hat hkb hml hbr hbw hu
    cases x with
    | false=>
     go_wp2_with fail
     go_roundw
     case rel=>exact⟨k+1,by omega,by go_num,HNEW,HBN⟩
     case measure=>simp[intOf];omega
    | true=>
     go_wp2_with fail
     go_roundw
     case rel=>exact⟨k+1,by omega,by go_num,HNEW,HBN⟩
     case measure=>simp[intOf];omega
  . obtain rfl:n=k:=by omega
    have hk1:¬(n:Int)<(n:Int):=by omega
    have HE:Hid (BRow wr g rs):=by have:=hbr.out;rwa[show yD rs n=rs by rw[<-HRL.out];exact jD rs] at this
    have HBE:=zH (HW3.out.trans hbw.out);clear hbr hbw HA3 HB3 HAT;subst hg;go_wp2_with fail;go_ret;exact⟨w.heap.size,rfl,Le _,HE.out,HBE.out⟩
theorem Jy(A:Bb)(ca n:Nat)(hn:n<=100000)(a:List Bool)(ha:a.length=n)(w:Ba)(hA:BAt w w.heap.size A a) :
  Calls Tryz.prog 75 #[.slice A n ca] w (xe (uc n a) w):=by
 have HA:=zH hA;have HLa:=zH ha;have hmk:=xC n hn;obtain⟨rs,hrs⟩:=Ki (uc n a);have hrl:rs.length=n:=by rw[<-hrs];exact qU ..
 have HRL:=zH hrl
 have HAT:Hid (∀k (h:k<n),rs[k]'(by rw[HRL.out];exact h)=!(a[k]'(by rw[HLa.out];exact h))):=fun k h=>by
  subst hrs;rw[<-zt (by rw[HRL.out];exact h) false,Xu h,zt (by omega)]
 unfold xe;rw[hrs,hrl];clear hA ha hrs;go_enter Tryz.func75,Tryz.ntmps75;go_upto_region 2 with fail
 obtain⟨w3,hw3,d3,hs3,hB3⟩:=zn w (xv (List.replicate n false)) 4;rw[hw3];have HA3:=zH (HA.out.keep hB3);have HW3:=zH hB3;have HZ0:Hid (BRow w3 w.heap.size (yD rs 0)):=by rw[kP,HRL.out];exact d3
 clear hw3 d3 hB3 hmk HA hrl;obtain⟨g,hg⟩:=Ki w.heap.size;rw[hg] at HA3 HW3 HZ0 hs3 ⊢;go_wp2_with fail
 go_loopw [4] (fun i wr=>∃k:Nat,k<=n/\i=.int .i64 (k:Int)/\Hid (BRow wr g (yD rs k))/\Hid (Below g w3 wr)) (fun i _=>n-(intOf i).toNat)
 case atStart=>exact⟨0,by omega,rfl,HZ0,Lo _ _⟩
 case round=>
  obtain⟨k,hk,rfl,hbr,hbw⟩:=hrel;clear HZ0;have hwk:IntKind.i64.wrap ((k:Int)+1)=((k+1:Nat):Int):=by rw[Lp];omega
  by_cases hlt:k<n
  . obtain⟨b1,o1,rfl,hb1,z0⟩:=(HA3.out.keep hbw.out).at_ k (by rw[HLa.out];exact hlt)
    have hat:=HAT.out k hlt;obtain⟨x,hx⟩:=Ki (a[k]'(by rw[HLa.out];exact hlt));rw[hx] at z0 hat;have hkb:k<rs.length:=by rw[HRL.out];exact hlt
    have hml:=jC rs (PT hkb);have y0:=zh hbr.out k (qi (yD rs k) k (by omega));have f0:=zi hbr.out k
    have HNEW:Hid (BRow (wr.setCell ⟨g,k,none⟩ (.bool (!x))) g (yD rs (k+1))):=by
     rw[<-hat,<-jB rs hkb];show _=_;rw[Ll wr _ k _ _ _ hbr.out,qw]
    have HBN:=zH (hbw.out.setCell (p:=⟨g,k,none⟩) (by show g<=g;omega) (.bool (!x)));obtain⟨u,hu⟩:=Ki ((yD rs k)[k]'(by omega));rw[hu] at y0;have hk0:(0:Int)<=(k:Int):=by omega
    have hk1:(k:Int)<(n:Int):=by omega
    have hl3:=zj hbr.out;clear hx hat hkb hml hbr hbw hu
    cases x with
    | false=>
     go_wp2_with fail
     go_roundw
     case rel=>exact⟨k+1,by omega,by go_num,HNEW,HBN⟩
     case measure=>simp[intOf];omega
    | true=>
     go_wp2_with fail
     go_roundw
     case rel=>exact⟨k+1,by omega,by go_num,HNEW,HBN⟩
     case measure=>simp[intOf];omega
  . obtain rfl:n=k:=by omega
    have hk1:¬(n:Int)<(n:Int):=by omega
    have HE:Hid (BRow wr g rs):=by have:=hbr.out;rwa[show yD rs n=rs by rw[<-HRL.out];exact jD rs] at this
    have HBE:=zH (HW3.out.trans hbw.out);clear hbr hbw HA3 HAT;subst hg;go_wp2_with fail;go_ret;exact⟨w.heap.size,rfl,Le _,HE.out,HBE.out⟩
theorem ins_step{ls:List Int}{set:List Bool}{i j:Nat}:(∀m,m<j+1->ls.getD m 0=ls.getD i 0->set.getD m false=true)↔(∀m,m<j->ls.getD m 0=ls.getD i 0->set.getD m false=true)/\(ls.getD j 0=ls.getD i 0->set.getD j false=true):=by
 constructor
 . exact fun h=>⟨fun m hm=>h m (by omega),h j (by omega)⟩
 . rintro⟨h1,h2⟩ m hm
   by_cases e:m=j
   . subst e;exact h2
   . exact h1 m (by omega)
theorem Jz(A B:Bb)(ca cb n:Nat)(hn:n<=100000)(ls:List Int)(set:List Bool)(ha:ls.length=n)(hb:set.length=n)(w:Ba)(hA:IAt w w.heap.size A ls)(hB:BAt w w.heap.size B set) :
  Calls Tryz.prog 48 #[.slice A n ca,.slice B n cb] w (xe (xU n ls set) w):=by
 have HA:=zH hA;have HB:=zH hB;have HLa:=zH ha;have HLb:=zH hb;have hmk:=xC n hn;obtain⟨rs,hrs⟩:=Ki (xU n ls set);have hrl:rs.length=n:=by rw[<-hrs];exact yI ..
 have HRL:=zH hrl
 have HAT:Hid (∀i (h:i<n) (v:Bool),(v=true↔∀m,m<n->ls.getD m 0=ls.getD i 0->set.getD m false=true)->rs[i]'(by rw[HRL.out];exact h)=v):=fun i h v hv=>by
  subst hrs;rw[XD h];exact Pd.2 (by rw[decide_eq_true_iff];exact hv.symm)
 unfold xe;rw[hrs,hrl];clear hA hB ha hb hrs;go_enter Tryz.func48,Tryz.ntmps48;go_upto_region 2 with fail
 obtain⟨w3,hw3,d3,hs3,hB3⟩:=zn w (xv (List.replicate n false)) 4;rw[hw3];have HA3:=zH (HA.out.keep hB3);have HB3:=zH (HB.out.keep hB3);have HW3:=zH hB3;have HZ0:Hid (BRow w3 w.heap.size (yD rs 0)):=by rw[kP,HRL.out];exact d3
 clear hw3 d3 hB3 hmk HA HB hrl;obtain⟨g,hg⟩:=Ki w.heap.size;rw[hg] at HA3 HB3 HW3 HZ0 hs3 ⊢;have HG:=zH hg;clear hg;go_wp2_with fail
 go_loopw [6] (fun i wr=>∃k:Nat,k<=n/\i=.int .i64 (k:Int)/\Hid (BRow wr g (yD rs k))/\Hid (Below g w3 wr)) (fun i _=>n-(intOf i).toNat)
 case atStart=>exact⟨0,by omega,rfl,HZ0,Lo _ _⟩
 case round=>
  obtain⟨k,hk,rfl,hbr,hbw⟩:=hrel;clear HZ0
  by_cases hlt:k<n
  . have hkb:k<rs.length:=by rw[HRL.out];exact hlt
    have hml:=jC rs (PT hkb);have y0:=zh hbr.out k (qi (yD rs k) k (by omega));have f0:=zi hbr.out k
    have HNEW:Hid (BRow (wr.setCell ⟨g,k,none⟩ (.bool true)) g ((yD rs k).set k true)):=by
     show _=_;rw[Ll wr _ k _ _ _ hbr.out,qw]
    have HBN:=zH (hbw.out.setCell (p:=⟨g,k,none⟩) (by show g<=g;omega) (.bool true));obtain⟨u,hu⟩:=Ki ((yD rs k)[k]'(by omega));rw[hu] at y0;have hk0:(0:Int)<=(k:Int):=by omega
    have hk1:(k:Int)<(n:Int):=by omega
    have hl3:=zj hbr.out;have HML:=zH hml;clear hu hbr hbw hml hkb;go_wp2_with fail;obtain⟨w4,hw4⟩:=Ki (wr.setCell ⟨g,k,none⟩ (.bool true));rw[hw4] at HNEW HBN ⊢;clear hw4 y0 f0 hl3
    go_loopw [7] (fun j wr=>∃(m:Nat) (v:Bool),m<=n/\j=.int .i64 (m:Int)/\Hid (BRow wr g ((yD rs k).set k v))/\Hid (v=true↔∀q,q<m->ls.getD q 0=ls.getD k 0->set.getD q false=true)/\Hid (Below g w3 wr)) (fun j _=>n-(intOf j).toNat)
    case atStart=>exact⟨0,true,by omega,rfl,HNEW,⟨fun _ q h=>absurd h (by omega),fun _=>rfl⟩,HBN⟩
    case round=>
     obtain⟨m,v,hm,rfl,hbr,hv,hbw⟩:=hrel;clear HNEW HBN;have hwm:IntKind.i64.wrap ((m:Int)+1)=((m+1:Nat):Int):=by rw[Lp];omega
     by_cases hmt:m<n
     . obtain⟨b1,o1,rfl,hb1,z0⟩:=(HA3.out.keep hbw.out).at_ m (by rw[HLa.out];exact hmt)
       obtain⟨b1',o1',e1,_,z1⟩:=(HA3.out.keep hbw.out).at_ k (by rw[HLa.out];exact hlt)
       cases e1
       obtain⟨b2,o2,rfl,hb2,z2⟩:=(HB3.out.keep hbw.out).at_ m (by rw[HLb.out];exact hmt);have hx:ls.getD m 0=ls[m]'(by rw[HLa.out];exact hmt):=zt (by rw[HLa.out];exact hmt) 0;have hxk:ls.getD k 0=ls[k]'(by rw[HLa.out];exact hlt):=zt (by rw[HLa.out];exact hlt) 0;have hy:set.getD m false=set[m]'(by rw[HLb.out];exact hmt):=zt (by rw[HLb.out];exact hmt) false;rw[<-hx] at z0;rw[<-hxk] at z1;rw[<-hy] at z2;have HST:=zH (ins_step (ls:=ls) (set:=set) (i:=k) (j:=m));have hl3:=zj hbr.out;have hkf:k<((yD rs k).set k v).length:=by rw[PP];have:=HML.out;rw[this];have:=HRL.out;omega
       have y0:=zh hbr.out k (qi ((yD rs k).set k v) k hkf);have f0:=zi hbr.out k
       have HNEW:Hid (BRow (wr.drewN 1 |>.setCell ⟨g,k,none⟩ (.bool false)) g ((yD rs k).set k false)):=by
        show _=_;rw[Ll (wr.drewN 1) _ k _ _ _ hbr.out,qw,List.set_set]
       obtain⟨u,hu⟩:=Ki (((yD rs k).set k v)[k]'hkf);rw[hu] at y0;obtain⟨x,hX⟩:=Ki (ls.getD m 0);obtain⟨xk,hXK⟩:=Ki (ls.getD k 0);obtain⟨y,hY⟩:=Ki (set.getD m false);rw[hX] at z0 HST;rw[hXK] at z1 HST hv;rw[hY] at z2 HST;have HXK:=zH hXK;have hm0:(0:Int)<=(m:Int):=by omega
       have hm1:(m:Int)<(n:Int):=by omega
       clear hx hxk hy hu hkf hX hY hXK
       by_cases hxe:x=xk
       . subst hxe
         have e1:decide (x=x)=true:=by simp
         cases y with
         | true=>
          have hv2:Hid (v=true↔∀q,q<m+1->ls.getD q 0=x->set.getD q false=true):=by
           rw[Hid,HST.out,hv.out];simp
          have hbr2:Hid (∀p,BRow (wr.drewN p) g ((yD rs k).set k v)):=fun p=>hbr.out
          have hbw2:Hid (∀p,Below g w3 (wr.drewN p)):=fun p=>zT hbw.out p
          clear hv HST hbr hbw HNEW y0 f0;go_wp2_with fail;go_quiet (fail);go_wp2_with fail
          go_roundw
          case rel=>exact⟨m+1,v,by omega,by go_num,hbr2.out _,by rw[HXK.out];exact hv2,hbw2.out _⟩
          case measure=>simp[intOf];omega
         | false=>
          have hv2:Hid (false=true↔∀q,q<m+1->ls.getD q 0=x->set.getD q false=true):=by
           rw[Hid,HST.out];simp
          have hbr2:Hid (∀p,BRow ((wr.drewN p).setCell ⟨g,k,none⟩ (.bool false)) g ((yD rs k).set k false)):=fun p=>by
           show _=_;rw[Ll (wr.drewN p) _ k _ _ _ hbr.out,qw,List.set_set]
          have hbw2:Hid (∀p,Below g w3 ((wr.drewN p).setCell ⟨g,k,none⟩ (.bool false))):=fun p=>(zT hbw.out p).setCell (p:=⟨g,k,none⟩) (by show g<=g;omega) (.bool false)
          have HF0:Hid (∀p,(wr.drewN p).heap[g]?=some (.cells (xv ((yD rs k).set k v)) 4 (0,0))):=fun p=>hbr.out
          clear hv HST hbr hbw HNEW y0 f0;go_wp2_with fail;go_quiet (fail);rename_i nq _;have y0:=zh (HF0.out nq) k (qi ((yD rs k).set k v) k (by rw[PP];have:=HML.out;rw[this];have:=HRL.out;omega));have f0:=zi (HF0.out nq) k;go_wp2_with fail
          go_roundw
          case rel=>exact⟨m+1,false,by omega,by go_num,hbr2.out _,by rw[HXK.out];exact hv2,hbw2.out _⟩
          case measure=>simp[intOf];omega
       . have e1:decide (x=xk)=false:=Li hxe
         have hv2:Hid (v=true↔∀q,q<m+1->ls.getD q 0=xk->set.getD q false=true):=by
          rw[Hid,HST.out,hv.out];simp[hxe]
         have hbr2:Hid (∀p,BRow (wr.drewN p) g ((yD rs k).set k v)):=fun p=>hbr.out
         have hbw2:Hid (∀p,Below g w3 (wr.drewN p)):=fun p=>zT hbw.out p
         clear hv HST hbr hbw HNEW y0 f0;go_wp2_with fail;go_quiet (fail);go_wp2_with fail
         go_roundw
         case rel=>exact⟨m+1,v,by omega,by go_num,hbr2.out _,by rw[HXK.out];exact hv2,hbw2.out _⟩
         case measure=>simp[intOf];omega
     . obtain rfl:m=n:=by omega
       have hm1:¬(m:Int)<(m:Int):=by omega
       have hkb:k<rs.length:=by rw[HRL.out];exact hlt
       have hat:=HAT.out k hlt v hv.out
       have hbr2:Hid (BRow wr g (yD rs (k+1))):=by
        rw[<-jB rs hkb,hat];exact hbr
       have hwk:IntKind.i64.wrap ((k:Int)+1)=((k+1:Nat):Int):=by rw[Lp];omega
       clear hat hv hbr;go_wp2_with fail
       go_roundw
       case rel=>exact⟨k+1,by omega,by go_num,hbr2,hbw⟩
       case measure=>simp[intOf];omega
  . obtain rfl:n=k:=by omega
    have hk1:¬(n:Int)<(n:Int):=by omega
    have HE:Hid (BRow wr g rs):=by have:=hbr.out;rwa[show yD rs n=rs by rw[<-HRL.out];exact jD rs] at this
    have HBE:=zH (HW3.out.trans hbw.out);clear hbr hbw HA3 HB3 HAT;go_wp2_with fail;go_ret;exact⟨g,rfl,by rw[HG.out];exact Le _,HE.out,by rw[HG.out];exact HBE.out⟩
theorem not_none(n:Nat):uc n (List.replicate n false)=List.replicate n true:=by
 refine N6 (by rw[qU];simp) fun i h1 h2=>?_
 have hi:i<n:=by rw[qU] at h1;exact h1
 rw[<-zt h1 false,Xu hi];simp[List.getD_eq_getElem?_getD,hi]
theorem Zs(n:Nat)(hn:n<=100000)(w:Ba):Calls Tryz.prog 44 #[.int .i64 (n:Int)] w (xe (List.replicate n true) w):=by
 have hmk:=xC n hn;obtain⟨w3,hw3,d3,hs3,hB3⟩:=zn w (xv (List.replicate n false)) 4;have hr:BRow w3 w.heap.size (List.replicate n false):=d3;have HC:=zH (Jy (some ⟨w.heap.size,0,none⟩) n n hn (List.replicate n false) (by simp) w3 (hr.at_ hr.lt));rw[not_none] at HC;unfold xe at HC ⊢;rw[LB] at HC ⊢;have HW3:=zH hw3;have HB3:=zH hB3;clear hw3 d3 hB3 hr;go_enter Tryz.func44,Tryz.ntmps44;go_wp2_with fail;rw[HW3.out];go_wp2_with fail;refine HC.out.mono ?_;rintro e w4 ⟨g4,rfl,hg4,hr4,hb4⟩;have HR4:=zH hr4;have HB4:=zH (Lc HB3.out hb4);have hg5:w.heap.size<=g4:=by omega
 clear hr4 hb4 HC hmk;go_wp2_with fail;go_ret;exact⟨g4,rfl,hg5,HR4.out,HB4.out⟩
def gE(n:Nat)(ls:List Int):List Bool:=ls.foldl (fun o i=>o.set i.toNat true) (List.replicate n false)
theorem Zy(n:Nat)(ls:List Int):(gE n ls).length=n:=by
 unfold gE;refine snocI (P:=fun ls=>(ls.foldl (fun (o:List Bool) (i:Int)=>o.set i.toNat true) (List.replicate n false)).length=n) (by simp) (fun l x h=>?_) ls;rw[N1];show(List.set _ _ _).length=n;rw[PP];exact h
theorem onlL_snoc(n:Nat)(ls:List Int){k:Nat}(hk:k<ls.length):gE n (ls.take (k+1))=(gE n (ls.take k)).set ls[k].toNat true:=by
 unfold gE;rw[Lu hk,N1]
 rfl
theorem brow_set{w:Ba}{g:Nat}{bs:List Bool}(h:BRow w g bs)(k:Nat)(x:Bool):BRow (w.setCell ⟨g,k,none⟩ (.bool x)) g (bs.set k x):=by
 unfold BRow at *;rw[World.setCell,Pq,Lh rfl,h];simp[xv,List.map_set]
theorem JO(n:Nat)(hn:n<=100000)(ls:List Int)(hl:ls.length<=1000)(hls:∀(k:Nat) (h:k<ls.length),∃j:Nat,ls[k]=(j:Int)/\j<n)(A:Bb)(c:Nat)(w:Ba)(hI:IAt w w.heap.size A ls) :
  Calls Tryz.prog 14 #[.int .i64 (n:Int),.slice A ls.length c] w (xe (gE n ls) w):=by
 have hmk:=xC n hn;unfold xe;rw[Zy];have HI:=zH hI;have HLS:=zH hls;clear hI hls;go_enter Tryz.func14,Tryz.ntmps14;go_upto_region 2 with fail
 obtain⟨w3,hw3,d3,hs3,hB3⟩:=zn w (xv (List.replicate n false)) 4;rw[hw3];have HI3:=zH (HI.out.keep hB3);have HW3:=zH hB3;have HZ0:Hid (BRow w3 w.heap.size (gE n (ls.take 0))):=by rw[LS];exact d3
 clear hw3 d3 hB3 hmk HI;obtain⟨g,hg⟩:=Ki w.heap.size;rw[hg] at HI3 HW3 HZ0 hs3 ⊢;go_wp2_with fail
 go_loopw [12] (fun i wr=>∃k:Nat,k<=ls.length/\i=.int .i64 (k:Int)/\Hid (BRow wr g (gE n (ls.take k)))/\Hid (Below g w3 wr)) (fun i _=>ls.length-(intOf i).toNat)
 case atStart=>exact⟨0,by omega,rfl,HZ0,Lo _ _⟩
 case round=>
  obtain⟨k,hk,rfl,hbr,hbw⟩:=hrel;clear HZ0;have hwk:IntKind.i64.wrap ((k:Int)+1)=((k+1:Nat):Int):=by rw[Lp];omega
  by_cases hlt:k<ls.length
  . obtain⟨b1,o1,rfl,hb1,z0⟩:=(HI3.out.keep hbw.out).at_ k hlt
    obtain⟨j,hj,hjn⟩:=HLS.out k hlt;rw[hj] at z0;have hbl:=Zy n (ls.take k);have y0:=zh hbr.out j (qi (gE n (ls.take k)) j (by omega));have f0:=zi hbr.out j;have hset:=brow_set hbr.out j true;have hsn:=onlL_snoc n ls hlt;rw[hj,Ls] at hsn;rw[<-hsn] at hset;have HNEW:=zH hset;have HBN:=zH (hbw.out.setCell (p:=⟨g,j,none⟩) (by show g<=g;omega) (.bool true));obtain⟨u,hu⟩:=Ki ((gE n (ls.take k))[j]'(by omega));rw[hu] at y0;have hl3:=zj hbr.out;have hj0:(0:Int)<=(j:Int):=by omega
    have hj1:(j:Int)<(n:Int):=by omega
    have hk0:(0:Int)<=(k:Int):=by omega
    have hk1:(k:Int)<(ls.length:Int):=by omega
    clear hset hsn hu hbr hbw hbl hj;go_wp2_with fail
    go_roundw
    case rel=>exact⟨k+1,by omega,by go_num,HNEW,HBN⟩
    case measure=>simp[intOf];omega
  . have hk1:¬(k:Int)<(ls.length:Int):=by omega
    have HE:Hid (BRow wr g (gE n ls)):=by have:=hbr.out;rwa[Nz (by omega)] at this
    have HBE:=zH (HW3.out.trans hbw.out);clear hbr hbw HI3;subst hg;go_wp2_with fail;go_ret;exact⟨w.heap.size,rfl,Le _,HE.out,HBE.out⟩
def RetSysGC(r:Sy×Int)(A SV:Bb)(w:Ba)(e:Ending)(w':Ba):Prop:=r.2=0->∃kc ks AV kv AX kx,e=.returned (.tuple #[.agg (r.1.vs_ A kc SV ks AV kv AX kx),.int .i64 r.2]) /\
 (∀W,w'.heap.size<=W.heap.size->(∀k,w.heap.size<=k->k<w'.heap.size->W.heap[k]?=w'.heap[k]?)->CAt W W.heap.size A r.1.p.t.cases->SAt W W.heap.size SV r.1.p.a.sts->SyAt W W.heap.size A SV AV AX r.1/\XCap W AX r.1.xs)/\Below w.heap.size w w'
def RetSysG(r:Sy×Int)(A SV:Bb)(w:Ba)(e:Ending)(w':Ba):Prop:=r.2=0->∃kc ks AV kv AX kx,e=.returned (.tuple #[.agg (r.1.vs_ A kc SV ks AV kv AX kx),.int .i64 r.2]) /\
 (∀W,w'.heap.size<=W.heap.size->(∀k,w.heap.size<=k->k<w'.heap.size->W.heap[k]?=w'.heap[k]?)->CAt W W.heap.size A r.1.p.t.cases->SAt W W.heap.size SV r.1.p.a.sts->SyAt W W.heap.size A SV AV AX r.1)/\Below w.heap.size w w'
theorem Xk(p:Pb)(hf:yR p)(A:Bb)(kc:Nat)(SV:Bb)(ks:Nat)(w:Ba)(hA:CAt w w.heap.size A p.t.cases)(hS:SAt w w.heap.size SV p.a.sts) :
  Calls Tryz.prog 33 #[.agg (p.vs A kc SV ks)] w (RetSysGC (zY p) A SV w):=by
 have HC:=zH (fun (w':Ba) (h1:CAt w' w'.heap.size A p.t.cases) (h2:SAt w' w'.heap.size SV p.a.sts)=>jo p hf.1 A kc SV ks w' h1 h2)
 have HN:=zH (fun (w':Ba) (h0:zU p=0) (h:SAt w' w'.heap.size SV p.a.sts)=>
  uB p hf.1 (yU hf.1.2 (zX h0).2.1).1 (yU hf.1.2 (zX h0).2.1).2.1 p.k.toNat 4096 (by have:=(zX h0).2.2.2.1;omega) (by have:=(zX h0).2.2.2.2;omega) (by decide) A kc SV ks w' h)
 have HB:=zH (fun (h0:zU p=0) (h60:ye p<=60) (w':Ba) (h1:CAt w' w'.heap.size A p.t.cases) (h2:SAt w' w'.heap.size SV p.a.sts)=>Xa p hf h0 h60 A kc SV ks w' h1 h2);have HBad:=zH (@xm p);have HMany:=zH (@xF p);have HOk:=zH (@qv p);have HNM:=zH (@Qt p);have HFX:=zH hf.2;obtain⟨R,hR⟩:=Ki (zY p);rw[hR] at HBad HMany HOk ⊢;obtain⟨w1,hw1,d0,d1,hs1,hB1⟩:=yB w (p.vs A kc SV ks) #[.int .i64 0,.int .i64 0,.int .i64 0,.slice none 0 0,.int .i64 0,.slice none 0 0,.int .i64 0,.int .i64 0,.slice none 0 0,.slice none 0 0] 29 35;have HAW:=zH hA;have HSW:=zH hS;have HA:=zH ((hA.keep hB1).more hB1.size);have HS:=zH ((hS.keep hB1).more hB1.size);unfold Pb.vs at hw1 d0 ⊢;have HW1:=zH hw1;have HD0:=zH d0;have HD1:=zH d1;have HB1:=zH hB1;obtain⟨p0,p1,p2,p3,p4,p5,p6,_⟩:=Kf d0;obtain⟨E,hE⟩:=Ki (zU p);have HPE:=zH hE;rw[hE] at HC HBad;obtain⟨M,hM⟩:=Ki (p.t.cases.length*yW 4096 (yd p.a p.k.toNat 0));have HMM:Hid (Zz p=M):=hM;rw[hM] at HN;clear hw1 d0 d1 hB1 hA hS hf hR hE hM;go_enter Tryz.func33,Tryz.ntmps33;go_wp2_with fail;rw[HW1.out];go_wp2_with fail;refine(HC.out w1 HA.out HS.out).mono ?_;rintro e w2 ⟨rfl,hb2⟩;have B2:=zH (HB1.out.trans (hb2.mono (by omega)));have HA2:=zH ((HA.out.keep hb2).more hb2.size);have HS2:=zH ((HS.out.keep hb2).more hb2.size);have hs2:=hb2.size;have d0:=La hb2 HD0.out;have d1:=La hb2 HD1.out;have HE0:=zH d0;have HE1:=zH d1;clear hb2 HC HW1 HD0 HD1 HA HS p0 p1 p2 p3 p4 p5 p6;obtain⟨p0,p1,p2,p3,p4,p5,p6,_⟩:=Kf d0
 by_cases h0:E=0
 case neg=>
  have hR:=zH (HBad.out h0);have e0:(E != 0)=true:=by simpa using h0
  have y0:=zh d1 0 rfl;have f0:=zi d1 0;have y1:=zh d1 1 rfl;have f1:=zi d1 1;have y2:=zh d1 2 rfl;have f2:=zi d1 2;have y3:=zh d1 3 rfl;have f3:=zi d1 3;have y4:=zh d1 4 rfl;have f4:=zi d1 4;have y5:=zh d1 5 rfl;have f5:=zi d1 5;have y6:=zh d1 6 rfl;have f6:=zi d1 6;have y7:=zh d1 7 rfl;have f7:=zi d1 7;have y8:=zh d1 8 rfl;have f8:=zi d1 8;have y9:=zh d1 9 rfl;have f9:=zi d1 9;obtain⟨k1,k2,k3⟩:=xz (.int .i64 0) (.int .i64 0) (.int .i64 0) (.slice none 0 0) (.int .i64 0) (.slice none 0 0) (.int .i64 0) (.int .i64 0) (.slice none 0 0) (.slice none 0 0) d1 B2.out (by omega:w.heap.size<=w.heap.size+1);obtain⟨WF,hWF⟩:=Ki (((((((((((w2.setCell ⟨w.heap.size+1,0,none⟩ (.int .i64 0)).setCell ⟨w.heap.size+1,1,none⟩ (.int .i64 0)).setCell ⟨w.heap.size+1,2,none⟩ (.int .i64 0)).setCell ⟨w.heap.size+1,3,none⟩ (.slice none 0 0)).setCell ⟨w.heap.size+1,4,none⟩ (.int .i64 0)).setCell ⟨w.heap.size+1,5,none⟩ (.slice none 0 0)).setCell ⟨w.heap.size+1,6,none⟩ (.int .i64 0)).setCell ⟨w.heap.size+1,7,none⟩ (.int .i64 0)).setCell ⟨w.heap.size+1,8,none⟩ (.slice none 0 0)).setCell ⟨w.heap.size+1,9,none⟩ (.slice none 0 0)));rw[hWF] at k1 k2 k3;have HK1:=zH k1;have HK2:=zH k2;have HK3:=zH k3;have HWF:=zH hWF;clear k1 k2 k3 hWF;clear HMany HOk HNM HN HB HFX h0 d0 d1;go_wp2_with fail;rw[HWF.out];obtain⟨z0,z1,z2,z3,z4,z5,z6,z7,z8,z9⟩:=zB HK1.out
  refine L1 (v:=.tuple #[.agg #[.int .i64 0,.int .i64 0,.int .i64 0,.slice none 0 0,.int .i64 0,.slice none 0 0,.int .i64 0,.int .i64 0,.slice none 0 0,.slice none 0 0],.int .i64 E]) (by simp[results,Tryz.results33,go_sem,z0,z1,z2,z3,z4,z5,z6,z7,z8,z9]) rfl ?_;rw[hR.out];exact fun h=>absurd h (by simpa using e0)
 case pos=>
 subst h0;clear HBad;go_wp2_with fail;refine(HN.out w2 HPE.out HS2.out).mono ?_;rintro e w3 ⟨rfl,hb3⟩;have B3:=zH (B2.out.trans (hb3.mono (by omega)));have HA3:=zH ((HA2.out.keep hb3).more hb3.size);have HS3:=zH ((HS2.out.keep hb3).more hb3.size);have hs3:=hb3.size;have d0:=La hb3 HE0.out;have d1:=La hb3 HE1.out;have HF0:=zH d0;have HF1:=zH d1;clear hb3 HN HE0 HE1 HA2 HS2 p0 p1 p2 p3 p4 p5 p6
 by_cases hm:4096<M
 case pos=>
  have hR:=zH (HMany.out HPE.out ((HNM.out HPE.out).1 (by rw[HMM.out];exact hm)));have hmi:(4096:Int)<(M:Int):=by omega
  have y0:=zh d1 0 rfl;have f0:=zi d1 0;have y1:=zh d1 1 rfl;have f1:=zi d1 1;have y2:=zh d1 2 rfl;have f2:=zi d1 2;have y3:=zh d1 3 rfl;have f3:=zi d1 3;have y4:=zh d1 4 rfl;have f4:=zi d1 4;have y5:=zh d1 5 rfl;have f5:=zi d1 5;have y6:=zh d1 6 rfl;have f6:=zi d1 6;have y7:=zh d1 7 rfl;have f7:=zi d1 7;have y8:=zh d1 8 rfl;have f8:=zi d1 8;have y9:=zh d1 9 rfl;have f9:=zi d1 9;obtain⟨k1,k2,k3⟩:=xz (.int .i64 0) (.int .i64 0) (.int .i64 0) (.slice none 0 0) (.int .i64 0) (.slice none 0 0) (.int .i64 0) (.int .i64 0) (.slice none 0 0) (.slice none 0 0) d1 B3.out (by omega:w.heap.size<=w.heap.size+1);obtain⟨WF,hWF⟩:=Ki (((((((((((w3.setCell ⟨w.heap.size+1,0,none⟩ (.int .i64 0)).setCell ⟨w.heap.size+1,1,none⟩ (.int .i64 0)).setCell ⟨w.heap.size+1,2,none⟩ (.int .i64 0)).setCell ⟨w.heap.size+1,3,none⟩ (.slice none 0 0)).setCell ⟨w.heap.size+1,4,none⟩ (.int .i64 0)).setCell ⟨w.heap.size+1,5,none⟩ (.slice none 0 0)).setCell ⟨w.heap.size+1,6,none⟩ (.int .i64 0)).setCell ⟨w.heap.size+1,7,none⟩ (.int .i64 0)).setCell ⟨w.heap.size+1,8,none⟩ (.slice none 0 0)).setCell ⟨w.heap.size+1,9,none⟩ (.slice none 0 0)));rw[hWF] at k1 k2 k3;have HK1:=zH k1;have HK2:=zH k2;have HK3:=zH k3;have HWF:=zH hWF;clear k1 k2 k3 hWF;clear HMany HOk HNM HB HFX d0 d1;go_wp2_with fail;rw[HWF.out];obtain⟨z0,z1,z2,z3,z4,z5,z6,z7,z8,z9⟩:=zB HK1.out
  refine L1 (v:=.tuple #[.agg #[.int .i64 0,.int .i64 0,.int .i64 0,.slice none 0 0,.int .i64 0,.slice none 0 0,.int .i64 0,.int .i64 0,.slice none 0 0,.slice none 0 0],.int .i64 17]) (by simp[results,Tryz.results33,go_sem,z0,z1,z2,z3,z4,z5,z6,z7,z8,z9]) rfl ?_;rw[hR.out];exact fun h=>absurd h (by decide)
 case neg=>
 have hex:¬(4096<ye p):=fun h=>hm (by rw[<-HMM.out];exact(HNM.out HPE.out).2 h)
 have h60:ye p<=60:=by
  rcases HFX.out HPE.out with h | h
  . exact h
  . exact absurd h hex
 have hR:=zH (HOk.out HPE.out (by omega));have hmi:¬((4096:Int)<(M:Int)):=by omega
 have HB':=zH (HB.out HPE.out h60 w3 HA3.out HS3.out);have HFW:=zH (gJ p HPE.out h60).1;obtain⟨p0,p1,p2,p3,p4,p5,p6,_⟩:=Kf d0;clear HMany HOk HNM HB HFX hex h60 d0 d1 HMM;go_wp2_with fail
 all_goals first | (exfalso;omega) | skip
 refine HB'.out.mono ?_;rintro e w4 ⟨AV,kv,AE,ke,rfl,hV,hX,hb4⟩;have B4:=zH (B3.out.trans (hb4.mono (by omega)));have HVO:=zH hV;have HXO:=zH hX;have hs4:=hb4.size;have d1:=La hb4 HF1.out;have HG1:=zH d1;have HA4:=zH ((HA3.out.keep hb4).more hb4.size);have HS4:=zH ((HS3.out.keep hb4).more hb4.size);clear hV hX hb4 HB' HF0 HF1 p0 p1 p2 p3 p4 p5 p6 d1;obtain⟨W5,hW5,b5,hs5,hB5⟩:=zn w4 #[.int .i64 p.t.n,.int .i64 p.t.ins,.int .i64 p.t.outs,.slice A p.t.cases.length kc,.int .i64 p.a.n,.slice SV p.a.sts.length ks,.int .i64 p.k,.int .i64 p.t.n,.slice AV (zC p (zx p)).1.length kv,.slice AE (zC p (zx p)).2.length ke] 35;have d1:=La hB5 HG1.out;have B5:=zH (B4.out.trans (hB5.mono (by omega)));have HB5:=zH hB5;have HW5:=zH hW5;obtain⟨x0,x1,x2,x3,x4,x5,x6,x7,x8,x9⟩:=zB b5;have hfv:¬((8192:Int)<((zC p (zx p)).1.length:Int)):=by have:=HFW.out;omega
 clear hW5 hB5 b5;go_simp;rename_i hKK;refine hKK _ _ ?_;clear hKK;refine LW rfl fun K5 hK5=>?_
 go_simp;refine hK5 _ _ ?_;clear hK5 K5;refine LW rfl fun K5 hK5=>?_
 go_simp;rw[HW5.out];refine hK5 _ _ ?_;clear hK5 K5 HW5;have y0:=zh d1 0 rfl;have f0:=zi d1 0;have y1:=zh d1 1 rfl;have f1:=zi d1 1;have y2:=zh d1 2 rfl;have f2:=zi d1 2;have y3:=zh d1 3 rfl;have f3:=zi d1 3;have y4:=zh d1 4 rfl;have f4:=zi d1 4;have y5:=zh d1 5 rfl;have f5:=zi d1 5;have y6:=zh d1 6 rfl;have f6:=zi d1 6;have y7:=zh d1 7 rfl;have f7:=zi d1 7;have y8:=zh d1 8 rfl;have f8:=zi d1 8;have y9:=zh d1 9 rfl;have f9:=zi d1 9;obtain⟨k1,k2,k3⟩:=xz (.int .i64 p.t.n) (.int .i64 p.t.ins) (.int .i64 p.t.outs) (.slice A p.t.cases.length kc) (.int .i64 p.a.n) (.slice SV p.a.sts.length ks) (.int .i64 p.k) (.int .i64 p.t.n) (.slice AV (zC p (zx p)).1.length kv) (.slice AE (zC p (zx p)).2.length ke) d1 B5.out (by omega:w.heap.size<=w.heap.size+1);obtain⟨WF,hWF⟩:=Ki (((((((((((W5.setCell ⟨w.heap.size+1,0,none⟩ (.int .i64 p.t.n)).setCell ⟨w.heap.size+1,1,none⟩ (.int .i64 p.t.ins)).setCell ⟨w.heap.size+1,2,none⟩ (.int .i64 p.t.outs)).setCell ⟨w.heap.size+1,3,none⟩ (.slice A p.t.cases.length kc)).setCell ⟨w.heap.size+1,4,none⟩ (.int .i64 p.a.n)).setCell ⟨w.heap.size+1,5,none⟩ (.slice SV p.a.sts.length ks)).setCell ⟨w.heap.size+1,6,none⟩ (.int .i64 p.k)).setCell ⟨w.heap.size+1,7,none⟩ (.int .i64 p.t.n)).setCell ⟨w.heap.size+1,8,none⟩ (.slice AV (zC p (zx p)).1.length kv)).setCell ⟨w.heap.size+1,9,none⟩ (.slice AE (zC p (zx p)).2.length ke)));rw[hWF] at k1 k2 k3;have HK1:=zH k1;have HK2:=zH k2;have HK3:=zH k3;have HWF:=zH hWF;clear k1 k2 k3 hWF;clear d1;go_wp2_with fail;rw[HWF.out]
 obtain⟨z0,z1,z2,z3,z4,z5,z6,z7,z8,z9⟩:=zB HK1.out;refine L1 (v:=.tuple #[.agg #[.int .i64 p.t.n,.int .i64 p.t.ins,.int .i64 p.t.outs,.slice A p.t.cases.length kc,.int .i64 p.a.n,.slice SV p.a.sts.length ks,.int .i64 p.k,.int .i64 p.t.n,.slice AV (zC p (zx p)).1.length kv,.slice AE (zC p (zx p)).2.length ke],.int .i64 0]) (by simp[results,Tryz.results33,go_sem,z0,z1,z2,z3,z4,z5,z6,z7,z8,z9]) rfl ?_;rw[hR.out];have hsame:∀k,k≠w.heap.size+1->k<w4.heap.size->WF.heap[k]?=w4.heap[k]?:=fun k a b=>(HK3.out.2.1 k a).trans (HB5.out.block k b)
 have hz:w4.heap.size<=WF.heap.size:=by have:=HB5.out.size;have:=HK3.out.2.2;omega
 have hV5:=HVO.out.of_same fun k hk=>hsame k (by have:=(HVO.out.lt' k hk).1;omega) (HVO.out.lt' k hk).2
 have hX5:=HXO.out.keep zR (w':=WF) ⟨hz,fun k hs hl=>hsame k (by omega) hl⟩ fun k hk=>hsame k (by have:=(HXO.out.lt k hk).1;omega) (HXO.out.lt k hk).2
 refine fun _=>⟨kc,ks,AV,kv,AE,ke,rfl,fun W hl hW hc hs=>?_,HK2.out⟩
 obtain⟨AV',kv',eV,hT⟩:=(hV5.of_same (w':=W) fun k hk=>hW k (by have:=(hV5.lt' k hk).1;omega) (hV5.lt' k hk).2).form (by have:=HFW.out;omega)
 cases eV
 obtain⟨AE',ke',eE,_,_,hXA,hXC⟩:=jX (hX5.keep zR (w':=W) ⟨hl,fun k hs hl=>hW k (by omega) hl⟩ fun k hk=>hW k (by have:=(hX5.lt k hk).1;omega) (hX5.lt k hk).2)
 cases eE
 exact⟨⟨hc,hs,hT.rows,hXA⟩,hXC⟩
theorem Qg(p:Pb)(hf:yR p)(A:Bb)(kc:Nat)(SV:Bb)(ks:Nat)(w:Ba)(hA:CAt w w.heap.size A p.t.cases)(hS:SAt w w.heap.size SV p.a.sts) :
  Calls Tryz.prog 33 #[.agg (p.vs A kc SV ks)] w (RetSysG (zY p) A SV w):=by
 refine(Xk p hf A kc SV ks w hA hS).mono fun e w' h h0=>?_
 obtain⟨kc,ks,AV,kv,AX,kx,h1,h2,h3⟩:=h h0;exact⟨kc,ks,AV,kv,AX,kx,h1,fun W a b c d=>(h2 W a b c d).1,h3⟩
theorem Yn(w:Ba):Calls Tryz.prog 13 #[] w fun e w'=>∃A kc SV ks AV kv AX kx,e=.returned (.agg (yh.vs_ A kc SV ks AV kv AX kx))/\SyAt w' w'.heap.size A SV AV AX yh/\Below w.heap.size w w':=by
 obtain⟨a0,ha0,e0,hs0,hb0⟩:=zn w #[.int .i64 0,.int .i64 0,.int .i64 0,.slice none 0 0,.int .i64 0,.slice none 0 0,.int .i64 0,.int .i64 0,.slice none 0 0,.slice none 0 0] 35;obtain⟨a1,ha1,e1,hs1,hb1⟩:=zn a0 #[.int .i64 0,.int .i64 0] 3;obtain⟨a2,ha2,e2,hs2,hb2⟩:=zn a1 #[.int .i64 0,.int .i64 0] 3;obtain⟨a3,ha3,e3,hs3,hb3⟩:=zn a2 #[.slice (some ⟨w.heap.size+1+1,0,none⟩) 2 2] 44;obtain⟨a4,ha4,e4,hs4,hb4⟩:=zn a3 #[.int .i64 0,.int .i64 1] 3;obtain⟨a5,ha5,e5,hs5,hb5⟩:=zn a4 #[.int .i64 0,.int .i64 0] 3;obtain⟨a6,ha6,e6,hs6,hb6⟩:=zn a5 #[.slice (some ⟨w.heap.size+1+1+1+1+1,0,none⟩) 2 2] 44;obtain⟨a7,ha7,e7,hs7,hb7⟩:=zn a6 #[.slice (some ⟨w.heap.size+1,0,none⟩) 2 2,.slice (some ⟨w.heap.size+1+1+1,0,none⟩) 1 1,.slice none 0 0,.slice (some ⟨w.heap.size+1+1+1+1,0,none⟩) 2 2,.slice (some ⟨w.heap.size+1+1+1+1+1+1,0,none⟩) 1 1,.slice none 0 0] 87;obtain⟨a8,ha8,e8,hs8,hb8⟩:=zn a7 #[.int .i64 2,.int .i64 2,.int .i64 1,.slice (some ⟨w.heap.size+1+1+1+1+1+1+1,0,none⟩) 2 2] 24;obtain⟨a9,ha9,e9,hs9,hb9⟩:=zn a8 #[.int .i64 2,.int .i64 1,.int .i64 3,.int .i64 0,.int .i64 0,.int .i64 0,.int .i64 0,.int .i64 0,.int .i64 2,.int .i64 3,.int .i64 3,.int .i64 0,.int .i64 0,.int .i64 0,.int .i64 0,.int .i64 0] 94;obtain⟨a10,ha10,e10,hs10,hb10⟩:=zn a9 #[.slice (some ⟨w.heap.size+1+1+1+1+1+1+1+1+1,0,none⟩) 2 2] 95;obtain⟨a11,ha11,e11,hs11,hb11⟩:=zn a10 #[.int .i64 2,.slice (some ⟨w.heap.size+1+1+1+1+1+1+1+1+1+1,0,none⟩) 1 1] 27;rw[hs0] at e1 hs1;rw[hs1] at e2 hs2;rw[hs2] at e3 hs3
 rw[hs3] at e4 hs4;rw[hs4] at e5 hs5;rw[hs5] at e6 hs6;rw[hs6] at e7 hs7;rw[hs7] at e8 hs8;rw[hs8] at e9 hs9;rw[hs9] at e10 hs10;rw[hs10] at e11 hs11;have D0:Hid (a11.heap[w.heap.size]?=some (.cells #[.int .i64 0,.int .i64 0,.int .i64 0,.slice none 0 0,.int .i64 0,.slice none 0 0,.int .i64 0,.int .i64 0,.slice none 0 0,.slice none 0 0] 35 (0,0))):=Lb hb11 (by omega) (Lb hb10 (by omega) (Lb hb9 (by omega) (Lb hb8 (by omega) (Lb hb7 (by omega) (Lb hb6 (by omega) (Lb hb5 (by omega) (Lb hb4 (by omega) (Lb hb3 (by omega) (Lb hb2 (by omega) (Lb hb1 (by omega) (e0)))))))))));have D1:Hid (a11.heap[w.heap.size+1]?=some (.cells #[.int .i64 0,.int .i64 0] 3 (0,0))):=Lb hb11 (by omega) (Lb hb10 (by omega) (Lb hb9 (by omega) (Lb hb8 (by omega) (Lb hb7 (by omega) (Lb hb6 (by omega) (Lb hb5 (by omega) (Lb hb4 (by omega) (Lb hb3 (by omega) (Lb hb2 (by omega) (e1))))))))))
 have D2:Hid (a11.heap[w.heap.size+1+1]?=some (.cells #[.int .i64 0,.int .i64 0] 3 (0,0))):=Lb hb11 (by omega) (Lb hb10 (by omega) (Lb hb9 (by omega) (Lb hb8 (by omega) (Lb hb7 (by omega) (Lb hb6 (by omega) (Lb hb5 (by omega) (Lb hb4 (by omega) (Lb hb3 (by omega) (e2)))))))));have D3:Hid (a11.heap[w.heap.size+1+1+1]?=some (.cells #[.slice (some ⟨w.heap.size+1+1,0,none⟩) 2 2] 44 (0,0))):=Lb hb11 (by omega) (Lb hb10 (by omega) (Lb hb9 (by omega) (Lb hb8 (by omega) (Lb hb7 (by omega) (Lb hb6 (by omega) (Lb hb5 (by omega) (Lb hb4 (by omega) (e3))))))));have D4:Hid (a11.heap[w.heap.size+1+1+1+1]?=some (.cells #[.int .i64 0,.int .i64 1] 3 (0,0))):=Lb hb11 (by omega) (Lb hb10 (by omega) (Lb hb9 (by omega) (Lb hb8 (by omega) (Lb hb7 (by omega) (Lb hb6 (by omega) (Lb hb5 (by omega) (e4)))))));have D5:Hid (a11.heap[w.heap.size+1+1+1+1+1]?=some (.cells #[.int .i64 0,.int .i64 0] 3 (0,0))):=Lb hb11 (by omega) (Lb hb10 (by omega) (Lb hb9 (by omega) (Lb hb8 (by omega) (Lb hb7 (by omega) (Lb hb6 (by omega) (e5))))))
 have D6:Hid (a11.heap[w.heap.size+1+1+1+1+1+1]?=some (.cells #[.slice (some ⟨w.heap.size+1+1+1+1+1,0,none⟩) 2 2] 44 (0,0))):=Lb hb11 (by omega) (Lb hb10 (by omega) (Lb hb9 (by omega) (Lb hb8 (by omega) (Lb hb7 (by omega) (e6)))));have D7:Hid (a11.heap[w.heap.size+1+1+1+1+1+1+1]?=some (.cells #[.slice (some ⟨w.heap.size+1,0,none⟩) 2 2,.slice (some ⟨w.heap.size+1+1+1,0,none⟩) 1 1,.slice none 0 0,.slice (some ⟨w.heap.size+1+1+1+1,0,none⟩) 2 2,.slice (some ⟨w.heap.size+1+1+1+1+1+1,0,none⟩) 1 1,.slice none 0 0] 87 (0,0))):=Lb hb11 (by omega) (Lb hb10 (by omega) (Lb hb9 (by omega) (Lb hb8 (by omega) (e7))));have D8:Hid (a11.heap[w.heap.size+1+1+1+1+1+1+1+1]?=some (.cells #[.int .i64 2,.int .i64 2,.int .i64 1,.slice (some ⟨w.heap.size+1+1+1+1+1+1+1,0,none⟩) 2 2] 24 (0,0))):=Lb hb11 (by omega) (Lb hb10 (by omega) (Lb hb9 (by omega) (e8)));have D9:Hid (a11.heap[w.heap.size+1+1+1+1+1+1+1+1+1]?=some (.cells #[.int .i64 2,.int .i64 1,.int .i64 3,.int .i64 0,.int .i64 0,.int .i64 0,.int .i64 0,.int .i64 0,.int .i64 2,.int .i64 3,.int .i64 3,.int .i64 0,.int .i64 0,.int .i64 0,.int .i64 0,.int .i64 0] 94 (0,0))):=Lb hb11 (by omega) (Lb hb10 (by omega) (e9))
 have D10:Hid (a11.heap[w.heap.size+1+1+1+1+1+1+1+1+1+1]?=some (.cells #[.slice (some ⟨w.heap.size+1+1+1+1+1+1+1+1+1,0,none⟩) 2 2] 95 (0,0))):=Lb hb11 (by omega) (e10);have D11:Hid (a11.heap[w.heap.size+1+1+1+1+1+1+1+1+1+1+1]?=some (.cells #[.int .i64 2,.slice (some ⟨w.heap.size+1+1+1+1+1+1+1+1+1+1,0,none⟩) 1 1] 27 (0,0))):=e11;have HB:Hid (Below w.heap.size w a11):=(((((((((((hb0).trans (hb1.mono (by omega))).trans (hb2.mono (by omega))).trans (hb3.mono (by omega))).trans (hb4.mono (by omega))).trans (hb5.mono (by omega))).trans (hb6.mono (by omega))).trans (hb7.mono (by omega))).trans (hb8.mono (by omega))).trans (hb9.mono (by omega))).trans (hb10.mono (by omega))).trans (hb11.mono (by omega));have HA0:=zH ha0;have HA1:=zH ha1;have HA2:=zH ha2;have HA3:=zH ha3;have HA4:=zH ha4;have HA5:=zH ha5;have HA6:=zH ha6;have HA7:=zH ha7;have HA8:=zH ha8;have HA9:=zH ha9;have HA10:=zH ha10;have HA11:=zH ha11;have HS:=zH hs11;clear ha0 e0 hb0 ha1 e1 hb1 ha2 e2 hb2 ha3 e3 hb3 ha4 e4 hb4 ha5 e5 hb5 ha6 e6 hb6 ha7 e7 hb7 ha8 e8 hb8 ha9 e9 hb9 ha10 e10 hb10 ha11 e11 hb11 hs0 hs1 hs2 hs3 hs4 hs5 hs6 hs7 hs8 hs9 hs10 hs11;go_enter Tryz.func13,Tryz.ntmps13;go_upto_region 3 with fail
 rw[HA0.out,HA1.out,HA2.out,HA3.out,HA4.out,HA5.out,HA6.out,HA7.out,HA8.out,HA9.out,HA10.out,HA11.out];clear HA0 HA1 HA2 HA3 HA4 HA5 HA6 HA7 HA8 HA9 HA10 HA11;have hlt:=HS.out
 have HCS:Hid (∀X:Ba,a11.heap.size<=X.heap.size->(∀k,w.heap.size<k->k<a11.heap.size->X.heap[k]?=a11.heap[k]?)->CAt X X.heap.size (some ⟨w.heap.size+1+1+1+1+1+1+1,0,none⟩) Yo.t.cases/\SAt X X.heap.size (some ⟨w.heap.size+1+1+1+1+1+1+1+1+1+1,0,none⟩) Yo.a.sts):=fun X hl hX=>by
  have E1:=(hX _ (by omega) (zj D1.out)).trans D1.out;have E2:=(hX _ (by omega) (zj D2.out)).trans D2.out;have E3:=(hX _ (by omega) (zj D3.out)).trans D3.out;have E4:=(hX _ (by omega) (zj D4.out)).trans D4.out;have E5:=(hX _ (by omega) (zj D5.out)).trans D5.out;have E6:=(hX _ (by omega) (zj D6.out)).trans D6.out;have E7:=(hX _ (by omega) (zj D7.out)).trans D7.out;have E8:=(hX _ (by omega) (zj D8.out)).trans D8.out;have E9:=(hX _ (by omega) (zj D9.out)).trans D9.out;have E10:=(hX _ (by omega) (zj D10.out)).trans D10.out;have E11:=(hX _ (by omega) (zj D11.out)).trans D11.out;have i0:IAtS (fun _=>True) X _ [0,0]:=uj trivial E1;have i1:IAtS (fun _=>True) X _ [0,0]:=uj trivial E2;have i3:IAtS (fun _=>True) X _ [0,1]:=uj trivial E4;have i4:IAtS (fun _=>True) X _ [0,0]:=uj trivial E5;have l2:=QF (v:=[0,0]) (S:=fun _=>True) trivial E3 i1;have l5:=QF (v:=[0,0]) (S:=fun _=>True) trivial E6 i4
  have hCA:CAt X X.heap.size (some ⟨w.heap.size+1+1+1+1+1+1+1,0,none⟩) Yo.t.cases:=fun _=>⟨_,0,rfl,zj E7,fun i hi=>by
   have h2:i=0\/i=1:=by have:i<2:=hi;omega
   rcases h2 with rfl | rfl
   . exact⟨_,_,_,zh E7 0 rfl,zh E7 1 rfl,zh E7 2 rfl,⟨_,2,rfl,i0.iat⟩,⟨_,1,rfl,l2.lat⟩,⟨none,0,rfl,LAt.nil _ _ _⟩⟩
   . exact⟨_,_,_,zh E7 3 rfl,zh E7 4 rfl,zh E7 5 rfl,⟨_,2,rfl,i3.iat⟩,⟨_,1,rfl,l5.lat⟩,⟨none,0,rfl,LAt.nil _ _ _⟩⟩⟩
  have hSA:SAt X X.heap.size (some ⟨w.heap.size+1+1+1+1+1+1+1+1+1+1,0,none⟩) Yo.a.sts:=fun _=>⟨_,0,rfl,zj E10,fun i hi=>by
   obtain rfl:i=0:=by have:i<1:=hi;omega
   refine⟨_,2,zh E10 0 rfl,fun _=>⟨_,0,rfl,zj E9,fun i hi k u hu=>?_⟩⟩;have hi2:i=0\/i=1:=by have:i<2:=hi;omega
   have hk8:k<8:=by
    rcases hi2 with rfl | rfl
    . exact(Ln.1 hu).1
    . exact(Ln.1 hu).1
   rw[<-hu];have h8:k=0\/k=1\/k=2\/k=3\/k=4\/k=5\/k=6\/k=7:=by omega
   rcases hi2 with rfl | rfl
   . rcases h8 with rfl | rfl | rfl | rfl | rfl | rfl | rfl | rfl
     all_goals exact zh E9 _ rfl
   . rcases h8 with rfl | rfl | rfl | rfl | rfl | rfl | rfl | rfl
     all_goals exact zh E9 _ rfl⟩
  exact⟨hCA,hSA⟩
 obtain⟨hCA,hSA⟩:=HCS.out a11 (Le _) (fun _ _ _=>rfl);have hbd:=Qg Yo XG _ 2 _ 1 a11 hCA hSA;have HR:Hid (zY Yo=(yh,0)):=Prod.ext rfl ex_ok;rw[HR.out] at hbd;have hargs:Yo.vs (some ⟨w.heap.size+1+1+1+1+1+1+1,0,none⟩) 2 (some ⟨w.heap.size+1+1+1+1+1+1+1+1+1+1,0,none⟩) 1=#[.int .i64 2,.int .i64 2,.int .i64 1,.slice (some ⟨w.heap.size+1+1+1+1+1+1+1,0,none⟩) 2 2,.int .i64 2,.slice (some ⟨w.heap.size+1+1+1+1+1+1+1+1+1+1,0,none⟩) 1 1,.int .i64 1]:=rfl;rw[hargs] at hbd;have HBD:=zH hbd;obtain⟨x0,x1,x2,x3,_⟩:=Kb D8.out;obtain⟨y0,y1,_⟩:=Ka D11.out;clear hCA hSA HR hargs hbd D1 D2 D3 D4 D5 D6 D7 D8 D9 D10 D11 hlt;go_wp2_with fail;refine HBD.out.mono ?_;rintro e w9 hG;obtain⟨kc2,ks2,AV,kv,AX,kx,rfl,hSY,hb9⟩:=hG rfl;dsimp only at hSY ⊢;have HA9:=zH (HB.out.size);obtain⟨T,hT⟩:=Ki yh;rw[hT] at hSY;have HT:=zH hT;have HSY:=zH hSY;have HB9:=zH (Lc HB.out hb9);have HD0:=zH (La hb9 D0.out);rw[hT];unfold Sy.vs_;have HB89:=zH hb9;clear hb9 hSY HBD hT x0 x1 x2 x3 y0 y1 D0;go_upto_region 4 with fail
 obtain⟨W10,hW10,d10,hs10,hb10⟩:=zn w9 #[.int .i64 T.p.t.n,.int .i64 T.p.t.ins,.int .i64 T.p.t.outs,.slice (some ⟨w.heap.size+1+1+1+1+1+1+1,0,none⟩) T.p.t.cases.length kc2,.int .i64 T.p.a.n,.slice (some ⟨w.heap.size+1+1+1+1+1+1+1+1+1+1,0,none⟩) T.p.a.sts.length ks2,.int .i64 T.p.k,.int .i64 T.n,.slice AV T.vs.length kv,.slice AX T.xs.length kx] 35;rw[hW10];have hz:=zj HD0.out;have HD10:=zH d10;have HD0T:=zH (Lb hb10 hz HD0.out);have HB10:=zH (Lc HB9.out hb10);have HSM:Hid (∀k,k<w9.heap.size->W10.heap[k]?=w9.heap[k]?):=fun k hk=>hb10.block k hk
 obtain⟨q0,q1,q2,q3,q4,q5,q6,q7,q8,q9⟩:=zB d10;obtain⟨r0,r1,r2,r3,r4,r5,r6,r7,r8,r9⟩:=zB HD0T.out;have g0:=zi HD0T.out 0;have g1:=zi HD0T.out 1;have g2:=zi HD0T.out 2;have g3:=zi HD0T.out 3;have g4:=zi HD0T.out 4;have g5:=zi HD0T.out 5;have g6:=zi HD0T.out 6;have g7:=zi HD0T.out 7;have g8:=zi HD0T.out 8;have g9:=zi HD0T.out 9;have l1:=zj HD0T.out;clear hW10 d10 hb10 HD0;go_wp2_with fail;obtain⟨WF,hWF,f1,f2,f3,f4⟩:=set10 HD0T.out (.int .i64 T.p.t.n) (.int .i64 T.p.t.ins) (.int .i64 T.p.t.outs) (.slice (some ⟨w.heap.size+1+1+1+1+1+1+1,0,none⟩) T.p.t.cases.length kc2) (.int .i64 T.p.a.n) (.slice (some ⟨w.heap.size+1+1+1+1+1+1+1+1+1+1,0,none⟩) T.p.a.sts.length ks2) (.int .i64 T.p.k) (.int .i64 T.n) (.slice AV T.vs.length kv) (.slice AX T.xs.length kx);rw[hWF]
 (try simp only[Exit.inBlock,Exit.then])
 refine L1 (results_cell_row (P:=Tryz.prog) rfl _ _ w.heap.size 35 _ (0,0) _ rfl f1 Pr rfl (by kernel_rfl)) rfl ?_;have hAl:=HB89.out.size;have hSl:=HS.out;refine⟨_,kc2,_,ks2,AV,kv,AX,⟨kx,by first | rfl | (rw[HT.out];rfl)⟩,?_,?_⟩
 . have hag:∀k,w.heap.size<k->k<w9.heap.size->WF.heap[k]?=w9.heap[k]?:=fun k h1 h2=>(f2 k (by omega)).trans (HSM.out k h2)
   have hwl:w9.heap.size<=WF.heap.size:=by have:=f4;omega
   obtain⟨hc,hs⟩:=HCS.out WF (by omega) fun k h1 h2=>(hag k h1 (by omega)).trans (HB89.out.block k h2)
   try rw[HT.out]
   refine HSY.out WF hwl (fun k h1 h2=>hag k (by omega) h2) ?_ ?_
   . rw[<-HT.out];exact hc
   . rw[<-HT.out];exact hs
 . exact HB10.out.trans (f3 _ (Le _))
end
section
open Go.RowKit
attribute [local go_sem] Oper.semAt_some
theorem jz{w:Ba}{g:Nat}{xs:List Int}{t:TypeId}(h:w.heap[g]?=some (.cells ((xs.map (Value.int .i64)).toArray) t (0,0))):IAt w w.heap.size (some ⟨g,0,none⟩) xs:=fun _=>
 ⟨g,0,rfl,zj h,fun i hi=>by rw[LH];exact zh h i (by simp[hi])⟩
end
section
open Go.RowKit Go.Shelf
attribute [local go_sem] Oper.semAt_some
theorem wX(s:Sy)(hs:LowS s)(hf:yR s.p)(g:Int)(set:List Bool)(A SV AV AX AB:Bb)(kc ks kv kx kb:Nat)(hsl:set.length<=1000000)(w:Ba)(hS:SyAt w w.heap.size A SV AV AX s)(hB0:BAt w w.heap.size AB set) :
  Calls Tryz.prog 8 #[.agg (s.vs_ A kc SV ks AV kv AX kx),.int .i64 g,.slice AB set.length kb] w (Xc s g set w):=by
 obtain⟨w1,hw1,d0,hs1,hB⟩:=zn w (s.vs_ A kc SV ks AV kv AX kx) 35;have HO:=zH (vB s hs hf g set A SV AV AX AB kc ks kv kx kb hsl w1 (hS.up hB));have HBA:Hid (∀X,Below w1.heap.size w1 X->BAt X X.heap.size AB set):=fun X hX=>(((hB0.keep hB).more hB.size).keep hX).more hX.size
 have HC:Hid (zN s g set=0->∃(G M:Nat),g=(G:Int)/\M<=ptn s/\ya (ptn s) (evG s g) set (M+1)=ya (ptn s) (evG s g) set M/\(∀m,m<M->ya (ptn s) (evG s g) set (m+1)≠ya (ptn s) (evG s g) set m)/\set.length=ptn s/\1<=ptn s/\ptn s<=700/\(∀m,(ya (ptn s) (evG s g) set m).length=ptn s) /\
   ∀(bw:Nat) (x:List Bool) (hx:x.length=ptn s) (AQ:Bb) (cQ:Nat) (X:Ba),KwAt X X.heap.size bw (ptn s) s.n.toNat (yx s)->BAt X X.heap.size AQ x->Calls Tryz.prog 26 #[.pointer (some ⟨bw,0,none⟩),.int .i64 (G:Int),.slice AQ (ptn s) cQ] X fun e w'=>∃g':Nat,e=.returned (.slice (some ⟨g',0,none⟩) (ptn s) (ptn s))/\X.heap.size<=g'/\BRow w' g' (evG s g x)/\Below X.heap.size X w'):=fun h=>by
  obtain⟨G,hg,hG,hN,hn1,hn7,hl,hps⟩:=xE hf h;obtain⟨M,m1,m2,m3⟩:=kY (F:=ya (ptn s) (evL (ptn s) (yx s) (psG s g)) set) (kN hl) (jc hl);refine⟨G,M,hg,m1,m2,m3,hl,hn1,hn7,kN hl,fun bw x hx AQ cQ X hK hB=>?_⟩;unfold evG;rw[hps];have:=qz bw (ptn s) s.n.toNat (yx s) hn1 (by omega) hN G hG AQ cQ x hx X hK hB;unfold xe at this;rwa[xL] at this
 have HEV:Hid (∀x,(evG s g x).length=ptn s):=fun x=>xL _ _ _ _
 unfold RetOp at HO;unfold Xc;obtain⟨E,hE⟩:=Ki (zN s g set);rw[hE] at HO HC ⊢;obtain⟨n,hn⟩:=Ki (ptn s);rw[hn] at HO HC HEV ⊢;obtain⟨EV,hEV⟩:=Ki (evG s g);rw[hEV] at HC HEV ⊢;have HST:Hid (∀m,qG n (ya n EV set m) (EV (ya n EV set m))=ya n EV set (m+1)):=fun _=>rfl
 have HOL:Hid (∀m,(yf n EV set m).length=n):=fun m=>ua _ _ _ m
 have HON:Hid (∀k j,j<n->(yf n EV set (k+1)).getD j 0=if (ya n EV set k).getD j false then (k:Int) else (yf n EV set k).getD j 0):=fun k j h=>by
  rw[yf,yL (by simpa using h),LZ,Nb]
 have HOR:Hid (∀k j,j<n->(jb n EV set k).getD j 0=if (ya n EV set k).getD j false then (n:Int) else (yf n EV set k).getD j 0):=fun k j h=>by
  unfold jb;rw[yL (by simpa using h),LZ,Nb]
 have HORL:Hid (∀k,(jb n EV set k).length=n):=fun k=>by show _=_;simp[jb]
 have HL0:Hid (ya n EV set 0=set):=rfl;have HO0:Hid (yf n EV set 0=List.replicate n (-1)):=rfl;unfold Sy.vs_ at hw1 d0 HO ⊢;have HW1:=zH hw1;have HB:=zH hB;obtain⟨p0,p1,p2,p3,p4,p5,p6,p7,p8,p9⟩:=zB (d0);clear hw1 d0 hB hS hB0 hs hf hE hn hEV;go_enter Tryz.func8,Tryz.ntmps8;go_wp2_with fail;rw[HW1.out];go_wp2_with fail;refine HO.out.mono ?_;rintro e w2 ⟨hb2,hcase⟩;have HB2:=zH hb2;clear p0 p1 p2 p3 p4 p5 p6 p7 p8 p9 hb2 HO HW1;rcases hcase with ⟨h0,rfl⟩ | ⟨rfl,bw,rfl,hK⟩
 . have e0:(E != 0)=true:=by simpa using h0
   clear HC;go_wp2_with fail
   go_ret2
   exact⟨Lc HB.out HB2.out,.inl ⟨h0,rfl⟩⟩
 obtain⟨G,M,rfl,m1,m2,m3,hl,hn1,hn7,hLL,hc⟩:=HC.out rfl;have HCC:=zH (hc bw);have HM:=zH (And.intro m1 (And.intro m2 m3));have HLL:=zH hLL;have HK:=zH hK;have HSL:=zH hl;have z10:=hK.size;have hlK:=hK.lt;have hcl:=fun (X:Ba) (hX:BAt X X.heap.size AB set)=>clone_kBl AB n kb (set.map Value.bool) X (by rw[LR,hl,NW]) (by rw[<-hl];exact hX.raw) (fun u hu=>by obtain⟨x,_,rfl⟩:=LX.1 hu;rfl) (by omega)
 have HCL:=zH hcl;obtain⟨wa,hwa,da,hsa,hBa⟩:=zn w2 #[.int .i64 (-1)] 3;have HRP:=zH (Qb n w2.heap.size hn1 (by omega) (-1) wa da);have HWA:=zH hwa;have HBa:=zH hBa;have za10:=(HK.out.keep hBa).size;rw[hl];clear HC hc m1 m2 m3 hK hl hLL hcl hwa da hBa;go_wp2_with fail;rw[HWA.out];refine HRP.out.mono ?_;rintro e w3 ⟨g10,rfl,hg3,hr3,hb3⟩;have hg10:w2.heap.size<=g10:=by omega
 have HR3:=zH hr3;have HB3:=zH (HBa.out.trans (hb3.mono (by omega)));have hs23:=HB3.out.size;have HC4:=zH (HCL.out w3 (HBA.out w3 (Lc HB2.out HB3.out)));clear hr3 hb3 HRP HWA HCL HBa za10;go_wp2_with fail;refine HC4.out.mono ?_;rintro e w4 ⟨v4,rfl,ho4,hb4⟩;obtain⟨A4,c4,rfl,_,_,_⟩:=ho4.form;have HBA4:Hid (BAt w4 w4.heap.size A4 (ya n EV set 0)):=by rw[HL0.out];exact BAt.of_own ho4 HSL.out (fun _ _=>rfl) (Le _)
 have HR4:Hid (RowAt w4 g10 (yf n EV set 0)):=by rw[HO0.out];exact Lb hb4 HR3.out.lt HR3.out
 have HB4:=zH (HB3.out.trans (hb4.mono hs23));clear ho4 hb4 HC4 HR3 HB3 HL0 HO0 HBA;obtain⟨LV,hLV⟩:=Ki (ya n EV set);rw[hLV] at HBA4 HLL HST HON HOR HM;go_wp2_with fail
 go_loopw [11,12] (fun o i wr=>∃(k:Nat) (AQ:Bb) (cQ:Nat),k<=M/\i=.int .i64 (k:Int)/\o=.slice AQ n cQ/\Hid (BAt wr wr.heap.size AQ (LV k))/\Hid (RowAt wr g10 (yf n EV set k))/\Hid (Below w2.heap.size w2 wr)) (fun _ i _=>M+1-(intOf i).toNat)
 case atStart=>exact⟨0,A4,c4,by omega,rfl,rfl,HBA4,HR4,HB4⟩
 case round=>
  obtain⟨k,AQ,cQ,hk,rfl,rfl,hba,hro,hbw⟩:=hrel;clear HBA4 HR4 HB4;have hsw:=hbw.out.size;have HC:=zH (HCC.out (LV k) (HLL.out k) AQ cQ wr ((HK.out.keep hbw.out).more hsw) hba.out);go_wp2_with fail;refine HC.out.mono ?_;rintro e w5 ⟨g5,rfl,hg5,hr5,hb5⟩;have HBA5:=zH ((hba.out.keep hb5).more hb5.size);have HO5:Hid (RowAt w5 g10 (yf n EV set k)):=Lb hb5 hro.out.lt hro.out;have HB5:=zH (hbw.out.trans (hb5.mono hsw));have hc6:=uT AQ (some ⟨g5,0,none⟩) cQ n n (by omega) (LV k) (EV (LV k)) (HLL.out k) (HEV.out _) w5 HBA5.out (hr5.at_ hr5.lt);unfold xe at hc6;rw[HST.out,HLL.out] at hc6;have HC6:=zH hc6;clear hr5 hb5 HC hba hro hbw hc6;go_wp2_with fail;refine HC6.out.mono ?_;rintro e w6 ⟨g6,rfl,hg6,hr6,hb6⟩;have HBA6:=zH ((HBA5.out.keep hb6).more hb6.size);have HO6:Hid (RowAt w6 g10 (yf n EV set k)):=Lb hb6 HO5.out.lt HO5.out;have HR6:=zH hr6;have HB6:=zH (Lc HB5.out hb6);have hg6n:g6≠g10:=by have:=HO5.out.lt;omega
  have heq:=gU (some ⟨g6,0,none⟩) AQ n cQ (LV (k+1)) (LV k) w6 w6.heap.size (Le _) (hr6.at_ hr6.lt) HBA6.out (by rw[HLL.out];omega) (by rw[HLL.out];omega);rw[HLL.out,HLL.out] at heq;have HEQ:=zH heq;clear hr6 hb6 HC6 HBA5 HO5 HB5 heq;go_wp2_with fail;refine HEQ.out.mono ?_;rintro e w7 ⟨rfl,q,rfl⟩;have HB7:=zH (HB6.out.trans (zT (Lo _ _) q));have HBA7:Hid (BAt (w6.drewN q) (w6.drewN q).heap.size AQ (LV k)):=HBA6.out.keep (zT (Lo _ _) q);have HR7:Hid (BRow (w6.drewN q) g6 (LV (k+1))):=HR6.out;have HO7:Hid (RowAt (w6.drewN q) g10 (yf n EV set k)):=HO6.out;clear HB6 HBA6 HR6 HO6 HEQ;obtain⟨wN,hwN⟩:=Ki (w6.drewN q);rw[hwN] at HB7 HBA7 HR7 HO7 ⊢;clear hwN;obtain⟨w6,rfl⟩:∃x,x=wN:=⟨_,rfl⟩;have HBA6:=HBA7;have HO6:=HO7;have HR6:=HR7;have HB6:=HB7;clear HBA7 HO7 HR7 HB7;obtain⟨bq,oq,rfl,hbq,zq⟩:=HBA6.out.at_ 0 (by rw[HLL.out];omega);have HNE:=zH (row_ne HO6.out zq);have z10:=((HK.out.keep HB6.out)).size;have hs26:=HB6.out.size;clear zq
  by_cases hst:LV (k+1)=LV k
  · have hkM : k = M := by
     refine NB fun hne=>?_
     exact HM.out.2.2 k (by omega) hst
    subst hkM;have e0:decide (LV (k+1)=LV k)=true:=Lk hst;rw[e0];obtain⟨nw,hnwE⟩:=Ki (jb n EV set k);have HNL:Hid (nw.length=n):=by rw[<-hnwE];exact HORL.out k
    have HNW:Hid (∀j,j<n->nw.getD j 0=if (LV k).getD j false then (n:Int) else (yf n EV set k).getD j 0):=fun j h=>by
     subst hnwE;exact HOR.out k j h
    have HNWE:=zH hnwE;clear hst e0 hnwE HON HORL HST HCC;go_wp2_with fail;obtain⟨wL,rfl⟩:∃x,x=w6:=⟨_,rfl⟩
    go_loopw [53] (fun i wr=>∃j:Nat,j<=n/\i=.int .i64 (j:Int)/\Hid (RowAt wr g10 (ku nw (yf n EV set k) j))/\Hid (∀z,z≠g10->wr.heap[z]?=wL.heap[z]?)/\Hid (Below w2.heap.size wL wr)/\wL.heap.size<=wr.heap.size) (fun i _=>n-(intOf i).toNat)
    case atStart=>exact⟨0,by omega,rfl,by rw[jU];exact HO6,fun _ _=>rfl,Lo _ _,Le _⟩
    case round=>
     obtain⟨j,hj,rfl,hrow,hoth,hbj,hsj⟩:=hrel;clear HO6
     by_cases hlt:j<n
     . obtain⟨b1,o1,e1,hb1,z0⟩:=HBA6.out.at_ j (by rw[HLL.out];exact hlt)
       cases e1
       have z0:=(LA (hoth.out _ HNE.out)).trans z0;have hnw:=HNW.out j hlt;have hkb:j<(yf n EV set k).length:=by rw[HOL.out];exact hlt
       have hab:nw.length=(yf n EV set k).length:=by rw[HNL.out,HOL.out]
       rw[yL (by rw[hab];exact hkb),zt (by rw[HLL.out];exact hlt),yL hkb] at hnw;have hml:=kM hab j;have y0:=hrow.out.cell j (by rw[hml];exact hkb);have f0:=hrow.out.froz j;have hlr:=hrow.out.lt;rw[ue hab hkb] at y0;have hj0:(0:Int)<=(j:Int):=by omega
       have hj1:(j:Int)<(n:Int):=by omega
       obtain⟨x,hx⟩:=Ki ((LV k)[j]'(by rw[HLL.out];exact hlt));rw[hx] at z0 hnw;obtain⟨ol,hol⟩:=Ki ((yf n EV set k)[j]'hkb);rw[hol] at hnw y0
       cases x with
       | true=>
        rw[Lh rfl] at hnw;have hset:=hrow.out.set j (n:Int);rw[<-hnw,jw hab hkb,hnw] at hset;have HROW:=zH hset;have HOTH:Hid (∀z,z≠g10->(wr.setCell ⟨g10,j,none⟩ (.int .i64 (n:Int))).heap[z]?=wL.heap[z]?):=fun z hz=>(Lf wr ⟨g10,j,none⟩ _ z hz).trans (hoth.out z hz)
        have HBJ:=zH (hbj.out.setCell (p:=⟨g10,j,none⟩) (by show w2.heap.size<=g10;exact hg10) (.int .i64 (n:Int)));have HSJ:wL.heap.size<=(wr.setCell ⟨g10,j,none⟩ (.int .i64 (n:Int))).heap.size:=by simpa[World.setCell] using hsj
        clear hset hnw hrow hoth hbj hsj hml hab hkb hx hol;go_wp2_with fail
        go_roundw
        case rel=>exact⟨j+1,by omega,by go_num,HROW,HOTH,HBJ,HSJ⟩
        case measure=>simp[intOf];omega
       | false=>
        rw[Lg (by simp)] at hnw;have HROW:Hid (RowAt wr g10 (ku nw (yf n EV set k) (j+1))):=by rw[<-uM hab hkb (by rw[hnw,hol])];exact hrow
        clear hnw hrow hml hab hkb hx hol;go_wp2_with fail
        go_roundw
        case rel=>exact⟨j+1,by omega,by go_num,HROW,hoth,hbj,hsj⟩
        case measure=>simp[intOf];omega
     . obtain rfl:n=j:=by omega
       have HROW:Hid (RowAt wr g10 nw):=by have h:=hrow.out;rwa[uf (by rw[HNL.out,HOL.out]) (by rw[HOL.out])] at h
       clear hrow;have HBE:=zH (HB.out.trans ((HB2.out.trans ((HB6.out.trans hbj.out).mono HB2.out.size)).mono HB.out.size));have hgw:w.heap.size<=g10:=by have:=HB.out.size;have:=HB2.out.size;omega
       have HROW2:Hid (RowAt wr g10 (jb n EV set k)):=by rw[HNWE.out];exact HROW
       clear hoth hbj HROW HNW;go_wp2_with fail
       go_ret2
       exact⟨HBE.out,k,g10,rfl,HM.out.2.1,HM.out.2.2,hgw,HROW2.out⟩
  · have hkM : k < M := by
     refine NB fun hne=>?_
     have:k=M:=by omega
     subst this;exact hst HM.out.2.1
    have e0:decide (LV (k+1)=LV k)=false:=Li hst;rw[e0];obtain⟨mv,hmv⟩:∃mv:Int,(k:Int)=mv:=⟨_,rfl⟩;obtain⟨nw,hnwE⟩:=Ki (yf n EV set (k+1));have HNL:Hid (nw.length=n):=by rw[<-hnwE];exact HOL.out (k+1)
    have HNW:Hid (∀j,j<n->nw.getD j 0=if (LV k).getD j false then mv else (yf n EV set k).getD j 0):=fun j h=>by
     subst hnwE;rw[<-hmv];exact HON.out k j h
    have HNWE:=zH hnwE;have HMV:=zH hmv;clear hst e0 hnwE HON HORL HOR HST HCC;rw[hmv];clear hmv;go_wp2_with fail;obtain⟨wL,rfl⟩:∃x,x=w6:=⟨_,rfl⟩
    go_loopw [53] (fun i wr=>∃j:Nat,j<=n/\i=.int .i64 (j:Int)/\Hid (RowAt wr g10 (ku nw (yf n EV set k) j))/\Hid (∀z,z≠g10->wr.heap[z]?=wL.heap[z]?)/\Hid (Below w2.heap.size wL wr)/\wL.heap.size<=wr.heap.size) (fun i _=>n-(intOf i).toNat)
    case atStart=>exact⟨0,by omega,rfl,by rw[jU];exact HO6,fun _ _=>rfl,Lo _ _,Le _⟩
    case round=>
     obtain⟨j,hj,rfl,hrow,hoth,hbj,hsj⟩:=hrel;clear HO6
     by_cases hlt:j<n
     . obtain⟨b1,o1,e1,hb1,z0⟩:=HBA6.out.at_ j (by rw[HLL.out];exact hlt)
       cases e1
       have z0:=(LA (hoth.out _ HNE.out)).trans z0;have hnw:=HNW.out j hlt;have hkb:j<(yf n EV set k).length:=by rw[HOL.out];exact hlt
       have hab:nw.length=(yf n EV set k).length:=by rw[HNL.out,HOL.out]
       rw[yL (by rw[hab];exact hkb),zt (by rw[HLL.out];exact hlt),yL hkb] at hnw;have hml:=kM hab j;have y0:=hrow.out.cell j (by rw[hml];exact hkb);have f0:=hrow.out.froz j;have hlr:=hrow.out.lt;rw[ue hab hkb] at y0;have hj0:(0:Int)<=(j:Int):=by omega
       have hj1:(j:Int)<(n:Int):=by omega
       obtain⟨x,hx⟩:=Ki ((LV k)[j]'(by rw[HLL.out];exact hlt));rw[hx] at z0 hnw;obtain⟨ol,hol⟩:=Ki ((yf n EV set k)[j]'hkb);rw[hol] at hnw y0
       cases x with
       | true=>
        rw[Lh rfl] at hnw;have hset:=hrow.out.set j mv;rw[<-hnw,jw hab hkb,hnw] at hset;have HROW:=zH hset;have HOTH:Hid (∀z,z≠g10->(wr.setCell ⟨g10,j,none⟩ (.int .i64 mv)).heap[z]?=wL.heap[z]?):=fun z hz=>(Lf wr ⟨g10,j,none⟩ _ z hz).trans (hoth.out z hz)
        have HBJ:=zH (hbj.out.setCell (p:=⟨g10,j,none⟩) (by show w2.heap.size<=g10;exact hg10) (.int .i64 mv));have HSJ:wL.heap.size<=(wr.setCell ⟨g10,j,none⟩ (.int .i64 mv)).heap.size:=by simpa[World.setCell] using hsj
        clear hset hnw hrow hoth hbj hsj hml hab hkb hx hol;go_wp2_with fail
        go_roundw
        case rel=>exact⟨j+1,by omega,by go_num,HROW,HOTH,HBJ,HSJ⟩
        case measure=>simp[intOf];omega
       | false=>
        rw[Lg (by simp)] at hnw;have HROW:Hid (RowAt wr g10 (ku nw (yf n EV set k) (j+1))):=by rw[<-uM hab hkb (by rw[hnw,hol])];exact hrow
        clear hnw hrow hml hab hkb hx hol;go_wp2_with fail
        go_roundw
        case rel=>exact⟨j+1,by omega,by go_num,HROW,hoth,hbj,hsj⟩
        case measure=>simp[intOf];omega
     . obtain rfl:n=j:=by omega
       have HROW:Hid (RowAt wr g10 nw):=by have h:=hrow.out;rwa[uf (by rw[HNL.out,HOL.out]) (by rw[HOL.out])] at h
       clear hrow;have HR9:Hid (BRow wr g6 (LV (k+1))):=(hoth.out g6 hg6n).trans HR6.out;have HBA9:Hid (BAt wr wr.heap.size (some ⟨g6,0,none⟩) (LV (k+1))):=HR9.out.at_ HR9.out.lt;have HRO9:Hid (RowAt wr g10 (yf n EV set (k+1))):=by rw[HNWE.out];exact HROW
       have HB9:=zH (HB6.out.trans hbj.out);have hmv:=HMV.out;have hmn:=HM.out.1;have hwk:IntKind.i64.wrap ((k:Int)+1)=(k:Int)+1:=by rw[Lp];omega
       subst hmv;clear hoth hbj HROW HNW HR6;go_wp2_with fail
       go_roundw
       case rel=>exact⟨k+1,_,_,by omega,by go_num,rfl,HBA9,HRO9,HB9⟩
       case measure=>simp[intOf];omega
end
end Go.Proofs.YtohjmddnennajaaGreatDoor
