/- Merged. -/
import Derived.Test.YtjjcgpfljidbhaaGreatYc
import Derived.Laws.Pointers
import Derived.Laws.CopyOwn
import Derived.Deep.RegionLaw
import Derived.IntWalk
import Derived.Maps.RangeWalk
import Derived.Deep.LoopGhost
import Derived.Laws.EntriesVeiled
open Go.Proofs.Tryz
open Go.Value renaming int->O,slice->I,agg->Ai,pointer->Aj
open Go.IntKind renaming i64->U
open Option renaming none->Z,some->J
open Go.Obj renaming cells->Ag
open Go.Ending renaming returned->Ak
open Go.Proofs.Tryz renaming prog->Al,func169->Rv
open Go.RowKit renaming Below->Am,intOf->Ao,Hid->Ap
open Go renaming Calls->An,Value->Aq
open Bool renaming true->Ar,false->As
open Nat renaming sub_zero->N9
namespace Go.Proofs.YtjjcgpfljidbhaaGreat
abbrev Np:=@Option.getD_some
abbrev Ph:=@List.getElem?_replicate
abbrev LW:=@List.length_replicate
abbrev Pr:=@List.ext_getElem
abbrev P1:=@Nat.le_mul_of_pos_right
set_option maxRecDepth 100000
set_option maxHeartbeats 4000000
section
open Go.RowKit
attribute [local go_sem] Oper.semAt_some
structure Wrote(R:Nat->Prop)(w w':Ba):Prop where
 os:w'.os=w.os
 tape:w'.tape=w.tape
 output:w'.output=w.output
 size:w.heap.size<=w'.heap.size
 block:∀k,k<w.heap.size->¬R k->w'.heap[k]?=w.heap[k]?
theorem Wrote.refl(R:Nat->Prop)(w:Ba):Wrote R w w:=⟨rfl,rfl,rfl,Lh _,fun _ _ _=>rfl⟩
theorem Wrote.trans{R R':Nat->Prop}{a b c:Ba}(h:Wrote R a b)(k:Wrote R' b c)(hr:∀k,k<a.heap.size->R' k->R k):Wrote R a c:=
 ⟨k.os.trans h.os,k.tape.trans h.tape,k.output.trans h.output,LE h.size k.size,fun i hi hn=>(k.block i (Lx hi h.size) (fun h'=>hn (hr i hi h'))).trans (h.block i hi hn)⟩
theorem Wrote.of_below{R:Nat->Prop}{a b:Ba}(h:Am a.heap.size a b):Wrote R a b:=⟨h.os,h.tape,h.output,h.size,fun k hk _=>h.block k hk⟩
theorem Wrote.of_grown{R:Nat->Prop}{a b:Ba}{row:Option Nat}(h:a.grownBy b row)(hr:∀k,row=J k->k<a.heap.size->R k):Wrote R a b:=⟨h.os,h.tape,h.output,h.size,fun k hk hn=>h.block k hk (fun e=>hn (hr k e.symm hk))⟩
theorem Wrote.below{R:Nat->Prop}{a b:Ba}{B:Nat}(h:Wrote R a b)(hB:B<=a.heap.size)(hr:∀k,k<B->¬R k):Am B a b:=⟨h.os,h.tape,h.output,h.size,fun k hk=>h.block k (by omega) (hr k hk)⟩
theorem Wrote.keep{R S:Nat->Prop}{a b:Ba}(h:Wrote R a b)(hr:∀k,k<a.heap.size->S k->¬R k):KeepB S a b:=⟨h.size,fun k hs hk=>h.block k hk (hr k hk hs)⟩
theorem Wrote.more{R R':Nat->Prop}{a b:Ba}(h:Wrote R a b)(hr:∀k,k<a.heap.size->R k->R' k):Wrote R' a b:=⟨h.os,h.tape,h.output,h.size,fun k hk hn=>h.block k hk (fun h'=>hn (hr k hk h'))⟩
def jY(vs:List Vw):Vw->Option Aq:=fun v=>if v∈vs then J (O U (qr vs v)) else Z
theorem numF_nil:jY []=fun _=>Z:=by funext v;simp[jY]
theorem numF_put{vs:List Vw}{v:Vw}(h:v∉vs):qB (jY vs) v (O U vs.length)=jY (vs++[v]):=by
 funext x
 unfold qB jY
 by_cases e:x=v
 . subst e
   rw[Lo rfl,Lo (by simp)]
   congr 2
   exact(Y3 (k:=vs.length) (by simp) (by simp) (by rw[List.take_left];exact h)).symm
 rw[Li e]
 by_cases hx:x∈vs
 . rw[Lo hx,Lo (by simp[hx])]
   congr 2
   unfold qr;rw[Lo hx,Lo (by simp[hx]),NY,Lo hx]
 rw[Li hx,Li (by simp[hx,e])]
structure BdIn(B bB bM:Nat)(n:Int)(V:Aq)(vs:List Vw)(w:Ba):Prop where
 hB:w.heap[bB]?=J (Ag #[O U n,V,.map (J bM)] 116 (0,0))
 num:∃m,MapOf (fun v:Vw=>.agg v.cells) w bM m (jY vs)
 own:OwnV w B V vs
 ne:∀k,V.ownBlock=J k->k≠bB/\k≠bM
 bm:bB≠bM
 lo:B<=bB/\B<=bM
def Bk(bB bM:Nat)(V:Aq)(k:Nat):Prop:=k=bB\/k=bM\/V.ownBlock=J k
def BdOn(bB bM:Nat)(V:Aq)(w:Ba)(V':Aq)(w':Ba):Prop:=Wrote (Bk bB bM V) w w'/\∀k,V'.ownBlock=J k->V.ownBlock=J k\/w.heap.size<=k
theorem BdOn.refl(bB bM:Nat)(V:Aq)(w:Ba):BdOn bB bM V w V w:=⟨Wrote.refl _ _,fun _ h=>.inl h⟩
theorem BdOn.trans{bB bM:Nat}{V V1 V2:Aq}{w w1 w2:Ba}(h:BdOn bB bM V w V1 w1)(k:BdOn bB bM V1 w1 V2 w2):BdOn bB bM V w V2 w2:=by
 refine⟨h.1.trans k.1 fun j hj hr=>?_,fun j hj=>?_⟩
 . rcases hr with e | e | e
   . exact .inl e
   . exact .inr (.inl e)
   rcases h.2 j e with e | e
   . exact .inr (.inr e)
   omega
 rcases k.2 j hj with e | e
 . exact h.2 j e
 exact .inr (LE h.1.size e)
theorem BdOn.after{bB bM:Nat}{V V1:Aq}{w w1 w2:Ba}(h:BdOn bB bM V w V1 w1)(k:Am w1.heap.size w1 w2):BdOn bB bM V w V1 w2:=⟨h.1.trans (Wrote.of_below (R:=fun _=>False) k) (fun _ _ h=>h.elim),h.2⟩
theorem BdIn.on{B bB bM:Nat}{n:Int}{V:Aq}{vs:List Vw}{w w':Ba}(h:BdIn B bB bM n V vs w)(hb:Am w.heap.size w w'):BdIn B bB bM n V vs w':=by
 obtain⟨m,hm⟩:=h.num;exact⟨La hb h.hB,⟨m,hm.same (hb.block _ hm.lt)⟩,h.own.below hb (Lh _),h.ne,h.bm,h.lo⟩
theorem BdIn.push{B bB bM m:Nat}{n:Int}{A:Bb}{cap:Nat}{vs:List Vw}{v:Vw}{w w2 W w4:Ba}{g' cap':Nat}(H:BdIn B bB bM n (I A vs.length cap) vs w)(lq:w.grownBy w2 (J bM))
  (fT:MapOf (fun v:Vw=>.agg v.cells) w2 bM m (jY (vs++[v]))) (hW:Am w2.heap.size w2 W)
  (hr:OwnR kVw w4 B (I (J ⟨g',0,Z⟩) (vs.length+1) cap') (vs.length+1) (yp vs++v.cells.toList)) (hg:W.grownBy w4 (I A vs.length cap).ownBlock)
  (bK:(I A vs.length cap).ownBlock=J g'\/g'=W.heap.size) :
  BdIn B bB bM n (I (J ⟨g',0,Z⟩) (vs.length+1) cap') (vs++[v]) (w4.setCell ⟨bB,1,Z⟩ (I (J ⟨g',0,Z⟩) (vs.length+1) cap')) /\
   BdOn bB bM (I A vs.length cap) w (I (J ⟨g',0,Z⟩) (vs.length+1) cap') (w4.setCell ⟨bB,1,Z⟩ (I (J ⟨g',0,Z⟩) (vs.length+1) cap')):=by
 have oQ:=zc H.hB;obtain⟨m0,iY⟩:=H.num;have RW:=iY.lt;have ef:=lq.size;have Gx:=hW.size;have cz:=H.own.lt;have af:=(lq.block bB oQ (fun e=>by cases e;exact H.bm rfl)).trans H.hB;have bq:=(hg.block bB (by omega) (fun e=>(H.ne bB e.symm).1 rfl)).trans ((hW.block bB (by omega)).trans af);have GB:=((fT.same (hW.block bM (by omega))).same (hg.block bM (by omega) (fun e=>(H.ne bM e.symm).2 rfl)));have dx:=hr.lt g' rfl
 have aO:g'≠bB/\g'≠bM:=by
  rcases bK with e | e
  . exact H.ne g' e
  exact⟨by omega,by omega⟩
 refine⟨⟨?_,⟨m,GB.same (Lg w4 _ _ bM (fun e=>H.bm e.symm))⟩,?_,?_,H.bm,H.lo⟩,?_,?_⟩
 . rw[Lk w4 bB 1 _ _ _ bq];rfl
 . have h5:OwnR kVw (w4.setCell ⟨bB,1,Z⟩ (I (J ⟨g',0,Z⟩) (vs.length+1) cap')) B (I (J ⟨g',0,Z⟩) (vs.length+1) cap') (vs.length+1) (yp vs++v.cells.toList):=hr.kept (zR w4 bB 1 _) (.inr (fun e=>aO.1 (by simpa[Value.ownBlock] using e)))
   unfold OwnV;rw[Lu,jl,show yp [v]=v.cells.toList by simp[yp]];exact h5
 . intro k hk
   have:g'=k:=by simpa[Value.ownBlock] using hk
   subst this;exact aO
 . have h1:Wrote (Bk bB bM (I A vs.length cap)) w w2:=Wrote.of_grown lq (fun k hk _=>by cases hk;exact .inr (.inl rfl))
   have h2:Wrote (Bk bB bM (I A vs.length cap)) w2 W:=Wrote.of_below hW;have h3:Wrote (Bk bB bM (I A vs.length cap)) W w4:=Wrote.of_grown hg (fun k hk _=>.inr (.inr hk));have h4:Wrote (Bk bB bM (I A vs.length cap)) w4 (w4.setCell ⟨bB,1,Z⟩ (I (J ⟨g',0,Z⟩) (vs.length+1) cap')):=Wrote.of_grown (zR w4 bB 1 _) (fun k hk _=>by cases hk;exact .inl rfl);exact((h1.trans h2 (fun _ _ h=>h)).trans h3 (fun _ _ h=>h)).trans h4 (fun _ _ h=>h)
 intro k hk;have:g'=k:=by simpa[Value.ownBlock] using hk
 subst this;rcases bK with e | e
 . exact .inl e
 exact .inr (by omega)
theorem Xo(B bB bM:Nat)(n:Int)(V:Aq)(vs:List Vw)(v:Vw)(hl:vs.length<=50000)(w:Ba)(H:BdIn B bB bM n V vs w) :
  An Al 86 #[Aj (J ⟨bB,0,Z⟩),.agg v.cells] w fun e w'=>e=Ak (O U (xn vs v).2)/\∃V',BdIn B bB bM n V' (xn vs v).1 w'/\BdOn bB bM V w V' w':=by
 obtain⟨A,cap,rfl⟩:=H.own.lit;obtain⟨w1,ac,d0,df,aG⟩:=zh w v.cells 144;have H1:=H.on aG;have HI:=zH H1;have ah:=zH ac;have dk:=zH aG;have bD:=zH d0;have HV:=zH (show jY vs v=if v∈vs then J (O U (qr vs v)) else Z from rfl);have oQ:=zc H.hB;have eJ:=zH (fun (k:Nat) (e:(I A vs.length cap).ownBlock=J k)=>(H.own.lt k e).2);have Wm:bM<w.heap.size:=by obtain⟨_,hm⟩:=H.num;exact hm.lt
 have b0:=H1.hB;obtain⟨m,hm⟩:=H1.num;have HM:=zH hm;have hz:∀W:Ba,(zeroValue 3).run Al W=.ok (O U 0) W:=fun W=>by kernel_rfl
 have ht:Al.underlying 114=J (.map 144 3):=underlying114;have Bd:bB≠w.heap.size:=by omega
 clear ac H1 H;go_enter func86,ntmps86;unfold Vw.cells at ah ⊢;go_wp2_with fail;rw[ah.out]
 by_cases hv:v∈vs
 case pos=>
  have hf:jY vs v=J (O U (qr vs v)):=Lo hv;have rQ:=YG hv;have NQ:=zH rQ;have HF:=zH hf;have hid:=Y1 hv;clear rQ hf hv HV;refine zk [(0,Ar),(1,Ar),(2,Ar),(3,Ar),(4,Ar),(5,Ar),(6,Ar),(7,Ar),(8,Ar),(9,Ar),(10,Ar)] (fun W=>W.heap[bB]?=J (Ag #[O U n,I A vs.length cap,.map (J bM)] 116 (0,0))/\MapOf (fun v:Vw=>.agg v.cells) W bM m (jY vs)/\W.heap[w.heap.size]?=J (Ag v.cells 144 (0,0))) (by kernel_rfl) (by kernel_rfl) ⟨b0,hm,d0⟩ ?_
  repeat
   apply zy rfl
   . rintro K' ae W ⟨y0,y1,y2⟩
     have g0:W.cell? ⟨w.heap.size,0,Z⟩=J (O U v.p):=za y2 0 rfl;have g1:W.cell? ⟨w.heap.size,1,Z⟩=J (O U v.r):=za y2 1 rfl;have g2:W.cell? ⟨w.heap.size,2,Z⟩=J (O U v.i):=za y2 2 rfl;have g3:W.cell? ⟨w.heap.size,3,Z⟩=J (O U v.h0):=za y2 3 rfl;have g4:W.cell? ⟨w.heap.size,4,Z⟩=J (O U v.h1):=za y2 4 rfl;have g5:W.cell? ⟨w.heap.size,5,Z⟩=J (O U v.h2):=za y2 5 rfl;have g6:W.cell? ⟨w.heap.size,6,Z⟩=J (O U v.h3):=za y2 6 rfl;have g7:W.cell? ⟨w.heap.size,7,Z⟩=J (O U v.h4):=za y2 7 rfl;have b0:W.cell? ⟨bB,0,Z⟩=J (O U n):=za y0 0 rfl;have b1:W.cell? ⟨bB,1,Z⟩=J (I A vs.length cap):=za y0 1 rfl;have b2:W.cell? ⟨bB,2,Z⟩=J (.map (J bM)):=za y0 2 rfl;have ep:=y1.look2 uF ht (hz W) v;rw[HF.out] at ep;simp only[Option.getD_some,Option.isSome_some,Vw.cells] at ep;clear y0 y1 y2;go_simp;exact ae
  refine zE ?_;clear b0 hm d0;go_wp2_with fail;go_ret;rw[NQ.out];exact⟨rfl,_,HI.out.on (Ll _ _).drew,(BdOn.refl bB bM _ w).after (dk.out.drew)⟩
 have hf:jY vs v=Z:=Li hv;have rQ:=QR hv;have NQ:=zH rQ;have HF:=zH hf;have HVN:Ap (v∉vs):=hv;clear rQ hf hv HV;refine zk [(0,Ar),(1,Ar),(2,Ar),(3,Ar),(4,Ar),(5,Ar),(6,Ar),(7,Ar),(8,Ar),(9,Ar),(10,Ar)] (fun W=>W.heap[bB]?=J (Ag #[O U n,I A vs.length cap,.map (J bM)] 116 (0,0))/\MapOf (fun v:Vw=>.agg v.cells) W bM m (jY vs)/\W.heap[w.heap.size]?=J (Ag v.cells 144 (0,0))) (by kernel_rfl) (by kernel_rfl) ⟨b0,hm,d0⟩ ?_
 repeat
  apply zy rfl
  . rintro K' ae W ⟨y0,y1,y2⟩
    have g0:W.cell? ⟨w.heap.size,0,Z⟩=J (O U v.p):=za y2 0 rfl;have g1:W.cell? ⟨w.heap.size,1,Z⟩=J (O U v.r):=za y2 1 rfl;have g2:W.cell? ⟨w.heap.size,2,Z⟩=J (O U v.i):=za y2 2 rfl;have g3:W.cell? ⟨w.heap.size,3,Z⟩=J (O U v.h0):=za y2 3 rfl;have g4:W.cell? ⟨w.heap.size,4,Z⟩=J (O U v.h1):=za y2 4 rfl;have g5:W.cell? ⟨w.heap.size,5,Z⟩=J (O U v.h2):=za y2 5 rfl;have g6:W.cell? ⟨w.heap.size,6,Z⟩=J (O U v.h3):=za y2 6 rfl;have g7:W.cell? ⟨w.heap.size,7,Z⟩=J (O U v.h4):=za y2 7 rfl;have b0:W.cell? ⟨bB,0,Z⟩=J (O U n):=za y0 0 rfl;have b1:W.cell? ⟨bB,1,Z⟩=J (I A vs.length cap):=za y0 1 rfl;have b2:W.cell? ⟨bB,2,Z⟩=J (.map (J bM)):=za y0 2 rfl;have ep:=y1.look2 uF ht (hz W) v;rw[HF.out] at ep;simp only[Option.getD_none,Option.isSome_none,Vw.cells] at ep;clear y0 y1 y2;go_simp;exact ae
 refine zE ?_;clear hm;have b1:w1.cell? ⟨bB,1,Z⟩=J (I A vs.length cap):=za HI.out.hB 1 rfl;go_wp2_with fail;obtain⟨w2,dP,fT,na⟩:=MapOf.put (w:=w1.drew.drew) (P:=Al) (show MapOf (fun v:Vw=>.agg v.cells) w1.drew.drew bM m (jY vs) from HM.out) uF ht v (O U vs.length);rw[numF_put HVN.out] at fT;have sy:=zH fT;have sE:Ap (w1.grownBy w2 (J bM)):=⟨na.os,na.tape,na.output,na.size,na.block⟩;have RW:=HM.out.lt;have Wn:=HI.out.bm;have KZ:w.heap.size≠bM:=by omega
 simp only[Vw.cells] at dP;have d2:=(sE.out.block _ (zc bD.out) (fun e=>by cases e;exact KZ rfl)).trans bD.out;have b2:=(sE.out.block _ (zc HI.out.hB) (fun e=>by cases e;exact Wn rfl)).trans HI.out.hB;clear fT na;refine zk [(0,Ar),(1,Ar),(2,Ar),(3,Ar),(4,Ar),(5,Ar),(6,As)] (fun W=>W.heap[bB]?=J (Ag #[O U n,I A vs.length cap,.map (J bM)] 116 (0,0))/\W.heap[w.heap.size]?=J (Ag v.cells 144 (0,0))) (by kernel_rfl) (by kernel_rfl) ⟨HI.out.hB,d0⟩ ?_;clear b0 b1 d0
 repeat
  apply zy rfl
  . rintro K' ae W ⟨y0,y2⟩
    have g0:W.cell? ⟨w.heap.size,0,Z⟩=J (O U v.p):=za y2 0 rfl;have g1:W.cell? ⟨w.heap.size,1,Z⟩=J (O U v.r):=za y2 1 rfl;have g2:W.cell? ⟨w.heap.size,2,Z⟩=J (O U v.i):=za y2 2 rfl;have g3:W.cell? ⟨w.heap.size,3,Z⟩=J (O U v.h0):=za y2 3 rfl;have g4:W.cell? ⟨w.heap.size,4,Z⟩=J (O U v.h1):=za y2 4 rfl;have g5:W.cell? ⟨w.heap.size,5,Z⟩=J (O U v.h2):=za y2 5 rfl;have g6:W.cell? ⟨w.heap.size,6,Z⟩=J (O U v.h3):=za y2 6 rfl;have g7:W.cell? ⟨w.heap.size,7,Z⟩=J (O U v.h4):=za y2 7 rfl;have b2:W.cell? ⟨bB,2,Z⟩=J (.map (J bM)):=za y0 2 rfl;clear y0 y2;go_simp;exact ae
 refine zt rfl ?_;intro K' ae;go_simp;refine ae _ _ ⟨b2,d2⟩ ?_;refine zE ?_;clear ae K' dP;go_wp2_with fail;have ef:=sE.out.size;have E2:bB<w2.heap.size:=by omega
 have pz:=zH d2;have bE:=zH b2;refine zk [(0,Ar),(1,Ar),(2,Ar),(3,Ar),(4,Ar),(5,Ar),(6,As),(7,As),(8,As),(9,As),(10,As)] (fun W=>W.heap[bB]?=J (Ag #[O U n,I A vs.length cap,.map (J bM)] 116 (0,0))/\W.heap[w.heap.size]?=J (Ag v.cells 144 (0,0))) (by kernel_rfl) (by kernel_rfl) ⟨b2,d2⟩ ?_;clear b2 d2
 repeat
  apply zy rfl
  . rintro K' ae W ⟨y0,y2⟩
    have g0:W.cell? ⟨w.heap.size,0,Z⟩=J (O U v.p):=za y2 0 rfl;have g1:W.cell? ⟨w.heap.size,1,Z⟩=J (O U v.r):=za y2 1 rfl;have g2:W.cell? ⟨w.heap.size,2,Z⟩=J (O U v.i):=za y2 2 rfl;have g3:W.cell? ⟨w.heap.size,3,Z⟩=J (O U v.h0):=za y2 3 rfl;have g4:W.cell? ⟨w.heap.size,4,Z⟩=J (O U v.h1):=za y2 4 rfl;have g5:W.cell? ⟨w.heap.size,5,Z⟩=J (O U v.h2):=za y2 5 rfl;have g6:W.cell? ⟨w.heap.size,6,Z⟩=J (O U v.h3):=za y2 6 rfl;have g7:W.cell? ⟨w.heap.size,7,Z⟩=J (O U v.h4):=za y2 7 rfl;have b1:W.cell? ⟨bB,1,Z⟩=J (I A vs.length cap):=za y0 1 rfl;clear y0 y2;go_simp;exact ae
 refine zt rfl ?_;intro K' ae;go_simp;obtain⟨W3,dE,e3,ij,cW⟩:=QT w2 v.cells 144;simp only[Vw.cells] at dE;rw[dE];clear dE;refine ae _ _ ⟨Lb cW E2 bE.out,Lb cW (by omega) pz.out⟩ ?_;clear ae K';refine zt rfl ?_;intro K' ae;rw[Lo (by rfl)]
 have GV:OwnR kVw W3 B (I A vs.length cap) vs.length (yp vs):=by
  have h0:OwnR kVw w1 B (I A vs.length cap) vs.length (yp vs):=HI.out.own;refine(h0.kept sE.out ?_).below cW (Lh _);rcases hA:(I A vs.length cap).ownBlock with _ | k
  . exact .inl rfl
  exact .inr fun e=>(HI.out.ne k hA).2 (by simpa using e)
 have cz:=HI.out.lo;refine jP kVw_ok (.tmp 33) (.tmp 35) (by rfl) B (I A vs.length cap) vs.length (yp vs) (by rfl) GV w2.heap.size v.cells (by rfl) e3 rfl (vJ v) (by omega) (by omega) _ rfl ?_;intro g' cap' w4 hr hg bK aa;have HP:=zH (BdIn.push HI.out sE.out sy.out cW hr hg bK);have z0:=(hg.block bB (by omega) (fun e=>(HI.out.ne bB e.symm).1 rfl)).trans (Lb cW E2 bE.out);have z1:=(hg.block w.heap.size (by omega) (fun e=>by have:=eJ.out _ e.symm;omega)).trans (Lb cW (by omega) pz.out);refine ae _ _ ⟨z0,z1⟩ ?_;clear ae K' hr hg bK GV e3 cW;refine zt rfl ?_;intro K' ae;go_simp;refine ae _ _ ⟨z0,z1⟩ ?_;clear ae K';refine zt rfl ?_;intro K' ae;go_simp;refine ae _ _ ⟨z0,z1⟩ ?_;clear ae K';have b1:w4.cell? ⟨bB,1,Z⟩=J (I A vs.length cap):=za z0 1 rfl;have f1:=zb z0 1;clear z0 z1;refine yN rfl (by kernel_rfl) ?_;intro K' ae;go_simp;refine ae (fun _=>True) _ _ trivial ?_;refine zE ?_;clear ae K' b1 f1;go_wp2_with fail;go_ret;rw[NQ.out];exact⟨rfl,_,HP.out.1,(BdOn.refl bB bM _ w).after dk.out |>.trans HP.out.2⟩
def wF(k:Nat):Array Aq:=#[O U (if 0<k then -1 else 0),O U (if 1<k then -1 else 0),O U (if 2<k then -1 else 0),O U (if 3<k then -1 else 0),O U (if 4<k then -1 else 0)]
theorem JQ(k:Nat)(hk:k<5):(wF k).setIfInBounds k (O U (-1))=wF (k+1):=by
 match k,hk with
 | 0,_=>rfl
 | 1,_=>rfl
 | 2,_=>rfl
 | 3,_=>rfl
 | 4,_=>rfl
theorem minus_at(k:Nat)(hk:k<5):(wF k)[k]?=J (O U 0):=by
 match k,hk with
 | 0,_=>rfl
 | 1,_=>rfl
 | 2,_=>rfl
 | 3,_=>rfl
 | 4,_=>rfl
theorem vV(w:Ba):An Al 87 #[] w fun e w'=>e=Ak (Ai #[O U (-1),O U (-1),O U (-1),O U (-1),O U (-1)])/\Am w.heap.size w w':=by
 obtain⟨w1,ac,d0,d1,aA,hB⟩:=yr w (wF 0) (wF 0) 64 64;have ah:=zH ac;go_enter func87,ntmps87;go_wp2_with fail;rw[show((w.alloc (Ag #[O U 0,O U 0,O U 0,O U 0,O U 0] 64)).alloc (Ag #[O U 0,O U 0,O U 0,O U 0,O U 0] 64))=w1 from ah.out];have H0:=zH d0;have H1:=zH d1;have HB:=zH hB
 go_loopw [3] (fun i wr=>∃k:Nat,k<=5/\i=O U (k:Int)/\Ap (wr.heap[w.heap.size]?=J (Ag (wF 0) 64 (0,0)))/\Ap (wr.heap[w.heap.size+1]?=J (Ag (wF k) 64 (0,0)))/\Ap (Am w.heap.size w wr)) (fun i _=>5-(Ao i).toNat)
 case atStart=>exact⟨0,by omega,rfl,H0.out,H1.out,HB.out⟩
 obtain⟨k,hk,rfl,H0,H1,pB⟩:=hrel
 by_cases mZ:k<5
 case neg=>
  obtain rfl:k=5:=by omega
  have x0:wr.cell? ⟨w.heap.size+1,0,Z⟩=J (O U (-1)):=za H1.out 0 rfl;have x1:wr.cell? ⟨w.heap.size+1,1,Z⟩=J (O U (-1)):=za H1.out 1 rfl;have x2:wr.cell? ⟨w.heap.size+1,2,Z⟩=J (O U (-1)):=za H1.out 2 rfl;have x3:wr.cell? ⟨w.heap.size+1,3,Z⟩=J (O U (-1)):=za H1.out 3 rfl;have x4:wr.cell? ⟨w.heap.size+1,4,Z⟩=J (O U (-1)):=za H1.out 4 rfl;have y0:wr.cell? ⟨w.heap.size,0,Z⟩=J (O U 0):=za H0.out 0 rfl;have y1:wr.cell? ⟨w.heap.size,1,Z⟩=J (O U 0):=za H0.out 1 rfl;have y2:wr.cell? ⟨w.heap.size,2,Z⟩=J (O U 0):=za H0.out 2 rfl;have y3:wr.cell? ⟨w.heap.size,3,Z⟩=J (O U 0):=za H0.out 3 rfl;have y4:wr.cell? ⟨w.heap.size,4,Z⟩=J (O U 0):=za H0.out 4 rfl;have f0:=zb H0.out 0;have f1:=zb H0.out 1;have f2:=zb H0.out 2;have f3:=zb H0.out 3;have f4:=zb H0.out 4;go_wp2_with fail;refine L6 (v:=Ai #[O U (-1),O U (-1),O U (-1),O U (-1),O U (-1)]) (by simp[results,results87,go_sem,y0,y1,y2,y3,y4]) rfl ⟨rfl,?_⟩;exact((((pB.out.setCell (Lh _) _).setCell (Lh _) _).setCell (Lh _) _).setCell (Lh _) _).setCell (Lh _) _
 have x0:=za H1.out k (minus_at k mZ);have f0:=zb H1.out k;have cA:(0:Int)<=(k:Int):=by omega
 have bC:(k:Int)<5:=by omega
 go_wp2_with fail
 go_roundw
 case rel=>exact⟨k+1,by omega,by go_num,(Lg wr _ _ w.heap.size (by show w.heap.size≠w.heap.size+1;omega)).trans H0.out,by show _=_;rw[Lk wr _ k _ _ _ H1.out,JQ k mZ],pB.out.setCell (by show w.heap.size<=w.heap.size+1;omega) _⟩
 simp[Ao];omega
end
section
open Go.RowKit
theorem vz(n:Nat)(h1:1<=n)(h5:n<=8)(W:Ba):(Instr.makeSlice 30 (O U n) (O U n)).run Al W=.ok (I (J ⟨W.heap.size,0,Z⟩) n n) (W.alloc (Ag ((List.replicate n 0).map (O U)).toArray 3)):=by
 obtain rfl | rfl | rfl | rfl | rfl | rfl | rfl | rfl:n=1\/n=2\/n=3\/n=4\/n=5\/n=6\/n=7\/n=8:=by omega
 all_goals kernel_rfl
theorem ka{cur:List Aq}{x:Aq}{k m n:Nat}(hl:cur.length=n)(h:cur.take k=List.replicate k x)(hk:k+m<=n):(splice cur k (List.replicate m x)).take (k+m)=List.replicate (k+m) x/\(splice cur k (List.replicate m x)).length=n:=by
 constructor
 . unfold splice
   rw[h,<-L7,RG (by simp),NB (by simp)];exact List.replicate_append_replicate
 rw[length_splice _ _ _ (by simp;omega),hl]
theorem QU{w:Ba}{b o:Nat}{x:Aq}(h:w.cell? ⟨b,o,Z⟩=J x):∀j v,[x][j]?=J v->w.cell? ((⟨b,o,Z⟩:Addr).add j)=J v:=by
 intro j v hj;have h0:j=0:=by have:=(Lp.1 hj).1;simp at this;omega
 subst h0;simp at hj;subst hj;rw[N3];exact h
theorem Yl:(Al.info? 3).map (·.size)=J 1:=by kernel_rfl
theorem YB(n b:Nat)(h1:1<=n)(h5:n<=8)(u:Int)(w:Ba)(hb:w.heap[b]?=J (Ag #[O U u] 3 (0,0))) :
  An Al 155 #[I (J ⟨b,0,Z⟩) 1 1,O U n] w fun e w'=>∃g,e=Ak (I (J ⟨g,0,Z⟩) n n)/\w.heap.size<=g/\RowAt w' g (List.replicate n u)/\Am w.heap.size w w':=by
 have fA:=vz n h1 h5;obtain⟨ar,sc⟩:∃ar:List Aq,(List.replicate n 0).map (O U)=ar:=⟨_,rfl⟩;rw[sc] at fA;have C2:ar.length=n:=by rw[<-sc];simp
 have hc:=za hb 0 rfl;have az:=zc hb;have hm:=Tryz.bits_Mul 1 n (by omega) (by omega) w;have e1:(1*n / 18446744073709551616:Nat)=0:=by omega
 have e2:(1*n % 18446744073709551616:Nat)=n:=by omega
 rw[e1,e2] at hm;have Km:¬(n:Int)<0:=by omega
 go_enter func155,ntmps155;go_wp2_with fail;refine hm.mono ?_;rintro e w1 ⟨rfl,ac⟩;obtain rfl:=ac;obtain⟨W0,ch,b0,hsz,bX⟩:=zh w1 ar.toArray 3;have hx:W0.cell? ⟨b,0,Z⟩=J (O U u):=(bX.cell (p:=⟨b,0,Z⟩) az).trans hc;have BB:=zH bX;have BX:=zH b0;have HX:=zH hx;go_wp2_with ((refine wpList_copy_splice rfl (.tmp 31) (.tmp 32) 30 30 rfl 3 Ns Yl (J ⟨w1.heap.size,0,Z⟩) (J ⟨b,0,Z⟩) n n 1 1 rfl rfl w1.heap.size 0 ar 3 BX.out [O U u] (by simp[Nat.min_def];omega) (fun _=>⟨rfl,_,rfl,QU HX.out⟩) (by simp;omega) (by simp[Value.oneCell']) w1.heap.size w1 BB.out (Lh _) ?_);intro w2 iJ af);obtain⟨g,hg⟩:=Kh w1.heap.size;have s1:=ka (cur:=ar) (x:=O U u) (k:=0) (m:=1) (n:=n) C2 (by simp) (by omega);have S1:=zH s1;have Gb:=zH hg;rw[hg] at iJ af ⊢
 go_loopw [8] (fun l wr=>∃(k:Nat) (cur:List Aq),1<=k/\k<=n/\l=O U k/\Ap (cur.length=n)/\Ap (cur.take k=List.replicate k (O U u))/\Ap (wr.heap[g]?=J (Ag cur.toArray 3 (0,0)))/\Am g w1 wr) (fun l _=>n-(Ao l).toNat)
 case atStart=>exact⟨1,splice ar 0 [O U u],by omega,h1,rfl,S1.out.2,S1.out.1,iJ,af⟩
 obtain⟨k,cur,bC,dJ,rfl,aw,AZ,ay,l7⟩:=hrel
 by_cases aa:k<n
 . clear S1 iJ af
   have cA:(0:Int)<=(k:Int):=by omega
   have eG:(k:Int)<=(n:Int):=by omega
   have aO:¬n=k:=by omega
   go_upto_region 9 with fail
   obtain⟨d,hd⟩:=Kh (n-k);obtain⟨m,hm⟩:=Kh (Nat.min k d);have iY:min k d=m:=hm;have Vq:1<=m:=by omega
   have fT:k+m<=n:=by omega
   have Vp:m<=k:=by omega
   have oB:∀j v,(List.replicate m (O U u))[j]?=J v->wr.cell? ((⟨g,0,Z⟩:Addr).add j)=J v:=by
    intro j v hj;have AO:j<m:=by have:=(Lp.1 hj).1;simpa using this
    rw[Ph,Lo AO] at hj
    cases hj
    rw[N3,LM];refine za ay.out j ?_;rw[List.getElem?_toArray];have h2:=congrArg (fun l=>l[j]?) AZ.out;simp only[List.getElem?_take,List.getElem?_replicate] at h2;rwa[Lo (by omega),Lo (by omega)] at h2
   have SP:=zH (ka (cur:=cur) (x:=O U u) (k:=k) (m:=m) (n:=n) aw.out AZ.out fT);have BT:=zH oB;have HM:=zH hm;have iH:=zH l7;have aA:IntKind.i64.wrap ((k:Int)+(m:Int))=(k:Int)+(m:Int):=IntWalk.i64_in _ (by omega);have d':=zH aA;clear oB hm l7 aA
   go_region_law ((refine step_copy_splice (by rfl) (.tmp 41) (.tmp 44) 30 30 (by rfl) 3 Ns Yl (J ⟨g,k,Z⟩) (J ⟨g,0,Z⟩) d d k n (by simp[go_sem]) (by simp[go_sem]) g k cur 3 ay.out (List.replicate m (O U u)) (by rw[LW];exact HM.out.symm) (fun _=>⟨rfl,_,rfl,BT.out⟩) (by rw[LW,aw.out];exact fT) (by intro v hv;rw[List.eq_of_mem_replicate hv];rfl) g w1 iH.out.drew (Lh _) ?_;intro w3 Ee am;rw[LW]))
   all_goals
    rw[d'.out];go_wp2_with fail
    go_frame
    go_roundw
    case rel=>
     (repeat apply Exists.intro)
     exact⟨⟨k+m,splice cur k (List.replicate m (O U u)),by omega,by omega,rfl,SP.out.2,SP.out.1,Ee,am⟩,by first | rfl | (go_frame;rfl) | (simp[Act.put];done)⟩
    case measure=>simp[Ao];omega
 obtain rfl:k=n:=by omega
 go_wp2_with fail;go_ret;refine⟨g,rfl,by have:=Gb.out;omega,?_,by have:=Gb.out;rw[this];exact l7⟩;unfold RowAt;have e:=AZ.out;rw[NB (by have:=aw.out;omega)] at e;rw[ay.out,e];simp
theorem BdIn.set{B bB bM:Nat}{n:Int}{V:Aq}{vs:List Vw}{w:Ba}(h:BdIn B bB bM n V vs w){g:Nat}(h1:g≠bB)(h2:g≠bM)(h3:V.ownBlock≠J g)(o:Nat)(u:Aq):BdIn B bB bM n V vs (w.setCell ⟨g,o,Z⟩ u):=by
 obtain⟨m,hm⟩:=h.num;exact⟨(Lg w _ _ bB (fun e=>h1 e.symm)).trans h.hB,⟨m,hm.same (Lg w _ _ bM (fun e=>h2 e.symm))⟩,h.own.kept (zR w g o _) (.inr h3),h.ne,h.bm,h.lo⟩
theorem BdIn.grown{B bB bM:Nat}{n:Int}{V:Aq}{vs:List Vw}{w w':Ba}{row:Option Nat}(h:BdIn B bB bM n V vs w)(hg:w.grownBy w' row)(h1:row≠J bB)(h2:row≠J bM)(h3:∀k,V.ownBlock=J k->row≠J k):BdIn B bB bM n V vs w':=by
 obtain⟨m,hm⟩:=h.num;refine⟨(hg.block _ (zc h.hB) (fun e=>h1 e.symm)).trans h.hB,⟨m,hm.same (hg.block _ hm.lt (fun e=>h2 e.symm))⟩,h.own.kept hg ?_,h.ne,h.bm,h.lo⟩
 cases hv:V.ownBlock with
 | none=>exact .inl rfl
 | some k=>exact .inr fun e=>h3 k hv e.symm
theorem BdIn.lts{B bB bM:Nat}{n:Int}{V:Aq}{vs:List Vw}{w:Ba}(h:BdIn B bB bM n V vs w):bB<w.heap.size/\bM<w.heap.size/\∀k,V.ownBlock=J k->B<=k/\k<w.heap.size:=by
 obtain⟨m,hm⟩:=h.num;exact⟨zc h.hB,hm.lt,h.own.lt⟩
theorem BdOn.bel{B bB bM:Nat}{n:Int}{V V':Aq}{vs:List Vw}{w w':Ba}(h:BdIn B bB bM n V vs w)(k:BdOn bB bM V w V' w'):Am B w w':=by
 obtain⟨h1,h2,h3⟩:=h.lts;have h4:=h.lo;refine k.1.below (by omega) fun j hj hr=>?_
 rcases hr with e | e | e
 . omega
 . omega
 have:=(h3 j e).1;omega
theorem BdOn.set{bB bM:Nat}{V V':Aq}{w w':Ba}(k:BdOn bB bM V w V' w'){g:Nat}(hg:w.heap.size<=g)(o:Nat)(u:Aq):BdOn bB bM V w V' (w'.setCell ⟨g,o,Z⟩ u):=
 ⟨k.1.trans (Wrote.of_grown (R:=fun k=>k=g) (zR w' g o u) (fun k e _=>by cases e;rfl)) (fun k hk e=>by subst e;omega),k.2⟩
theorem BdOn.grown{bB bM:Nat}{V V':Aq}{w w' w2:Ba}{row:Option Nat}(k:BdOn bB bM V w V' w')(hg:w'.grownBy w2 row)(hr:∀j,row=J j->w.heap.size<=j):BdOn bB bM V w V' w2:=
 ⟨k.1.trans (Wrote.of_grown (R:=fun k=>row=J k) hg (fun _ e _=>e)) (fun j hj e=>by have:=hr j e;omega),k.2⟩
theorem row_set{xs:List Int}{N p:Nat}(hx:xs.length=p)(hp:p<N)(u:Int):(xs++List.replicate (N-p) 0).set p u=(xs++[u])++List.replicate (N-(p+1)) 0:=by
 subst hx;rw[List.set_append_right _ _ (Lh _),NA,show N-xs.length=(N-(xs.length+1))+1 by omega,List.replicate_succ,List.set_cons_zero];simp
structure RwIn(B bB bM N:Nat)(V0:Aq)(w0:Ba)(gN:Nat)(f:Nat->Vw)(vs:List Vw)(p:Nat)(V1:Aq)(W:Ba):Prop where
 bd:BdIn B bB bM N V1 (zY f vs p).1 W
 row:RowAt W gN ((zY f vs p).2++List.replicate (N-p) 0)
 on:BdOn bB bM V0 w0 V1 W
 ne:V1.ownBlock≠J gN
 ng:w0.heap.size<=gN
 nb:gN≠bB/\gN≠bM
theorem RwIn.on_{B bB bM N:Nat}{V0:Aq}{w0:Ba}{gN:Nat}{f:Nat->Vw}{vs:List Vw}{p:Nat}{V1:Aq}{W W':Ba}(H:RwIn B bB bM N V0 w0 gN f vs p V1 W)(hb:Am W.heap.size W W'):RwIn B bB bM N V0 w0 gN f vs p V1 W':=
 ⟨H.bd.on hb,Lb hb H.row.lt H.row,H.on.after hb,H.ne,H.ng,H.nb⟩
theorem RwIn.mid{B bB bM N:Nat}{V0:Aq}{w0:Ba}{gN:Nat}{f:Nat->Vw}{vs:List Vw}{p:Nat}{V1 V':Aq}{W W':Ba}(H:RwIn B bB bM N V0 w0 gN f vs p V1 W)(ho:BdOn bB bM V1 W V' W') :
  RowAt W' gN ((zY f vs p).2++List.replicate (N-p) 0)/\V'.ownBlock≠J gN:=by
 refine⟨(ho.1.block gN H.row.lt fun hr=>?_).trans H.row,fun e=>?_⟩
 . rcases hr with e | e | e
   . exact H.nb.1 e
   . exact H.nb.2 e
   exact H.ne e
 rcases ho.2 gN e with e | e
 . exact H.ne e
 have:=H.row.lt;omega
theorem RwIn.step{B bB bM N:Nat}{V0:Aq}{w0:Ba}{gN:Nat}{f:Nat->Vw}{vs:List Vw}{p:Nat}{V1 V':Aq}{W W':Ba}(H:RwIn B bB bM N V0 w0 gN f vs p V1 W)(hp:p<N)
  (hb:BdIn B bB bM N V' (xn (zY f vs p).1 (f p)).1 W') (ho:BdOn bB bM V1 W V' W') :
  RwIn B bB bM N V0 w0 gN f vs (p+1) V' (W'.setCell ⟨gN,p,Z⟩ (O U (xn (zY f vs p).1 (f p)).2)):=by
 obtain⟨h1,h2⟩:=H.mid ho;refine⟨hb.set H.nb.1 H.nb.2 h2 p _,?_,(H.on.trans ho).set H.ng p _,h2,H.ng,H.nb⟩;have h3:=h1.set p (xn (zY f vs p).1 (f p)).2;rw[row_set (yW f vs p) hp] at h3;exact h3
end
section
open Go.RowKit
attribute [local go_sem] Oper.semAt_some
theorem ints_raw{w:Ba}{A:Bb}{xs:List Int}(h:IAt w w.heap.size A xs):Raw w A xs.length (xs.map (O U)):=fun h0=>by
 obtain⟨b,off,e,aa,hc⟩:=h h0;refine⟨b,off,e,aa,fun j u hj=>?_⟩;obtain⟨x,hx,rfl⟩:∃x,xs[j]?=J x/\O U x=u:=by simpa using hj
 obtain⟨bQ,rfl⟩:=Lp.1 hx;exact hc j bQ
theorem ints_one(xs:List Int):∀u∈xs.map (O U),u.oneCell'=Ar:=fun u hu=>by obtain⟨x,_,rfl⟩:=LO.1 hu;rfl
theorem ints_own{w:Ba}{base:Nat}{v:Aq}{xs:List Int}(h:OwnR kIn w base v xs.length (xs.map (O U))):∃A cap,v=I A xs.length cap/\xs.length<=cap/\cap<=maxLen/\IAtS (fun k=>base<=k) w A xs:=by
 have aa:=h.lt;obtain⟨A,cap,rfl,hc,hm,hr⟩:=h.form;refine⟨A,cap,rfl,hc,hm,fun h0=>?_⟩;obtain⟨g,rfl,hg,dx,aw⟩:=hr h0;refine⟨g,0,rfl,(aa g hg).1,dx,fun i hi=>?_⟩;rw[LM];exact aw i _ (by simp[hi])
theorem wX(A:Bb)(cap:Nat)(xs:List Int)(w:Ba)(hA:IAt w w.heap.size A xs)(hl:xs.length<=1000000) :
  An Al 81 #[I A xs.length cap] w fun e w'=>∃A' c,e=Ak (I A' xs.length c)/\IAtS (fun k=>w.heap.size<=k) w' A' xs/\Am w.heap.size w w':=
 (clone_kIn A xs.length cap (xs.map (O U)) w (by simp) (ints_raw hA) (ints_one xs) hl).mono fun e w' ⟨v,h1,h2,h3⟩=>by
  obtain⟨A',c,h4,_,_,h5⟩:=ints_own h2;exact⟨A',c,by rw[h1,h4],h5,h3⟩
theorem vQ(A:Bb)(cap:Nat)(xss:List (List Int))(w:Ba)(hA:LAt w w.heap.size A xss)(hl:xss.length<=100000)(aD:∀v∈xss,v.length<=100000) :
  An Al 82 #[I A xss.length cap] w fun e w'=>∃v,e=Ak v/\OwnX cIs (fun k=>w.heap.size<=k) w' w.heap.size v xss/\Am w.heap.size w w':=by
 have HA:=zH hA;have eD:=zH aD;go_enter func82,ntmps82;go_wp2_with fail
 go_loopw [3,8] (fun o i wr=>∃k:Nat,k<=xss.length/\i=O U (k:Int)/\Ap (OwnX cIs (fun b=>w.heap.size<=b) wr w.heap.size o (xss.take k))/\Ap (Am w.heap.size w wr)) (fun _ i _=>xss.length-(Ao i).toNat)
 case atStart=>exact⟨0,by omega,rfl,by rw[LI];exact OwnX.nil _ _ _ _,Ll _ _⟩
 obtain⟨k,hk,rfl,HO,HB⟩:=hrel
 by_cases aU:k<xss.length
 case neg=>
  obtain rfl:k=xss.length:=by omega
  rw[LC] at HO;go_wp2_with fail;go_ret;exact⟨_,rfl,HO.out,HB.out⟩
 obtain⟨b,off,A',c',e1,hb,c0,hI⟩:=(HA.out.keep HB.out).at_ k aU;subst e1;have lN:Ap (xss.take (k+1)=xss.take k++[xss[k]]):=Ls aU;have fB:=eD.out _ (Ld aU);have bh:=HB.out.size;have cA:(0:Int)<=(k:Int):=by omega
 have bC:(k:Int)<(xss.length:Int):=by omega
 have my:(xss.take k).length=k:=by rw[NS];omega
 have M8:=zH my;obtain⟨x,hx⟩:=Kh (xss[k]);rw[hx] at c0 hI lN fB;have HC:=zH (wX A' c' x wr (hI.more bh) (by omega));go_wp2_with fail;refine HC.out.mono ?_;rintro e w2 ⟨A2,c2,rfl,CV,af⟩;have aP:Ap (Am wr.heap.size wr (w2.alloc (Ag #[I A2 x.length c2] 30))):=af.alloc af.size _;have F9:Ap (IAtS (fun b=>wr.heap.size<=b) (w2.alloc (Ag #[I A2 x.length c2] 30)) A2 x):=CV.keep (KeepB.alloc _ _ _);have sE:=zH (zj w2 (Ag #[I A2 x.length c2] 30));have pj:=zH (HO.out.below yw aP.out (Lh _));have ee:=af.size;have Ue:=zH HO.out.lt;go_wp2_with (at_builtin;obtain⟨aI,aw,fW,bJ⟩:=pj.out;rw[M8.out] at fW;refine yJ Z0 rfl (.tmp 12) (.tmp 15) rfl w.heap.size u3 k aI.flatten rfl fW w2.heap.size #[I A2 x.length c2] rfl sE.out rfl (by simp[Value.oneCell']) (by omega) (by simp;omega) _ rfl ?_;intro g' cap w7 lQ fD dp oO);have hX:cIs.lies (fun b=>(fun b=>w.heap.size<=b) b/\Value.ownBlock u3≠J b) _ [I A2 x.length c2] x:=⟨A2,c2,rfl,F9.out.mono fun b _ hb=>⟨by show w.heap.size<=b;omega,fun e=>by have:=(Ue.out b e).2;omega⟩⟩;have ik:=lQ;rw[<-M8.out] at ik;have rn:=zH (OwnX.app yw aw bJ hX ik fD dp);rw[<-lN.out,M8.out] at rn;have ec:Ap (Am w.heap.size w w7):=(HB.out.trans (aP.out.mono bh)).grown fD (by simp;omega) (fun b hb=>(Ue.out b hb).1)
 go_roundw
 case rel=>exact⟨k+1,by omega,by go_num,rn,ec⟩
 simp[Ao];omega
end
section
open Go.RowKit
def f0(inp:List Int):Nat->Vw:=fun p=>yi p (inp.getD p 0)
def fk(word:List Rd)(k:Nat)(row:List Int):Nat->Vw:=fun p=>xk (word.getD k default) (k+1) p row
structure PlIn(B bB bM N:Nat)(V0:Aq)(w0:Ba)(vs:List Vw)(inp:List Int)(word:List Rd)(k:Nat)(V1 o:Aq)(gk:Nat)(W:Ba):Prop where
 bd:BdIn B bB bM N V1 (zr vs N inp word k).1 W
 on:BdOn bB bM V0 w0 V1 W
 out:OwnX cIs (fun b=>w0.heap.size<=b/\V1.ownBlock≠J b) W w0.heap.size o (zr vs N inp word k).2
 no:∀b,V1.ownBlock=J b->o.ownBlock≠J b
 row:RowAt W gk ((zr vs N inp word k).2.getD k [])
 gl:w0.heap.size<=gk
 ng:V1.ownBlock≠J gk
 og:o.ownBlock≠J gk
 lt:bB<w0.heap.size/\bM<w0.heap.size
theorem rowk_len(vs:List Vw)(N:Nat)(inp:List Int)(word:List Rd)(k:Nat):((zr vs N inp word k).2.getD k []).length=N:=by
 have hl:=yg vs N inp word k;rw[Le,Lf (by omega)];exact qh vs N inp word k _ (Ld _)
section
variable {B bB bM N:Nat} {V0:Aq} {w0:Ba} {vs:List Vw} {inp:List Int} {word:List Rd}
theorem PlIn.start{V1:Aq}{gN:Nat}{W:Ba}(_hN:N<=5)(h:RwIn B bB bM N V0 w0 gN (f0 inp) vs N V1 W)(hl:bB<w0.heap.size/\bM<w0.heap.size) :
  PlIn B bB bM N V0 w0 vs inp word 0 V1 (I (J ⟨W.heap.size,0,Z⟩) 1 1) gN (W.alloc (Ag #[I (J ⟨gN,0,Z⟩) N N] 30)):=by
 have lP:=yW (f0 inp) vs N;have dx:=h.row.lt;have hb:=zN W (Ag #[I (J ⟨gN,0,Z⟩) N N] 30);have aN:=h.row;rw[NA,List.replicate_zero,L5] at aN;refine⟨h.bd.on hb,h.on.after hb,⟨[[I (J ⟨gN,0,Z⟩) N N]],rfl,?_,fun i i1 i2=>?_⟩,fun b e e2=>?_,Lb hb dx aN,h.ng,h.ne,fun e=>?_,hl⟩
 . refine OwnR.of_block (K:=kIs) (n:=1) (zj W _) ?_ rfl (by unfold maxLen;omega)
   have:=h.on.1.size;omega
 . obtain rfl:i=0:=by simp at i1;omega
   refine⟨J ⟨gN,0,Z⟩,N,?_,?_⟩
   . show [I (J ⟨gN,0,Z⟩) N N]=[.slice (J ⟨gN,0,Z⟩) (zY (f0 inp) vs N).2.length N]
     rw[lP]
   intro _;refine⟨gN,0,rfl,⟨⟨h.ng,h.ne⟩,fun e=>?_⟩,by simp;omega,fun j hj=>?_⟩
   . have:W.heap.size=gN:=by simpa[Value.ownBlock] using e
     omega
   rw[LM];exact RowAt.cell (Lb hb dx aN) j hj
 . have h1:W.heap.size=b:=by simpa[Value.ownBlock] using e2
   have:=(h.bd.own.lt b e).2;omega
 have h1:W.heap.size=gN:=by simpa[Value.ownBlock] using e
 omega
theorem PlIn.outn{k:Nat}{V1 o:Aq}{gk:Nat}{W Wx:Ba}{gX:Nat}{f:Nat->Vw}{V3:Aq}{p:Nat}{W3:Ba}(h:PlIn B bB bM N V0 w0 vs inp word k V1 o gk W)(hx:Am W.heap.size W Wx)
  (r:RwIn B bB bM N V1 Wx gX f (zr vs N inp word k).1 p V3 W3) :
  OwnX cIs (fun b=>w0.heap.size<=b/\V3.ownBlock≠J b) W3 w0.heap.size o (zr vs N inp word k).2/\(∀b,V3.ownBlock=J b->o.ownBlock≠J b):=by
 have Pw:=hx.size;have ir:=h.out.lt
 have h1:OwnX cIs (fun b=>(w0.heap.size<=b/\V1.ownBlock≠J b)/\V3.ownBlock≠J b) Wx w0.heap.size o (zr vs N inp word k).2:=
  (h.out.below yw hx (Lh _)).mono yw fun b hb hs=>⟨hs,fun e=>by
   rcases r.on.2 b e with e | e
   . exact hs.2 e
   . omega⟩
 refine⟨(h1.keep yw (r.on.1.keep fun b _ hs hr=>?_) fun b hb=>r.on.1.block b (by have:=(ir b hb).2;omega) fun hr=>?_).mono yw fun b _ hs=>⟨hs.1.1,hs.2⟩,fun b e e2=>?_⟩
 . rcases hr with e | e | e
   . have:=h.lt.1;have:=hs.1.1;omega
   . have:=h.lt.2;have:=hs.1.1;omega
   exact hs.1.2 e
 . have:=(ir b hb).1
   rcases hr with e | e | e
   . have:=h.lt.1;omega
   . have:=h.lt.2;omega
   exact h.no b e hb
 rcases r.on.2 b e with e | e
 . exact h.no b e e2
 have:=(ir b e2).2;omega
theorem PlIn.rown{k:Nat}{V1 o:Aq}{gk:Nat}{W Wx:Ba}{gX:Nat}{f:Nat->Vw}{V3:Aq}{p:Nat}{W3:Ba}(h:PlIn B bB bM N V0 w0 vs inp word k V1 o gk W)(hx:Am W.heap.size W Wx)
  (r:RwIn B bB bM N V1 Wx gX f (zr vs N inp word k).1 p V3 W3):RowAt W3 gk ((zr vs N inp word k).2.getD k []):=by
 have Pw:=hx.size;have dx:=h.row.lt;refine(r.on.1.block gk (by omega) fun hr=>?_).trans (Lb hx dx h.row);have:=h.gl;rcases hr with e | e | e
 . have:=h.lt.1;omega
 . have:=h.lt.2;omega
 exact h.ng e
theorem PlIn.next{k:Nat}{V1 o:Aq}{gk:Nat}{W Wx:Ba}{gX:Nat}{V3:Aq}{W3 W4 w5:Ba}{aI:List (List Aq)}{g' cap:Nat}(h:PlIn B bB bM N V0 w0 vs inp word k V1 o gk W)(hx:Am W.heap.size W Wx)
  (r:RwIn B bB bM N V1 Wx gX (fk word k ((zr vs N inp word k).2.getD k [])) (zr vs N inp word k).1 N V3 W3) (h4:Am W3.heap.size W3 W4)
  (aw:aI.length=(zr vs N inp word k).2.length) (bJ:∀(i:Nat) (h1:i<aI.length) (h2:i<(zr vs N inp word k).2.length),cIs.lies (fun b=>(w0.heap.size<=b/\V3.ownBlock≠J b)/\o.ownBlock≠J b) W4 aI[i] (zr vs N inp word k).2[i])
  (hr:OwnR kIs w5 w0.heap.size (I (J ⟨g',0,Z⟩) ((zr vs N inp word k).2.length+1) cap) ((zr vs N inp word k).2.length+1) (aI.flatten++[I (J ⟨gX,0,Z⟩) N N]))
  (hg:W4.grownBy w5 o.ownBlock) (bK:o.ownBlock=J g'\/g'=W4.heap.size) :
  PlIn B bB bM N V0 w0 vs inp word (k+1) V3 (I (J ⟨g',0,Z⟩) ((zr vs N inp word k).2.length+1) cap) gX w5:=by
 obtain⟨pJ,cD⟩:=h.outn hx r;have lP:=yW (fk word k ((zr vs N inp word k).2.getD k [])) (zr vs N inp word k).1 N;have dx:=r.row.lt;have mC:=h4.size;have Pw:=hx.size;have ir:=pJ.lt;have hlW:=h.on.1.size;have hxg:=r.ng
 have AA:o.ownBlock≠J gX:=fun e=>by
  have:=(h.out.lt gX e).2;omega
 have aN:=r.row;rw[NA,List.replicate_zero,L5] at aN;have DZ:RowAt w5 gX (zY (fk word k ((zr vs N inp word k).2.getD k [])) (zr vs N inp word k).1 N).2:=(hg.block gX (by omega) (fun e=>AA e.symm)).trans (Lb h4 dx aN);have e1:(zr vs N inp word (k+1)).2=(zr vs N inp word k).2++[(zY (fk word k ((zr vs N inp word k).2.getD k [])) (zr vs N inp word k).1 N).2]:=rfl;have an:=yg vs N inp word k
 have Ff:V3.ownBlock≠J g':=fun e=>by
  rcases bK with e2 | e2
  . exact cD g' e e2
  . have:=(r.bd.own.lt g' e).2;omega
 have hX:cIs.lies (fun b=>(w0.heap.size<=b/\V3.ownBlock≠J b)/\o.ownBlock≠J b) W4 [I (J ⟨gX,0,Z⟩) N N] (zY (fk word k ((zr vs N inp word k).2.getD k [])) (zr vs N inp word k).1 N).2:=by
  refine⟨J ⟨gX,0,Z⟩,N,by rw[lP],fun _=>⟨gX,0,rfl,⟨⟨by omega,r.ne⟩,AA⟩,by omega,fun j hj=>?_⟩⟩;rw[LM];exact RowAt.cell (Lb h4 dx aN) j hj
 refine⟨?_,?_,?_,?_,?_,by omega,r.ne,?_,h.lt⟩
 . refine(r.bd.on h4).grown hg (fun e=>?_) (fun e=>?_) (fun b hb e=>cD b hb e)
   . have:=(ir bB e).1;have:=h.lt.1;omega
   have:=(ir bM e).1;have:=h.lt.2;omega
 . exact((h.on.after hx).trans (r.on.after h4)).grown hg (fun j hj=>(ir j hj).1)
 . rw[e1]
   exact OwnX.app yw aw bJ hX hr hg bK
 . intro b hb e
   have:g'=b:=by simpa[Value.ownBlock] using e
   subst this;exact Ff hb
 . rw[e1,Le,LK (by omega),an,NA]
   exact DZ
 intro e;have:g'=gX:=by simpa[Value.ownBlock] using e
 subst this;rcases bK with e2 | e2
 . exact AA e2
 omega
end
def xa(r:Rd)(p:Nat)(row:List Int)(q j:Nat):Int:=if j<q then zQ r p row j else -1
def qK(r:Rd)(k p:Nat)(row:List Int)(q:Nat):Vw:=⟨p,k,0,xa r p row q 0,xa r p row q 1,xa r p row q 2,xa r p row q 3,xa r p row q 4⟩
theorem Qj(r:Rd)(p:Nat)(row:List Int)(j:Nat):xa r p row row.length j=zQ r p row j:=by
 unfold xa zQ
 split
 . rfl
 rename_i h;rw[Li (fun h2=>h h2.1)]
theorem Jw(r:Rd)(k p:Nat)(row:List Int):qK r k p row row.length=xk r k p row:=by
 unfold qK xk;simp only[Qj]
theorem uh(r:Rd)(p:Nat)(row:List Int)(q j:Nat)(h:j≠q):xa r p row (q+1) j=xa r p row q j:=by
 unfold xa
 by_cases h1:j<q
 . rw[Lo h1,Lo (by omega)]
 rw[Li h1,Li (by omega)]
theorem seenQ_no(r:Rd)(k p:Nat)(row:List Int)(q:Nat)(h:(r.h p).toNat.testBit q=As):qK r k p row (q+1)=qK r k p row q:=by
 have key:∀j,xa r p row (q+1) j=xa r p row q j:=fun j=>by
  by_cases e:j=q
  . subst e
    have h1:zQ r p row j=-1:=by unfold zQ;rw[Li (fun h2=>by rw[h] at h2;cases h2.2)]
    unfold xa;rw[Lo (by omega),Li (by omega),h1]
  . exact uh r p row q j e
 unfold qK;simp only[key]
theorem Jv(r:Rd)(k p:Nat)(row:List Int)(q:Nat)(hq:q<row.length)(h5:q<5)(h:(r.h p).toNat.testBit q=Ar):(qK r k p row q).cells.setIfInBounds (3+q) (O U row[q])=(qK r k p row (q+1)).cells:=by
 have e:xa r p row (q+1) q=row[q]:=by
  unfold xa;rw[Lo (by omega)];unfold zQ;rw[Lo ⟨hq,h⟩,Le,Lf hq];rfl
 have key:=fun j (h:j≠q)=>uh r p row q j h
 unfold qK Vw.cells
 match q,h5 with
 | 0,_=>simp only[key 1 (by decide),key 2 (by decide),key 3 (by decide),key 4 (by decide),e];rfl
 | 1,_=>simp only[key 0 (by decide),key 2 (by decide),key 3 (by decide),key 4 (by decide),e];rfl
 | 2,_=>simp only[key 1 (by decide),key 0 (by decide),key 3 (by decide),key 4 (by decide),e];rfl
 | 3,_=>simp only[key 1 (by decide),key 2 (by decide),key 0 (by decide),key 4 (by decide),e];rfl
 | 4,_=>simp only[key 1 (by decide),key 2 (by decide),key 3 (by decide),key 0 (by decide),e];rfl
theorem Rd.cells_h(r:Rd)(p:Nat)(hp:p<5):r.cells[1+p]?=J (O U (r.h p)):=by
 match p,hp with
 | 0,_=>rfl
 | 1,_=>rfl
 | 2,_=>rfl
 | 3,_=>rfl
 | 4,_=>rfl
theorem bit_test{h j:Nat}(hh:h<32)(hj:j<5):(bits BinOp.and U ((h:Int) / 2^j) 1==1)=h.testBit j:=by
 match j,hj with
 | 0,_=>exact Lw (xp (p:=fun h=>decide ((bits BinOp.and U ((h:Int) / 2^0) 1==1)=h.testBit 0)) (by decide +kernel) hh)
 | 1,_=>exact Lw (xp (p:=fun h=>decide ((bits BinOp.and U ((h:Int) / 2^1) 1==1)=h.testBit 1)) (by decide +kernel) hh)
 | 2,_=>exact Lw (xp (p:=fun h=>decide ((bits BinOp.and U ((h:Int) / 2^2) 1==1)=h.testBit 2)) (by decide +kernel) hh)
 | 3,_=>exact Lw (xp (p:=fun h=>decide ((bits BinOp.and U ((h:Int) / 2^3) 1==1)=h.testBit 3)) (by decide +kernel) hh)
 | 4,_=>exact Lw (xp (p:=fun h=>decide ((bits BinOp.and U ((h:Int) / 2^4) 1==1)=h.testBit 4)) (by decide +kernel) hh)
theorem ug{r:Rd}(h:yn r=0)(p:Nat)(hp:p<5):0<=r.h p/\r.h p<32:=by
 unfold yn at h
 split at h
 . cases h
 rename_i hn
 have key:∀k,k<=5->yh r (5-k) k=0->∀q,k<=q->q<5->yT r.n q (r.h q)=0:=by
  intro k hk
  induction hm:5-k generalizing k with
  | zero=>intro _ q h1 h2;omega
  | succ m ih=>
   intro hz q h1 h2;unfold yh at hz
   split at hz
   . rename_i aO;exact absurd hz aO
   . rename_i aO
     by_cases e:q=k
     . subst e;simpa using aO
     . exact ih (k+1) (by omega) (by omega) hz q (by omega) h2
 have h1:=key 0 (by omega) h p (by omega) hp;unfold yT at h1
 split at h1
 . split at h1
   . cases h1
   rename_i h2;have:r.h p=0:=by simpa using h2
   omega
 split at h1
 . cases h1
 rename_i h2
 have h3:(2^r.n.toNat-1:Nat)<32:=by
  have:2^r.n.toNat<=2^5:=LZ (by omega) (by omega);omega
 omega
end
section
open Go.RowKit
attribute [local go_sem] Oper.semAt_some
theorem play_any(B bB bM N:Nat)(h1:1<=N)(h5:N<=5)(V:Aq)(vs:List Vw)(lK:vs.length<=40000)(inp:List Int)(dK:inp.length=N)(word:List Rd)(rW:word.length<=6)(rI:∀r∈word,zS r=0/\r.n=N)
  (A AW:Bb) (ci cw:Nat) (w:Ba) (bZ:B<=w.heap.size) (H:BdIn B bB bM N V vs w) (hI:IAt w B A inp) (hW:RAt w B AW word) :
  An Al 47 #[Aj (J ⟨bB,0,Z⟩),I A inp.length ci,I AW word.length cw] w fun e w'=>∃v V',e=Ak v/\BdIn B bB bM N V' (zr vs N inp word word.length).1 w'/\BdOn bB bM V w V' w' /\
   OwnX cIs (fun b=>w.heap.size<=b/\V'.ownBlock≠J b) w' w.heap.size v (zr vs N inp word word.length).2/\∀b,V'.ownBlock=J b->v.ownBlock≠J b:=by
 have HI:=zH hI;have HW:=zH hW;have Hm:=zH rI;have HH:=zH H;have fA:=vz N h1 (by omega);have HM:=zH fA;obtain⟨ar,sc⟩:=Kh (((List.replicate N 0).map (O U)).toArray);rw[sc] at fA;have UA:=zH sc;have b0:=za H.hB 0 rfl;have Co:=zH dK;rw[dK];obtain⟨l1,l2,l3⟩:=H.lts;clear sc hI hW rI H dK l3;go_enter func47,ntmps47;go_wp2_with fail;obtain⟨w1,ac,d0,aA,aG⟩:=zh w ar 3;rw[ac]
 have R1:Ap (RwIn B bB bM N V w w.heap.size (f0 inp) vs 0 V w1):=
  ⟨HH.out.on aG,by show w1.heap[w.heap.size]?=_;rw[d0,<-UA.out];rfl,(BdOn.refl _ _ _ _).after aG,fun e=>by have:=(HH.out.own.lt _ e).2;omega,Lh _,by omega,by omega⟩
 go_loopw [24] (fun i wr=>∃(p:Nat) (V1:Aq),p<=N/\i=O U (p:Int)/\Ap (RwIn B bB bM N V w w.heap.size (f0 inp) vs p V1 wr)) (fun i _=>N-(Ao i).toNat)
 case atStart=>exact⟨0,V,by omega,rfl,R1.out⟩
 obtain⟨p,V1,hp,rfl,HR⟩:=hrel
 by_cases El:p<N
 case neg=>
  obtain rfl:N=p:=by omega
  go_wp2_with fail;have P0:=zH (PlIn.start (word:=word) h5 HR.out ⟨l1,l2⟩);obtain⟨W1,cV⟩:=Kh (wr.alloc (Ag #[I (J ⟨w.heap.size,0,Z⟩) N N] 30));rw[cV] at P0 ⊢;obtain⟨g0,GL⟩:=Kh wr.heap.size;rw[GL] at P0 ⊢;obtain⟨gn,Sj⟩:=Kh w.heap.size;rw[Sj];have P0:Ap (PlIn B bB bM N V w vs inp word 0 V1 (I (J ⟨g0,0,Z⟩) 1 1) gn W1):=by rw[<-Sj];exact P0.out
  go_loopw [7,9,44] (fun nw o i wr=>∃(k:Nat) (V1:Aq) (gk:Nat),k<=word.length/\nw=I (J ⟨gk,0,Z⟩) N N/\i=O U (k:Int)/\Ap (PlIn B bB bM N V w vs inp word k V1 o gk wr)) (fun _ _ i _=>word.length-(Ao i).toNat)
  case atStart=>exact⟨0,V1,gn,by omega,rfl,rfl,P0.out⟩
  obtain⟨k,V2,gk,hk,rfl,rfl,HP⟩:=hrel
  by_cases aU:k<word.length
  case neg=>
   obtain rfl:k=word.length:=by omega
   go_wp2_with fail;go_ret;exact⟨_,V2,rfl,HP.out.bd,HP.out.on,HP.out.out,HP.out.no⟩
  obtain⟨bw,ow,e1,cB,c0,c1,c2,c3,c4,c5,c6⟩:=(HW.out.keep (HP.out.on.bel HH.out)).row k aU;subst e1;have rO:=Hm.out _ (Ld aU);have ew:word.getD k default=word[k]:=by rw[Le,Lf aU];rfl
  obtain⟨r,hr⟩:=Kh (word[k]);rw[hr] at c0 c1 c2 c3 c4 c5 c6 rO ew;have Ow:=zH ew;have HRD:=zH (xI rO.1).2.2.1;have cA:(0:Int)<=(k:Int):=by omega
  have bC:(k:Int)<(word.length:Int):=by omega
  have R5:IntKind.i64.wrap ((k:Int)+1)=(k:Int)+1:=by rw[Lv];omega
  have b0:wr.cell? ⟨bB,0,Z⟩=J (O U (N:Int)):=za HP.out.bd.hB 0 rfl;have Wo:bB<wr.heap.size:=HP.out.bd.lts.1;have Wf:bw<wr.heap.size:=by have:=HP.out.on.1.size;omega
  clear hr rO ew;go_wp2_with fail;clear c0 c1 c2 c3 c4 c5 c6;obtain⟨W1,cV,g0,df,GZ⟩:=zh wr r.cells 68;unfold Rd.cells at cV;rw[cV];obtain⟨W2,dT,x0,ee,Tq⟩:=zh W1 ar 3;rw[dT];rw[df] at x0;have Gd:=zH g0;have bj:=zH GZ;obtain⟨row,aN⟩:=Kh ((zr vs N inp word k).2.getD k []);have FP:=zH aN;have nR:Ap (row.length=N):=by rw[<-aN];exact rowk_len vs N inp word k
  have sT:=HP.out.on.1.size
  have R0:Ap (RwIn B bB bM N V2 W1 (wr.heap.size+1) (fk word k row) (zr vs N inp word k).1 0 V2 W2):=
   ⟨(HP.out.bd.on GZ).on Tq,by show W2.heap[_]?=_;rw[x0,<-UA.out];rfl,(BdOn.refl _ _ _ _).after Tq,fun e=>by have:=(HP.out.bd.own.lt _ e).2;omega,by omega,by omega,by omega⟩
  have HPF:=zH (qN vs N inp word k)
  have hNk:(k+1)*N<=35:=by
   have:=L3 (show k+1<=7 by omega) h5;omega
  obtain⟨wo,rfl⟩:∃x,x=wr:=⟨_,rfl⟩
  go_loopw [56] (fun i wx=>∃(q:Nat) (V3:Aq),q<=N/\i=O U (q:Int)/\Ap (RwIn B bB bM N V2 W1 (wo.heap.size+1) (fk word k row) (zr vs N inp word k).1 q V3 wx)) (fun i _=>N-(Ao i).toNat)
  case atStart=>exact⟨0,V2,by omega,rfl,R0.out⟩
  obtain⟨q,V3,hq,rfl,HR⟩:=hrel
  by_cases rP:q<N
  case neg=>
   obtain rfl:N=q:=by omega
   have pJ:=HP.out.outn bj.out HR.out;have an:=yg vs N inp word k;have hgX:=HR.out.row.lt;have rx:=zH (zj wr (Ag #[I (J ⟨wo.heap.size+1,0,Z⟩) N N] 30));have pi:=zH (pJ.1.below yw (zN wr (Ag #[I (J ⟨wo.heap.size+1,0,Z⟩) N N] 30)) (Lh _));have HL:=zH an;have UU:w.heap.size<=wr.heap.size:=by have:=HR.out.on.1.size;omega
   go_wp2_with (at_builtin;obtain⟨aI,aw,fW,bJ⟩:=pi.out;rw[HL.out] at fW;refine yJ Z0 rfl (.tmp 92) (.tmp 94) rfl w.heap.size u9 (k+1) aI.flatten rfl fW wr.heap.size #[I (J ⟨wo.heap.size+1,0,Z⟩) N N] rfl rx.out rfl (by simp[Value.oneCell']) (by omega) (by simp;omega) _ rfl ?_;intro g' cap w7 lQ fD dp oO);have FN:=HR.out;rw[<-FP.out] at FN;have ik:=lQ;rw[<-HL.out] at ik;have Dl:=zH (PlIn.next HP.out bj.out FN (zN wr _) aw bJ ik fD dp);rw[HL.out] at Dl
   go_roundw
   case rel=>exact⟨k+1,V3,wo.heap.size+1,by omega,rfl,by go_num,Dl⟩
   simp[Ao];omega
  go_wp2_with fail;refine(vV wr).mono ?_;rintro e w3 ⟨rfl,am⟩;have R3:=zH (HR.out.on_ am);go_wp2_with fail;obtain⟨W4,C4,v0,tY,mO⟩:=zh w3 (qK r (k+1) q row 0).cells 144;have Md:w3.alloc (Ag #[O U (q:Int),O U ((k:Int)+1),O U 0,O U (-1),O U (-1),O U (-1),O U (-1),O U (-1)] 144)=W4:=by rw[<-C4];rfl
  rw[Md];have ij:=am.size;have KO:wo.heap.size<w3.heap.size:=by have:=HR.out.on.1.size;omega
  have Gc:Ap (w3.heap[wo.heap.size]?=J (Ag r.cells 68 (0,0))):=by
   refine(R3.out.on.1.block wo.heap.size (by omega) fun hr=>?_).trans Gd.out;have:=HP.out.bd.lts;rcases hr with e | e | e
   . omega
   . omega
   have:=(this.2.2 _ e).2;omega
  have tA:Ap (RowAt w3 gk row):=by have:=HP.out.rown bj.out R3.out;rw[FP.out] at this;exact this
  obtain⟨wp,rfl⟩:∃x,x=wr:=⟨_,rfl⟩
  go_loopw [66] (fun i wy=>∃j:Nat,j<=N/\i=O U (j:Int)/\Ap (wy.heap[w3.heap.size]?=J (Ag (qK r (k+1) q row j).cells 144 (0,0)))/\Ap (Am w3.heap.size w3 wy)) (fun i _=>N-(Ao i).toNat)
  case atStart=>exact⟨0,by omega,rfl,v0,mO⟩
  clear v0 mO tY;obtain⟨j,hj,rfl,HV,Gj⟩:=hrel
  by_cases hjN:j<N
  case neg=>
   obtain rfl:N=j:=by omega
   have Sl:fk word k row q=qK r (k+1) q row N:=by
    have:=Jw r (k+1) q row;rw[nR.out] at this;rw[this];show xk (word.getD k default) (k+1) q row=_;rw[Ow.out]
   obtain⟨vw,UW⟩:=Kh (qK r (k+1) q row N);rw[UW] at HV Sl;have x0:wr.cell? ⟨w3.heap.size,0,Z⟩=J (O U vw.p):=za HV.out 0 rfl;have x1:wr.cell? ⟨w3.heap.size,1,Z⟩=J (O U vw.r):=za HV.out 1 rfl;have x2:wr.cell? ⟨w3.heap.size,2,Z⟩=J (O U vw.i):=za HV.out 2 rfl;have x3:wr.cell? ⟨w3.heap.size,3,Z⟩=J (O U vw.h0):=za HV.out 3 rfl;have x4:wr.cell? ⟨w3.heap.size,4,Z⟩=J (O U vw.h1):=za HV.out 4 rfl;have x5:wr.cell? ⟨w3.heap.size,5,Z⟩=J (O U vw.h2):=za HV.out 5 rfl;have x6:wr.cell? ⟨w3.heap.size,6,Z⟩=J (O U vw.h3):=za HV.out 6 rfl;have x7:wr.cell? ⟨w3.heap.size,7,Z⟩=J (O U vw.h4):=za HV.out 7 rfl;have R4:=R3.out.on_ Gj.out;have hsq:=qL (fk word k row) (zr vs N inp word k).1 q;have HAD:=zH (Xo B bB bM N V3 (zY (fk word k row) (zr vs N inp word k).1 q).1 vw (by have:=HPF.out;omega) wr R4.bd);have Dk:=zH R4;have fu:=zH Sl;have oG:(0:Int)<=(q:Int):=by omega
   have mW:(q:Int)<(N:Int):=by omega
   go_wp2_with fail;refine HAD.out.mono ?_;rintro e w5 ⟨rfl,V5,GO,mX⟩;have pM:=Dk.out.mid mX;rw[<-fu.out] at GO;have TZ:=zH (Dk.out.step rP GO mX);rw[fu.out] at TZ;obtain⟨u5,c5⟩:∃u:Int,w5.cell? ⟨wo.heap.size+1,q,Z⟩=J (O U u):=⟨_,pM.1.cell q (by rw[Lu,yW,LW];omega)⟩;have y5:=pM.1.froz q;go_wp2_with fail
   go_roundw
   case rel=>exact⟨q+1,V5,by omega,by go_num,TZ⟩
   simp[Ao];omega
  have KL:=tA.out.lt;have Sb:j<row.length:=by have:=nR.out;omega
  have n0:=(Gj.out.cell (p:=⟨gk,j,Z⟩) KL).trans (tA.out.cell j Sb);have m0:wr.cell? ⟨wo.heap.size,1+q,Z⟩=J (O U (r.h q)):=(Gj.out.cell (p:=⟨wo.heap.size,1+q,Z⟩) KO).trans (za Gc.out (1+q) (Rd.cells_h r q (by omega)));obtain⟨y,hy⟩:=Kh (row[j]);rw[hy] at n0;have dH:=ug HRD.out q (by omega);obtain⟨h,hh⟩:=Lr dH.1;have KI:h<32:=by omega
  rw[hh] at m0;have GH:(0:Int)<=(j:Int):=by omega
  have EG:(j:Int)<(N:Int):=by omega
  have hj5:(j:Int)<5:=by omega
  have oG:(0:Int)<=(q:Int):=by omega
  have im:(q:Int)<5:=by omega
  have di:=bit_test KI (show j<5 by omega);have DY:(r.h q).toNat=h:=by rw[hh];rfl
  have Ci:=zH (seenQ_no r (k+1) q row j);have FF:=zH (Jv r (k+1) q row j Sb (by omega));rw[DY,hy] at FF;rw[DY] at Ci;have z0:wr.cell? ⟨w3.heap.size,3+j,Z⟩=J (O U ((qK r (k+1) q row j).h j)):=za HV.out (3+j) (Vw.cells_h _ j (by omega));have zf:=zb HV.out (3+j)
  by_cases hb:h.testBit j=Ar
  case pos=>
   rw[hb] at di;have HS:=zH (FF.out hb);go_wp2_with fail
   go_roundw
   case rel=>exact⟨j+1,by omega,by go_num,by show _=_;rw[Lk wr _ (3+j) _ _ _ HV.out,HS.out],Gj.out.setCell (Lh _) _⟩
   simp[Ao];omega
  have af:h.testBit j=As:=by simpa using hb
  rw[af] at di;have HS:=zH (Ci.out af);go_wp2_with fail
  go_roundw
  case rel=>exact⟨j+1,by omega,by go_num,by show _=_;rw[HS.out];exact HV.out,Gj.out⟩
  simp[Ao];omega
 have dK:=Co.out;obtain⟨bi,oi,e1,C1,i0⟩:=(HI.out.keep (HR.out.on.bel HH.out)).at_ p (by omega);subst e1;have KD:Ap ((f0 inp) p=yi p inp[p]):=by show yi p (inp.getD p 0)=_;rw[Le,Lf (by omega)];rfl
 obtain⟨x,hx⟩:=Kh (inp[p]);rw[hx] at i0 KD;have iK:(0:Int)<=(p:Int):=by omega
 have RO:(p:Int)<(N:Int):=by omega
 have az:bi<wr.heap.size:=by have:=HR.out.row.lt;omega
 go_wp2_with fail;have BS:=zH (qL (f0 inp) vs p)
 refine zk [(0,Ar),(1,Ar),(2,Ar),(3,Ar),(4,Ar),(5,Ar),(6,Ar),(7,Ar),(8,As),(9,As),(10,As),(11,As),(12,As)]
  (fun W=>W.cell? ⟨bi,oi+p,Z⟩=J (O U x)) (by kernel_rfl) (by kernel_rfl) (by exact i0) ?_
 repeat
  apply zy rfl
  . rintro K' ae W y0
    go_simp;exact ae
 refine zt rfl ?_;intro K' ae;go_simp;refine(vV wr.drew).mono ?_;rintro e w3 ⟨rfl,am⟩;have am:Am wr.heap.size wr w3:=Xm am;have R3:=HR.out.on_ am;have i3:=(am.cell (p:=⟨bi,oi+p,Z⟩) az).trans i0;refine ae _ _ i3 ?_;refine zt rfl ?_;intro K' ae;go_simp;refine ae _ _ i3 ?_;refine zt rfl ?_;intro K' ae;go_simp;refine(Xo B bB bM N V1 (zY (f0 inp) vs p).1 (yi p x) (by have:=BS.out;omega) w3 R3.bd).mono ?_;rintro e w4 ⟨rfl,V4,Sq,I8⟩;have GB:=R3.mid I8;rw[<-KD.out] at Sq;have su:=zH (R3.step El Sq I8);rw[KD.out] at su
 have i4:w4.cell? ⟨bi,oi+p,Z⟩=J (O U x):=by
  refine(LR (I8.1.block bi (by have:=am.size;omega) fun hr=>?_)).trans i3;have cz:=HR.out.bd.lo;rcases hr with e | e | e
  . omega
  . omega
  have:=(R3.bd.own.lt bi e).1;omega
 refine ae _ _ i4 ?_;obtain⟨u4,c4⟩:∃u:Int,w4.cell? ⟨w.heap.size,p,Z⟩=J (O U u):=⟨_,GB.1.cell p (by rw[Lu,yW,LW];omega)⟩;have y4:=GB.1.froz p;refine zt rfl ?_;intro K' ae;go_simp;refine ae _ _ i4 ?_;refine yN rfl (by kernel_rfl) ?_;intro K' ae;go_simp;refine ae (fun _=>True) _ _ trivial ?_;refine zE ?_;go_wp2_with fail
 go_roundw
 case rel=>exact⟨p+1,V4,by omega,by go_num,su⟩
 simp[Ao];omega
end
section
open Go.RowKit Go.Shelf
attribute [local go_sem] Oper.semAt_some
def zi(n:Nat):Nat->Nat->List (Nat×Nat)
 | _,0=>[]
 | i,m+1=>(List.range n).map (fun j=>(i,j))++zi n (i+1) m
def yt(n i j:Nat):List (Nat×Nat):=((List.range n).drop j).map fun j=>(i,j)
theorem jW{n i j:Nat}(h:j<n):yt n i j=(i,j)::yt n i (j+1):=by
 unfold yt;rw[Lz (by simpa using h)];simp
theorem vX(n i:Nat):yt n i n=[]:=by unfold yt;simp
theorem xT{n:Nat}:∀(m i:Nat) (x:Nat×Nat),x∈zi n i m->i<=x.1/\x.1<i+m/\x.2<n
 | 0,_,_,h=>by cases h
 | m+1,i,x,h=>by
  rcases L8.1 h with h | h
  . obtain⟨j,hj,rfl⟩:=LO.1 h
    exact⟨Lh _,by show i<_;omega,by simpa using hj⟩
  . obtain⟨a,b,c⟩:=xT m (i+1) x h
    exact⟨by omega,by omega,c⟩
theorem execs_any(p:Pb)(A:Bb)(kc:Nat)(SV:Bb)(ks:Nat)(V:Bb)(nw cw:Nat)(w:Ba):An Al 45 #[.agg (p.vs A kc SV ks),I V nw cw] w fun e w'=>
  e=Ak (.func (.func 85) #[] #[Aj (J ⟨w.heap.size,0,Z⟩),Aj (J ⟨w.heap.size+1,0,Z⟩)])/\(w.alloc (Ag (p.vs A kc SV ks) 29)).alloc (Ag #[I V nw cw] 109)=w':=by
 unfold Pb.vs;go_enter func45,ntmps45;go_wp2;go_ret;exact⟨rfl,rfl⟩
def SlAt(w:Ba)(B:Nat)(AW:Bb)(nw:Nat)(sl:Nat->Aq):Prop:=∀j,j<nw->∃b off,AW=J ⟨b,off,Z⟩/\b<B/\w.cell? ⟨b,off+j,Z⟩=J (sl j)
theorem SlAt.same{w w':Ba}{B:Nat}{AW:Bb}{nw:Nat}{sl:Nat->Aq}(h:SlAt w B AW nw sl)(hk:∀k,k<B->w'.heap[k]?=w.heap[k]?):SlAt w' B AW nw sl:=fun j hj=>by
 obtain⟨b,off,e,hb,hc⟩:=h j hj;exact⟨b,off,e,hb,(LR (hk b hb)).trans hc⟩
theorem Xe(C:Array Aq)(M:Nat)(hf:M<=30)(A:Bb)(kc:Nat)(hC:C[3]?=J (I A M kc))(AW:Bb)(nw cw:Nat)(I':nw<=5000)(sl:Nat->Aq)(B bp bw:Nat)(w:Ba)(hp:w.heap[bp]?=J (Ag C 29))(hw:w.heap[bw]?=J (Ag #[I AW nw cw] 109))
  (hS:SlAt w B AW nw sl) (hB:B<=w.heap.size) :
  Iter Al 85 #[Aj (J ⟨bp,0,Z⟩),Aj (J ⟨bw,0,Z⟩)] (fun x:Nat×Nat=>#[O U x.1,sl x.2]) (fun k=>k<B\/k=bp\/k=bw) (zi nw 0 M) w:=fun n hn l Af Jx W hW hJ Ti hY h0=>by
 have Be:bp<w.heap.size:=(Lq.1 hp).1;have cB:bw<w.heap.size:=(Lq.1 hw).1;have iK:=(hW.block bp Be).trans hp;have sT:=(hW.block bw cB).trans hw;have ft:=zH (hS.same (w':=W) fun k hk=>hW.block k (by omega));have HY:=zH hY;have c3:=za iK 3 hC;have H0:=zH h0;have Cc:=zH iK;have fq:=zH sT;have MD:B<=W.heap.size:=LE hB hW.size;have U':bp<W.heap.size:=Lx Be hW.size;have hwW:bw<W.heap.size:=Lx cB hW.size;refine callsIn_of_wp func85 rfl trivial ?_ rfl;simp only[ntmps85,List.size_toArray,List.length_cons,List.length_nil,Nat.reduceAdd,Nat.reduceSub,Array.replicate_succ,Array.replicate_zero,List.push_toArray,List.append_toArray,List.nil_append,List.cons_append];gi_wp2
 gi_loopw [11] (fun q wr=>∃s:Nat,s<=M/\q=O U (s:Int)/\∃pre:List { x:Nat×Nat // x∈zi nw 0 M },Ap (pre.map (·.1)++zi nw s (M-s)=zi nw 0 M)/\Ap (Af pre wr)/\Ap (SlAt wr B AW nw sl)/\Ap (wr.heap[bp]?=J (Ag C 29))/\Ap (wr.heap[bw]?=J (Ag #[I AW nw cw] 109))/\W.heap.size<=wr.heap.size) (fun q _=>M-(Ao q).toNat)
 case atStart=>exact⟨0,by omega,rfl,[],by simp[Ap],H0,ft,Cc,fq,Lh _⟩
 case round=>
  obtain⟨s,hs,rfl,pre,io,fY,o9,p',l',hsz⟩:=hrel
  by_cases aa:s<M
  · have CY : zi nw s (M - s) = yt nw s 0 ++ zi nw (s + 1) (M - (s + 1)) := by
     rw[show M-s=(M-(s+1))+1 by omega,zi];unfold yt;rw[LT]
    have HP:Ap (pre.map (·.1)++(yt nw s 0++zi nw (s+1) (M-(s+1)))=zi nw 0 M):=by rw[<-CY];exact io.out
    have q0:=za l'.out 0 rfl;gi_wp2_with fail
    gi_loopw [16] (fun q wr=>∃j:Nat,j<=nw/\q=O U (j:Int)/\∃pre:List { x:Nat×Nat // x∈zi nw 0 M },Ap (pre.map (·.1)++(yt nw s j++zi nw (s+1) (M-(s+1)))=zi nw 0 M)/\Ap (Af pre wr)/\Ap (SlAt wr B AW nw sl)/\Ap (wr.heap[bp]?=J (Ag C 29))/\Ap (wr.heap[bw]?=J (Ag #[I AW nw cw] 109))/\W.heap.size<=wr.heap.size) (fun q _=>nw-(Ao q).toNat)
    case atStart=>exact⟨0,by omega,rfl,pre,HP,fY,o9,p',l',hsz⟩
    case round=>
     obtain⟨j,hj,rfl,pre,io,fY,o9,p',l',hsz⟩:=hrel
     by_cases bQ:j<nw
     . obtain⟨b2,o2,rfl,af,m0⟩:=o9.out j bQ
       have oK:pre.map (·.1)++((s,j)::(yt nw s (j+1)++zi nw (s+1) (M-(s+1))))=zi nw 0 M:=by
        have:=io.out;rw[jW bQ,Ng] at this;exact this
       have bu:(s,j)∈zi nw 0 M:=by rw[<-oK];simp
       have an:pre.length<(zi nw 0 M).length:=by
        have:=congrArg List.length oK;simp only[List.length_append,List.length_map,List.length_cons] at this;omega
       obtain⟨fn,tmps,assign,body,hy,hR⟩:=HY.out pre ⟨(s,j),bu⟩ _ fY.out an;dsimp only at hy
       have tB:Ap ((pre++[(⟨(s,j),bu⟩:{ x:Nat×Nat // x∈zi nw 0 M })]).map (·.1)++(yt nw s (j+1)++zi nw (s+1) (M-(s+1)))=zi nw 0 M):=by
        rw[LF,L7];exact oK
       have HR:=zH hR;gi_wp2_with fail;refine HR.out.mono ?_;rintro e W3 (⟨rfl,Fr,pQ⟩ | ⟨rfl,pb⟩)
       . have aA:wr.heap.size<=W3.heap.size:=pQ.size
         have S3:=zH (o9.out.same (fun k hk=>pQ.same k (.inl hk) (by omega)));have P3:=zH ((pQ.same bp (.inr (.inl rfl)) (by omega)).trans p'.out);have B3:=zH ((pQ.same bw (.inr (.inr rfl)) (by omega)).trans l'.out);have J3:=zH Fr;have lM:W.heap.size<=W3.heap.size:=by omega
         gi_wp2_with fail
         go_roundw
         case rel=>exact⟨j+1,by omega,by go_num,_,tB,J3,S3,P3,B3,lM⟩
         case measure=>simp[Ao];omega
       . gi_wp2_with fail
         refine L6 (Rs rfl _ _ _) rfl ?_;refine⟨⟨_,rfl⟩,.inr ⟨_,?_,pb⟩⟩;exact⟨_,tB.out⟩
     . obtain rfl:nw=j:=by omega
       have HP:Ap (pre.map (·.1)++zi nw (s+1) (M-(s+1))=zi nw 0 M):=by have:=io.out;rwa[vX,Nc] at this
       gi_wp2_with fail
       go_roundw
       case rel=>exact⟨s+1,by omega,by go_num,pre,HP,fY,o9,p',l',hsz⟩
       case measure=>simp[Ao];omega
  . obtain rfl:M=s:=by omega
    have HP:Ap (pre.map (·.1)=zi nw 0 M):=by have:=io.out;rwa[NA,zi,L5] at this
    gi_wp2_with fail
    go_end0
    exact⟨⟨_,rfl⟩,.inl ⟨pre,HP.out,fY.out⟩⟩
end
section
open Go.RowKit
theorem wz:∀(j:Nat) (xss:List (List Mv)) (x:Int×Mv),x∈zD j xss->∃s,j<=s/\s<j+xss.length/\x.1=(s:Int)
 | _,[],x,h=>by cases h
 | j,l::r,x,h=>by
  rw[zD] at h;rcases L8.1 h with h | h
  . obtain⟨m,_,rfl⟩:=LO.1 h
    exact⟨j,Lh _,by simp,rfl⟩
  . obtain⟨s,h1,h2,h3⟩:=wz (j+1) r x h
    exact⟨s,by omega,by simp;omega,h3⟩
def qC(a:Ad)(k s:Nat)(xs:List (Int×Mv)):Nat:=(xs.map fun x=>if x.1=(s:Int) then zU a k x.2.to else 0).sum
theorem Jq(a:Ad)(k s:Nat)(xs:List (Int×Mv))(x:Int×Mv):qC a k s (xs++[x])=qC a k s xs+if x.1=(s:Int) then zU a k x.2.to else 0:=by
 unfold qC;rw[LF,RH];simp
theorem uN(a:Ad)(k s j:Nat)(h:s≠j):∀l:List Mv,qC a k s (l.map fun m=>((j:Int),m))=0
 | []=>rfl
 | m::l=>by
  have:=uN a k s j h l;unfold qC at this ⊢;rw[L1,L1,PX,this,Li (by intro e;apply h;omega)]
theorem gS(a:Ad)(k s:Nat):∀l:List Mv,qC a k s (l.map fun m=>((s:Int),m))=(l.map fun m=>zU a k m.to).sum
 | []=>rfl
 | m::l=>by
  have:=gS a k s l;unfold qC at this ⊢;rw[L1,L1,PX,this,Lo rfl,L1,PX]
theorem sumF_app(a:Ad)(k s:Nat)(xs ys:List (Int×Mv)):qC a k s (xs++ys)=qC a k s xs+qC a k s ys:=by
 unfold qC;rw[LF,RH]
theorem gT(a:Ad)(k s:Nat):∀(j:Nat) (xss:List (List Mv)),qC a k s (zD j xss)=if j<=s then ((xss.getD (s-j) []).map fun m=>zU a k m.to).sum else 0
 | j,[]=>by simp[zD,qC]
 | j,l::r=>by
  rw[zD,sumF_app,gT a k s (j+1) r]
  by_cases e:s=j
  . subst e
    rw[gS,Li (by omega),Lo (Lh _),NA];rfl
  . rw[uN a k s j e,LM]
    by_cases h:j<=s
    . rw[Lo (by omega),Lo h,show s-j=(s-(j+1))+1 by omega,List.getD_cons_succ]
    . rw[Li (by omega),Li h]
theorem sumF_all(a:Ad)(k s:Nat):qC a k s (zD 0 a.sts)=zU a (k+1) (s:Int):=by
 rw[gT,Lo (Nw _),N9,zU];unfold Ad.at_;rw[Lj]
def xS(a:Ad)(L k sl:Nat)(pre:List (Int×Mv)):List Int:=(List.range sl).map fun (j:Nat)=>((yy L (qC a k j pre):Nat):Int)
theorem JM(a:Ad)(L k sl:Nat)(pre:List (Int×Mv)):(xS a L k sl pre).length=sl:=by unfold xS;simp
theorem JL(a:Ad)(L k sl:Nat):xS a L k sl []=List.replicate sl 0:=by
 refine Pr (by simp[xS]) fun j h1 h2=>?_
 simp[xS,qC,Yr]
theorem vt(a:Ad)(L k sl:Nat)(pre:List (Int×Mv))(j:Nat)(h:j<(xS a L k sl pre).length):(xS a L k sl pre)[j]=((yy L (qC a k j pre):Nat):Int):=by simp[xS]
theorem X0(a:Ad)(L k sl:Nat)(pre:List (Int×Mv))(x:Int×Mv)(s:Nat)(hx:x.1=(s:Int)):xS a L k sl (pre++[x])=(xS a L k sl pre).set s ((yy L (qC a k s pre+zU a k x.2.to):Nat):Int):=by
 refine Pr (by simp[xS]) fun j h1 h2=>?_
 rw[RF,vt,Jq,hx]
 by_cases e:s=j
 . subst e;rw[Lo rfl,Lo rfl]
 rw[Li (by omega),Li e,Pc,vt]
theorem JN(a:Ad)(L k sl:Nat):xS a L k sl (zD 0 a.sts)=cl a L (k+1) sl:=by
 unfold xS cl;refine Pe fun j _=>?_
 rw[sumF_all]
theorem cl_first(a:Ad)(L sl:Nat):cl a L 0 sl=List.replicate sl 1:=by
 refine Pr (by simp[cl]) fun j h1 h2=>?_
 rw[wY];simp[zU,QL]
end
section
open Go.RowKit Go.Shelf
attribute [local go_sem] Oper.semAt_some
theorem wH{B:Nat}{ds:List Deferred}{w w':Ba}(h:Marks B ds w)(hs:∀k:Nat,w.heap[k]?=J (Obj.deferred (J []))->w'.heap[k]?=J (Obj.deferred (J []))):Marks B ds w':=by
 obtain⟨rs,e,hn,hk⟩:=h;exact⟨rs,e,hn,fun r hr=>⟨(hk r hr).1,hs r (hk r hr).2⟩⟩
structure NmIn(B:Nat)(C:Array Aq)(L:Int)(g7 g:Nat)(cs:List Int)(w W:Ba):Prop where
 below:Am B w W
 b0:W.heap[B]?=J (Ag C 27 (0,0))
 b1:W.heap[B+1]?=J (Ag #[O U L] 3 (0,0))
 b7:W.heap[g7]?=J (Ag #[I (J ⟨g,0,Z⟩) cs.length cs.length] 30 (0,0))
 row:RowAt W g cs
 h7:B+2<=g7
 hg:B+2<=g
theorem NmIn.on{B:Nat}{C:Array Aq}{L:Int}{g7 g:Nat}{cs:List Int}{w W W':Ba}(h:NmIn B C L g7 g cs w W)(hb:Am W.heap.size W W'):NmIn B C L g7 g cs w W':=
 ⟨h.below.trans (hb.mono (by have:=zc h.b0;omega)),La hb h.b0,La hb h.b1,La hb h.b7,Lb hb h.row.lt h.row,h.h7,h.hg⟩
theorem NmIn.turn{B:Nat}{C:Array Aq}{L:Int}{g7 g:Nat}{cs:List Int}{w W W':Ba}{row:Option Nat}(h:NmIn B C L g7 g cs w W)(hg:W.grownBy W' row)(hr:∀r,row=J r->B<=r/\∃o:Obj,W.heap[r]?=J o/\o.isCells=As):NmIn B C L g7 g cs w W':=
 ⟨h.below.grown hg (by have:=zc h.b0;omega) (fun k hk=>(hr k hk).1),(L4 hg (fun r e=>(hr r e).2) h.b0 rfl).trans h.b0,(L4 hg (fun r e=>(hr r e).2) h.b1 rfl).trans h.b1,
  (L4 hg (fun r e=>(hr r e).2) h.b7 rfl).trans h.b7,(L4 hg (fun r e=>(hr r e).2) h.row rfl).trans h.row,h.h7,h.hg⟩
theorem NmIn.setk{B:Nat}{C:Array Aq}{L:Int}{g7 g:Nat}{cs:List Int}{w W:Ba}(h:NmIn B C L g7 g cs w W)(n j:Nat)(v:Aq)(h7:g7<n)(hg:g<n):NmIn B C L g7 g cs w (W.setCell ⟨n,j,Z⟩ v):=by
 have h1:=h.h7
 exact⟨h.below.setCell (by show B<=n;omega) _,(Lg W ⟨n,j,Z⟩ v B (by show B≠n;omega)).trans h.b0,(Lg W ⟨n,j,Z⟩ v (B+1) (by show B+1≠n;omega)).trans h.b1,
  (Lg W ⟨n,j,Z⟩ v g7 (by show g7≠n;omega)).trans h.b7,(Lg W ⟨n,j,Z⟩ v g (by show g≠n;omega)).trans h.row,h.h7,h.hg⟩
theorem NmIn.swap{B:Nat}{C:Array Aq}{L:Int}{g7 g n:Nat}{cs nn:List Int}{w W:Ba}(h:NmIn B C L g7 g cs w W)(hr:RowAt W n nn)(hn:B+2<=n)(aO:n≠g7):NmIn B C L g7 n nn w (W.setCell ⟨g7,0,Z⟩ (I (J ⟨n,0,Z⟩) nn.length nn.length)):=by
 have h1:=h.h7;obtain⟨x1,x2,x3⟩:=qD h.b7 (I (J ⟨n,0,Z⟩) nn.length nn.length);exact⟨h.below.setCell (by show B<=g7;omega) _,(x3 B (by omega)).trans h.b0,(x3 (B+1) (by omega)).trans h.b1,x1,(x3 n aO).trans hr,h.h7,hn⟩
theorem Qc{D:Nat}{W:Ba}{n:Nat}{xs:List Int}(h:RowAt W n xs)(j:Nat)(v:Aq):KeepsFrom D W (W.setCell ⟨n,j,Z⟩ v):=
 ⟨(zR W n j v).size,fun k o _ hk ho=>(Lg W ⟨n,j,Z⟩ v k (by rintro rfl;rw[h] at hk;cases hk;cases ho)).trans hk⟩
theorem rep_arr(n:Nat):((List.replicate n (0:Int)).map (O U)).toArray=Array.replicate n (O U 0):=by simp
theorem XW(a:Ad)(hf:FewA a)(hz:zB a a.sts=0)(h1:1<=a.sts.length)(K L:Nat)(hK:K<=6)(hL:L<=1048576)(SV:Bb)(ks:Nat)(w:Ba)(hS:SAt w w.heap.size SV a.sts) :
  An Al 128 #[Ai #[O U a.n,I SV a.sts.length ks],O U K,O U L] w fun e w'=>e=Ak (O U ((yy L (zU a K 0):Nat):Int))/\Am w.heap.size w w':=by
 have dZ:=hf.1;have HI:=zH (fun (bx:Nat) (w':Ba) (hb:w'.heap[bx]?=J (Ag #[O U a.n,I SV a.sts.length ks] 27)) (h:SAt w' w.heap.size SV a.sts) (hB:w.heap.size<=w'.heap.size)=>kG a hf SV ks w.heap.size bx w' hb h hB);have HZ:=zH (@yY a hz);have HS:=zH hS;clear hS hz hf;refine yA func128 rfl ?_;simp only[ntmps128,List.size_toArray,List.length_cons,List.length_nil,Nat.reduceAdd,Nat.reduceSub,Array.replicate_succ,Array.replicate_zero,List.push_toArray,List.append_toArray,List.nil_append,List.cons_append];go_wp2_with fail;obtain⟨w2,cd,b0,b1,hsz,hB⟩:=yr w #[O U a.n,I SV a.sts.length ks] #[O U (L:Int)] 27 3;have cK:w2.heap.size=w.heap.size+2:=by rw[<-cd];simp
 rw[cd];obtain⟨w3,CK,b2,hz3,cW⟩:=zh w2 #[O U 1] 3;rw[CK];clear cd CK;rw[show w2.heap.size=w.heap.size+1+1 by omega] at b2;refine(YB a.sts.length (w.heap.size+1+1) h1 dZ 1 w3 b2).mono ?_;rintro e w4 ⟨g,rfl,EK,aN,mO⟩
 have H4:Ap (NmIn w.heap.size #[O U a.n,I SV a.sts.length ks] L w4.heap.size g (cl a L 0 a.sts.length) w (w4.alloc (Ag #[I (J ⟨g,0,Z⟩) a.sts.length a.sts.length] 30))):=by
  have c0:=Lb mO (by omega) (Lb cW (by omega) b0);have c1:=Lb mO (by omega) (Lb cW (by omega) b1);have mC:=mO.size;refine⟨(hB.trans (cW.mono (by omega))).trans ((mO.mono (by omega)).trans ((Ll _ _).alloc (by omega) _)),yo c0 _,yo c1 _,?_,?_,by omega,by omega⟩
  . rw[kj];exact zj _ _
  rw[cl_first];exact yo aN _
 go_wp2_with fail;obtain⟨w5,Gs⟩:=Kh (w4.alloc (Ag #[I (J ⟨g,0,Z⟩) a.sts.length a.sts.length] 30));rw[Gs] at H4 ⊢;obtain⟨g7,fD⟩:=Kh w4.heap.size;rw[fD] at H4 ⊢;obtain⟨g0,GL⟩:∃g0,g0=g:=⟨_,rfl⟩;have H5:Ap (NmIn w.heap.size #[O U a.n,I SV a.sts.length ks] L g7 g (cl a L 0 a.sts.length) w w5):=H4.out;refine wp_loop_ghost (fun (m:Nat) (a':Act) (w':Ba)=>∃(ds:List Deferred) (k h:Nat) (u8 O2 O1 O0 OZ OY OX OW OV:Aq),(m=K-k/\k<=K/\Ap (NmIn w.heap.size #[O U a.n,I SV a.sts.length ks] L g7 h (cl a L k a.sts.length) w w')/\Ap (Marks w.heap.size ds w'))/\a'={ tmps:=#[Ai #[O U a.n,I SV a.sts.length ks],O U (K:Int),O U (L:Int),Aj (J ⟨w.heap.size,0,Z⟩),undef,Aj (J ⟨w.heap.size+1,0,Z⟩),O U 0,Aj (J ⟨g7,0,Z⟩),u8,undef,undef,I (J ⟨w.heap.size+1+1,0,Z⟩) 1 1,Aj (J ⟨w.heap.size,1,Z⟩),I SV a.sts.length ks,O U (a.sts.length:Int),I (J ⟨g0,0,Z⟩) a.sts.length a.sts.length,O U (K:Int),O U (k:Int),O2,O1,O0,OZ,OY,OX,undef,undef,undef,undef,undef,undef,undef,undef,undef,undef,undef,undef,undef,undef,undef,undef,undef,undef,OW,OV,undef,undef,undef],defers:=ds }) K ?_ ?_
 . exact⟨[],0,g,_,_,_,_,_,_,_,_,_,⟨by omega,by omega,H5.out,Marks.nil _ _⟩,by rw[GL];rfl⟩
 clear H5 GL;rintro m a' wr ⟨ds,k,h,u8,O2,O1,O0,OZ,OY,OX,OW,OV,⟨hm,hk,HN,MK⟩,rfl⟩;have fB:=kj a L k a.sts.length;have q7:=za HN.out.b7 0 rfl;rw[fB] at q7
 by_cases R8:k<K
 case neg=>
  obtain rfl:k=K:=by omega
  have c0:=HN.out.row.cell 0 (by omega);rw[wY] at c0;clear HI HZ;go_wp2_with fail;refine yR MK.out (v:=O U ((yy L (zU a k 0):Nat):Int)) (fun W=>by kernel_rfl) ?_;intro W hX;exact⟨rfl,HN.out.below.trans hX.below⟩
 case pos=>
 have fA:=vz a.sts.length h1 dZ;obtain⟨q0,q1,_⟩:=Ka HN.out.b0;go_upto_region 5 with fail
 obtain⟨W1,cV,d0,d1,aA,aG⟩:=yr wr (Array.replicate a.sts.length (O U 0)) #[I (J ⟨wr.heap.size,0,Z⟩) a.sts.length a.sts.length] 3 30;rw[cV];have aN:RowAt W1 wr.heap.size (xS a L k a.sts.length []):=by rw[JL];unfold RowAt;rw[rep_arr];exact d0
 have rq:=HN.out.on aG;obtain⟨hn,EI⟩:=Kh wr.heap.size;have VQ:g7<hn:=by rw[<-EI];exact zc HN.out.b7
 have hhg:h<hn:=by rw[<-EI];exact HN.out.row.lt
 have Tr:w.heap.size+1<hn:=by rw[<-EI];exact zc HN.out.b1
 have TP:Ap (Marks w.heap.size ds W1):=wH (w:=wr) MK.out fun x hx=>(aG.block x (Lq.1 hx).1).trans hx
 rw[EI] at aN d1 aA ⊢;obtain⟨q0,q1,_⟩:=Ka rq.b0;have dU:=zH rq;have Ca:=zH aN;have cH:=zH d1;clear cV d0 d1 aG aN rq fA EI q7;go_wp2_with fail;refine(vu a.n (I SV a.sts.length ks) W1).mono ?_;rintro e W2 ⟨rfl,dT⟩;have bb:=zj W1 (Ag #[O U a.n,I SV a.sts.length ks] 27);have bP:Am W1.heap.size W1 W2:=by rw[<-dT];exact zN _ _
 have ef:W2.heap.size=W1.heap.size+1:=by rw[<-dT];simp
 rw[dT] at bb;obtain⟨bx,aV⟩:=Kh W1.heap.size;have pm:=zH (dU.out.on bP);have cF:Ap (RowAt W2 hn (xS a L k a.sts.length [])):=Lb bP Ca.out.lt Ca.out;have iF:=zH (La bP cH.out);have TN:Ap (Marks w.heap.size ds W2):=wH (w:=W1) TP.out fun x hx=>(bP.block x (Lq.1 hx).1).trans hx
 rw[aV] at bb ef aA ⊢;have fJ:=zH (HI.out bx W2 bb (HS.out.keep pm.out.below) (by omega));clear dT bb bP aV dU Ca cH TP q0 q1;go_wp2_with fail
 refine kQ rfl (NV Rv (by kernel_rfl) rfl) fJ.out (by rintro x (h | rfl)<;>omega) (fun _=>rfl)
  (fun (pre:List { x:Int×Mv // x∈zD 0 a.sts }) (X:Ba)=>NmIn w.heap.size #[O U a.n,I SV a.sts.length ks] L g7 h (cl a L k a.sts.length) w X/\X.heap[hn+1]?=J (Ag #[I (J ⟨hn,0,Z⟩) a.sts.length a.sts.length] 30 (0,0))/\RowAt X hn (xS a L k a.sts.length (pre.map (·.1)))/\W2.heap.size<=X.heap.size/\(∀y:Nat,W2.heap[y]?=J (Obj.deferred (J []))->X.heap[y]?=J (Obj.deferred (J []))))
  (fun _ _ _=>False)
  ?hI (fun _ _ _ _ _ h _ _=>h)
  ⟨pm.out,iF.out,cF.out,Lh _,fun _ h=>h⟩ (fun x=>x.2.cells) 70 ?a1 ?assign ?body ?done ?stop (fun _ _ h=>h.2.2.2.1)
 case hI=>
  intro s X X' row hX hg hr;refine⟨hX.1.turn hg (fun r e=>⟨by have:=(hr r e).1;omega,(hr r e).2⟩),(L4 hg (fun r e=>(hr r e).2) hX.2.1 rfl).trans hX.2.1,(L4 hg (fun r e=>(hr r e).2) hX.2.2.1 rfl).trans hX.2.2.1,LE hX.2.2.2.1 hg.size,fun y hy=>?_⟩;have DJ:=hX.2.2.2.2 y hy;have ig:=(Lq.1 hy).1;exact(hg.block y (by have:=hX.2.2.2.1;omega) (fun e=>by have:=(hr y e.symm).1;omega)).trans DJ
 case assign=>
  intro l pre x X K' hI hK;obtain⟨g',lr⟩:∃g',g'=X.heap.size:=⟨_,rfl⟩;have HK:=zH (hK g' lr ⟨hI.1.on (zN X _),yo hI.2.1 _,yo hI.2.2.1 _,by have:=hI.2.2.2.1;simp;omega,fun y hy=>(N1 X _ y (Lq.1 (hI.2.2.2.2 y hy)).1).trans (hI.2.2.2.2 y hy)⟩);have HG:=zH lr;unfold Mv.cells at HK ⊢;dsimp only at HK ⊢;clear hK lr hI;gi_wp2;rw[<-HG.out];exact HK.out
 case body=>
  intro l pre x g W3 hg eQ hI aa;obtain⟨iB,sh,iA,Tm,sg⟩:=hI;obtain⟨s,_,mz,IE⟩:=wz 0 a.sts x.1 x.2;obtain⟨_,_,z3,z4⟩:=HZ.out x.1.2 (ZV x.2);have cO:=X0 a L k a.sts.length (pre.map (·.1)) x.1 s IE;obtain⟨t,et⟩:=Lr z3;have my:t<a.sts.length:=by omega
  have mz:s<a.sts.length:=by omega
  have c8:=za sh 0 rfl;have rS:=iA.cell s (by rw[JM];omega);rw[vt] at rS;have fS:=iA.froz s;have q7:=za iB.b7 0 rfl;rw[kj] at q7;have cT:=iB.row.cell t (by rw[kj];omega);rw[wY] at cT;have u7:=za eQ 7 (u:=O U x.1.2.to) rfl;rw[et] at u7;have q1:=za iB.b1 0 rfl;rw[et] at cO;have rM:=QN L (qC a k s (pre.map (·.1))) (zU a k (t:Int));have y1:=vf L (qC a k s (pre.map (·.1)));have y2:=vf L (zU a k (t:Int));rw[<-rM] at cO;obtain⟨n1,en⟩:=Kh (yy L (qC a k s (pre.map (·.1))));obtain⟨n2,sZ⟩:=Kh (yy L (zU a k (t:Int)));rw[en] at rS cO y1;rw[sZ] at cT cO y2;have hl3:=iA.lt;have tH:=zH iB;have F9:=zH sh;have ru:=zH iA;have nU:=zH sg;have cN:=zH cO;clear iB sh iA sg cO z3 z4 et en sZ rM eQ aa MK TN iF cF pm fJ HI HS
  try dsimp only
  rw[IE];clear IE HZ;gi_wp2_with fail;refine jz 16 (by kernel_rfl) (by kernel_rfl) (by kernel_rfl) (by rintro⟨_,_,h⟩;exact h) ?_;simp only[List.take_succ_cons,List.take_zero,List.drop_succ_cons,List.drop_zero]
  repeat still_step
  try refine wpStill_nil ?_
  change wpList _ _ _ _ _ W3.drew;go_wp2_with fail;have hv:min ((n1:Int)+(n2:Int)) ((L:Int)+1)=((min (n1+n2) (L+1):Nat):Int):=by omega
  rw[hv];have dO:=ru.out.set s ((min (n1+n2) (L+1):Nat):Int);rw[<-cN.out] at dO;obtain⟨V,hV⟩:∃V:Aq,O U ((min (n1+n2) (L+1):Nat):Int)=V:=⟨_,rfl⟩;rw[hV] at dO ⊢;have Vg:¬(hn<w.heap.size\/hn=bx):=by omega
  refine⟨(Qc ru.out s V).trans (qz (Ll _ _).drew),?_,(tH.out.setk hn s V (by omega) (by omega)).on (Ll _ _).drew,?_,?_,?_,?_⟩
  . have bC:=KeepB.setCell (W:=W3) (K:=fun k=>k<w.heap.size\/k=bx) (a:=⟨hn,s,Z⟩) Vg V
    exact bC.trans (KeepB.drew _ _)
  . exact(Lg W3 ⟨hn,s,Z⟩ V (hn+1) (by show hn+1≠hn;omega)).trans F9.out
  . show RowAt (W3.setCell ⟨hn,s,Z⟩ V) hn (xS a L k a.sts.length ((pre++[x]).map (·.1)))
    rw[LF];exact dO
  . show W2.heap.size<=(W3.setCell ⟨hn,s,Z⟩ V).heap.size
    exact LE Tm (zR W3 hn s V).size
  intro y hy;exact(Lg W3 ⟨hn,s,Z⟩ V y (by rintro rfl;have h5:=nU.out _ hy;rw[ru.out] at h5;cases h5)).trans (nU.out y hy)
 case done=>
  intro D ys W3 hD iS hI fG;obtain⟨iB,sh,iA,Tm,sg⟩:=hI;rw[iS,JN] at iA;have c8:=za sh 0 rfl;have q7:=za iB.b7 0 rfl;have f7:=zb iB.b7 0;have RY:=zc iB.b7;have tH:=zH iB;have ru:=zH iA;have nU:=zH sg;have tL:=zH fG;clear iB sh iA sg fG iS HI fJ iF cF pm HZ HS
  try dsimp only
  go_wp2_with fail;have Gv:=NmIn.swap tH.out ru.out (by omega) (by omega);rw[kj] at Gv;refine⟨K-(k+1),by omega,_,k+1,hn,_,_,_,_,_,_,_,_,_,⟨rfl,by omega,Gv,?_⟩,rfl⟩;refine Marks.cons TN.out (fun y hy=>?_) (by omega) hD ?_
  . exact(Lg W3 ⟨g7,0,Z⟩ _ y (by rintro rfl;have:=nU.out _ hy;rw[tH.out.b7] at this;cases this)).trans (nU.out y hy)
  exact(Lg W3 ⟨g7,0,Z⟩ _ D (by rintro rfl;have:=tL.out;rw[tH.out.b7] at this;cases this)).trans tL.out
 intro D c pre W _ _ h;exact h.elim
end
section
open Go.RowKit
attribute [local go_sem] Oper.semAt_some
theorem yG{a:Ad}(hf:FewA a)(h:xy a=0):zB a a.sts=0/\1<=a.sts.length/\yU a=Ar/\1<=a.n/\a.n<=5:=by
 by_cases h1:a.n<1\/5<a.n
 . rw[jN h1] at h;cases h
 by_cases h2:a.sts.length<1
 . rw[vK h1 h2] at h;cases h
 by_cases h3:zB a a.sts=0
 . rw[jO h1 (by omega) hf h3] at h
   by_cases h4:yU a=Ar
   . exact⟨h3,by omega,h4,by omega,by omega⟩
   rw[Li h4] at h;cases h
 rw[jM h1 (by omega) hf h3] at h;exact absurd h h3
def jf(L T:Nat):Int×Int:=if L<T then (0,17) else ((T:Int),0)
theorem j9(a:Ad)(hf:FewA a)(h:xy a=0)(K L:Nat)(hK:K<=6)(hL:L<=1048576)(SV:Bb)(ks:Nat)(w:Ba)(hS:SAt w w.heap.size SV a.sts) :
  An Al 78 #[Ai #[O U a.n,I SV a.sts.length ks],O U K,O U L] w fun e w'=>e=Ak (.tuple #[O U (jf L (zU a K 0)).1,O U (jf L (zU a K 0)).2])/\Am w.heap.size w w':=by
 obtain⟨z1,z2,_⟩:=yG hf h;have HC:=zH (fun (w':Ba) (h':SAt w' w'.heap.size SV a.sts)=>gt a hf SV ks w' h');rw[h] at HC;have HN:=zH (fun (w':Ba) (h':SAt w' w'.heap.size SV a.sts)=>XW a hf z1 z2 K L hK hL SV ks w' h');have GJ:=sat_gt L (zU a K 0);have tK:=zH (@sat_eq L (zU a K 0));have dQ:=vf L (zU a K 0);obtain⟨T,hT⟩:=Kh (zU a K 0);rw[hT] at HN tK GJ dQ ⊢;obtain⟨r,hr⟩:=Kh (yy L T);rw[hr] at HN tK GJ dQ;obtain⟨w1,ac⟩:=Kh (w.alloc (Ag #[O U a.n,I SV a.sts.length ks] 27));have aM:=zj w (Ag #[O U a.n,I SV a.sts.length ks] 27);have al:Am w.heap.size w w1:=by rw[<-ac];exact zN w _
 have df:w1.heap.size=w.heap.size+1:=by rw[<-ac];simp
 rw[ac] at aM;have bE:=zH aM;have aZ:=zH al;have HS:=zH ((hS.keep al).more (by omega:w.heap.size<=w1.heap.size));have ah:=zH ac;clear hS ac al aM;go_enter func78,ntmps78;go_wp2_with fail;rw[ah.out];go_wp2_with fail;refine(HC.out w1 HS.out).mono ?_;rintro e w2 ⟨rfl,af⟩;have aP:=zH (aZ.out.trans (af.mono (by omega)));have cI:=zH ((HS.out.keep af).more af.size);have be:=La af bE.out;obtain⟨q0,q1,_⟩:=Ka be;have ef:=af.size;clear af be HC ah;go_wp2_with fail
 all_goals first | (exfalso;omega) | skip
 refine(HN.out w2 cI.out).mono ?_;rintro e w3 ⟨rfl,am⟩;have bk:=zH (aP.out.trans (am.mono (by omega)))
 by_cases hg:L<T
 . have lq:L<r:=GJ.2 hg
   have hR:Ap (jf L T=(0,17)):=Lo hg;go_wp2_with fail
   all_goals first | (exfalso;omega) | skip
   go_ret2
   rw[hR.out];exact⟨rfl,bk.out⟩
 have lq:¬L<r:=fun h=>hg (GJ.1 h)
 have hr:r=T:=(tK.out (by omega)).symm▸rfl;have hR:Ap (jf L T=((T:Int),0)):=Li hg;subst hr;go_wp2_with fail
 all_goals first | (exfalso;omega) | skip
 go_ret2
 rw[hR.out];exact⟨rfl,bk.out⟩
theorem Xv(a:Ad)(hf:FewA a)(h:xy a=0)(K:Nat)(hK:K<=6)(SV:Bb)(ks:Nat)(w:Ba)(hS:SAt w w.heap.size SV a.sts) :
  An Al 77 #[Ai #[O U a.n,I SV a.sts.length ks],O U K] w fun e w'=>e=Ak (.tuple #[O U (jf 1048576 (zU a K 0)).1,O U (jf 1048576 (zU a K 0)).2])/\Am w.heap.size w w':=by
 have HN:=zH (fun (w':Ba) (h':SAt w' w'.heap.size SV a.sts)=>j9 a hf h K 1048576 hK (Lh _) SV ks w' h');obtain⟨r,hr⟩:=Kh (jf 1048576 (zU a K 0));rw[hr] at HN ⊢;have al:=zN w (Ag #[O U a.n,I SV a.sts.length ks] 27);have aZ:=zH al;have HS:=zH ((hS.keep al).more al.size);go_enter func77,ntmps77;go_wp2_with fail;refine(HN.out _ HS.out).mono ?_;rintro e w2 ⟨rfl,af⟩;have aP:=zH (aZ.out.trans (af.mono (by simp)));go_wp2_with fail
 go_ret2
 exact⟨rfl,aP.out⟩
theorem Jl(a:Ad)(hf:FewA a)(h:xy a=0)(K:Nat)(hK:K<=6)(hT:zU a K 0<=4096)(SV:Bb)(ks:Nat)(w:Ba)(hS:SAt w w.heap.size SV a.sts) :
  An Al 43 #[Ai #[O U a.n,I SV a.sts.length ks],O U K] w fun e w'=>∃A c,e=Ak (.tuple #[.slice A (zC a K 0).length c,O U 0])/\WAt w' w'.heap.size A (zC a K 0)/\Am w.heap.size w w':=by
 obtain⟨z1,z2,_⟩:=yG hf h;have HC:=zH (fun (w':Ba) (h':SAt w' w'.heap.size SV a.sts)=>j9 a hf h K 4096 hK (by omega) SV ks w' h');have hcut:jf 4096 (zU a K 0)=(((zU a K 0:Nat):Int),0):=Li (by omega);rw[hcut] at HC;have HL:=zH (yj a K 0);obtain⟨T,nK⟩:=Kh (zU a K 0);rw[nK] at HC HL hT;have HF:=zH (Y8 a K hK SV ks z1 hf K);obtain⟨w1,ac,d0,d1,aA,bZ⟩:=yr w #[O U a.n,I SV a.sts.length ks] #[O U (K:Int)] 27 3;have HS:=zH ((hS.keep bZ).more bZ.size);have ft:=zH hS;have bg:=zH bZ;have bD:=zH d0;have cH:=zH d1;have ah:=zH ac;clear ac d0 d1 bZ hS;go_enter func43,ntmps43;go_wp2_with fail;rw[ah.out];go_wp2_with fail;refine(HC.out w1 HS.out).mono ?_;rintro e w2 ⟨rfl,af⟩;have aP:=zH af;have D0:=zH (La af bD.out);have D1:=zH (La af cH.out);have ee:=af.size;obtain⟨i0,hi,cU,bN,cK⟩:=yu Qd;obtain⟨w3,fA,r1,r2⟩:=run_make_own (P:=Al) w2 w2.heap.size 109 46 i0 kWd.z 1 underlying109 hi cU bN U U T (by rw[cK];show 24*T<=_;omega) (by unfold maxLen;omega) (Lh _);have R1:=zH r1;have R2:=zH r2;go_wp2_with fail;have oT:=R2.out;have lp:=R2.out.size;obtain⟨w4,mw,e0,e1,mC,mO⟩:=yr w3 #[I (J ⟨w2.heap.size,0,Z⟩) 0 T] #[.func (.func 79) #[] #[Aj (J ⟨w.heap.size+1,0,Z⟩),Aj (J ⟨w3.heap.size,0,Z⟩),Aj (J ⟨w.heap.size,0,Z⟩),Aj (J ⟨w3.heap.size+1,0,Z⟩)]] 109 153;rw[mw]
 have B3:Am w2.heap.size w2 w3:=⟨oT.os,oT.tape,oT.output,oT.size,fun k hk=>oT.block k hk (by simp)⟩;have B4:Am w2.heap.size w2 w4:=B3.trans (mO.mono lp);have pC:=La B4 D0.out;have Ii:=La B4 D1.out;have iu:=zc D1.out;obtain⟨i1,hi,cU,bN,cK⟩:=yu ZZ;obtain⟨w5,fA,r1,r2⟩:=run_make_own (P:=Al) w4.drew w4.drew.heap.size 46 68 i1 kRd.z 7 PP hi cU bN U U K (by rw[cK];show 56*K<=_;omega) (by unfold maxLen;omega) (Lh _);have B5:Am w4.heap.size w4 w5:=Xm ⟨r2.os,r2.tape,r2.output,r2.size,fun k hk=>r2.block k hk (by simp)⟩;have UM:OwnR kRd w5 w4.heap.size (I (J ⟨w4.heap.size,0,Z⟩) 0 K) 0 []:=r1;have hl4:w3.heap.size+1<w4.heap.size:=by omega
 have aW:Ap (Am w.heap.size w w5):=(bg.out.trans ((aP.out.trans (B4.mono ee)).mono bg.out.size)).trans (B5.mono (by omega))
 have iR:Ap (FromIn a K SV ks w.heap.size (w.heap.size+1) w3.heap.size w.heap.size (w3.heap.size+1) w4.heap.size (I (J ⟨w2.heap.size,0,Z⟩) 0 T) [] [] w w5):=by
  refine⟨Lb B5 (by omega) Ii,Lb B5 (by omega) e0,Lb B5 (by omega) pC,Lb B5 (by omega) e1,?_,?_,?_,aW.out⟩
  . refine⟨[],rfl,?_,fun i h1 _=>absurd h1 (by simp)⟩
    have h3:OwnR kWd w3 w2.heap.size (I (J ⟨w2.heap.size,0,Z⟩) 0 T) 0 []:=R1.out;exact((h3.below mO (Lh _)).below B5 (Lh _)).low (by omega)
  . intro k hk
    have:w2.heap.size=k:=by simpa[Value.ownBlock] using hk
    have Kt:w2.heap.size<w3.heap.size:=(R1.out.lt w2.heap.size rfl).2;exact⟨by omega,by omega,by omega,by omega,by omega⟩
  exact UM.low (by omega)
 have f4:w4.cell? ⟨w3.heap.size+1,0,Z⟩=J (.func (.func 79) #[] #[Aj (J ⟨w.heap.size+1,0,Z⟩),Aj (J ⟨w3.heap.size,0,Z⟩),Aj (J ⟨w.heap.size,0,Z⟩),Aj (J ⟨w3.heap.size+1,0,Z⟩)]):=za e1 0 rfl;have k4:w4.cell? ⟨w.heap.size+1,0,Z⟩=J (O U K):=za Ii 0 rfl;have f5:=(B5.cell (p:=⟨w3.heap.size+1,0,Z⟩) (by show w3.heap.size+1<_;omega)).trans f4;have k5:=(B5.cell (p:=⟨w.heap.size+1,0,Z⟩) (by show w.heap.size+1<_;omega)).trans k4
 have ce:Ap (FromB w.heap.size (w.heap.size+1) w3.heap.size w.heap.size (w3.heap.size+1) w4.heap.size):=
  ⟨by omega,by omega,by omega,by omega,by omega,by omega,by omega,by omega,by omega,by omega,by omega,by omega⟩
 refine zk [(0,Ar),(1,Ar),(2,As),(3,As)]
  (fun W=>W.cell? ⟨w3.heap.size+1,0,Z⟩=J (.func (.func 79) #[] #[Aj (J ⟨w.heap.size+1,0,Z⟩),Aj (J ⟨w3.heap.size,0,Z⟩),Aj (J ⟨w.heap.size,0,Z⟩),Aj (J ⟨w3.heap.size+1,0,Z⟩)])/\W.cell? ⟨w.heap.size+1,0,Z⟩=J (O U K))
  (by kernel_rfl) (by kernel_rfl) ⟨f4,k4⟩ ?_
 repeat
  apply zy rfl
  . rintro K' ae W ⟨y0,y1⟩
    go_simp;exact ae
 refine zt rfl ?_;intro K' ae;go_simp;refine ae _ _ ⟨f5,k5⟩ ?_;refine yN rfl (by kernel_rfl) ?_;intro K' ae;go_simp;have Ic:=HF.out 0 [] [] (I (J ⟨w2.heap.size,0,Z⟩) 0 T) w.heap.size (w.heap.size+1) w3.heap.size w.heap.size (w3.heap.size+1) w4.heap.size w w5 (by simp) (.inr ⟨by omega,by omega⟩) (by have:=HL.out;simp;omega) ce.out ft.out iR.out;refine Ic.mono ?_;rintro e w6 ⟨⟨v6,rfl⟩,V6,H6⟩;rw[Nc,show yB [] (zC a K 0)=zC a K 0 by simp[yB]] at H6;refine ae (fun _=>True) _ _ trivial ?_;refine zE ?_;obtain⟨A6,c6,rfl,_,_,pW⟩:=gd H6.out;have o6:=za H6.hO 0 rfl;have dj:=zH H6.bel;have rh:=zH pW;go_wp2_with fail
 go_ret2
 exact⟨A6,c6,rfl,rh.out,dj.out⟩
end
section
open Go.RowKit
def RawL(B:Nat)(w:Ba)(A:Bb)(n:Nat)(cs:List Aq):Prop:=0<n->∃b off,A=J ⟨b,off,Z⟩/\b<B/\∀(j:Nat) (u:Aq),cs[j]?=J u->w.cell? ⟨b,off+j,Z⟩=J u
theorem RawL.raw{B:Nat}{w:Ba}{A:Bb}{n:Nat}{cs:List Aq}(h:RawL B w A n cs)(hB:B<=w.heap.size):Raw w A n cs:=fun h0=>by
 obtain⟨b,off,e,hb,hc⟩:=h h0;exact⟨b,off,e,by omega,hc⟩
theorem RawL.keep{B:Nat}{w w':Ba}{A:Bb}{n:Nat}{cs:List Aq}(h:RawL B w A n cs)(hb:Am B w w'):RawL B w' A n cs:=fun h0=>by
 obtain⟨b,off,e,aa,hc⟩:=h h0;exact⟨b,off,e,aa,fun j u hu=>(hb.cell (p:=⟨b,_,Z⟩) aa).trans (hc j u hu)⟩
def CAtL(L0 B0:Nat)(w:Ba)(A:Bb)(xs:List Cs):Prop:=∃cs:List Aq,cs.length=xs.length*3/\RawL B0 w A xs.length cs/\(∀u∈cs,u.oneCell'=Ar) /\
  ∀(i:Nat) (hi:i<xs.length),∃d,cCs.lies (fun k=>L0<=k/\k<B0) w d xs[i]/\∀j u,d[j]?=J u->cs[i*3+j]?=J u
def SAtL(L0 B0:Nat)(w:Ba)(A:Bb)(xs:List (List Mv)):Prop:=∃cs:List Aq,cs.length=xs.length*1/\RawL B0 w A xs.length cs/\(∀u∈cs,u.oneCell'=Ar) /\
  ∀(i:Nat) (hi:i<xs.length),∃d,cMl.lies (fun k=>L0<=k/\k<B0) w d xs[i]/\∀j u,d[j]?=J u->cs[i*1+j]?=J u
section
variable {L0 B0:Nat} {w w':Ba} {A:Bb}
theorem CAtL.keep{xs:List Cs}(h:CAtL L0 B0 w A xs)(hb:Am B0 w w'):CAtL L0 B0 w' A xs:=by
 obtain⟨cs,h1,h2,h3,h4⟩:=h;refine⟨cs,h1,h2.keep hb,h3,fun i hi=>?_⟩;obtain⟨d,h5,h6⟩:=h4 i hi;exact⟨d,xu.keep h5 ⟨hb.size,fun k hk _=>hb.block k hk.2⟩,h6⟩
theorem SAtL.keep{xs:List (List Mv)}(h:SAtL L0 B0 w A xs)(hb:Am B0 w w'):SAtL L0 B0 w' A xs:=by
 obtain⟨cs,h1,h2,h3,h4⟩:=h;refine⟨cs,h1,h2.keep hb,h3,fun i hi=>?_⟩;obtain⟨d,h5,h6⟩:=h4 i hi;exact⟨d,qo.keep h5 ⟨hb.size,fun k hk _=>hb.block k hk.2⟩,h6⟩
theorem CAtL.raw{xs:List Cs}(h:CAtL L0 B0 w A xs)(hB:B0<=w.heap.size):∃cs:List Aq,cs.length=xs.length*3/\Raw w A xs.length cs/\(∀u∈cs,u.oneCell'=Ar) /\
  ∀(i:Nat) (hi:i<xs.length),∃d,cCs.lies (fun k=>L0<=k/\k<B0) w d xs[i]/\∀j u,d[j]?=J u->cs[i*3+j]?=J u:=by
 obtain⟨cs,h1,h2,h3,h4⟩:=h;exact⟨cs,h1,h2.raw hB,h3,h4⟩
theorem SAtL.raw{xs:List (List Mv)}(h:SAtL L0 B0 w A xs)(hB:B0<=w.heap.size):∃cs:List Aq,cs.length=xs.length*1/\Raw w A xs.length cs/\(∀u∈cs,u.oneCell'=Ar) /\
  ∀(i:Nat) (hi:i<xs.length),∃d,cMl.lies (fun k=>L0<=k/\k<B0) w d xs[i]/\∀j u,d[j]?=J u->cs[i*1+j]?=J u:=by
 obtain⟨cs,h1,h2,h3,h4⟩:=h;exact⟨cs,h1,h2.raw hB,h3,h4⟩
theorem CAtL.of{xs:List Cs}(h:CAt w B0 A xs)(hB:B0<=w.heap.size):CAtL 0 B0 w A xs:=by
 obtain⟨cs,h1,h2,h3,h4⟩:=h.raw hB;refine⟨cs,h1,fun h0=>?_,h3,fun i hi=>?_⟩
 . obtain⟨b,off,e,_,hc⟩:=h2 h0
   obtain⟨b',ie,e',dn,_⟩:=h h0;rw[e] at e';simp only[Option.some.injEq,Addr.mk.injEq,and_true] at e';exact⟨b,off,e,by omega,hc⟩
 obtain⟨d,h5,h6⟩:=h4 i hi;exact⟨d,xu.mono h5 fun k _ hk=>⟨Nw _,hk⟩,h6⟩
theorem SAtL.of{xs:List (List Mv)}(h:SAt w B0 A xs)(hB:B0<=w.heap.size):SAtL 0 B0 w A xs:=by
 obtain⟨cs,h1,h2,h3,h4⟩:=h.raw hB;refine⟨cs,h1,fun h0=>?_,h3,fun i hi=>?_⟩
 . obtain⟨b,off,e,_,hc⟩:=h2 h0
   obtain⟨b',ie,e',dn,_⟩:=h h0;rw[e] at e';simp only[Option.some.injEq,Addr.mk.injEq,and_true] at e';exact⟨b,off,e,by omega,hc⟩
 obtain⟨d,h5,h6⟩:=h4 i hi;exact⟨d,qo.mono h5 fun k _ hk=>⟨Nw _,hk⟩,h6⟩
end
end
section
open Go.RowKit
attribute [local go_sem] Oper.semAt_some
structure CpIn(B:Nat)(p:Pb)(A:Bb)(kc:Nat)(SV:Bb)(ks:Nat)(Ae:Array Aq)(w W:Ba):Prop where
 bel:Am B w W
 b0:W.heap[B]?=J (Ag (p.vs A kc SV ks) 29 (0,0))
 b1:W.heap[B+1]?=J (Ag Ae 29 (0,0))
def Nbx(L0 B0 B k:Nat):Prop:=k≠B/\k≠B+1/\((L0<=k/\k<B0)\/B<=k)
theorem CpIn.on{B:Nat}{p:Pb}{A:Bb}{kc:Nat}{SV:Bb}{ks:Nat}{Ae:Array Aq}{w W W':Ba}(h:CpIn B p A kc SV ks Ae w W)(hb:Am W.heap.size W W'):CpIn B p A kc SV ks Ae w W':=by
 have:=zc h.b1;exact⟨h.bel.trans (hb.mono (by omega)),Lb hb (by omega) h.b0,Lb hb (by omega) h.b1⟩
theorem CpIn.set{B:Nat}{p:Pb}{A:Bb}{kc:Nat}{SV:Bb}{ks:Nat}{Ae:Array Aq}{w W:Ba}(h:CpIn B p A kc SV ks Ae w W){g:Nat}(hg:B+1<g)(o:Nat)(v:Aq):CpIn B p A kc SV ks Ae w (W.setCell ⟨g,o,Z⟩ v):=
 ⟨h.bel.setCell (by show B<=g;omega) _,(Lg W _ v B (by show B≠g;omega)).trans h.b0,(Lg W _ v (B+1) (by show B+1≠g;omega)).trans h.b1⟩
theorem Qy(p:Pb)(hf:Ya p)(hc1:1<=p.t.cases.length)(aA:1<=p.a.sts.length)(A:Bb)(kc:Nat)(SV:Bb)(ks:Nat)(w:Ba)(L0 B0:Nat)(bX:B0<=w.heap.size)(hA:CAtL L0 B0 w A p.t.cases)(hS:SAtL L0 B0 w SV p.a.sts) :
  An Al 44 #[.agg (p.vs A kc SV ks)] w fun e w'=>∃g DH gm DF,e=Ak (.agg (p.vs (J ⟨g,0,Z⟩) DH (J ⟨gm,0,Z⟩) DF))/\RowX cCs (fun b=>(L0<=b/\b<B0)\/w.heap.size<=b) w' g p.t.cases/\RowX cMl (fun b=>(L0<=b/\b<B0)\/w.heap.size<=b) w' gm p.a.sts/\w.heap.size<=g/\w.heap.size<=gm/\Am w.heap.size w w':=by
 have hfc:=hf.1.1;have hfs:=hf.2.1;obtain⟨w1,ac,d0,d1,hsz,bZ⟩:=yr w (p.vs A kc SV ks) #[O U 0,O U 0,O U 0,I Z 0 0,O U 0,I Z 0 0,O U 0] 29 29;have BF:=bZ.mono bX;have HS:=zH (hS.keep BF);have rJ:B0<=w1.heap.size:=by have:=bZ.size;omega
 obtain⟨MJ,MM,ML,MO,MN⟩:=(hA.keep BF).raw rJ;have HC:=zH (clone_kCs A p.t.cases.length kc MJ w1 MM ML MO (by omega));have bg:=zH bZ;have bD:=zH d0;have cH:=zH d1;have Dw:=zH MN;have HFT:=zH hf.1;have Ia:=zH hf.2;unfold Pb.vs at ac d0;have p3:=za d0 3 rfl;have f3:=zb d0 3;have ah:=zH ac;clear ac d0 d1 bZ BF;unfold Pb.vs;go_enter func44,ntmps44;go_wp2_with fail;rw[ah.out];refine HC.out.mono ?_;rintro e w2 ⟨v2,rfl,iX,af⟩;obtain⟨A2,c2,rfl,hc2,fT,lq⟩:=iX.form;obtain⟨g,rfl,_,dx,_⟩:=lq (by omega);have GK:w1.heap.size<=g:=(iX.lt g rfl).1;have ee:=af.size;have eQ:w.heap.size+1<g:=by omega
 have R2:RowX cCs (Nbx L0 B0 w.heap.size) w2 g p.t.cases:=RowX.of_own xu iX rfl rfl (fun i hi=>by
  obtain⟨d,h1,h2⟩:=Dw.out i hi
  refine⟨d,xu.mono (xu.keep h1 ⟨af.size,fun k hk _=>af.block k (by omega)⟩) fun k _ hk=>⟨⟨by omega,by omega⟩,by omega⟩,h2⟩)
 have D0:=La af bD.out;have D1:=La af cH.out;have p3:=za D0 3 rfl;have f3:=zb D0 3;obtain⟨W3,dE⟩:=Kh (w2.setCell ⟨w.heap.size,3,Z⟩ (I (J ⟨g,0,Z⟩) p.t.cases.length c2))
 have H3:Ap (CpIn w.heap.size p (J ⟨g,0,Z⟩) c2 SV ks #[O U 0,O U 0,O U 0,I Z 0 0,O U 0,I Z 0 0,O U 0] w W3):=by
  rw[<-dE];refine⟨(bg.out.trans (af.mono (by omega))).setCell (Lh _) _,?_,(Lg w2 _ _ (w.heap.size+1) (by show w.heap.size+1≠w.heap.size;omega)).trans D1⟩;rw[Lk w2 w.heap.size 3 _ _ _ D0]
  rfl
 have R3:Ap (RowX cCs (Nbx L0 B0 w.heap.size) W3 g p.t.cases):=by rw[<-dE];exact R2.other xu 3 _ (by omega) (fun h=>h.1 rfl)
 have mP:Ap (SAtL L0 B0 W3 SV p.a.sts):=HS.out.keep (by
  rw[<-dE]
  exact((Below.mono af (show w.heap.size<=w1.heap.size by omega)).setCell (Lh _) _).mono bX)
 have q3:W3.cell? ⟨w.heap.size,3,Z⟩=J (I (J ⟨g,0,Z⟩) p.t.cases.length c2):=za H3.out.b0 3 rfl;clear R2 D0 D1 iX af hc2 fT HC Dw;go_wp2_with fail;clear p3 f3 dE q3
 go_loopw [17] (fun i wr=>∃k:Nat,k<=p.t.cases.length/\i=O U (k:Int)/\Ap (CpIn w.heap.size p (J ⟨g,0,Z⟩) c2 SV ks #[O U 0,O U 0,O U 0,I Z 0 0,O U 0,I Z 0 0,O U 0] w wr)/\Ap (RowX cCs (Nbx L0 B0 w.heap.size) wr g p.t.cases)/\Ap (SAtL L0 B0 wr SV p.a.sts)) (fun i _=>p.t.cases.length-(Ao i).toNat)
 case atStart=>exact⟨0,by omega,rfl,H3.out,R3.out,mP.out⟩
 obtain⟨k,hk,rfl,HI,HR,TW⟩:=hrel
 by_cases aU:k<p.t.cases.length
 case neg=>
  obtain rfl:k=p.t.cases.length:=by omega
  have b0:=HI.out.b0;have q5:wr.cell? ⟨w.heap.size,5,Z⟩=J (I SV p.a.sts.length ks):=za b0 5 rfl;have rL:=HI.out.bel.size;obtain⟨MJ,MM,ML,MO,MN⟩:=TW.out.raw (by omega);have HC:=zH (clone_kMl SV p.a.sts.length ks MJ wr MM ML MO (by omega));have Dw:=zH MN;have aV:=zc HI.out.b1;go_wp2_with fail;refine HC.out.mono ?_;rintro e CG ⟨v2,rfl,iX,af⟩;obtain⟨A2,c3,rfl,_,_,lq⟩:=iX.form;obtain⟨gm,rfl,_,VK,_⟩:=lq (by omega);have VP:wr.heap.size<=gm:=(iX.lt gm rfl).1;have EK:g<wr.heap.size:=HR.out.lt
  have R2:RowX cMl (fun b=>Nbx L0 B0 w.heap.size b/\b≠g) CG gm p.a.sts:=RowX.of_own qo iX rfl rfl (fun i hi=>by
   obtain⟨d,h1,h2⟩:=Dw.out i hi
   exact⟨d,qo.mono (qo.keep h1 ⟨af.size,fun k hk _=>af.block k (by omega)⟩) fun k _ hk=>⟨⟨⟨by omega,by omega⟩,by omega⟩,by omega⟩,h2⟩)
  have I2:=HI.out.on af;have Im:CG.cell? ⟨w.heap.size,5,Z⟩=J (I SV p.a.sts.length ks):=za I2.b0 5 rfl;have f5':=zb I2.b0 5;have RC:RowX cCs (fun b=>Nbx L0 B0 w.heap.size b/\b≠gm) CG g p.t.cases:=(HR.out.mono xu fun b hb hs=>⟨hs,by omega⟩).below xu af (Lh _);obtain⟨W3,dE⟩:=Kh (CG.setCell ⟨w.heap.size,5,Z⟩ (I (J ⟨gm,0,Z⟩) p.a.sts.length c3))
  have H3:Ap (CpIn w.heap.size p (J ⟨g,0,Z⟩) c2 (J ⟨gm,0,Z⟩) c3 #[O U 0,O U 0,O U 0,I Z 0 0,O U 0,I Z 0 0,O U 0] w W3):=by
   rw[<-dE];refine⟨I2.bel.setCell (Lh _) _,?_,(Lg CG _ _ (w.heap.size+1) (by show w.heap.size+1≠w.heap.size;omega)).trans I2.b1⟩;rw[Lk CG w.heap.size 5 _ _ _ I2.b0]
   rfl
  have R3:Ap (RowX cMl (fun b=>Nbx L0 B0 w.heap.size b/\b≠g) W3 gm p.a.sts):=by rw[<-dE];exact R2.other qo 5 _ (by omega) (fun h=>h.1.1 rfl)
  have RC3:Ap (RowX cCs (fun b=>Nbx L0 B0 w.heap.size b/\b≠gm) W3 g p.t.cases):=by rw[<-dE];exact RC.other xu 5 _ (by omega) (fun h=>h.1.1 rfl)
  have q6:W3.cell? ⟨w.heap.size,5,Z⟩=J (I (J ⟨gm,0,Z⟩) p.a.sts.length c3):=za H3.out.b0 5 rfl;go_wp2_with fail
  go_loopw [48] (fun i wx=>∃k:Nat,k<=p.a.sts.length/\i=O U (k:Int)/\Ap (CpIn w.heap.size p (J ⟨g,0,Z⟩) c2 (J ⟨gm,0,Z⟩) c3 #[O U 0,O U 0,O U 0,I Z 0 0,O U 0,I Z 0 0,O U 0] w wx)/\Ap (RowX cMl (fun b=>Nbx L0 B0 w.heap.size b/\b≠g) wx gm p.a.sts)/\Ap (RowX cCs (fun b=>Nbx L0 B0 w.heap.size b/\b≠gm) wx g p.t.cases)) (fun i _=>p.a.sts.length-(Ao i).toNat)
  case atStart=>exact⟨0,by omega,rfl,H3.out,R3.out,RC3.out⟩
  obtain⟨k,hk,rfl,HI,HR,FQ⟩:=hrel
  by_cases aU:k<p.a.sts.length
  case neg=>
   obtain rfl:k=p.a.sts.length:=by omega
   have b0:=HI.out.b0;have b1:=HI.out.b1;have c0:wr.cell? ⟨w.heap.size,0,Z⟩=J (O U p.t.n):=za b0 0 rfl;have c1:wr.cell? ⟨w.heap.size,1,Z⟩=J (O U p.t.ins):=za b0 1 rfl;have c2':wr.cell? ⟨w.heap.size,2,Z⟩=J (O U p.t.outs):=za b0 2 rfl;have c3':wr.cell? ⟨w.heap.size,3,Z⟩=J (I (J ⟨g,0,Z⟩) p.t.cases.length c2):=za b0 3 rfl;have c4:wr.cell? ⟨w.heap.size,4,Z⟩=J (O U p.a.n):=za b0 4 rfl;have c5:wr.cell? ⟨w.heap.size,5,Z⟩=J (I (J ⟨gm,0,Z⟩) p.a.sts.length c3):=za b0 5 rfl;have c6:wr.cell? ⟨w.heap.size,6,Z⟩=J (O U p.k):=za b0 6 rfl;obtain⟨e0,e1,e2,e3,e4,e5,e6,_⟩:=Kf b1;have z0:=zb b1 0;have z1:=zb b1 1;have z2:=zb b1 2;have z3:=zb b1 3;have z4:=zb b1 4;have z5:=zb b1 5;have z6:=zb b1 6;clear b0 b1;have OG:=zH HI.out.bel;have Gh:=zH FQ.out;have cN:=zH HR.out;have VO:=FQ.out.lt;have VN:=HR.out.lt;have VM:w.heap.size+1<gm:=by omega
   have Ch:=zH (fun (o:Nat) (v:Aq) (W:Ba) (h:RowX cCs (fun b=>Nbx L0 B0 w.heap.size b/\b≠gm) W g p.t.cases)=>h.other xu o v (show w.heap.size+1≠g by omega) (fun h=>h.1.2.1 rfl));have pj:=zH (fun (o:Nat) (v:Aq) (W:Ba) (h:RowX cMl (fun b=>Nbx L0 B0 w.heap.size b/\b≠g) W gm p.a.sts)=>h.other qo o v (show w.heap.size+1≠gm by omega) (fun h=>h.1.2.1 rfl));clear HI HR FQ;go_wp2_with fail;refine L6 (v:=.agg (p.vs (J ⟨g,0,Z⟩) c2 (J ⟨gm,0,Z⟩) c3)) (by simp[results,results44,go_sem,e0,e1,e2,e3,e4,e5,e6,Pb.vs]) rfl ?_;refine⟨g,c2,gm,c3,rfl,?_,?_,by omega,by omega,?_⟩
   . refine RowX.mono (S:=fun b=>Nbx L0 B0 w.heap.size b/\b≠gm) xu ?_ (fun b _ hs=>hs.1.2.2)
     exact Ch.out _ _ _ (Ch.out _ _ _ (Ch.out _ _ _ (Ch.out _ _ _ (Ch.out _ _ _ (Ch.out _ _ _ (Ch.out _ _ _ (Gh.out)))))))
   . refine RowX.mono (S:=fun b=>Nbx L0 B0 w.heap.size b/\b≠g) qo ?_ (fun b _ hs=>hs.1.2.2)
     exact pj.out _ _ _ (pj.out _ _ _ (pj.out _ _ _ (pj.out _ _ _ (pj.out _ _ _ (pj.out _ _ _ (pj.out _ _ _ (cN.out)))))))
   have AI:w.heap.size<=w.heap.size+1:=by omega
   exact(((((((OG.out).setCell AI _).setCell AI _).setCell AI _).setCell AI _).setCell AI _).setCell AI _).setCell AI _
  obtain⟨dM,dL,iN⟩:=HR.out;obtain⟨cs,⟨A0,k0,rfl,i0⟩,bJ⟩:=iN k aU
  have x0:wr.cell? ⟨gm,k,Z⟩=J (I A0 p.a.sts[k].length k0):=by
   have:=bJ 0 _ rfl;change dM[k*1+0]?=_ at this;exact za dL _ (by rw[<-this];congr 1;omega)
  have cA:(0:Int)<=(k:Int):=by omega
  have bC:(k:Int)<(p.a.sts.length:Int):=by omega
  have oS:gm<wr.heap.size:=zc dL;have GZ:=zc HI.out.b1;have oN:=Ia.out.each (Ld aU);obtain⟨x,hx⟩:=Kh (p.a.sts[k]);have nO:=zH hx;rw[hx] at x0 i0 oN;have HC:=zH (clone_kMv A0 x.length k0 (qG x) wr.drew (jt x) (X4 (w:=wr.drew) i0.mat) (X6 x) (by omega));have q5:wr.cell? ⟨w.heap.size,5,Z⟩=J (I (J ⟨gm,0,Z⟩) p.a.sts.length c3):=za HI.out.b0 5 rfl;go_wp2_with fail
  refine zk [(0,Ar),(1,Ar),(2,Ar),(3,Ar),(4,Ar),(5,As),(6,As),(7,As)]
   (fun W=>W.cell? ⟨w.heap.size,5,Z⟩=J (I (J ⟨gm,0,Z⟩) p.a.sts.length c3)) (by kernel_rfl) (by kernel_rfl) (by exact q5) ?_
  repeat
   apply zy rfl
   . rintro K' ae W y0
     go_simp;exact ae
  refine zt rfl ?_;intro K' ae;go_simp;refine HC.out.mono ?_;rintro e w5 ⟨v5,rfl,mX,ap⟩;have ap:Am wr.heap.size wr w5:=Xm ap;have mX:OwnR kMv w5 wr.heap.size v5 x.length (qG x):=mX;obtain⟨A5,c5,rfl,_,_,mH⟩:=X5 mX;have I5:=HI.out.on ap;have Im:w5.cell? ⟨w.heap.size,5,Z⟩=J (I (J ⟨gm,0,Z⟩) p.a.sts.length c3):=za I5.b0 5 rfl;refine ae _ _ Im ?_;refine zt rfl ?_;intro K' ae;go_simp;refine ae _ _ Im ?_;clear ae K';have FR:=HR.out.below qo ap (Lh _);obtain⟨dM,dL,iN⟩:=FR;obtain⟨cs,⟨Q0,n0,rfl,_⟩,bJ⟩:=iN k aU
  have x1:w5.cell? ⟨gm,k,Z⟩=J (I Q0 p.a.sts[k].length n0):=by
   have:=bJ 0 _ rfl;change dM[k*1+0]?=_ at this;exact za dL _ (by rw[<-this];congr 1;omega)
  have y1:=zb dL k
  have hX:cMl.lies (fun b=>(fun b=>Nbx L0 B0 w.heap.size b/\b≠g) b/\b≠gm) w5 [I A5 x.length c5] p.a.sts[k]:=by
   rw[nO.out];have dx:=FQ.out.lt;exact⟨A5,c5,rfl,mH.mono fun b _ hb=>⟨⟨⟨by omega,by omega⟩,by omega⟩,by omega⟩⟩
  have Nr:=zH (RowX.set1 qo rfl (HR.out.below qo ap (Lh _)) aU hX);have Fk:w.heap.size+1<gm:=by omega
  have Oo:=zH (I5.set Fk k (I A5 x.length c5));have KJ:gm≠g:=by omega
  have ND:=zH ((FQ.out.below xu ap (Lh _)).other xu k (I A5 x.length c5) KJ (fun h=>h.2 rfl));refine yN rfl (by kernel_rfl) ?_;intro K' ae;go_simp;refine ae (fun _=>True) _ _ trivial ?_;refine zE ?_;go_wp2_with fail
  go_roundw
  case rel=>exact⟨k+1,by omega,by go_num,Oo,Nr,ND⟩
  simp[Ao];omega
 obtain⟨dM,dL,iN⟩:=HR.out;obtain⟨cs,⟨A0,k0,A1,k1,A2,k2,rfl,i0,l1,l2⟩,bJ⟩:=iN k aU;have x0:wr.cell? ⟨g,k*3,Z⟩=J (I A0 p.t.cases[k].inp.length k0):=za dL _ (bJ 0 _ rfl);have x1:wr.cell? ⟨g,k*3+1,Z⟩=J (I A1 p.t.cases[k].out.length k1):=za dL _ (bJ 1 _ rfl);have x2:wr.cell? ⟨g,k*3+2,Z⟩=J (I A2 p.t.cases[k].calm.length k2):=za dL _ (bJ 2 _ rfl);have cA:(0:Int)<=(k:Int):=by omega
 have bC:(k:Int)<(p.t.cases.length:Int):=by omega
 have oS:g<wr.heap.size:=zc dL;have GZ:=zc HI.out.b1;have Dr:=HFT.out.2 p.t.cases[k] (Ld aU);obtain⟨x,hx⟩:=Kh (p.t.cases[k]);have nO:=zH hx;rw[hx] at x0 x1 x2 i0 l1 l2 Dr;go_wp2_with fail;obtain⟨W4,C4,g0,tY,mO⟩:=zh wr #[I A0 x.inp.length k0,I A1 x.out.length k1,I A2 x.calm.length k2] 63;rw[C4];have H4:=HI.out.on mO;have p4:W4.cell? ⟨w.heap.size,3,Z⟩=J (I (J ⟨g,0,Z⟩) p.t.cases.length c2):=za H4.b0 3 rfl;have Ov:=zH i0.iat;have F6:=zH l1.lat;have lg:=zH l2.lat;have nz:=zH mO;have rx:=zH g0;have WC:w.heap.size<W4.heap.size:=by omega
 clear i0 l1 l2 mO H4
 refine zk [(0,Ar),(1,Ar),(2,Ar),(3,Ar),(4,Ar),(5,Ar),(7,Ar),(8,Ar),(10,Ar),(11,Ar),(6,As),(9,As),(12,As),(13,As),(14,As),(15,As)]
  (fun W=>W.cell? ⟨w.heap.size,3,Z⟩=J (I (J ⟨g,0,Z⟩) p.t.cases.length c2)/\W.heap[wr.heap.size]?=J (Ag #[I A0 x.inp.length k0,I A1 x.out.length k1,I A2 x.calm.length k2] 63 (0,0)))
  (by kernel_rfl) (by kernel_rfl) ⟨p4,g0⟩ ?_
 repeat
  apply zy rfl
  . rintro K' ae W ⟨y0,y1⟩
    have z0:W.cell? ⟨wr.heap.size,0,Z⟩=J (I A0 x.inp.length k0):=za y1 0 rfl;have z1:W.cell? ⟨wr.heap.size,1,Z⟩=J (I A1 x.out.length k1):=za y1 1 rfl;have z2:W.cell? ⟨wr.heap.size,2,Z⟩=J (I A2 x.calm.length k2):=za y1 2 rfl;clear y1;go_simp;exact ae
 clear p4 g0;have II:=nz.out.size
 -- the inputs
 refine zt rfl ?_;intro K' ae;go_simp;refine(wX A0 k0 x.inp W4.drew (((Ov.out.keep nz.out).more II)) (by have:=Dr.1;omega)).mono ?_;rintro e w5 ⟨A5,c5,rfl,KG,ap⟩;have ap:Am W4.heap.size W4 w5:=Xm ap;have aW:=zH ap;have KG:IAtS (fun b=>W4.heap.size<=b) w5 A5 x.inp:=KG;have nU:=zH KG;have UT:=ap.size;have E5:Am wr.heap.size wr w5:=nz.out.trans (ap.mono (by omega));refine ae _ _ ⟨za (HI.out.on E5).b0 3 rfl,Lb ap (by omega) rx.out⟩ ?_
 -- the outputs
 refine zt rfl ?_;intro K' ae;go_simp;refine(vQ A1 k1 x.out w5 ((F6.out.keep E5).more E5.size) (by have:=Dr.2.1.1;omega) (fun v hv=>by have:=Dr.2.1.2 v hv;omega)).mono ?_;rintro e w6 ⟨v6,rfl,AD,bz⟩;obtain⟨A6,c6,rfl,_,_,GE⟩:=Xk AD;have dj:=zH bz;have Ds:=zH GE;have IH:=bz.size;have E6:Am wr.heap.size wr w6:=Lc E5 bz;refine ae _ _ ⟨za (HI.out.on E6).b0 3 rfl,Lb bz (by omega) (Lb aW.out (by omega) rx.out)⟩ ?_
 -- the calm ones
 refine zt rfl ?_;intro K' ae;go_simp;refine(vQ A2 k2 x.calm w6 ((lg.out.keep E6).more E6.size) (by have:=Dr.2.2.1;omega) (fun v hv=>by have:=Dr.2.2.2 v hv;omega)).mono ?_;rintro e w7 ⟨v7,rfl,CP,cM⟩;obtain⟨A7,c7,rfl,_,_,RY⟩:=Xk CP;have ec:=zH cM;have HL7:=zH RY;have E7:Am wr.heap.size wr w7:=Lc E6 cM;have Us:=zH E7;refine ae _ _ ⟨za (HI.out.on E7).b0 3 rfl,Lb cM (by omega) (Lb dj.out (by omega) (Lb aW.out (by omega) rx.out))⟩ ?_;have T6:=zH (HR.out.below xu E7 (Lh _));obtain⟨dM,dL,iN⟩:=T6.out;obtain⟨cs,⟨Q0,n0,B1,n1,B2,n2,rfl,_,_,_⟩,bJ⟩:=iN k aU;have x0:w7.cell? ⟨g,k*3,Z⟩=J (I Q0 p.t.cases[k].inp.length n0):=za dL _ (bJ 0 _ rfl);have x1:w7.cell? ⟨g,k*3+1,Z⟩=J (I B1 p.t.cases[k].out.length n1):=za dL _ (bJ 1 _ rfl);have x2:w7.cell? ⟨g,k*3+2,Z⟩=J (I B2 p.t.cases[k].calm.length n2):=za dL _ (bJ 2 _ rfl);have y0:=zb dL (k*3);have y1:=zb dL (k*3+1);have y2:=zb dL (k*3+2);have q3:w7.cell? ⟨w.heap.size,3,Z⟩=J (I (J ⟨g,0,Z⟩) p.t.cases.length c2):=za (HI.out.on E7).b0 3 rfl;have Uj:=zH ((cM.block wr.heap.size (by omega)).trans (Lb dj.out (by omega) (Lb aW.out (by omega) rx.out)));refine zt rfl ?_;intro K' ae;go_simp;refine ae _ _ ⟨q3,Uj.out⟩ ?_;refine zt rfl ?_;intro K' ae;go_simp;refine ae _ _ ⟨q3,Uj.out⟩ ?_;refine yN rfl (by kernel_rfl) ?_;intro K' ae;go_simp
 refine ae (fun _=>True) _ _ trivial ?_;refine zE ?_
 have hX:cCs.lies (fun b=>Nbx L0 B0 w.heap.size b/\b≠g) w7 [I A5 x.inp.length c5,I A6 x.out.length c6,I A7 x.calm.length c7] p.t.cases[k]:=by
  rw[nO.out];refine⟨A5,c5,A6,c6,A7,c7,rfl,?_,?_,?_⟩
  . exact(nU.out.on (dj.out.trans (ec.out.mono IH))).mono fun b _ hb=>⟨⟨by omega,by omega⟩,by omega⟩
  . exact(Ds.out.on ec.out).mono fun b _ hb=>⟨⟨by omega,by omega⟩,by omega⟩
  exact HL7.out.mono fun b _ hb=>⟨⟨by omega,by omega⟩,by omega⟩
 have Nr:=zH (T6.out.set3 aU hX);have Fk:w.heap.size+1<g:=eQ;have Oo:=zH ((((HI.out.on Us.out).set Fk (k*3) (I A5 x.inp.length c5)).set Fk (k*3+1) (I A6 x.out.length c6)).set Fk (k*3+2) (I A7 x.calm.length c7))
 have HSn:Ap (SAtL L0 B0 (((w7.setCell ⟨g,k*3,Z⟩ (I A5 x.inp.length c5)).setCell ⟨g,k*3+1,Z⟩ (I A6 x.out.length c6)).setCell ⟨g,k*3+2,Z⟩ (I A7 x.calm.length c7)) SV p.a.sts):=
  TW.out.keep (((((Us.out.mono (by omega:w.heap.size<=wr.heap.size)).setCell (by show w.heap.size<=g;omega) _).setCell (by show w.heap.size<=g;omega) _).setCell (by show w.heap.size<=g;omega) _).mono bX)
 go_wp2_with fail
 go_roundw
 case rel=>exact⟨k+1,by omega,by go_num,Oo,Nr,HSn⟩
 simp[Ao];omega
theorem zM{p:Pb}(h:zL p=0):zX p.t=0/\xy p.a=0/\p.t.n=p.a.n/\0<=p.k/\p.k<=6:=by
 by_cases h1:zX p.t=0
 case neg=>rw[jC h1] at h;exact absurd h h1
 by_cases h2:xy p.a=0
 case neg=>rw[vm h1 h2] at h;exact absurd h h2
 by_cases h3:p.t.n=p.a.n
 case neg=>rw[ZM h1 h2 h3] at h;cases h
 by_cases h4:p.k<0\/6<p.k
 . rw[ZN h1 h2 h3 h4] at h;cases h
 exact⟨h1,h2,h3,by omega,by omega⟩
theorem yv{t:Tk}(h:zX t=0):1<=t.cases.length/\1<=t.n/\t.n<=5:=by
 unfold zX at h
 split at h
 . cases h
 split at h
 . cases h
 omega
def zT(p:Pb):Nat:=zU p.a p.k.toNat 0*p.t.cases.length
def jJ(p:Pb):Int×Int:=if zL p≠0 then (0,zL p) else jf 1048576 (zT p)
theorem Qx(p:Pb)(hf:Ya p)(A:Bb)(kc:Nat)(SV:Bb)(ks:Nat)(w:Ba)(hA:CAt w w.heap.size A p.t.cases)(hS:SAt w w.heap.size SV p.a.sts) :
  An Al 42 #[.agg (p.vs A kc SV ks)] w fun e w'=>e=Ak (.tuple #[O U (jJ p).1,O U (jJ p).2])/\Am w.heap.size w w':=by
 have HP:=zH (fun (w':Ba) (h:CAt w' w'.heap.size A p.t.cases) (h2:SAt w' w'.heap.size SV p.a.sts)=>XU p hf A kc SV ks w' h h2);have HF:=zH (@zM p);have nh:=hf.1.1;have pA:=zH (fun (h:xy p.a=0) (K:Nat) (hK:K<=6) (w':Ba) (h':SAt w' w'.heap.size SV p.a.sts)=>Xv p.a hf.2 h K hK SV ks w' h');have aq:Ap (zL p≠0->jJ p=(0,zL p)):=fun h=>Lo h
 have ai:Ap (zL p=0->jJ p=jf 1048576 (zT p)):=fun h=>Li (by simpa using h)
 obtain⟨E,hE⟩:=Kh (jJ p);rw[hE] at aq ai ⊢;obtain⟨pe,iq⟩:=Kh (zL p);rw[iq] at aq ai HF HP;obtain⟨w1,ac⟩:=Kh (w.alloc (Ag (p.vs A kc SV ks) 29));have aM:=zj w (Ag (p.vs A kc SV ks) 29);have al:Am w.heap.size w w1:=by rw[<-ac];exact zN w _
 have df:w1.heap.size=w.heap.size+1:=by rw[<-ac];simp
 rw[ac] at aM;unfold Pb.vs at ac aM HP ⊢;have bE:=zH aM;have aZ:=zH al;have HA:=zH ((hA.keep al).more (by omega:w.heap.size<=w1.heap.size));have HS:=zH ((hS.keep al).more (by omega:w.heap.size<=w1.heap.size));have ah:=zH ac;have q3:=za aM 3 rfl;have q5:=za aM 5 rfl;have q6:=za aM 6 rfl;clear hA hS ac al aM;go_enter func42,ntmps42;go_wp2_with fail;rw[ah.out];go_wp2_with fail;refine(HP.out w1 HA.out HS.out).mono ?_;rintro e w2 ⟨rfl,af⟩;have B2:=zH (aZ.out.trans (af.mono (by omega)));have cI:=zH ((HS.out.keep af).more af.size);have be:=La af bE.out;have aP:=zH be;have ef:=af.size;clear af HP ah q3 q5 q6;have q4:=za be 4 rfl;have q5:=za be 5 rfl;have q6:=za be 6 rfl;clear be
 by_cases h1:pe=0
 case neg=>
  have hR:=zH (aq.out h1);have e0:(pe != 0)=Ar:=by simpa using h1
  clear aq ai h1 HF pA;go_wp2_with fail
  go_ret2
  rw[hR.out];exact⟨rfl,B2.out⟩
 case pos=>
 have hR:=zH (ai.out h1);obtain⟨f1,f2,f3,f4,f5⟩:=HF.out h1;obtain⟨K,hk⟩:=Lr f4;have HN:=zH (pA.out f2 K (by omega));obtain⟨c1,_⟩:=yv f1;rw[hk] at q6;have hx:zT p=zU p.a K 0*p.t.cases.length:=by unfold zT;rw[hk];rfl
 rw[hx] at hR;subst h1;obtain⟨T,hT⟩:=Kh (zU p.a K 0);rw[hT] at HN hR;clear aq ai HF pA f1 f2 f3 f4 hx hT;go_wp2_with fail;refine(HN.out w2 cI.out).mono ?_;rintro e w3 ⟨rfl,am⟩;have B3:=zH (B2.out.trans (am.mono (by omega)));have be:=La am aP.out;have q3:=za be 3 rfl;obtain⟨cn,fl⟩:=Kh p.t.cases.length;rw[fl] at q3 c1 nh hR
 by_cases hg:1048576<T
 . have hm:1048576<T*cn:=Lx hg (P1 T c1)
   have nj:Ap (E=(0,17)):=hR.out.trans (Lo hm);have hC:jf 1048576 T=(0,17):=Lo hg;rw[hC];go_wp2_with fail
   go_ret2
   rw[nj.out];exact⟨rfl,B3.out⟩
 have hC:jf 1048576 T=((T:Int),0):=Li hg;rw[hC];have mF:T*cn<=1048576*30:=L3 (by omega) nh;have hw:IntKind.i64.wrap ((T:Int)*(cn:Int))=((T*cn:Nat):Int):=by rw[Lv,<-Int.natCast_mul];omega
 obtain⟨m,hm⟩:=Kh (T*cn);rw[hm] at hR mF hw
 by_cases hg:1048576<m
 . have nj:Ap (E=(0,17)):=hR.out.trans (Lo hg)
   go_wp2_with fail
   all_goals first | (exfalso;omega) | skip
   go_ret2
   rw[nj.out];exact⟨rfl,B3.out⟩
 have nj:Ap (E=((m:Int),0)):=hR.out.trans (Li hg);go_wp2_with fail
 all_goals first | (exfalso;omega) | skip
 go_ret2
 rw[nj.out];exact⟨by first | rfl | rw[hw],B3.out⟩
end
section
open Go.RowKit Go.Shelf
def xN(p:Pb):Prop:=Ya p/\(zL p=0->zT p<=60\/4096<zT p)
def zP(p:Pb):Sy×Int:=if zL p≠0 then (xC,zL p) else if 4096<zT p then (xC,17) else (zz p,0)
theorem yF{p:Pb}(h:zL p≠0):zP p=(xC,zL p):=Lo h
theorem yO{p:Pb}(h:zL p=0)(h2:4096<zT p):zP p=(xC,17):=by unfold zP;rw[Li (by simpa using h),Lo h2]
theorem xM{p:Pb}(h:zL p=0)(h2:zT p<=4096):zP p=(zz p,0):=by unfold zP;rw[Li (by simpa using h),Li (by omega)]
def jc(ab:List (List Rd))(l:List (Nat×Nat)):List (Nat×List Rd):=l.map fun x=>(x.1,ab.getD x.2 [])
theorem JG(ab:List (List Rd))(l:List (Nat×Nat))(x:Nat×Nat):jc ab (l++[x])=jc ab l++[(x.1,ab.getD x.2 [])]:=by simp[jc]
theorem prsW_row(ab:List (List Rd))(i:Nat):jc ab ((List.range ab.length).map fun j=>(i,j))=ab.map fun w=>(i,w):=by
 unfold jc;rw[P6];refine Pr (by simp) fun j h1 h2=>?_
 simp at h1;simp[h1]
theorem YI(ab:List (List Rd)):∀(m i:Nat),jc ab (zi ab.length i m)=(List.range m).flatMap fun d=>ab.map fun w=>(i+d,w)
 | 0,_=>rfl
 | m+1,i=>by
  rw[zi,jc,LF];have h1:=prsW_row ab i;have h2:=YI ab m (i+1);unfold jc at h1 h2;rw[h1,h2,List.range_succ_eq_map,Na,List.flatMap_map]
  have e:(fun d=>ab.map fun w=>(i+1+d,w))=(fun d=>ab.map fun w=>(i+(d+1),w)):=by
   funext d;rw[show i+1+d=i+(d+1) by omega]
  rw[e];rfl
theorem Za(p:Pb)(K:Nat)(hK:p.k=(K:Int)):jc (zC p.a K 0) (zi (zC p.a K 0).length 0 p.t.cases.length)=zu p:=by
 rw[YI];unfold zu;rw[hK]
 have e:(fun d=>(zC p.a K 0).map fun w=>(0+d,w))=(fun d=>(zC p.a ((K:Int).toNat) 0).map fun w=>(d,w)):=by
  funext d;rw[LM];rfl
 rw[e]
theorem kE(n:Nat):∀(m i:Nat),(zi n i m).length=m*n
 | 0,_=>by simp[zi]
 | m+1,i=>by rw[zi,Lu,kE n m (i+1)];simp;rw[PU];omega
theorem xm(p:Pb)(l:List (Nat×List Rd)):(zx p l).2.length=l.length:=by
 have key:∀n,n<=l.length->(zx p (l.take n)).2.length=n:=by
  intro n
  induction n with
  | zero=>intro _;rfl
  | succ n ih=>
   intro hl;rw[Ls (by omega),xH,Lu,ih (by omega)];rfl
 have:=key l.length (Lh _);rwa[LC] at this
theorem uU(p:Pb)(hn:p.t.n.toNat<=5)(l:List (Nat×List Rd))(h:∀x∈l,x.2.length<=6):(zx p l).1.length<=l.length*35:=by
 have key:∀n,n<=l.length->(zx p (l.take n)).1.length<=n*35:=by
  intro n
  induction n with
  | zero=>intro _;simp[kC]
  | succ n ih=>
   intro hl;rw[Ls (by omega),xH];have h1:=ih (by omega);obtain⟨x,hx⟩:=Kh (l[n]);have h3:=h l[n] (Ld _);rw[hx] at h3 ⊢;have h2:=qN (zx p (l.take n)).1 p.t.n.toNat (yc p x.1) x.2 x.2.length;have h4:(x.2.length+1)*p.t.n.toNat<=7*5:=L3 (by omega) hn;dsimp only;omega
 have:=key l.length (Lh _);rwa[LC] at this
end
section
open Go.RowKit Go.Shelf
structure BlIn(p:Pb)(D B bB bM b7:Nat)(SC:Aq->Array Aq)(WR:Ba)(l:List (Nat×List Rd))(V E:Aq)(X:Ba):Prop where
 wr:Wrote (fun k=>k=bB\/k=bM\/k=b7) WR X
 bd:BdIn B bB bM p.t.n V (zx p l).1 X
 sys:X.heap[b7]?=J (Ag (SC E) 39 (0,0))
 out:OwnX Z6 (fun k=>D<=k/\V.ownBlock≠J k) X D E (zx p l).2
 no:∀k,V.ownBlock=J k->D<=k/\E.ownBlock≠J k
structure BlB(D B bB bM b7:Nat)(WR:Ba):Prop where
 d:WR.heap.size=D
 b:bB<D
 m:bM<D
 s:b7<D
 lo:B<=bB/\B<=bM/\B<=b7
 bs:bB≠b7
 ms:bM≠b7
section
variable {p:Pb} {D B bB bM b7:Nat} {SC:Aq->Array Aq} {WR X:Ba} {l:List (Nat×List Rd)} {V E:Aq}
theorem BlIn.big(h:BlIn p D B bB bM b7 SC WR l V E X)(hb:BlB D B bB bM b7 WR):D<=X.heap.size:=by have:=h.wr.size;have:=hb.d;omega
theorem BlIn.bel(h:BlIn p D B bB bM b7 SC WR l V E X)(hb:BlB D B bB bM b7 WR):Am B WR X:=h.wr.below (by have:=hb.d;have:=hb.lo;have:=hb.b;omega) fun k hk hr=>by
 have:=hb.lo;rcases hr with e | e | e<;>omega
theorem BlIn.same(h:BlIn p D B bB bM b7 SC WR l V E X)(hb:BlB D B bB bM b7 WR){k:Nat}(hk:k<D)(h1:k≠bB)(h2:k≠bM)(h3:k≠b7):X.heap[k]?=WR.heap[k]?:=
 h.wr.block k (by have:=hb.d;omega) fun hr=>by rcases hr with e | e | e<;>contradiction
theorem BlIn.turn(h:BlIn p D B bB bM b7 SC WR l V E X)(hb:BlB D B bB bM b7 WR){X':Ba}{row:Option Nat}(hg:X.grownBy X' row)(hr:∀r,row=J r->D<=r/\∃o:Obj,X.heap[r]?=J o/\o.isCells=As):BlIn p D B bB bM b7 SC WR l V E X':=by
 have hc:∀(k:Nat) (o:Obj),X.heap[k]?=J o->o.isCells=Ar->X'.heap[k]?=J o:=fun k o hk ho=>(L4 hg (fun r e=>(hr r e).2) hk ho).trans hk
 obtain⟨m,hm⟩:=h.bd.num;refine⟨h.wr.trans (Wrote.of_grown (R:=fun k=>D<=k) hg (fun k e _=>(hr k e).1)) (fun k hk e=>by have:=hb.d;omega),⟨hc _ _ h.bd.hB rfl,⟨m,hm.same (hg.block bM hm.lt fun e=>by have:=(hr bM e.symm).1;have:=hb.m;omega)⟩,?_,h.bd.ne,h.bd.bm,h.bd.lo⟩,hc _ _ h.sys rfl,h.out.turn zJ hg.size hc,h.no⟩;refine⟨h.bd.own.1,?_⟩;rcases h.bd.own.2 with hn | ⟨g,cap,cur,pI,dn,lr,rest⟩
 . exact .inl hn
 exact .inr ⟨g,cap,cur,pI,dn,hc g _ lr rfl,rest⟩
theorem BlIn.outn(h:BlIn p D B bB bM b7 SC WR l V E X)(hb:BlB D B bB bM b7 WR){w2 w3:Ba}{V':Aq}(h2:Am X.heap.size X w2)(ho:BdOn bB bM V w2 V' w3) :
  OwnX Z6 (fun k=>D<=k/\V'.ownBlock≠J k) w3 D E (zx p l).2/\∀k,V'.ownBlock=J k->D<=k/\E.ownBlock≠J k:=by
 have hs:=h2.size;have hD:=h.big hb;have mK:=h.out.lt
 have h1:OwnX Z6 (fun k=>(D<=k/\V.ownBlock≠J k)/\V'.ownBlock≠J k) w2 D E (zx p l).2:=
  (h.out.mono (S':=fun k=>(D<=k/\V.ownBlock≠J k)/\V'.ownBlock≠J k) zJ fun k hk hs=>⟨hs,fun e=>by
   rcases ho.2 k e with e | e
   . exact hs.2 e
   . omega⟩).below zJ h2 (Lh _)
 refine⟨(h1.keep zJ (ho.1.keep fun k _ hs hr=>?_) fun k hk=>ho.1.block k (by have:=(mK k hk).2;omega) fun hr=>?_).mono zJ fun k _ hs=>⟨hs.1.1,hs.2⟩,fun k hk=>?_⟩
 . rcases hr with e | e | e
   . have:=hb.b;have:=hs.1.1;omega
   . have:=hb.m;have:=hs.1.1;omega
   exact hs.1.2 e
 . have:=(mK k hk).1
   rcases hr with e | e | e
   . have:=hb.b;omega
   . have:=hb.m;omega
   exact(h.no k e).2 hk
 rcases ho.2 k hk with e | e
 . exact h.no k e
 exact⟨by omega,fun e2=>by have:=(mK k e2).2;omega⟩
theorem BlIn.lies(h:BlIn p D B bB bM b7 SC WR l V E X)(hb:BlB D B bB bM b7 WR){w2 w3 W4:Ba}{V' v:Aq}{i:Nat}{word:List Rd}{views:List (List Int)}{A2 A3:Bb}{c2 c3:Nat}(h2:Am X.heap.size X w2)(ho:BdOn bB bM V w2 V' w3)(h4:Am w3.heap.size w3 W4)
  (hw:RAtS (fun k=>X.heap.size<=k) w2 A2 word) (hv:LAtS (fun k=>(w2.heap.size<=k/\V'.ownBlock≠J k)\/v.ownBlock=J k) w3 A3 views) (co:∀k,v.ownBlock=J k->w2.heap.size<=k) (IK:∀k,V'.ownBlock=J k->v.ownBlock≠J k) (hcap:word.length<=c2) :
  Z6.lies (fun k=>(D<=k/\V'.ownBlock≠J k)/\E.ownBlock≠J k) W4 [O U i,I A2 word.length c2,I A3 views.length c3] ⟨i,word,views⟩:=by
 have hs:=h2.size;have hD:=h.big hb;have mK:=h.out.lt;have IJ:=h.bd.own.lt;refine⟨A2,c2,A3,c3,rfl,?_,?_,hcap⟩
 . have h5:RAtS (fun k=>X.heap.size<=k/\k<w2.heap.size) w2 A2 word:=hw.mono fun k hk hs=>⟨hs,hk⟩
   have h6:=h5.keep (ho.1.keep fun k _ hs hr=>by
    rcases hr with e | e | e
    . have:=hb.b;omega
    . have:=hb.m;omega
    . have:=(IJ k e).2;omega)
   have h7:RAtS (fun k=>(D<=k/\V'.ownBlock≠J k)/\E.ownBlock≠J k) w3 A2 word:=h6.mono fun k _ hs=>⟨⟨by omega,fun e=>by
    rcases ho.2 k e with e | e
    . have:=(IJ k e).2;omega
    . omega⟩,fun e=>by have:=(mK k e).2;omega⟩
   exact h7.on h4
 have h7 : LAtS (fun k => (D <= k /\ V'.ownBlock ≠ J k) /\ E.ownBlock ≠ J k) w3 A3 views := hv.mono fun k _ hs => by
  rcases hs with hs | hs
  . exact⟨⟨by omega,hs.2⟩,fun e=>by have:=(mK k e).2;omega⟩
  . have:=co k hs
    exact⟨⟨by omega,fun e=>IK k e hs⟩,fun e=>by have:=(mK k e).2;omega⟩
 exact h7.on h4
theorem BlIn.next(h:BlIn p D B bB bM b7 SC WR l V E X)(hb:BlB D B bB bM b7 WR){w2 w3 W4 w5:Ba}{V':Aq}{x:Nat×List Rd}{cs:List Aq}{aI:List (List Aq)}{g' cap:Nat}(h2:Am X.heap.size X w2)(ho:BdOn bB bM V w2 V' w3)(h4:Am w3.heap.size w3 W4)
  (hd:BdIn B bB bM p.t.n V' (zr (zx p l).1 p.t.n.toNat (yc p x.1) x.2 x.2.length).1 w3)
  (u':∀E':Aq,(SC E).setIfInBounds 9 E'=SC E')
  (aw:aI.length=(zx p l).2.length) (bJ:∀(i:Nat) (h1:i<aI.length) (h2:i<(zx p l).2.length),Z6.lies (fun k=>(D<=k/\V'.ownBlock≠J k)/\E.ownBlock≠J k) W4 aI[i] (zx p l).2[i])
  (hX:Z6.lies (fun k=>(D<=k/\V'.ownBlock≠J k)/\E.ownBlock≠J k) W4 cs ⟨x.1,x.2,(zr (zx p l).1 p.t.n.toNat (yc p x.1) x.2 x.2.length).2⟩)
  (hr:OwnR kXn w5 D (I (J ⟨g',0,Z⟩) ((zx p l).2.length+1) cap) ((zx p l).2.length+1) (aI.flatten++cs)) (hg:W4.grownBy w5 E.ownBlock) (bK:E.ownBlock=J g'\/g'=W4.heap.size) :
  BlIn p D B bB bM b7 SC WR (l++[x]) V' (I (J ⟨g',0,Z⟩) ((zx p l).2.length+1) cap) (w5.setCell ⟨b7,9,Z⟩ (I (J ⟨g',0,Z⟩) ((zx p l).2.length+1) cap)) /\
   KeepsFrom D X (w5.setCell ⟨b7,9,Z⟩ (I (J ⟨g',0,Z⟩) ((zx p l).2.length+1) cap)) /\
   Wrote (fun k=>k=bB\/k=bM\/k=b7\/D<=k) X (w5.setCell ⟨b7,9,Z⟩ (I (J ⟨g',0,Z⟩) ((zx p l).2.length+1) cap)):=by
 have hs:=h2.size;have hD:=h.big hb;have ij:=ho.1.size;have mC:=h4.size;have mK:=h.out.lt;have IJ:=h.bd.own.lt;obtain⟨_,cD⟩:=h.outn hb h2 ho;have dx:=hr.lt g' rfl;have az:=hb.lo;obtain⟨e1,e2,e3⟩:bB<D/\bM<D/\b7<D:=⟨hb.b,hb.m,hb.s⟩;have MC:∀k,k<D->E.ownBlock≠J k:=fun k hk e=>by have:=(mK k e).1;omega
 have SU:∀k,V'.ownBlock=J k->D<=k:=fun k e=>(cD k e).1
 have hW:Wrote (fun k=>k=bB\/k=bM\/k=b7\/V.ownBlock=J k\/E.ownBlock=J k) X (w5.setCell ⟨b7,9,Z⟩ (I (J ⟨g',0,Z⟩) ((zx p l).2.length+1) cap)):=by
  refine((((Wrote.of_below (R:=fun k=>k=bB\/k=bM\/k=b7\/V.ownBlock=J k\/E.ownBlock=J k) h2).trans ho.1 fun k _ hr=>?_).trans (Wrote.of_below (R:=fun _=>False) h4) fun _ _ h=>h.elim).trans (Wrote.of_grown (R:=fun k=>E.ownBlock=J k) hg fun _ e _=>e) fun k _ e=>?_).trans (Wrote.of_grown (R:=fun k=>k=b7) (zR w5 b7 9 _) fun k e _=>by cases e;rfl) fun k _ e=>?_
  . rcases hr with e | e | e
    . exact .inl e
    . exact .inr (.inl e)
    exact .inr (.inr (.inr (.inl e)))
  . exact .inr (.inr (.inr (.inr e)))
  exact .inr (.inr (.inl e))
 have aQ:w5.heap[b7]?=J (Ag (SC E) 39 (0,0)):=by
  refine(hg.block b7 (by omega) fun e=>MC b7 e3 e.symm).trans ((h4.block b7 (by omega)).trans ((ho.1.block b7 (by omega) fun hr=>?_).trans ((h2.block b7 (by omega)).trans h.sys)));rcases hr with e | e | e
  . exact hb.bs e.symm
  . exact hb.ms e.symm
  have:=(h.no b7 e).1;omega
 have GO:=((hd.on h4).grown hg (fun e=>MC bB e1 e) (fun e=>MC bM e2 e) (fun k hk e=>(cD k hk).2 e)).set (g:=b7) (fun e=>hb.bs e.symm) (fun e=>hb.ms e.symm) (fun e=>by have:=SU b7 e;omega) 9 (I (J ⟨g',0,Z⟩) ((zx p l).2.length+1) cap);have dP:=xH p l x;refine⟨⟨?_,?_,?_,?_,?_⟩,?_,hW.more fun k _ hr=>?_⟩
 . refine h.wr.trans hW fun k hk hr=>?_
   have:=hb.d;rcases hr with e | e | e | e | e
   . exact .inl e
   . exact .inr (.inl e)
   . exact .inr (.inr e)
   . have:=(h.no k e).1;omega
   have:=(mK k e).1;omega
 . rw[dP];exact GO
 . rw[Lk w5 b7 9 _ _ _ aQ,u']
 . rw[dP]
   have h8:=OwnX.app zJ aw bJ hX hr hg bK;refine h8.kept zJ (zR w5 b7 9 _) (.inr (fun e=>?_)) (fun k e=>.inl fun hs=>?_)
   . have:g'=b7:=by simpa[Value.ownBlock] using e
     omega
   cases e;have:=hs.1;omega
 . intro k hk
   refine⟨SU k hk,fun e=>?_⟩;have:g'=k:=by simpa[Value.ownBlock] using e
   subst this;rcases bK with e | e
   . exact(cD g' hk).2 e
   have:=(hd.own.lt g' hk).2;omega
 . refine⟨hW.size,fun k o hk iX Su=>(hW.block k (zc iX) fun hr=>?_).trans iX⟩
   rcases hr with e | e | e | e | e
   . omega
   . omega
   . omega
   . rcases h.bd.own.2 with ⟨hn,_⟩ | ⟨g,cap',cur,pI,_,lr,_⟩
     . rw[hn] at e;cases e
     rw[pI] at e;cases e;rw[lr] at iX;cases iX;cases Su
   obtain⟨css2,_,iJ,_⟩:=h.out;rcases iJ.2 with ⟨hn,_⟩ | ⟨g,cap',cur,pI,_,lr,_⟩
   . rw[hn] at e;cases e
   rw[pI] at e;cases e;rw[lr] at iX;cases iX;cases Su
 rcases hr with e | e | e | e | e
 . exact .inl e
 . exact .inr (.inl e)
 . exact .inr (.inr (.inl e))
 . exact .inr (.inr (.inr (h.no k e).1))
 exact .inr (.inr (.inr (mK k e).1))
end
end
section
open Go.RowKit
theorem qZ(w:Ba)(c1 c2 c3:Array Aq)(t1 t2 t3:TypeId):∃W0,((w.alloc (Ag c1 t1)).alloc (Ag c2 t2)).alloc (Ag c3 t3)=W0/\W0.heap[w.heap.size]?=J (Ag c1 t1 (0,0))/\W0.heap[w.heap.size+1]?=J (Ag c2 t2 (0,0)) /\
  W0.heap[w.heap.size+1+1]?=J (Ag c3 t3 (0,0))/\W0.heap.size=w.heap.size+3/\Am w.heap.size w W0:=
 ⟨_,rfl,yo (yo (zj _ _) _) _,yo (by have:=zj (w.alloc (Ag c1 t1)) (Ag c2 t2);rwa[Nm] at this) _,
  by have:=zj ((w.alloc (Ag c1 t1)).alloc (Ag c2 t2)) (Ag c3 t3);rwa[Nm,Nm] at this,by simp,bel3 w _ _ _⟩
def PutCut(n:Int)(vs:List Vw)(v:Vw)(g:Nat)(w1:Ba)(s:Aq)(wx:Ba):Prop:=
 s=Aj (J ⟨g,0,Z⟩)/\∃A cap,wx.cell? ⟨g,0,Z⟩=J (O U n)/\wx.cell? ⟨g,1,Z⟩=J (I A (vs.length+1) cap)/\OwnV wx (g+1) (I A (vs.length+1) cap) (vs++[v])/\Am g w1 wx
theorem put_any(n:Int)(A:Bb)(cap:Nat)(vs:List Vw)(v:Vw)(w:Ba)(hT:TArg w A cap vs)(hl:vs.length<100000) :
  An Al 137 #[Ai #[O U n,I A vs.length cap],.agg v.cells] w (RetPut n A cap vs v w):=by
 have HT:=zH hT;have nc:=hT.few;go_enter func137,ntmps137;unfold Vw.cells;go_wp2_with fail;obtain⟨W0,ch,b0,b1,b2,hsz,bX⟩:=qZ w #[O U n,I A vs.length cap] v.cells #[O U 0,I Z 0 0] 36 144 36;unfold Vw.cells at ch;rw[ch];have c0:W0.heap[w.heap.size+1]?=J (Ag v.cells 144 (0,0)):=b1;have SY:=HT.out.keep bX;refine(JV n A cap vs v W0 W0.heap.size (Lh _) SY.rows (by omega)).mono ?_;rintro e w1 ⟨rfl,hb⟩;have HV:Ap (w1.heap[w.heap.size+1]?=J (Ag v.cells 144 (0,0))):=Lb hb (by omega) c0;have d0:=Lb hb (by omega) b0;have d2:=Lb hb (by omega) b2;have Wy:=zH (SY.keep hb);have B1:Ap (Am w.heap.size w w1):=bX.trans (hb.mono (by omega));have l0:w.heap.size+3<=w1.heap.size:=by have:=hb.size;omega
 obtain⟨t0,t1,_⟩:=Ka d0;obtain⟨r0,r1,_⟩:=Ka d2;have f0:=zb d2 0;have f1:=zb d2 1
 by_cases hv:v∈vs
 . have hz:=zH hv
   have h0:0<=qr vs v:=Y1 hv;go_wp2_with fail;have bh:Ap (Am w.heap.size w ((w1.setCell ⟨w.heap.size+1+1,0,Z⟩ (O U n)).setCell ⟨w.heap.size+1+1,1,Z⟩ (I A vs.length cap))):=(B1.out.setCell (by simp;omega) _).setCell (by simp;omega) _;exact L6 (v:=.tuple #[Ai #[O U n,I A vs.length cap],O U (qr vs v)]) (by simp[results,results137,go_sem,r0,r1]) rfl ⟨bh.out,fun _=>rfl,fun h=>absurd hz.out h⟩
 have hz:Ap (v∉vs):=hv;have h0:qr vs v=-1:=by unfold qr;rw[Li hv]
 have h1:qr vs v<0:=by omega
 go_upto_region 5 with fail
 obtain⟨W2,dT,g0,ee,bP⟩:=zh w1 #[O U n,I Z 0 0] 36;rw[dT];clear dT;have tk:W2.heap[w.heap.size+1]?=J (Ag v.cells 144 (0,0)):=Lb bP (by omega) HV.out;have D0:W2.heap[w.heap.size]?=J (Ag #[O U n,I A vs.length cap] 36 (0,0)):=Lb bP (by omega) d0;have D2:W2.heap[w.heap.size+1+1]?=J (Ag #[O U 0,I Z 0 0] 36 (0,0)):=Lb bP (by omega) d2;have x0:W2.cell? ⟨w.heap.size+1,0,Z⟩=J (O U v.p):=za tk 0 rfl;have x1:W2.cell? ⟨w.heap.size+1,1,Z⟩=J (O U v.r):=za tk 1 rfl;have x2:W2.cell? ⟨w.heap.size+1,2,Z⟩=J (O U v.i):=za tk 2 rfl;have x3:W2.cell? ⟨w.heap.size+1,3,Z⟩=J (O U v.h0):=za tk 3 rfl;have x4:W2.cell? ⟨w.heap.size+1,4,Z⟩=J (O U v.h1):=za tk 4 rfl;have x5:W2.cell? ⟨w.heap.size+1,5,Z⟩=J (O U v.h2):=za tk 5 rfl;have x6:W2.cell? ⟨w.heap.size+1,6,Z⟩=J (O U v.h3):=za tk 6 rfl;have x7:W2.cell? ⟨w.heap.size+1,7,Z⟩=J (O U v.h4):=za tk 7 rfl;have s1:W2.cell? ⟨w.heap.size,1,Z⟩=J (I A vs.length cap):=za D0 1 rfl;have y1:W2.cell? ⟨w1.heap.size,1,Z⟩=J (I Z 0 0):=za g0 1 rfl;have y0:W2.cell? ⟨w1.heap.size,0,Z⟩=J (O U n):=za g0 0 rfl;have BX:=zH bP;have l3:w.heap.size<W2.heap.size:=by omega
 have z1:=zb g0 1;have l2:w1.heap.size<W2.heap.size:=by omega
 have Br:=zH (Wy.out.keep bP);have B2:Ap (Am w.heap.size w W2):=Lc B1.out bP;have bD:=zH d0;have iF:=zH d2;clear d0 d2 t0 t1 r0 r1 f0 f1 bP ee
 go_cut [7] (fun s7 wx=>PutCut n vs v w1.heap.size w1 s7 wx)
 case first=>
  go_region_law ((first
    | (refine XB (by rfl) (.tmp 19) (.tmp 21) (by rfl) W2.heap.size (by rfl) A cap vs (by rfl) (by first | exact Br.out.keep (Ll _ _).drew | exact Br.out.keep (zN W2 _).drew) (by simp) ?_;intro A1 Fw wA dq cu;have hG:W2.grownBy wA Z:=(by first | exact⟨cu.os,cu.tape,cu.output,cu.size,cu.block⟩ | exact yz (o:=Ag v.cells 144) ⟨cu.os,cu.tape,cu.output,cu.size,cu.block⟩);have e0:=zW hG x0 (by simp);have e1:=zW hG x1 (by simp);have e2:=zW hG x2 (by simp);have e3:=zW hG x3 (by simp);have e4:=zW hG x4 (by simp);have e5:=zW hG x5 (by simp);have e6:=zW hG x6 (by simp);have e7:=zW hG x7 (by simp);have e8:=zW hG y1 (by simp);have e9:=jG hG z1 l2 (by simp);have sq:W2.heap.size<=wA.heap.size:=hG.size)
    | (refine uO (by rfl) (.tmp 22) (.tmp 24) (by rfl) W2.heap.size _ vs v (by rfl) (dq.alloc _) (by omega) wA.heap.size (by rfl) (zj wA _) (by first | omega | (simp;omega)) ?_;intro A3 eZ wB oL aK;have hH:wA.grownBy wB (I A1 vs.length Fw).ownBlock:=(by first | exact⟨aK.os,aK.tape,aK.output,aK.size,aK.block⟩ | exact yz (o:=Ag v.cells 144) ⟨aK.os,aK.tape,aK.output,aK.size,aK.block⟩);have h8:=zW hH e8 (dq.ne (by omega));have h9:=jG hH e9 (by omega) (dq.ne (by omega));have Ty:Am w1.heap.size w1 wB:=(BX.out.grown hG (by omega) (by simp)).grown hH (by omega) (fun k hk=>by have:=(dq.lt k hk).1;omega);have Tx:=zW hH (zW hG y0 (by simp)) (dq.ne (by omega)))
    | (refine uO (by rfl) (.tmp 22) (.tmp 24) (by rfl) W2.heap.size _ vs v (by rfl) (dq) (by omega) W2.heap.size (by rfl) (Ql cu (zj W2 _) (by simp)) (by first | omega | (simp;omega)) ?_;intro A3 eZ wB oL aK;have hH:wA.grownBy wB (I A1 vs.length Fw).ownBlock:=(by first | exact⟨aK.os,aK.tape,aK.output,aK.size,aK.block⟩ | exact yz (o:=Ag v.cells 144) ⟨aK.os,aK.tape,aK.output,aK.size,aK.block⟩);have h8:=zW hH e8 (dq.ne (by omega));have h9:=jG hH e9 (by omega) (dq.ne (by omega));have Ty:Am w1.heap.size w1 wB:=(BX.out.grown hG (by omega) (by simp)).grown hH (by omega) (fun k hk=>by have:=(dq.lt k hk).1;omega);have Tx:=zW hH (zW hG y0 (by simp)) (dq.ne (by omega)))))
  all_goals
   go_wp2_with fail
   go_meet
   refine⟨rfl,A3,eZ,by simp[go_sem,Tx],by simp[go_sem,h8],?_,Ty.setCell (by simp) _⟩;exact(OwnV.kept oL (jF wB w1.heap.size 1 _) (Or.inr (oL.ne l2))).low l2
 obtain⟨rfl,A3,eZ,c0,c1,Mf,cW⟩:=hcut;have D0:=Lb cW (by omega) bD.out;have D2:=Lb cW (by omega) iF.out;have t1:wc.cell? ⟨w.heap.size,1,Z⟩=J (I A vs.length cap):=za D0 1 rfl;obtain⟨r0,r1,_⟩:=Ka D2;have f0:=zb D2 0;have f1:=zb D2 1;have M':=zH Mf;have bk:Ap (Am w.heap.size w wc):=Lc B1.out cW;go_wp2_with fail
 go_region
 all_goals
  go_wp2_with fail;have bh:Ap (Am w.heap.size w (((wc.setCell ⟨w.heap.size+1+1,0,Z⟩ (O U n)).setCell ⟨w.heap.size+1+1,1,Z⟩ (I A3 (vs.length+1) eZ)).drew)):=((bk.out.setCell (by simp;omega) _).setCell (by simp;omega) _).drew
  have KP:OwnV ((wc.setCell ⟨w.heap.size+1+1,0,Z⟩ (O U n)).setCell ⟨w.heap.size+1+1,1,Z⟩ (I A3 (vs.length+1) eZ)) (w1.heap.size+1) (I A3 (vs.length+1) eZ) (vs++[v]):=
   (M'.out.kept (jF wc (w.heap.size+1+1) 0 _) (Or.inr (M'.out.ne (by omega)))).kept (jF _ (w.heap.size+1+1) 1 _) (Or.inr (M'.out.ne (by omega)))
  exact L6 (v:=.tuple #[Ai #[O U n,I A3 (vs.length+1) eZ],O U vs.length]) (by simp[results,results137,go_sem,r0,r1]) rfl ⟨bh.out,fun h=>absurd h hz.out,fun _=>⟨A3,eZ,rfl,(OwnV.drew KP).low (by have:=B1.out.size;omega)⟩⟩
end
end Go.Proofs.YtjjcgpfljidbhaaGreat
