/- Merged. -/
import Derived.Test.YtkmbdfdaffmhjaaGreatUg
import Derived.Deep.Cut
import Derived.Deep.CutBlock
open Go.Proofs.Tryz
open Go.Value renaming int->O,slice->I,bool->Ah,agg->Ai,pointer->Aj
open Go.IntKind renaming i64->U
open Option renaming none->Z,some->J
open Go.Obj renaming cells->Ag
open Go.Ending renaming returned->Ak
open Go.Proofs.Tryz renaming prog->Al,func143->N8,ntmps143->N0
open Go.RowKit renaming Below->Am,intOf->Ar,Hid->As
open Go renaming Calls->An,Value->Au
open Bool renaming true->Av,false->Aw,or_eq_true->RM
namespace Go.Proofs.YtkmbdfdaffmhjaaGreat
abbrev Sw:=@Nat.mod_lt
set_option maxRecDepth 100000
set_option maxHeartbeats 4000000
section
open Go.RowKit Go.Shelf
attribute [local go_sem] Oper.semAt_some
def YW(r:Int)(i:Nat)(x:Int)(o:List Int):List Int:=if 0<r/\0<=x then o.set i (bits BinOp.or U (o.getD i 0) (o.getD x.toNat 0)) else o
def kT(v:Vw)(i:Nat)(o:List Int):Nat->List Int
 | 0=>o.set i ((2^v.p.toNat:Nat):Int)
 | q+1=>YW v.r i (v.h q) (kT v i o q)
def qK(vs:List Vw):Nat->List Int
 | 0=>List.replicate vs.length 0
 | k+1=>kT (vs.getD k default) k (qK vs k) 5
theorem hrd1_len{r:Int}{i:Nat}{x:Int}{o:List Int}:(YW r i x o).length=o.length:=by unfold YW;split<;>simp
theorem Ys{v:Vw}{i:Nat}{o:List Int}(q:Nat):(kT v i o q).length=o.length:=by
 induction q with
 | zero=>simp[kT]
 | succ q ih=>rw[kT,hrd1_len,ih]
theorem ji{vs:List Vw}(k:Nat):(qK vs k).length=vs.length:=by
 induction k with
 | zero=>simp[qK]
 | succ k ih=>rw[qK,Ys,ih]
theorem index_h5(v:Vw)(k:Nat)(hk:k<5)(w:Ba):(Instr.index 72 (Ai #[O U v.h0,O U v.h1,O U v.h2,O U v.h3,O U v.h4]) (O U (k:Int))).run Al w=.ok (O U (v.h k)) w:=by
 obtain rfl | rfl | rfl | rfl | rfl:k=0\/k=1\/k=2\/k=3\/k=4:=by omega
 all_goals kernel_rfl
theorem pheard_any(s:Sy)(hn:s.vs.length<=2100)(hv:∀v∈s.vs,(∃q:Nat,v.p=(q:Int)/\q<5)/\∀q,q<5->v.h q<(s.vs.length:Int))(A SV AV AX:Bb)(kc ks kv kx:Nat)(w:Ba)(hV:VAt w w.heap.size AV s.vs) :
  An Al 109 #[.agg (s.vs_ A kc SV ks AV kv AX kx)] w fun e w'=>∃g:Nat,e=Ak (I (J ⟨g,0,Z⟩) s.vs.length s.vs.length)/\w.heap.size<=g/\RowAt w' g (qK s.vs s.vs.length)/\Am w.heap.size w w':=by
 obtain⟨w1,ab,d0,av,hB⟩:=zn w (s.vs_ A kc SV ks AV kv AX kx) 39;obtain⟨w2,bh,d2,cM,bE⟩:=zn w1 ((List.replicate s.vs.length 0).map (O U)).toArray 3;have fl:=Xt s.vs.length (by omega);have C8:Am w.heap.size w w2:=hB.trans (bE.mono (by omega));have Ek:As (RowAt w2 (w.heap.size+1) (qK s.vs 0)):=by rw[<-av];exact d2
 have HD:=zH (Lb bE (by omega:w.heap.size<w1.heap.size) d0);have HV:As (VAt w2 w.heap.size AV s.vs):=hV.keep C8;obtain⟨vs,mV⟩:=Kj s.vs;unfold Sy.vs_ at ab d0 HD ⊢;rw[mV] at ab bh d0 fl Ek HV HD hn hv ⊢;obtain⟨n,CE⟩:=Kj vs.length;have sE:=zH CE;rw[CE] at ab bh d0 HD fl hn hv ⊢;have ID:=zH hv;have ag:=zH ab;have oY:=zH bh;have cj:=zH C8;have p8:=zh d0 8 rfl;have HMK:=zH fl;clear ab bh d0 d2 hB bE C8 hV hv mV fl CE;go_enter func109,ntmps109;go_upto_region 1 with fail
 rw[ag.out];have fl:=HMK.out;go_upto_region 2 with fail
 rw[show((w1.alloc (Ag (Array.replicate n (O U 0)) 3)))=w2 from(by rw[show Array.replicate n (O U 0)=((List.replicate n 0).map (O U)).toArray by simp];exact oY.out)];have p8:=zh HD.out 8 rfl;go_wp2_with fail
 go_loopw [17] (fun i wr=>∃k:Nat,k<=n/\i=O U (k:Int)/\As (RowAt wr (w.heap.size+1) (qK vs k))/\As (Am (w.heap.size+1) w2 wr)) (fun i _=>n-(Ar i).toNat)
 case atStart=>exact⟨0,by omega,rfl,Ek,Ll _ _⟩
 obtain⟨k,hk,rfl,hRk,OK⟩:=hrel;obtain⟨wE,rfl⟩:∃x,x=wr:=⟨_,rfl⟩
 by_cases Wg:k<n
 . obtain⟨v,Cq⟩:∃v,vs[k]'(by have:=sE.out;omega)=v:=⟨_,rfl⟩
   have hvm:v∈vs:=by rw[<-Cq];exact Lh _
   have HGV:As (vs.getD k default=v):=by rw[zA (by have:=sE.out;omega),Cq];exact rfl
   obtain⟨⟨pp,hp,hp5⟩,hh⟩:=ID.out v hvm;have Io:VAt wE w.heap.size AV vs:=HV.out.keep (OK.out.mono (by omega));obtain⟨ba,oa,rfl,ta,al⟩:=Io (by have:=sE.out;omega);have aA:=al k (by have:=sE.out;omega);rw[Cq] at aA;have c0:wE.cell? ⟨ba,oa+k*8,Z⟩=J (O U v.p):=aA 0 _ rfl;have c1:wE.cell? ⟨ba,oa+k*8+1,Z⟩=J (O U v.r):=aA 1 _ rfl;have c2:wE.cell? ⟨ba,oa+k*8+2,Z⟩=J (O U v.i):=aA 2 _ rfl;have c3:wE.cell? ⟨ba,oa+k*8+3,Z⟩=J (O U v.h0):=aA 3 _ rfl;have c4:wE.cell? ⟨ba,oa+k*8+4,Z⟩=J (O U v.h1):=aA 4 _ rfl;have c5:wE.cell? ⟨ba,oa+k*8+5,Z⟩=J (O U v.h2):=aA 5 _ rfl;have c6:wE.cell? ⟨ba,oa+k*8+6,Z⟩=J (O U v.h3):=aA 6 _ rfl;have c7:wE.cell? ⟨ba,oa+k*8+7,Z⟩=J (O U v.h4):=aA 7 _ rfl;rw[hp] at c0;have dg:(0:Int)<=(k:Int):=by omega
   have aM:(k:Int)<(n:Int):=by omega
   obtain⟨W5,dQ,d5,cY,ea⟩:=zn wE #[O U (pp:Int),O U v.r,O U v.i,O U v.h0,O U v.h1,O U v.h2,O U v.h3,O U v.h4] 133;have Bv:=zH d5;have mJ:=zH dQ;have aT:=zH ea;have HH:=zH hh;have HP:=zH hp;clear Cq hvm Io al aA dQ d5 ea hh hp;go_upto_region 5 with fail
   rw[mJ.out];have dS:=hRk.out;obtain⟨o,ho⟩:=Kj (qK vs k);have HO:=zH ho;have iU:o.length=n:=by rw[<-ho,ji];exact sE.out
   have ni:=zH iU;have hR5:RowAt W5 (w.heap.size+1) o:=by rw[<-ho];exact Lb aT.out dS.lt dS
   have dx:=zi hR5 k;obtain⟨zq,q0⟩:∃z,W5.cell? ⟨w.heap.size+1,k,Z⟩=J (O U z):=⟨_,hR5.cell k (by omega)⟩;have p0:=zh Bv.out 0 rfl;have hsh:=shl_one (N:=pp) (by omega);have iB:(0:Int)<=(pp:Int):=by omega
   have dU:=zH hR5;go_upto_region 6 with fail
   have bh:wrap64 (2^pp)=((2^pp:Nat):Int):=by
    obtain rfl | rfl | rfl | rfl | rfl:pp=0\/pp=1\/pp=2\/pp=3\/pp=4:=by omega
    all_goals kernel_rfl
   rw[bh];have cH:=dU.out.set k ((2^pp:Nat):Int);have lE:∀z,z≠w.heap.size+1->(W5.setCell ⟨w.heap.size+1,k,Z⟩ (O U ((2^pp:Nat):Int))).heap[z]?=W5.heap[z]?:=fun z hz=>Le W5 ⟨w.heap.size+1,k,Z⟩ _ z hz
   have Wb:w.heap.size+1<=wE.heap.size:=by
    have:=OK.out.size;have:=av;have:=cM;omega
   have mz:Am (w.heap.size+1) wE (W5.setCell ⟨w.heap.size+1,k,Z⟩ (O U ((2^pp:Nat):Int))):=(aT.out.mono Wb).setCell (Ld _) _;obtain⟨W6,pu⟩:=Kj (W5.setCell ⟨w.heap.size+1,k,Z⟩ (O U ((2^pp:Nat):Int)));rw[pu] at cH lE mz ⊢;have Em:w.heap.size+2<=wE.heap.size:=by have:=OK.out.size;omega
   have HEl:=zH Em;have tq:=zH ((lE wE.heap.size (by omega)).trans Bv.out)
   have EC:As (RowAt W6 (w.heap.size+1) (kT v k o 0)):=by
    show RowAt W6 _ (o.set k ((2^v.p.toNat:Nat):Int));rw[HP.out,Lm];exact cH
   have dw:=zH mz;have HS6:As (wE.heap.size<W6.heap.size):=zj tq.out;have c3:=zh tq.out 3 rfl;have c4:=zh tq.out 4 rfl;have c5:=zh tq.out 5 rfl;have c6:=zh tq.out 6 rfl;have c7:=zh tq.out 7 rfl;go_wp2_with fail
   go_loopw [30] (fun i wr=>∃q:Nat,q<=5/\i=O U (q:Int)/\As (RowAt wr (w.heap.size+1) (kT v k o q))/\As (Wrote (fun z=>z=w.heap.size+1) W6 wr)) (fun i _=>5-(Ar i).toNat)
   case atStart=>exact⟨0,by omega,rfl,EC,Wrote.refl _ _⟩
   obtain⟨q,hq,rfl,Ej,Oi⟩:=hrel;have Em:=HEl.out;have cd:=(Oi.out.block wE.heap.size HS6.out (by show ¬wE.heap.size=w.heap.size+1;omega)).trans tq.out
   by_cases Md:q<5
   . have Wr:=index_h5 v q Md wr
     have Tm:=HH.out q Md;have dy:kT v k o (q+1)=YW v.r k (v.h q) (kT v k o q):=rfl;obtain⟨x,hx⟩:=Kj (v.h q);rw[hx] at Wr Tm dy;obtain⟨oq,hoq⟩:=Kj (kT v k o q);have hoql:oq.length=n:=by rw[<-hoq,Ys,ni.out]
     rw[hoq] at Ej dy;have r1:=zh cd 1 rfl;have cW:=zH dy;have mZ:(q:Int)<5:=by omega
     by_cases sP:0<v.r
     case neg=>
      have Ax:As (RowAt wr (w.heap.size+1) (kT v k o (q+1))):=by rw[cW.out];unfold YW;rw[Lg (by omega)];exact Ej.out
      go_wp2_with fail
      go_roundw
      case rel=>exact⟨q+1,by omega,by go_num,Ax,Oi⟩
      simp[Ar];omega
     by_cases oH:0<=x
     case neg=>
      have Ax:As (RowAt wr (w.heap.size+1) (kT v k o (q+1))):=by rw[cW.out];unfold YW;rw[Lg (by omega)];exact Ej.out
      go_wp2_with fail
      go_roundw
      case rel=>exact⟨q+1,by omega,by go_num,Ax,Oi⟩
      simp[Ar];omega
     obtain⟨y,rfl⟩:=Lp oH;have c1:=Ej.out.cell k (by omega);have c2:=Ej.out.cell y (by omega);have Ik:oq.getD k 0=oq[k]'(by omega):=zA (by omega) 0;have hd2:oq.getD y 0=oq[y]'(by omega):=zA (by omega) 0;rw[<-Ik] at c1;rw[<-hd2] at c2;have hE:YW v.r k (y:Int) oq=oq.set k (bits BinOp.or U (oq.getD k 0) (oq.getD y 0)):=by unfold YW;rw[Lj (by omega),Lm]
     rw[hE] at cW;obtain⟨a1,fw⟩:=Kj (oq.getD k 0);obtain⟨a2,pV⟩:=Kj (oq.getD y 0);rw[fw] at c1 cW;rw[pV] at c2 cW;have dx:=zi Ej.out k;have BP:=Ej.out.set k (bits BinOp.or U a1 a2);rw[<-cW.out] at BP;have Ax:As (RowAt (wr.drew.setCell ⟨w.heap.size+1,k,Z⟩ (O U (bits BinOp.or U a1 a2))) (w.heap.size+1) (kT v k o (q+1))):=BP;have Im:As (Wrote (fun z=>z=w.heap.size+1) W6 (wr.drew.setCell ⟨w.heap.size+1,k,Z⟩ (O U (bits BinOp.or U a1 a2)))):=(Oi.out.trans (Wrote.of_below ((Ll _ wr).drew)) (fun _ _ h=>h)).trans (Wrote.of_grown (zV wr.drew (w.heap.size+1) k _) (fun z e _=>by cases e;rfl)) (fun _ _ h=>h);go_upto_region 10 with fail
     refine zr [(0,Av),(1,Av),(2,Av),(3,Av),(4,Av),(5,Av),(6,Av),(7,Av),(8,Av),(9,Aw),(10,Aw)] (fun X=>X=wr.drew) (by kernel_rfl) (by kernel_rfl) rfl ?_
     repeat
      apply zk rfl
      . rintro K' aa X rfl
        go_simp;exact aa
     refine zu rfl ?_;intro K' aa;go_simp;refine aa _ _ rfl ?_;refine yd rfl (by kernel_rfl) ?_;intro K' aa;go_simp;refine aa (fun _=>True) _ _ trivial ?_;refine zz ?_;go_wp2_with fail
     go_roundw
     case rel=>exact⟨_,_,_,_,_,_,_,_,_,_,_,_,_,_,_,_,_,_,_,_,_,_,⟨q+1,by omega,by go_num,Ax,Im⟩,rfl⟩
     simp[Ar];omega
   obtain rfl:q=5:=by omega
   have Ax:As (RowAt wr (w.heap.size+1) (qK vs (k+1))):=by
    show RowAt wr _ (kT (vs.getD k default) k (qK vs k) 5);rw[HGV.out,HO.out];exact Ej.out
   have hBn:As (Am (w.heap.size+1) w2 wr):=(OK.out.trans dw.out).trans (Y5 Oi.out (by have:=HEl.out;have:=HS6.out;omega));go_wp2_with fail
   go_roundw
   case rel=>exact⟨k+1,by omega,by go_num,Ax,hBn⟩
   simp[Ar];omega
 obtain rfl:n=k:=by omega
 go_wp2_with fail;go_ret;exact⟨w.heap.size+1,rfl,Nat.le_succ _,hRk.out,cj.out.trans (OK.out.mono (Nat.le_succ _))⟩
end
section
open Go.RowKit
def LowV(vs:List Vw):Prop:=∀i (hi:i<vs.length),∀q,q<5->vs[i].h q<(i:Int)
theorem LowV.snoc{vs:List Vw}{v:Vw}(h:LowV vs)(hv:∀q,q<5->v.h q<(vs.length:Int)):LowV (vs++[v]):=fun i hi q hq=>by
 by_cases hlt:i<vs.length
 . rw[Pr hlt];exact h i hlt q hq
 . rw[Lr,Nm] at hi
   obtain rfl:i=vs.length:=by omega
   rw[NU (by omega)];simpa using hv q hq
theorem putW_asc{vs:List Vw}{v:Vw}(h:LowV vs)(hv:∀q,q<5->v.h q<(vs.length:Int)):LowV (qd vs v).1:=by
 unfold qd
 split
 . exact h
 exact h.snoc hv
theorem Z5{f:Nat->Vw}{vs:List Vw}(h:LowV vs):∀n,(∀p,p<n->∀q,q<5->(f p).h q<(vs.length:Int))->LowV (yx f vs n).1
 | 0,_=>h
 | n+1,hf=>by
  rw[yx];refine putW_asc (Z5 h n fun p hp=>hf p (by omega)) fun q hq=>?_
  have h1:=hf n (by omega) q hq;obtain⟨us,hu⟩:=ux f vs n;rw[hu,Lr];omega
theorem firstE_h(p:Nat)(i:Int)(q:Nat)(_hq:q<5):(yR p i).h q=-1:=by
 match q,_hq with
 | 0,_=>rfl
 | 1,_=>rfl
 | 2,_=>rfl
 | 3,_=>rfl
 | 4,_=>rfl
theorem Q5{vs:List Vw}{n:Nat}{inp:List Int}{word:List Rd}(h:LowV vs):∀j,LowV (zC vs n inp word j).1
 | 0=>by
  rw[zC];refine Z5 h n fun p _ q hq=>?_
  rw[firstE_h p _ q hq];omega
 | j+1=>by
  rw[zC];refine Z5 (Q5 h j) n fun p _ q hq=>?_
  rw[uv _ _ _ _ q hq];unfold yh;rw[jx vs n inp word j j (Ld _)]
  split
  . rename_i hc
    rw[jR] at hc;exact(Zv vs n inp word j j q (Ld _) hc.1).lt.2
  . omega
theorem runW_asc(p:Pb)(l:List (Nat×List Rd)):LowV (zI p l).1:=by
 have key:∀n,n<=l.length->LowV (zI p (l.take n)).1:=by
  intro n
  induction n with
  | zero=>intro _;rw[Pu,jQ];intro i hi;cases hi
  | succ n ih=>
   intro hn;rw[Ls (by omega),qw];exact Q5 (ih (by omega)) _
 have:=key l.length (Ld _);rwa[LK] at this
theorem built_asc(p:Pb):LowV (qM p).vs:=runW_asc p _
theorem or_32{a b:Nat}(ha:a<32)(hb:b<32):bits BinOp.or U (a:Int) (b:Int)=((a ||| b:Nat):Int):=by
 have h:∀a:Nat,a<32->∀b:Nat,b<32->bits BinOp.or U (a:Int) (b:Int)=((a ||| b:Nat):Int):=by decide +kernel
 exact h a ha b hb
theorem vz{l:List Int}{i j:Nat}{x:Int}:(l.set i x).getD j 0=if i=j/\i<l.length then x else l.getD j 0:=by
 rw[Lf,Lf,Rs]
 by_cases e:i=j
 . subst e
   by_cases h:i<l.length
   . simp[h]
   simp[h]
 simp[e]
theorem Yr{v:Vw}{i j:Nat}{o:List Int}(h:i≠j)(q:Nat):(kT v i o q).getD j 0=o.getD j 0:=by
 induction q with
 | zero=>rw[kT,vz,Lg (fun e=>h e.1)]
 | succ q ih=>
  rw[kT];unfold YW
  split
  . rw[vz,Lg (fun e=>h e.1),ih]
  . exact ih
theorem wR{vs:List Vw}{k:Nat}:∀m,k<=m->∀i,i<k->(qK vs m).getD i 0=(qK vs k).getD i 0
 | 0,hm,i,hi=>by omega
 | m+1,hm,i,hi=>by
  by_cases e:k=m+1
  . subst e;rfl
  . rw[qK,Yr (by omega),wR m (by omega) i hi]
theorem Yq{vs:List Vw}(hl:LowV vs){i:Nat}(hi:i<vs.length){p:Nat}(hp:vs[i].p=(p:Int))(hp5:p<5)
  (hE:∀j,j<i->∃S:Nat,(qK vs vs.length).getD j 0=(S:Int)/\S<32) :
  ∃S:Nat,(qK vs vs.length).getD i 0=(S:Int)/\S<32/\∀o,o<5->(S.testBit o=Av↔o=p\/(0<vs[i].r/\∃q,q<5/\0<=vs[i].h q/\∃T:Nat,(qK vs vs.length).getD (vs[i].h q).toNat 0=(T:Int)/\T.testBit o=Av)):=by
 have hv:vs.getD i default=vs[i]:=by rw[Lf,Li hi];rfl
 have key:∀q,q<=5->∃S:Nat,(kT vs[i] i (qK vs i) q).getD i 0=(S:Int)/\S<32/\∀o,o<5->(S.testBit o=Av↔o=p\/(0<vs[i].r/\∃q',q'<q/\0<=vs[i].h q'/\∃T:Nat,(qK vs vs.length).getD (vs[i].h q').toNat 0=(T:Int)/\T.testBit o=Av)):=by
  intro q
  induction q with
  | zero=>
   intro _;refine⟨2^p,?_,?_,fun o ho=>?_⟩
   . rw[kT,vz,Lj ⟨rfl,by rw[ji];exact hi⟩,hp,Lm]
   . exact LH (Nat.pow_lt_pow_right (by omega) hp5) (by decide)
   . rw[Nat.testBit_two_pow]
     simp only[decide_eq_true_eq];constructor
     . intro e;exact .inl e.symm
     . rintro(e | ⟨_,q',Hz,_⟩)
       . exact e.symm
       . omega
  | succ q ih=>
   intro hq;obtain⟨S,e,hS,hb⟩:=ih (by omega);rw[kT];unfold YW
   by_cases hc:0<vs[i].r/\0<=vs[i].h q
   . rw[Lj hc]
     have hlt:=hl i hi q (by omega);obtain⟨T,eT,hT⟩:=hE (vs[i].h q).toNat (by omega)
     have OQ:(kT vs[i] i (qK vs i) q).getD (vs[i].h q).toNat 0=(T:Int):=by
      rw[Yr (by omega),<-wR vs.length (show i<=vs.length by omega) _ (show(vs[i].h q).toNat<i by omega),eT]
     refine⟨S ||| T,?_,Nat.or_lt_two_pow (n:=5) hS hT,fun o ho=>?_⟩
     . rw[vz,Lj ⟨rfl,by rw[Ys,ji];exact hi⟩,e,OQ]
       exact or_32 hS hT
     . rw[Nat.testBit_or,RM,hb o ho]
       constructor
       . rintro((e1 | ⟨h0,q',Hz,r⟩) | h)
         . exact .inl e1
         . exact .inr ⟨h0,q',by omega,r⟩
         . exact .inr ⟨hc.1,q,by omega,hc.2,T,eT,h⟩
       . rintro(e1 | ⟨h0,q',Hz,h2,T',eT',r⟩)
         . exact .inl (.inl e1)
         . by_cases e2:q'=q
           . subst e2
             rw[eT] at eT';have:T=T':=by omega
             subst this;exact .inr r
           . exact .inl (.inr ⟨h0,q',by omega,h2,T',eT',r⟩)
   . rw[Lg hc]
     refine⟨S,e,hS,fun o ho=>(hb o ho).trans ?_⟩;constructor
     . rintro(e1 | ⟨h0,q',Hz,r⟩)
       . exact .inl e1
       . exact .inr ⟨h0,q',by omega,r⟩
     . rintro(e1 | ⟨h0,q',Hz,h2,r⟩)
       . exact .inl e1
       . by_cases e2:q'=q
         . subst e2;exact absurd ⟨h0,h2⟩ hc
         . exact .inr ⟨h0,q',by omega,h2,r⟩
 obtain⟨S,e,hS,hb⟩:=key 5 (Ld _);refine⟨S,?_,hS,hb⟩;rw[wR vs.length (show i+1<=vs.length by omega) i (by omega),qK,hv];exact e
theorem hrd_small{vs:List Vw}(hl:LowV vs)(hp:∀v∈vs,∃p:Nat,v.p=(p:Int)/\p<5):∀i,i<vs.length->∃S:Nat,(qK vs vs.length).getD i 0=(S:Int)/\S<32:=by
 intro i
 induction i using Nat.strongRecOn with
 | ind i ih=>
  intro hi;obtain⟨p,h1,h2⟩:=hp _ (Lh hi);obtain⟨S,e,hS,_⟩:=Yq hl hi h1 h2 (fun j hj=>ih j hj (by omega));exact⟨S,e,hS⟩
def HR(N:Nat)(word:List Rd):Nat->Nat->Nat->Prop
 | 0,q,o=>o=q
 | k+1,q,o=>∃m,m<N/\((word.getD k default).h q).toNat.testBit m=Av/\HR N word k m o
theorem HR_own{s:Sy}{K N:Nat}(hF:Fine s K N){x:Exn}(hx:x∈s.xs):∀k,k<=K->∀q,q<N->HR N x.word k q q
 | 0,_,q,_=>rfl
 | k+1,hk,q,hq=>by
  obtain⟨r1,n1⟩:=hF.round hx (show k<K by omega);obtain⟨m,hm,_,hb⟩:=Xx r1 n1 hF.n5 hq;exact⟨q,hq,by rw[hm,Lm];exact hb,HR_own hF hx k (by omega) q hq⟩
theorem hrd_view{s:Sy}{K N:Nat}(hF:Fine s K N)(hS:Sees s K N)(hl:LowV s.vs){x:Exn}(hx:x∈s.xs):∀k,k<=K->∀q,q<N->∃S:Nat,(qK s.vs s.vs.length).getD (xw x k q).toNat 0=(S:Int)/\S<32/\∀o,o<5->(S.testBit o=Av↔HR N x.word k q o):=by
 have nd:=hF.n5;have rA:=hrd_small hl (fun v hv=>by obtain⟨⟨p,h1,h2⟩,_⟩:=hF.vs v hv;exact⟨p,h1,by omega⟩);intro k
 induction k with
 | zero=>
  intro _ q hq;have ha:=hS.v0 x hx q hq;obtain⟨hi,e⟩:=Lq.1 ha.2;obtain⟨S,e1,e2,e3⟩:=Yq hl hi (p:=q) (by rw[e];rfl) (by omega) (fun j hj=>rA j (by omega));refine⟨S,e1,e2,fun o ho=>(e3 o ho).trans ?_⟩;rw[e];constructor
  . rintro(h | ⟨h0,_⟩)
    . exact h
    . exact absurd h0 (by show ¬((0:Int)<0);omega)
  . exact fun h=>.inl h
 | succ k ih=>
  intro hk q hq;have ha:=hS.vk x hx k (by omega) q hq;obtain⟨hi,e⟩:=Lq.1 ha.2;obtain⟨S,e1,e2,e3⟩:=Yq hl hi (p:=q) (by rw[e];rfl) (by omega) (fun j hj=>rA j (by omega));obtain⟨r1,n1⟩:=hF.round hx (show k<K by omega);obtain⟨m0,oo,hmN,hb⟩:=Xx r1 n1 nd hq;obtain⟨iG,iS⟩:=hF.row hx (show k<=K by omega);refine⟨S,e1,e2,fun o ho=>(e3 o ho).trans ?_⟩;rw[e]
  have eQ:∀m,((x.word.getD k default).h q).toNat.testBit m=Av->m<N:=fun m hm=>by
   rw[oo,Lm] at hm
   by_cases h:m<N
   . exact h
   . rw[Nat.testBit_lt_two_pow (LH hmN (Nt (by omega) (by omega)))] at hm
     cases hm
  constructor
  . rintro(rfl | ⟨_,m,pk,CG,T,eT,hT⟩)
    . exact HR_own hF hx (k+1) hk o hq
    . rw[uv _ _ _ _ m pk] at CG eT
      unfold yh at CG eT
      by_cases hc:m<(x.views.getD k []).length/\((x.word.getD k default).h q).toNat.testBit m=Av
      . rw[Lj hc] at eT
        have tN:m<N:=by omega
        obtain⟨S',f1,f2,f3⟩:=ih (by omega) m tN;have e':(x.views.getD k []).getD m 0=xw x k m:=rfl;rw[e',f1] at eT;have:S'=T:=by omega
        subst this;exact⟨m,tN,hc.2,(f3 o ho).1 hT⟩
      . rw[Lg hc] at CG
        exact absurd CG (by omega)
  . rintro⟨m,tN,se,hR⟩
    obtain⟨S',f1,f2,f3⟩:=ih (by omega) m tN;have e':(x.views.getD k []).getD m 0=xw x k m:=rfl;have hc:m<(x.views.getD k []).length/\((x.word.getD k default).h q).toNat.testBit m=Av:=⟨by omega,se⟩;refine .inr ⟨by show(0:Int)<((k+1:Nat):Int);omega,m,by omega,?_,S',?_,(f3 o ho).2 hR⟩
    . rw[uv _ _ _ _ m (by omega)]
      unfold yh;rw[Lj hc,e'];obtain⟨v,hv,_⟩:=hS.pr hx (show k<=K by omega) tN;exact hv.lt.1
    . rw[uv _ _ _ _ m (by omega)]
      unfold yh;rw[Lj hc,e',f1]
def xH(s:Sy)(out:List Int)(h:Fh)(x:Nat×Nat):Bool:=
 if h.op=0 then Av
 else if h.op=1 then decide ((yA s.p (s.xs.getD x.1 default).c.toNat).getD h.p.toNat 0=h.v)
 else if h.op=2 then decide (h.v∈yA s.p (s.xs.getD x.1 default).c.toNat)
 else if h.op=3 then ((qK s.vs s.vs.length).getD (xw (s.xs.getD x.1 default) x.2 h.p.toNat).toNat 0).toNat.testBit h.o.toNat
 else if h.op=4 then decide (0<x.2)&&(((s.xs.getD x.1 default).word.getD (x.2-1) default).f).toNat.testBit h.p.toNat
 else if h.op=5 then decide (0<out.length)&&decide (out.getD (xw (s.xs.getD x.1 default) x.2 h.p.toNat).toNat 0=h.v)
 else decide ((x.2:Int)=h.v)
def jK(s:Sy)(out:List Int)(h:Fh):List Bool:=(zt (s.p.k.toNat+1) 0 s.xs.length).map (xH s out h)
def atmE(s:Sy)(out:List Int)(d:Nat)(f:Fm):List Bool×Int:=
 if yc s≠0 then ([],yc s) else if 0<out.length/\out.length≠s.vs.length then ([],15) else if qy s.n d f≠0 then ([],qy s.n d f) else if 0<f.args.length then ([],11) else (jK s out f.h,0)
theorem YL(s:Sy)(out:List Int)(h:Fh):(jK s out h).length=s.xs.length*(s.p.k.toNat+1):=by unfold jK;rw[LG,vt _ _ (by omega)]
structure AtmOk(N:Nat)(h:Fh):Prop where
 op0:0<=h.op
 op6:h.op<=6
 p:h.op=1\/h.op=3\/h.op=4\/h.op=5->0<=h.p/\h.p<(N:Int)
 o:h.op=3->0<=h.o/\h.o<(N:Int)
theorem atm_ok{n:Int}{N:Nat}(hn:n=(N:Int)){d:Nat}{f:Fm}(h:qy n d f=0)(ha:f.args.length=0):AtmOk N f.h:=by
 have dW:qI N f.h 0=0:=by
  unfold qy at h
  split at h
  . cases h
  split at h
  . rename_i h2;exact absurd h h2
  have e : yW n.toNat d f = if qI N f.h 0 ≠ 0 then qI N f.h 0 else yW n.toNat d f := by
   have hN:n.toNat=N:=by omega
   rw[hN]
   cases d<;>(unfold yW uG;rw[ha];split<;>simp_all)
  rw[e] at h
  split at h
  . exact h
  rename_i h3;simpa using h3
 unfold qI at dW
 by_cases h1:f.h.op<0\/17<f.h.op
 . rw[Lj h1] at dW;cases dW
 rw[Lg h1] at dW
 by_cases h2:((0:Nat):Int)≠arN f.h.op
 . rw[Lj h2] at dW;cases dW
 rw[Lg h2] at dW
 have h6:f.h.op<=6:=by
  unfold arN at h2
  by_cases e1:f.h.op=8\/f.h.op=9\/f.h.op=17
  . rw[Lj e1] at h2;simp at h2
  rw[Lg e1] at h2
  by_cases e2:f.h.op<=6
  . exact e2
  rw[Lg e2] at h2;simp at h2
 refine⟨by omega,h6,fun hp=>?_,fun ho=>?_⟩
 . have hu:usP f.h.op=Av:=by unfold usP;rw[NH];omega
   by_cases hr:0<=f.h.p/\f.h.p<=(N:Int)-1
   . omega
   rw[Lj (.inl ⟨hu,hr⟩)] at dW;cases dW
 have hu:usO f.h.op=Av:=by unfold usO;rw[NH];omega
 by_cases hr:0<=f.h.o/\f.h.o<=(N:Int)-1
 . omega
 rw[Lj (.inr (.inl ⟨hu,hr⟩))] at dW;cases dW
end
section
open Go.RowKit Go.Shelf
attribute [local go_sem] Oper.semAt_some
theorem Zo(a b c:Int)(w:Ba):An Al 102 #[O U a,O U b,O U c] w fun e w'=>e=Ak (Ah (decide (b<=a/\a<=c)))/\w'=w:=by
 go_enter func102,ntmps102
 by_cases h1:b<=a
 . by_cases h2:a<=c
   . have e:decide (b<=a/\a<=c)=Av:=by simp[h1,h2]
     rw[e];go_wp2_with fail;go_ret;exact⟨rfl,rfl⟩
   have e:decide (b<=a/\a<=c)=Aw:=by simp[h2]
   rw[e];go_wp2_with fail;go_ret;exact⟨rfl,rfl⟩
 have e:decide (b<=a/\a<=c)=Aw:=by simp[h1]
 rw[e];go_wp2_with fail;go_ret;exact⟨rfl,rfl⟩
theorem sized2_any(n d:Nat)(w:Ba):An Al 103 #[O U (n:Int),O U (d:Int)] w fun e w'=>e=Ak (O U (uW (n,d)))/\w'=w:=by
 by_cases h1:128<n
 . have e:uW (n,d)=5:=Lj h1
   have e1:(128:Int)<(n:Int):=by omega
   rw[e];go_enter func103,ntmps103;go_wp2_with fail;go_ret;exact⟨rfl,rfl⟩
 by_cases h2:24<d
 . have e:uW (n,d)=12:=by unfold uW;rw[Lg h1,Lj h2]
   have e1:¬(128:Int)<(n:Int):=by omega
   have e2:(24:Int)<(d:Int):=by omega
   rw[e];go_enter func103,ntmps103;go_wp2_with fail;go_ret;exact⟨rfl,rfl⟩
 have e:uW (n,d)=0:=by unfold uW;rw[Lg h1,Lg h2]
 have e1:¬(128:Int)<(n:Int):=by omega
 have e2:¬(24:Int)<(d:Int):=by omega
 rw[e];go_enter func103,ntmps103;go_wp2_with fail;go_ret;exact⟨rfl,rfl⟩
theorem Yx(f:Fm)(R:Fm->Nat×Nat)(A:Bb)(c:Nat)(w:Ba)(hl:f.args.length<=1000000)(hb:(zP R f.args).1<=1000000/\(zP R f.args).2<=1000000)
  (dz:RecAt w A f.args fun cs x X=>An Al 104 #[.agg cs] X fun e w'=>e=Ak (.tuple #[O U ((R x).1:Int),O U ((R x).2:Int)])/\Am X.heap.size X w') :
  An Al 104 #[.agg (f.vs A c)] w fun e w'=>e=Ak (.tuple #[O U ((zP R f.args).1:Int),O U (((zP R f.args).2+1:Nat):Int)])/\Am w.heap.size w w':=by
 obtain⟨w1,ab,d0,av,hB⟩:=zn w (f.vs A c) 32;have aL:=zH dz;have mg:=zH (fun k=>qU R f.args k);have rR:=zH (fun k (h:k<f.args.length)=>(by rw[Ls h,qV]:zP R (f.args.take (k+1))=((zP R (f.args.take k)).1+(R f.args[k]).1,max (zP R (f.args.take k)).2 (R f.args[k]).2)));have dX:As (zP R (f.args.take f.args.length)=zP R f.args):=by rw[As,LK]
 have rq:=zH hb;unfold Fm.vs at ab d0 aL ⊢;obtain⟨l,aJ⟩:=Kj f.args;rw[aJ] at ab d0 aL mg rR dX rq hl ⊢;obtain⟨T,hT⟩:=Kj (zP R l);rw[hT] at mg dX rq ⊢;obtain⟨n,hn⟩:=Kj l.length;have HN:=zH hn;rw[hn] at ab d0 dX hl ⊢;have ag:=zH ab;have HB:=zH hB;clear ab d0 hB dz hb aJ hT hn;go_enter func104,ntmps104;go_wp2_with fail;rw[ag.out];go_wp2_with fail
 go_loopw [4,5,13] (fun a b i wr=>∃k:Nat,k<=n/\i=O U (k:Int)/\a=O U ((zP R (l.take k)).1:Int)/\b=O U ((zP R (l.take k)).2:Int)/\As (Am w1.heap.size w1 wr)) (fun _ _ i _=>n-(Ar i).toNat)
 case atStart=>exact⟨0,by omega,rfl,rfl,rfl,Ll _ _⟩
 obtain⟨k,hk,rfl,rfl,rfl,aK⟩:=hrel;obtain⟨a,ha⟩:=Kj ((zP R (l.take k)).1);obtain⟨b,hb⟩:=Kj ((zP R (l.take k)).2)
 have T0:a<=1000000/\b<=1000000:=by
  have h1:=mg.out k;have h2:=rq.out;omega
 by_cases hlt:k<n
 . have cJ:k<l.length:=by have:=HN.out;omega
   have ez:=rR.out k cJ;have sM:=mg.out (k+1);obtain⟨bb,o,A',c',eA,bj,al,aB⟩:=aL.out k cJ;subst eA;obtain⟨x,hx⟩:=Kj (l[k]);rw[hx] at al aB ez;obtain⟨Rx,C2⟩:=Kj (R x);dsimp only at aB;rw[C2] at aB ez;rw[ha,hb] at ez;have iZ:(zP R (l.take (k+1))).1=a+Rx.1:=by rw[ez]
   have oB:(zP R (l.take (k+1))).2=max b Rx.2:=by rw[ez]
   have ai:=zH iZ;have aj:=zH oB
   have fD:a+Rx.1<=1000000/\max b Rx.2<=1000000:=by
    have h2:=rq.out;omega
   obtain⟨xh,xl⟩:=x;obtain⟨h0,h1,h2,h3,h4⟩:=xh;have hc:∀j v,#[O U h0,O U h1,O U h2,O U h3,O U h4,I A' xl.length c'][j]?=J v->wr.cell? ⟨bb,o+k*6+j,Z⟩=J v:=al wr (HB.out.trans (aK.out.mono (by have:=HB.out.size;omega)));have z0:wr.cell? ⟨bb,o+k*6,Z⟩=J (O U h0):=hc 0 _ rfl;have z1:wr.cell? ⟨bb,o+k*6+1,Z⟩=J (O U h1):=hc 1 _ rfl;have z2:wr.cell? ⟨bb,o+k*6+2,Z⟩=J (O U h2):=hc 2 _ rfl;have z3:wr.cell? ⟨bb,o+k*6+3,Z⟩=J (O U h3):=hc 3 _ rfl;have z4:wr.cell? ⟨bb,o+k*6+4,Z⟩=J (O U h4):=hc 4 _ rfl;have z5:wr.cell? ⟨bb,o+k*6+5,Z⟩=J (I A' xl.length c'):=hc 5 _ rfl;have dg:(0:Int)<=(k:Int):=by omega
   have aM:(k:Int)<(n:Int):=by omega
   have HC:=zH aB;have Dl:=zH aK.out;simp only[Fm.vs,Fm.args,Fm.h] at HC;go_upto_region 5 with fail
   obtain⟨W2,dZ,d2,cM,ae⟩:=zn wr #[O U h0,O U h1,O U h2,O U h3,O U h4,I A' xl.length c'] 32;rw[dZ];have aO:=HB.out.size;have au:=zH (Lc Dl.out ae);have dv:=zH (HC.out W2 (HB.out.trans (au.out.mono aO)));obtain⟨y0,y1,y2,y3,y4,y5,_⟩:=Ki d2;obtain⟨r1,r2⟩:=Rx;dsimp only at dv ai aj fD;go_wp2_with fail;refine dv.out.mono ?_;rintro e w3 ⟨rfl,ak⟩;have aC:=zH (Lc au.out ak);have ab:IntKind.i64.wrap ((a:Int)+(r1:Int))=((a+r1:Nat):Int):=by rw[Lo];omega
   go_wp2_with fail
   go_roundw
   case rel=>exact⟨k+1,by omega,by go_num,by first | (rw[ai.out];done) | (rw[ai.out];go_num),by first | (rw[aj.out];done) | (rw[aj.out];go_num),aC⟩
   simp[Ar];omega
 obtain rfl:k=n:=by omega
 have h1:As (a=T.1):=by rw[As,<-ha,dX.out]
 have h2:As (b=T.2):=by rw[As,<-hb,dX.out]
 have mF:=zH (HB.out.trans (aK.out.mono (by have:=HB.out.size;omega)));have ab:IntKind.i64.wrap ((b:Int)+1)=((b+1:Nat):Int):=by rw[Lo];omega
 go_wp2_with fail
 go_ret2
 refine⟨?_,mF.out⟩;show Ak (.tuple #[O U ((zP R (l.take k)).1:Int),O U ((b:Int)+1)])=_;rw[<-h1.out,<-h2.out,ha];rfl
theorem XB:∀(d:Nat) (f:Fm) (A:Bb) (c:Nat) (w:Ba),FsAt w w.heap.size d A f.args->(zR d f).1<=1000000 ->
  An Al 104 #[.agg (f.vs A c)] w fun e w'=>e=Ak (.tuple #[O U ((zR d f).1:Int),O U ((zR d f).2:Int)])/\Am w.heap.size w w'
 | 0,f,A,c,w,hA,hb=>by
  have h0:f.args=[]:=hA;exact Yx f (fun _=>(0,0)) A c w (by rw[h0];decide) (by rw[h0];decide) (RecAt.none hA)
 | d+1,f,A,c,w,hA,hb=>by
  have h1:(zP (zR d) f.args).1<=1000000:=hb;have h2:(zP (zR d) f.args).2+1<=(zP (zR d) f.args).1:=jb (d+1) f;have h3:=qW (zR d) (kd d) f.args;refine Yx f (zR d) A c w (by omega) (by omega) (RecAt.of hA fun x A' c' X hx hX=>XB d x A' c' X hX ?_);exact Lu (uu (zR d) hx) h1
def qe(op:Int):List Nat:=if op=1\/op=5 then [1,3] else if op=2 then [3] else if op=3 then [1,2] else if op=4\/op=10 then [1] else if op=6 then [3] else if op=11\/op=12\/op=13 then [4] else []
def JD(n:Nat)(op:Int):List Int:=if op=1\/op=5 then [(n:Int)-1,7] else if op=2 then [7] else if op=3 then [(n:Int)-1,(n:Int)-1] else if op=4\/op=10 then [(n:Int)-1] else if op=6 then [6] else if op=11\/op=12\/op=13 then [(2:Int)^n-1] else []
def kH(os:List Nat)(ms:List Int)(b:Nat)(w:Ba)(e:Ending)(w':Ba):Prop:=
 ∃A1 A2,e=Ak (.tuple #[I A1 os.length os.length,I A2 os.length os.length])/\Am w.heap.size w w' /\
  ∀k (h:k<os.length),∃g1 g2,A1=J ⟨g1,0,Z⟩/\A2=J ⟨g2,0,Z⟩/\w.heap.size<=g1/\w.heap.size<=g2/\g1<w'.heap.size/\g2<w'.heap.size/\w'.cell? ⟨g1,k,Z⟩=J (Aj (J ⟨b,os[k],Z⟩))/\w'.cell? ⟨g2,k,Z⟩=J (O U (ms.getD k 0))
theorem vp{w w':Ba}{b:Nat}{o1 o2:Nat}{m1 m2:Int}{t1 t2:TypeId}{g1 g2:Nat}(hb:Am w.heap.size w w')(h1:w.heap.size<=g1)(h2:w.heap.size<=g2)
  (d1:w'.heap[g1]?=J (Ag #[Aj (J ⟨b,o1,Z⟩),Aj (J ⟨b,o2,Z⟩)] t1 (0,0))) (d2:w'.heap[g2]?=J (Ag #[O U m1,O U m2] t2 (0,0))) :
  kH [o1,o2] [m1,m2] b w (Ak (.tuple #[I (J ⟨g1,0,Z⟩) 2 2,I (J ⟨g2,0,Z⟩) 2 2])) w':=by
 refine⟨_,_,rfl,hb,fun k hk=>⟨g1,g2,rfl,rfl,h1,h2,zj d1,zj d2,?_⟩⟩;have fU:k<2:=hk;obtain rfl | rfl:k=0\/k=1:=by omega
 . exact⟨zh d1 0 rfl,zh d2 0 rfl⟩
 exact⟨zh d1 1 rfl,zh d2 1 rfl⟩
theorem qC{w w':Ba}{b:Nat}{o1:Nat}{m1:Int}{t1 t2:TypeId}{g1 g2:Nat}(hb:Am w.heap.size w w')(h1:w.heap.size<=g1)(h2:w.heap.size<=g2)
  (d1:w'.heap[g1]?=J (Ag #[Aj (J ⟨b,o1,Z⟩)] t1 (0,0))) (d2:w'.heap[g2]?=J (Ag #[O U m1] t2 (0,0))) :
  kH [o1] [m1] b w (Ak (.tuple #[I (J ⟨g1,0,Z⟩) 1 1,I (J ⟨g2,0,Z⟩) 1 1])) w':=by
 refine⟨_,_,rfl,hb,fun k hk=>⟨g1,g2,rfl,rfl,h1,h2,zj d1,zj d2,?_⟩⟩;have fU:k<1:=hk;obtain rfl:k=0:=by omega
 exact⟨zh d1 0 rfl,zh d2 0 rfl⟩
theorem jy(n:Nat)(hn:n<=5)(w:Ba):An Al 162 #[O U (n:Int)] w fun e w'=>e=Ak (O U ((2:Int)^n-1))/\w'=w:=by
 obtain rfl | rfl | rfl | rfl | rfl | rfl:n=0\/n=1\/n=2\/n=3\/n=4\/n=5:=by omega
 all_goals
  go_enter func162,ntmps162;go_wp2;go_ret;exact⟨rfl,rfl⟩
theorem yX(w:Ba)(c1 c2:Array Au)(t1 t2:TypeId):(((w.alloc (Ag c1 t1)).alloc (Ag c2 t2)).heap[w.heap.size]?=J (Ag c1 t1 (0,0)))/\(((w.alloc (Ag c1 t1)).alloc (Ag c2 t2)).heap[w.heap.size+1]?=J (Ag c2 t2 (0,0)))/\Am w.heap.size w ((w.alloc (Ag c1 t1)).alloc (Ag c2 t2)):=by
 obtain⟨W,h,h1,h2,_,h3⟩:=yI w c1 c2 t1 t2;rw[h];exact⟨h1,h2,h3⟩
theorem fields_1(h:Fh)(A:Bb)(len c n:Nat)(hn:n<=5)(b:Nat)(w:Ba)(hb:w.heap[b]?=J (Ag #[O U h.op,O U h.p,O U h.o,O U h.v,O U h.g,I A len c] 32 (0,0)))(ho:h.op=1) :
  An Al 143 #[Aj (J ⟨b,0,Z⟩),O U (n:Int)] w (kH [1,3] [(n:Int)-1,7] b w):=by
 have p0:=zh hb 0 rfl;rw[ho] at p0;have ab:IntKind.i64.wrap ((n:Int)-1)=(n:Int)-1:=by rw[Lo];omega
 go_enter N8,N0;go_wp2_with fail
 go_region_held3 (fun _=>True) (exact trivial) (fail)
 all_goals
  go_wp2_with fail
  go_ret2
 all_goals
  first
  | (obtain ⟨H1, H2, H3⟩ := yX w #[Aj (J ⟨b, 1, Z⟩), Aj (J ⟨b, 3, Z⟩)] #[O U ((n : Int) - 1), O U (7)] 219 3
     exact vp H3.drew (by omega) (by omega) H1 H2)
  | (obtain ⟨H1, H2, H3⟩ := yX w #[O U ((n : Int) - 1), O U (7)] #[Aj (J ⟨b, 1, Z⟩), Aj (J ⟨b, 3, Z⟩)] 3 219
     exact vp H3.drew (by omega) (by omega) H2 H1)
theorem fields_5(h:Fh)(A:Bb)(len c n:Nat)(hn:n<=5)(b:Nat)(w:Ba)(hb:w.heap[b]?=J (Ag #[O U h.op,O U h.p,O U h.o,O U h.v,O U h.g,I A len c] 32 (0,0)))(ho:h.op=5) :
  An Al 143 #[Aj (J ⟨b,0,Z⟩),O U (n:Int)] w (kH [1,3] [(n:Int)-1,7] b w):=by
 have p0:=zh hb 0 rfl;rw[ho] at p0;have ab:IntKind.i64.wrap ((n:Int)-1)=(n:Int)-1:=by rw[Lo];omega
 go_enter N8,N0;go_wp2_with fail
 go_region_held3 (fun _=>True) (exact trivial) (fail)
 all_goals
  go_wp2_with fail
  go_ret2
 all_goals
  first
  | (obtain ⟨H1, H2, H3⟩ := yX w #[Aj (J ⟨b, 1, Z⟩), Aj (J ⟨b, 3, Z⟩)] #[O U ((n : Int) - 1), O U (7)] 219 3
     exact vp H3.drew (by omega) (by omega) H1 H2)
  | (obtain ⟨H1, H2, H3⟩ := yX w #[O U ((n : Int) - 1), O U (7)] #[Aj (J ⟨b, 1, Z⟩), Aj (J ⟨b, 3, Z⟩)] 3 219
     exact vp H3.drew (by omega) (by omega) H2 H1)
theorem fields_2(h:Fh)(A:Bb)(len c n:Nat)(_hn:n<=5)(b:Nat)(w:Ba)(hb:w.heap[b]?=J (Ag #[O U h.op,O U h.p,O U h.o,O U h.v,O U h.g,I A len c] 32 (0,0)))(ho:h.op=2) :
  An Al 143 #[Aj (J ⟨b,0,Z⟩),O U (n:Int)] w (kH [3] [7] b w):=by
 have p0:=zh hb 0 rfl;rw[ho] at p0;go_enter N8,N0;go_wp2_with fail
 go_ret2
 obtain⟨H1,H2,H3⟩:=yX w #[Aj (J ⟨b,3,Z⟩)] #[O U (7)] 219 3;exact qC H3 (by omega) (by omega) H1 H2
theorem fields_3(h:Fh)(A:Bb)(len c n:Nat)(hn:n<=5)(b:Nat)(w:Ba)(hb:w.heap[b]?=J (Ag #[O U h.op,O U h.p,O U h.o,O U h.v,O U h.g,I A len c] 32 (0,0)))(ho:h.op=3) :
  An Al 143 #[Aj (J ⟨b,0,Z⟩),O U (n:Int)] w (kH [1,2] [(n:Int)-1,(n:Int)-1] b w):=by
 have p0:=zh hb 0 rfl;rw[ho] at p0;have ab:IntKind.i64.wrap ((n:Int)-1)=(n:Int)-1:=by rw[Lo];omega
 go_enter N8,N0;go_wp2_with fail
 go_region_held3 (fun _=>True) (exact trivial) (fail)
 all_goals
  go_wp2_with fail
  go_ret2
 all_goals
  first
  | (obtain ⟨H1, H2, H3⟩ := yX w #[Aj (J ⟨b, 1, Z⟩), Aj (J ⟨b, 2, Z⟩)] #[O U ((n : Int) - 1), O U ((n : Int) - 1)] 219 3
     exact vp H3.drew (by omega) (by omega) H1 H2)
  | (obtain ⟨H1, H2, H3⟩ := yX w #[O U ((n : Int) - 1), O U ((n : Int) - 1)] #[Aj (J ⟨b, 1, Z⟩), Aj (J ⟨b, 2, Z⟩)] 3 219
     exact vp H3.drew (by omega) (by omega) H2 H1)
theorem fields_4(h:Fh)(A:Bb)(len c n:Nat)(hn:n<=5)(b:Nat)(w:Ba)(hb:w.heap[b]?=J (Ag #[O U h.op,O U h.p,O U h.o,O U h.v,O U h.g,I A len c] 32 (0,0)))(ho:h.op=4) :
  An Al 143 #[Aj (J ⟨b,0,Z⟩),O U (n:Int)] w (kH [1] [(n:Int)-1] b w):=by
 have p0:=zh hb 0 rfl;rw[ho] at p0;have ab:IntKind.i64.wrap ((n:Int)-1)=(n:Int)-1:=by rw[Lo];omega
 go_enter N8,N0;go_wp2_with fail
 go_ret2
 obtain⟨H1,H2,H3⟩:=yX w #[Aj (J ⟨b,1,Z⟩)] #[O U ((n:Int)-1)] 219 3;exact qC H3 (by omega) (by omega) H1 H2
theorem fields_10(h:Fh)(A:Bb)(len c n:Nat)(hn:n<=5)(b:Nat)(w:Ba)(hb:w.heap[b]?=J (Ag #[O U h.op,O U h.p,O U h.o,O U h.v,O U h.g,I A len c] 32 (0,0)))(ho:h.op=10) :
  An Al 143 #[Aj (J ⟨b,0,Z⟩),O U (n:Int)] w (kH [1] [(n:Int)-1] b w):=by
 have p0:=zh hb 0 rfl;rw[ho] at p0;have ab:IntKind.i64.wrap ((n:Int)-1)=(n:Int)-1:=by rw[Lo];omega
 go_enter N8,N0;go_wp2_with fail
 go_ret2
 obtain⟨H1,H2,H3⟩:=yX w #[Aj (J ⟨b,1,Z⟩)] #[O U ((n:Int)-1)] 219 3;exact qC H3 (by omega) (by omega) H1 H2
theorem fields_6(h:Fh)(A:Bb)(len c n:Nat)(_hn:n<=5)(b:Nat)(w:Ba)(hb:w.heap[b]?=J (Ag #[O U h.op,O U h.p,O U h.o,O U h.v,O U h.g,I A len c] 32 (0,0)))(ho:h.op=6) :
  An Al 143 #[Aj (J ⟨b,0,Z⟩),O U (n:Int)] w (kH [3] [6] b w):=by
 have p0:=zh hb 0 rfl;rw[ho] at p0;go_enter N8,N0;go_wp2_with fail
 go_ret2
 obtain⟨H1,H2,H3⟩:=yX w #[Aj (J ⟨b,3,Z⟩)] #[O U (6)] 219 3;exact qC H3 (by omega) (by omega) H1 H2
theorem fields_11(h:Fh)(A:Bb)(len c n:Nat)(hn:n<=5)(b:Nat)(w:Ba)(hb:w.heap[b]?=J (Ag #[O U h.op,O U h.p,O U h.o,O U h.v,O U h.g,I A len c] 32 (0,0)))(ho:h.op=11) :
  An Al 143 #[Aj (J ⟨b,0,Z⟩),O U (n:Int)] w (kH [4] [(2:Int)^n-1] b w):=by
 have p0:=zh hb 0 rfl;rw[ho] at p0;have HE:=zH (fun W=>jy n hn W);go_enter N8,N0;go_wp2_with fail
 go_region_held3 (fun _=>True) (exact trivial) ((go_at_call 162;refine(HE.out _).mono ?_;rintro e w2 ⟨rfl,rfl⟩))
 all_goals
  go_wp2_with fail
  go_ret2
 all_goals
  first
  | (obtain ⟨H1, H2, H3⟩ := yX w #[Aj (J ⟨b, 4, Z⟩)] #[O U ((2 : Int) ^ n - 1)] 219 3
     exact qC H3.drew (by omega) (by omega) H1 H2)
  | (obtain ⟨H1, H2, H3⟩ := yX w #[O U ((2 : Int) ^ n - 1)] #[Aj (J ⟨b, 4, Z⟩)] 3 219
     exact qC H3.drew (by omega) (by omega) H2 H1)
theorem fields_12(h:Fh)(A:Bb)(len c n:Nat)(hn:n<=5)(b:Nat)(w:Ba)(hb:w.heap[b]?=J (Ag #[O U h.op,O U h.p,O U h.o,O U h.v,O U h.g,I A len c] 32 (0,0)))(ho:h.op=12) :
  An Al 143 #[Aj (J ⟨b,0,Z⟩),O U (n:Int)] w (kH [4] [(2:Int)^n-1] b w):=by
 have p0:=zh hb 0 rfl;rw[ho] at p0;have HE:=zH (fun W=>jy n hn W);go_enter N8,N0;go_wp2_with fail
 go_region_held3 (fun _=>True) (exact trivial) ((go_at_call 162;refine(HE.out _).mono ?_;rintro e w2 ⟨rfl,rfl⟩))
 all_goals
  go_wp2_with fail
  go_ret2
 all_goals
  first
  | (obtain ⟨H1, H2, H3⟩ := yX w #[Aj (J ⟨b, 4, Z⟩)] #[O U ((2 : Int) ^ n - 1)] 219 3
     exact qC H3.drew (by omega) (by omega) H1 H2)
  | (obtain ⟨H1, H2, H3⟩ := yX w #[O U ((2 : Int) ^ n - 1)] #[Aj (J ⟨b, 4, Z⟩)] 3 219
     exact qC H3.drew (by omega) (by omega) H2 H1)
theorem fields_13(h:Fh)(A:Bb)(len c n:Nat)(hn:n<=5)(b:Nat)(w:Ba)(hb:w.heap[b]?=J (Ag #[O U h.op,O U h.p,O U h.o,O U h.v,O U h.g,I A len c] 32 (0,0)))(ho:h.op=13) :
  An Al 143 #[Aj (J ⟨b,0,Z⟩),O U (n:Int)] w (kH [4] [(2:Int)^n-1] b w):=by
 have p0:=zh hb 0 rfl;rw[ho] at p0;have HE:=zH (fun W=>jy n hn W);go_enter N8,N0;go_wp2_with fail
 go_region_held3 (fun _=>True) (exact trivial) ((go_at_call 162;refine(HE.out _).mono ?_;rintro e w2 ⟨rfl,rfl⟩))
 all_goals
  go_wp2_with fail
  go_ret2
 all_goals
  first
  | (obtain ⟨H1, H2, H3⟩ := yX w #[Aj (J ⟨b, 4, Z⟩)] #[O U ((2 : Int) ^ n - 1)] 219 3
     exact qC H3.drew (by omega) (by omega) H1 H2)
  | (obtain ⟨H1, H2, H3⟩ := yX w #[O U ((2 : Int) ^ n - 1)] #[Aj (J ⟨b, 4, Z⟩)] 3 219
     exact qC H3.drew (by omega) (by omega) H2 H1)
theorem fields_no(h:Fh)(A:Bb)(len c n:Nat)(b:Nat)(w:Ba)(hb:w.heap[b]?=J (Ag #[O U h.op,O U h.p,O U h.o,O U h.v,O U h.g,I A len c] 32 (0,0)))(ho:¬(h.op=1\/h.op=5\/h.op=2\/h.op=3\/h.op=4\/h.op=10\/h.op=6\/h.op=11\/h.op=12\/h.op=13)) :
  An Al 143 #[Aj (J ⟨b,0,Z⟩),O U (n:Int)] w (kH [] [] b w):=by
 have p0:=zh hb 0 rfl;have n1:¬h.op=1:=by omega
 have n5:¬h.op=5:=by omega
 have n2:¬h.op=2:=by omega
 have n3:¬h.op=3:=by omega
 have n4:¬h.op=4:=by omega
 have Ti:¬h.op=10:=by omega
 have n6:¬h.op=6:=by omega
 have n11:¬h.op=11:=by omega
 have n12:¬h.op=12:=by omega
 have n13:¬h.op=13:=by omega
 go_enter N8,N0;go_wp2_with fail
 go_ret2
 exact⟨Z,Z,rfl,Ll _ _,fun k hk=>absurd hk (by simp)⟩
theorem fields_any(h:Fh)(A:Bb)(len c n:Nat)(hn:n<=5)(b:Nat)(w:Ba)(hb:w.heap[b]?=J (Ag #[O U h.op,O U h.p,O U h.o,O U h.v,O U h.g,I A len c] 32 (0,0))) :
  An Al 143 #[Aj (J ⟨b,0,Z⟩),O U (n:Int)] w (kH (qe h.op) (JD n h.op) b w):=by
 by_cases e1:h.op=1
 . have:=fields_1 h A len c n hn b w hb e1
   rw[e1];exact this
 by_cases e5:h.op=5
 . have:=fields_5 h A len c n hn b w hb e5
   rw[e5];exact this
 by_cases e2:h.op=2
 . have:=fields_2 h A len c n hn b w hb e2
   rw[e2];exact this
 by_cases e3:h.op=3
 . have:=fields_3 h A len c n hn b w hb e3
   rw[e3];exact this
 by_cases e4:h.op=4
 . have:=fields_4 h A len c n hn b w hb e4
   rw[e4];exact this
 by_cases rO:h.op=10
 . have:=fields_10 h A len c n hn b w hb rO
   rw[rO];exact this
 by_cases e6:h.op=6
 . have:=fields_6 h A len c n hn b w hb e6
   rw[e6];exact this
 by_cases Gm:h.op=11
 . have:=fields_11 h A len c n hn b w hb Gm
   rw[Gm];exact this
 by_cases Ep:h.op=12
 . have:=fields_12 h A len c n hn b w hb Ep
   rw[Ep];exact this
 by_cases Um:h.op=13
 . have:=fields_13 h A len c n hn b w hb Um
   rw[Um];exact this
 have h1:qe h.op=[]:=by unfold qe;simp[e1,e5,e2,e3,e4,rO,e6,Gm,Ep,Um]
 have h2:JD n h.op=[]:=by unfold JD;simp[e1,e5,e2,e3,e4,rO,e6,Gm,Ep,Um]
 rw[h1,h2];exact fields_no h A len c n b w hb (by omega)
theorem Y6{w w':Ba}{b B:Nat}(h:Wrote (fun z=>z=b) w w')(hb:B<=b)(hl:B<=w.heap.size):Am B w w':=⟨h.os,h.tape,h.output,h.size,fun k hk=>h.block k (by omega) (by show ¬k=b;omega)⟩
def Fh.at(h:Fh)(a:Nat):Int:=if a=1 then h.p else if a=2 then h.o else if a=3 then h.v else h.g
def Fh.zero(h:Fh)(a:Nat):Fh:=if a=1 then { h with p:=0 } else if a=2 then { h with o:=0 } else if a=3 then { h with v:=0 } else { h with g:=0 }
def zF(h:Fh)(os:List Nat):Nat->Fh
 | 0=>h
 | k+1=>(zF h os k).zero (os.getD k 0)
def fcs(h:Fh)(A:Bb)(len c:Nat):Array Au:=#[O U h.op,O U h.p,O U h.o,O U h.v,O U h.g,I A len c]
theorem fcs_cell{w:Ba}{b:Nat}{h:Fh}{A:Bb}{len c:Nat}(hb:w.heap[b]?=J (Ag (fcs h A len c) 32 (0,0))){a:Nat}(h1:1<=a)(h4:a<=4):w.cell? ⟨b,a,Z⟩=J (O U (h.at a)):=by
 obtain rfl | rfl | rfl | rfl:a=1\/a=2\/a=3\/a=4:=by omega
 . exact zh hb 1 rfl
 . exact zh hb 2 rfl
 . exact zh hb 3 rfl
 exact zh hb 4 rfl
theorem fcs_set(h:Fh)(A:Bb)(len c:Nat){a:Nat}(h1:1<=a)(h4:a<=4):(fcs h A len c).set! a (O U 0)=fcs (h.zero a) A len c:=by
 obtain rfl | rfl | rfl | rfl:a=1\/a=2\/a=3\/a=4:=by omega
 all_goals rfl
theorem fld_ok(op:Int):(qe op).length<=2/\(∀k (h:k<(qe op).length),1<=(qe op)[k]/\(qe op)[k]<=4):=by
 have key:∀l:List Nat,l∈[[1,3],[3],[1,2],[1],[4],[]]->l.length<=2/\∀k (h:k<l.length),1<=l[k]/\l[k]<=4:=by
  intro l hl;simp only[List.mem_cons,List.not_mem_nil,or_false] at hl
  have h2:(∀a∈l,1<=a/\a<=4)/\l.length<=2:=by
   rcases hl with rfl | rfl | rfl | rfl | rfl | rfl<;>decide
  exact⟨h2.2,fun k hk=>h2.1 _ (Lh hk)⟩
 refine key _ ?_;unfold qe
 repeat' split
 all_goals simp
theorem nod_prog{n:Nat}{h:Fh}{m:Nat}(h0:0<=h.op)(h17:h.op<=17)(hm:(m:Int)=arN h.op) :
  (∀k (hk:k<(qe h.op).length),((zF h (qe h.op) k).at (qe h.op)[k]<0\/(JD n h.op).getD k 0<(zF h (qe h.op) k).at (qe h.op)[k])->qI n h m=2) /\
  ((∀k (hk:k<(qe h.op).length),0<=(zF h (qe h.op) k).at (qe h.op)[k]/\(zF h (qe h.op) k).at (qe h.op)[k]<=(JD n h.op).getD k 0) ->
   qI n h m=if (zF h (qe h.op) (qe h.op).length).p≠0\/(zF h (qe h.op) (qe h.op).length).o≠0\/(zF h (qe h.op) (qe h.op).length).v≠0\/(zF h (qe h.op) (qe h.op).length).g≠0 then 3 else 0):=by
 obtain⟨op,p,o,v,g⟩:=h;dsimp only at h0 h17 hm ⊢;have e1:¬(op<0\/17<op):=by omega
 have e2:¬((m:Int)≠arN op):=by simp[hm]
 unfold qI;dsimp only;rw[Lg e1,Lg e2];clear e1 e2 hm;have mt:=(fld_ok op).1;obtain rfl | rfl | rfl | rfl | rfl | rfl | rfl | rfl | rfl | rfl | rfl | rfl | rfl | rfl | rfl | rfl | rfl | rfl:op=0\/op=1\/op=2\/op=3\/op=4\/op=5\/op=6\/op=7\/op=8\/op=9\/op=10\/op=11\/op=12\/op=13\/op=14\/op=15\/op=16\/op=17:=by omega
 all_goals
  refine⟨fun k hk hh=>?_,fun hh=>?_⟩
  . have fU:k=0\/k=1:=by omega
    simp only[usP,usO,usV,usG,mxV];rcases fU with rfl | rfl
    all_goals
     simp[qe,JD,zF,Fh.at,Fh.zero] at hk hh ⊢
     try omega
  . have h0:=hh 0
    have h1:=hh 1;simp only[usP,usO,usV,usG,mxV];clear hh;simp[qe,JD,zF,Fh.at,Fh.zero] at h0 h1 ⊢
    try omega
theorem Ze(n:Nat)(_hn1:1<=n)(hn:n<=5)(f:Fm)(R:Fm->Int)(A:Bb)(c:Nat)(w:Ba)(hl:f.args.length<=1000000)
  (dz:RecAt w A f.args fun cs x X=>An Al 105 #[.agg cs,O U (n:Int)] X fun e w'=>e=Ak (O U (R x))/\Am X.heap.size X w') :
  An Al 105 #[.agg (f.vs A c),O U (n:Int)] w fun e w'=>e=Ak (O U (uG n R f))/\Am w.heap.size w w':=by
 obtain⟨w1,ab,d0,av,hB⟩:=zn w (f.vs A c) 32;have aL:=zH dz;have nh:=zH av;clear av;have UT:=zH (fun a b c W=>Zo a b c W);obtain⟨⟨op,hp,ho,hv,hg⟩,l⟩:=f;obtain⟨E,hE⟩:=Kj (uG n R (.mk ⟨op,hp,ho,hv,hg⟩ l));have HE:As (E=if qI n ⟨op,hp,ho,hv,hg⟩ l.length≠0 then qI n ⟨op,hp,ho,hv,hg⟩ l.length else YC (l.map R)):=hE.symm;rw[hE];simp only[Fm.vs,Fm.args,Fm.h] at ab d0 aL hl HE ⊢;obtain⟨m,hm⟩:=Kj l.length;have HM:=zH hm;rw[hm] at ab d0 hl HE ⊢;have ag:=zH ab;have HB:=zH hB;have du:=zH d0;obtain⟨p0,p1,p2,p3,p4,p5,_⟩:=Ki d0;clear ab d0 hB dz hm hE;go_enter func105,ntmps105;go_wp2_with fail;rw[ag.out];go_wp2_with fail;refine(UT.out _ _ _ _).mono ?_;rintro e w2 ⟨rfl,bh⟩;obtain rfl:=bh
 by_cases bZ:0<=op/\op<=17
 case neg=>
  have e0:decide (0<=op/\op<=17)=Aw:=Lv bZ
  have px:As (E=1):=by
   have h1:qI n ⟨op,hp,ho,hv,hg⟩ m=1:=Lj (by show op<0\/17<op;omega);rw[As,HE.out,h1];rfl
  clear HE aL bZ;go_wp2_with fail;go_ret;rw[px.out];exact⟨rfl,HB.out⟩
 have e0:decide (0<=op/\op<=17)=Av:=Lw bZ
 go_upto_block 0 with fail
 go_cut [0,5] from 14 (fun s0 s5 wx=>s0=Ai #[O U op,O U hp,O U ho,O U hv,O U hg,I A m c]/\s5=O U (arN op)/\wx=w2)
 case first=>
  clear HE aL;obtain rfl | rfl | rfl | rfl | rfl | rfl | rfl | rfl | rfl | rfl | rfl | rfl | rfl | rfl | rfl | rfl | rfl | rfl:op=0\/op=1\/op=2\/op=3\/op=4\/op=5\/op=6\/op=7\/op=8\/op=9\/op=10\/op=11\/op=12\/op=13\/op=14\/op=15\/op=16\/op=17:=by omega
  all_goals
   go_wp2_with fail
   go_meet
   exact⟨rfl,rfl,rfl⟩
 obtain⟨rfl,rfl,rfl⟩:=hcut
 by_cases hm:(m:Int)=arN op
 case neg=>
  have px:As (E=15):=by
   have h1:qI n ⟨op,hp,ho,hv,hg⟩ m=15:=by unfold qI;rw[Lg (by show ¬(op<0\/17<op);omega),Lj hm]
   rw[As,HE.out,h1];rfl
  have e1:((m:Int) != arN op)=Av:=by simpa using hm
  clear HE aL bZ;go_wp2_with fail;go_ret;rw[px.out];exact⟨rfl,HB.out⟩
 have e1:((m:Int) != arN op)=Aw:=by simpa using hm
 go_upto_region 20 with fail
 obtain⟨W2,dZ,d2,cM,ae⟩:=zn wc #[O U op,O U hp,O U ho,O U hv,O U hg,I A m c] 32;rw[dZ];have Uf:=HB.out.size;have fX:=zH cM;clear cM;have au:=zH (HB.out.trans (ae.mono Uf));have HF:=zH (fields_any ⟨op,hp,ho,hv,hg⟩ A m c n hn wc.heap.size W2 d2);obtain⟨nD,MW⟩:=fld_ok op;obtain⟨OB,OA⟩:=nod_prog (n:=n) (h:=⟨op,hp,ho,hv,hg⟩) (m:=m) bZ.1 bZ.2 hm;have du:=zH (La ae du.out);have ff:=zH d2;dsimp only at HF OB OA nD MW
 revert HF OB OA nD MW
 generalize qe op=os
 generalize JD n op=ms
 intro HF nD MW OB OA;have iP:=zH OB;have Dh:=zH OA;have SL:=zH MW;unfold kH at HF;obtain⟨q,hq⟩:=Kj os.length;have HQ:=zH hq;rw[hq] at nD;simp only[hq] at HF;clear dZ d2 ae OB OA MW p0 p1 p2 p3 p4 p5 e0 e1 hm;go_wp2_with fail;refine HF.out.mono ?_;rintro e W3 ⟨A1,A2,rfl,ak,dp⟩;have cz:=ak.size;have aC:=zH (au.out.trans (ak.mono (by have:=fX.out;omega)));have i9:=zH dp;have du:=zH (La ak du.out);have od:As (W3.heap[wc.heap.size]?=J (Ag (fcs (zF ⟨op,hp,ho,hv,hg⟩ os 0) A m c) 32 (0,0))):=La ak ff.out;have lP:As (∀X,Wrote (fun z=>z=wc.heap.size) W3 X->X.heap[w.heap.size]?=J (Ag #[O U op,O U hp,O U ho,O U hv,O U hg,I A m c] 32 (0,0))):=fun X hX=>(hX.block _ (zj du.out) (by have:=nh.out;omega)).trans du.out
 clear ak dp HF ff du;go_wp2_with fail
 go_loopw [45] (fun i wr=>∃k:Nat,k<=q/\i=O U (k:Int)/\As (∀j (hj:j<os.length),j<k->0<=(zF ⟨op,hp,ho,hv,hg⟩ os j).at os[j]/\(zF ⟨op,hp,ho,hv,hg⟩ os j).at os[j]<=ms.getD j 0)/\As (wr.heap[wc.heap.size]?=J (Ag (fcs (zF ⟨op,hp,ho,hv,hg⟩ os k) A m c) 32 (0,0)))/\As (Wrote (fun z=>z=wc.heap.size) W3 wr)) (fun i _=>q-(Ar i).toNat)
 case atStart=>exact⟨0,by omega,rfl,fun j _ h=>absurd h (by omega),od,Wrote.refl _ _⟩
 obtain⟨k,hk,rfl,rL,hZ,me⟩:=hrel;clear od
 by_cases FA:k<q
 . have We:k<os.length:=by have:=HQ.out;omega
   obtain⟨g1,g2,rfl,rfl,nC,fm,iG,mt,c1,c2⟩:=i9.out k (by have:=HQ.out;omega);obtain⟨fw,CZ⟩:=SL.out k We;have oB:=iP.out k We;obtain⟨a,ha⟩:=Kj (os[k]);have MS:os.getD k 0=a:=by rw[zA We];exact ha
   obtain⟨Ae,Ef⟩:=Kj (zF ⟨op,hp,ho,hv,hg⟩ os k);have hZ1:zF ⟨op,hp,ho,hv,hg⟩ os (k+1)=Ae.zero a:=by rw[zF,Ef,MS]
   obtain⟨mx,Ia⟩:=Kj (ms.getD k 0)
   have IQ:As (0<=Ae.at a/\Ae.at a<=mx->∀j (hj:j<os.length),j<k+1->0<=(zF ⟨op,hp,ho,hv,hg⟩ os j).at os[j]/\(zF ⟨op,hp,ho,hv,hg⟩ os j).at os[j]<=ms.getD j 0):=fun h j hj FD=>by
    by_cases e:j=k
    . subst e;rw[Ef,ha,Ia];exact h
    . exact rL.out j hj (by omega)
   simp only[ha,Ef,Ia] at oB c1 c2 fw CZ;rw[Ef] at hZ;have u1:=(LL (a:=⟨g1,k,Z⟩) (me.out.block g1 iG (by show ¬g1=wc.heap.size;have:=fX.out;omega))).trans c1;have u2:=(LL (a:=⟨g2,k,Z⟩) (me.out.block g2 mt (by show ¬g2=wc.heap.size;have:=fX.out;omega))).trans c2;have z0:=fcs_cell hZ.out fw CZ;have zf:=zi hZ.out a;have zl:=zj hZ.out;have cH:=jw hZ.out a (O U 0);rw[fcs_set Ae A m c fw CZ,<-hZ1] at cH;have cW:=zH cH.1;obtain⟨y,hy⟩:=Kj (Ae.at a);rw[hy] at z0;simp only[hy] at IQ oB;have aj:=zH oB;have dg:(0:Int)<=(k:Int):=by omega
   have aM:(k:Int)<(q:Int):=by omega
   have Im:As (Wrote (fun z=>z=wc.heap.size) W3 (wr.setCell ⟨wc.heap.size,a,Z⟩ (O U 0)).drew):=(me.out.trans (Wrote.of_grown (zV wr wc.heap.size a _) (fun z e _=>by cases e;rfl)) (fun _ _ h=>h)).trans (Wrote.of_below ((Ll _ _).drew)) (fun _ _ h=>h);have EO:As (∃bt:Bool,(bt=Av↔(0<=y/\y<=mx))/\∀W,An Al 102 #[O U y,O U 0,O U mx] W fun e w'=>e=Ak (Ah bt)/\w'=W):=⟨_,by simp,fun W=>UT.out y 0 mx W⟩;obtain⟨bt,pU,CQ⟩:=EO.out;have UQ:=zH CQ;have By:=zH pU;clear EO CQ pU;clear c1 c2 hZ cH ha MS Ef hZ1 Ia rL hy oB;go_upto_region 24 with fail
   refine zr [(0,Av),(1,Av),(2,Av),(3,Av),(4,Av),(5,Av),(6,Av),(7,Aw),(8,Av)] (fun X=>X=wr.drew) (by kernel_rfl) (by kernel_rfl) rfl ?_
   repeat
    apply zk rfl
    . rintro K' aa X rfl
      go_simp;exact aa
   refine zu rfl ?_;intro K' aa;go_simp;refine(UQ.out _).mono ?_;rintro e w5 ⟨rfl,rfl⟩;refine aa _ _ rfl ?_;clear aa K'
   repeat
    apply zk rfl
    . rintro K' aa X rfl
      go_simp;exact aa
   refine zz ?_;clear UQ
   cases bt with
   | false=>
    have px:As (E=2):=by
     have h1:=aj.out (by
      have:=By.out;simp at this
      omega)
     rw[As,HE.out,h1];rfl
    have mF:As (Am w.heap.size w wr.drew):=(aC.out.trans (Y6 me.out (by omega) (by have:=aC.out.size;omega))).drew;clear aj HE aL By IQ cW Im me;go_wp2_with fail;go_ret;rw[px.out];exact⟨rfl,mF.out⟩
   | true=>
   have Bn:=zH (IQ.out (By.out.1 rfl));have HST2:As ((wr.setCell ⟨wc.heap.size,a,Z⟩ (O U 0)).drew.heap[wc.heap.size]?=J (Ag (fcs (zF ⟨op,hp,ho,hv,hg⟩ os (k+1)) A m c) 32 (0,0))):=cW.out;clear aj By IQ cW me;go_wp2_with fail
   go_roundw
   case rel=>exact⟨k+1,by omega,by go_num,Bn,HST2,Im⟩
   simp[Ar];omega
 obtain rfl:q=k:=by omega
 have Oy:=Dh.out fun j hj=>rL.out j hj (by have:=HQ.out;omega)
 rw[HQ.out] at Oy;obtain⟨⟨zo0,zp,zo,zv,zg⟩,Ef⟩:∃Ae,zF ⟨op,hp,ho,hv,hg⟩ os q=Ae:=⟨_,rfl⟩;rw[Ef] at Oy hZ;dsimp only at Oy;have z1:wr.cell? ⟨wc.heap.size,1,Z⟩=J (O U zp):=zh hZ.out 1 rfl;have z2:wr.cell? ⟨wc.heap.size,2,Z⟩=J (O U zo):=zh hZ.out 2 rfl;have z3:wr.cell? ⟨wc.heap.size,3,Z⟩=J (O U zv):=zh hZ.out 3 rfl;have z4:wr.cell? ⟨wc.heap.size,4,Z⟩=J (O U zg):=zh hZ.out 4 rfl;have o7:=zH Oy;have mF:As (Am w.heap.size w wr):=aC.out.trans (Y6 me.out (by omega) (by have:=aC.out.size;omega));have Bv:=zH (lP.out wr me.out);clear Oy Ef hZ rL iP Dh SL i9 lP me FA hk
 by_cases Ft:zp≠0\/zo≠0\/zv≠0\/zg≠0
 case pos=>
  have px:As (E=3):=by
   have h1:=o7.out;rw[Lj Ft] at h1;rw[As,HE.out,h1];rfl
  clear HE aL o7
  by_cases i1:zp=0
  . by_cases i2:zo=0
    . by_cases i3:zv=0
      . have i4:¬zg=0:=by omega
        clear Ft;go_wp2_with fail;go_ret;rw[px.out];exact⟨rfl,mF.out⟩
      clear Ft;go_wp2_with fail;go_ret;rw[px.out];exact⟨rfl,mF.out⟩
    clear Ft;go_wp2_with fail;go_ret;rw[px.out];exact⟨rfl,mF.out⟩
  clear Ft;go_wp2_with fail;go_ret;rw[px.out];exact⟨rfl,mF.out⟩
 have UO:As (E=YC (l.map R)):=by
  have h1:=o7.out;rw[Lg Ft] at h1;rw[As,HE.out,h1];rfl
 obtain rfl:zp=0:=by omega
 obtain rfl:zo=0:=by omega
 obtain rfl:zv=0:=by omega
 obtain rfl:zg=0:=by omega
 have p5:=zh Bv.out 5 rfl;clear Ft HE o7 Bv;go_wp2_with fail
 go_loopw [83] (fun i wx=>∃k:Nat,k<=m/\i=O U (k:Int)/\As (∀j (hj:j<l.length),j<k->R l[j]=0)/\As (Am w.heap.size w wx)) (fun i _=>m-(Ar i).toNat)
 case atStart=>exact⟨0,by omega,rfl,fun j _ h=>absurd h (by omega),mF⟩
 obtain⟨k,hk,rfl,mS,aK⟩:=hrel;clear z1 z2 z3 z4 p5 mF
 by_cases hlt:k<m
 . have cJ:k<l.length:=by have:=HM.out;omega
   obtain⟨bb,o,A',c',eA,bj,al,aB⟩:=aL.out k cJ;subst eA;obtain⟨x,hx⟩:=Kj (l[k]);have ez:As (R l[k]=R x):=by rw[As,hx]
   rw[hx] at al aB;obtain⟨Rx,C2⟩:=Kj (R x);dsimp only at aB;simp only[C2] at aB ez;obtain⟨⟨h0,h1,h2,h3,h4⟩,xl⟩:=x;have hc:∀j v,#[O U h0,O U h1,O U h2,O U h3,O U h4,I A' xl.length c'][j]?=J v->wr.cell? ⟨bb,o+k*6+j,Z⟩=J v:=al wr aK.out;have z0:wr.cell? ⟨bb,o+k*6,Z⟩=J (O U h0):=hc 0 _ rfl;have z1:wr.cell? ⟨bb,o+k*6+1,Z⟩=J (O U h1):=hc 1 _ rfl;have z2:wr.cell? ⟨bb,o+k*6+2,Z⟩=J (O U h2):=hc 2 _ rfl;have z3:wr.cell? ⟨bb,o+k*6+3,Z⟩=J (O U h3):=hc 3 _ rfl;have z4:wr.cell? ⟨bb,o+k*6+4,Z⟩=J (O U h4):=hc 4 _ rfl;have z5:wr.cell? ⟨bb,o+k*6+5,Z⟩=J (I A' xl.length c'):=hc 5 _ rfl;have dg:(0:Int)<=(k:Int):=by omega
   have aM:(k:Int)<(m:Int):=by omega
   have bz:bb<wr.heap.size:=by have:=aK.out.size;omega
   have HC:=zH aB;simp only[Fm.vs,Fm.args,Fm.h] at HC;clear al aB hx C2 hc;go_upto_region 33 with fail
   obtain⟨W5,dQ,d5,cY,am⟩:=zn wr #[O U h0,O U h1,O U h2,O U h3,O U h4,I A' xl.length c'] 32;rw[dQ];have aO:=aK.out.size;have aT:=zH (aK.out.trans (am.mono aO));have dv:=zH (HC.out W5 aT.out);obtain⟨y0,y1,y2,y3,y4,y5,_⟩:=Ki d5;clear dQ d5 am z0 z1 z2 z3 z4 z5 HC cY;go_wp2_with fail;refine dv.out.mono ?_;rintro e w6 ⟨rfl,cB⟩;have dw:=zH (Lc aT.out cB);clear cB dv y0 y1 y2 y3 y4 y5
   by_cases hr:Rx=0
   · have dI : As (∀ j (hj : j < l.length), j < k + 1 → R l[j] = 0) := fun j hj FD => by
      by_cases e:j=k
      . subst e;rw[ez.out];exact hr
      . exact mS.out j hj (by omega)
     have er:(Rx != 0)=Aw:=by simpa using hr
     subst hr;clear ez mS;go_wp2_with fail
     go_roundw
     case rel=>exact⟨k+1,by omega,by go_num,dI,dw⟩
     simp[Ar];omega
   have px : As (E = Rx) := by
    rw[As,UO.out];refine(ffsE_at (l:=l.map R) (k:=k) (by simpa using cJ) (fun j hj FD=>?_) ?_).trans ?_
    . rw[Ny];exact mS.out j (by simpa using hj) FD
    . rw[Ny,ez.out];exact hr
    rw[Ny,ez.out]
   have er:(Rx != 0)=Av:=by simpa using hr
   clear ez mS UO;go_wp2_with fail;go_ret;rw[px.out];exact⟨rfl,dw.out⟩
 obtain rfl:m=k:=by omega
 have px:As (E=0):=by
  rw[As,UO.out];refine ffsE_none fun e he=>?_
  obtain⟨x,hx,rfl⟩:=LS.1 he;obtain⟨j,hj,rfl⟩:=LT hx;exact mS.out j hj (by have:=HM.out;omega)
 clear UO mS;go_wp2_with fail;go_ret;rw[px.out];exact⟨rfl,aK.out⟩
theorem Yy(n:Nat)(cZ:1<=n)(hn:n<=5):∀(d:Nat) (f:Fm) (A:Bb) (c:Nat) (w:Ba),FsAt w w.heap.size d A f.args->(zR d f).1<=1000000 ->
  An Al 105 #[.agg (f.vs A c),O U (n:Int)] w fun e w'=>e=Ak (O U (yW n d f))/\Am w.heap.size w w'
 | 0,f,A,c,w,hA,_=>by
  have h0:f.args=[]:=hA;exact Ze n cZ hn f (fun _=>0) A c w (by rw[h0];decide) (RecAt.none hA)
 | d+1,f,A,c,w,hA,hb=>by
  have h1:(zP (zR d) f.args).1<=1000000:=hb;have h3:=qW (zR d) (kd d) f.args;exact Ze n cZ hn f (yW n d) A c w (by omega) (RecAt.of hA fun x A' c' X hx hX=>Yy n cZ hn d x A' c' X hX (Lu (uu (zR d) hx) h1))
theorem checkF_any(n:Int)(d:Nat)(f:Fm)(A:Bb)(c:Nat)(w:Ba)(hA:FsAt w w.heap.size d A f.args)(hb:(zR d f).1<=1000000) :
  An Al 58 #[.agg (f.vs A c),O U n] w fun e w'=>e=Ak (O U (qy n d f))/\Am w.heap.size w w':=by
 obtain⟨w1,ab,d0,av,hB⟩:=zn w (f.vs A c) 32;have UT:=zH (fun a b c W=>Zo a b c W);have nf:=zH (fun a b W=>sized2_any a b W);have HA:=zH hA;have HFS:=zH (fun (X:Ba) (hX:Am w.heap.size w X)=>XB d f A c X ((hA.keep hX).more hX.size) hb);have Bo:=zH (fun (k:Nat) (h1:1<=k) (h5:k<=5) (X:Ba) (hX:Am w.heap.size w X)=>Yy k h1 h5 d f A c X ((hA.keep hX).more hX.size) hb);have HE:As (qy n d f=if n<1\/5<n then 2 else if uW (zR d f)≠0 then uW (zR d f) else yW n.toNat d f):=rfl;obtain⟨E,hE⟩:=Kj (qy n d f);rw[hE] at HE ⊢;obtain⟨⟨z1,z2⟩,hz⟩:∃z,zR d f=z:=⟨_,rfl⟩;rw[hz] at HFS HE;unfold Fm.vs at ab d0 HFS Bo ⊢;have ag:=zH ab;have HB:=zH hB;have du:=zH d0;clear ab d0 hB hE hA hb hz av;have EO:As (∃bt:Bool,(bt=Av↔(1<=n/\n<=5))/\∀W,An Al 102 #[O U n,O U 1,O U 5] W fun e w'=>e=Ak (Ah bt)/\w'=W):=⟨_,by simp,fun W=>UT.out n 1 5 W⟩;obtain⟨bt,pU,CQ⟩:=EO.out;have UQ:=zH CQ;have By:=zH pU;clear EO CQ pU;go_enter func58,ntmps58;go_wp2_with fail;rw[ag.out];go_wp2_with fail;refine(UQ.out _).mono ?_;rintro e w2 ⟨rfl,bh⟩;obtain rfl:=bh
 cases bt with
 | false=>
  have px:As (E=2):=by
   have:=By.out;simp at this;rw[As,HE.out,Lj (by omega)]
  go_wp2_with fail;go_ret;rw[px.out];exact⟨rfl,HB.out⟩
 | true=>
 have hn:=By.out.1 rfl;obtain⟨k,rfl⟩:=Lp (show 0<=n by omega);have aj:=zH (HE.out.trans (Lg (by omega)));rw[Lm] at aj;have HFN2:=zH (Bo.out k (by omega) (by omega));have HC:=zH (HFS.out w2 HB.out);obtain⟨p0,p1,p2,p3,p4,p5,_⟩:=Ki du.out;go_wp2_with fail;refine HC.out.mono ?_;rintro e w3 ⟨rfl,ak⟩;have aC:=zH (Lc HB.out ak);have od:=zH (La ak du.out);have dv:=zH (nf.out z1 z2 w3);obtain⟨r,hr⟩:=Kj (uW (z1,z2));rw[hr] at dv aj;go_wp2_with fail;refine dv.out.mono ?_;rintro e w4 ⟨rfl,fh⟩;obtain rfl:=fh
 by_cases h0:r=0
 . subst h0
   have HC:=zH (HFN2.out w4 aC.out);have ax:As (E=yW k d f):=aj.out.trans (Lg (by simp));obtain⟨p0,p1,p2,p3,p4,p5,_⟩:=Ki od.out;go_wp2_with fail;refine HC.out.mono ?_;rintro e w5 ⟨rfl,am⟩;have aT:=zH (Lc aC.out am);go_wp2_with fail;go_ret;rw[ax.out];exact⟨rfl,aT.out⟩
 have ax:As (E=r):=aj.out.trans (Lj h0);have e0:(r != 0)=Av:=by simpa using h0
 go_wp2_with fail;go_ret;rw[ax.out];exact⟨rfl,aC.out⟩
theorem ug(n:Int)(d:Nat)(f:Fm)(A:Bb)(c:Nat)(w:Ba)(hA:FsAt w w.heap.size d A f.args)(hb:(zR d f).1<=1000000) :
  An Al 34 #[.agg (f.vs A c),O U n] w fun e w'=>e=Ak (O U (qy n d f))/\Am w.heap.size w w':=by
 obtain⟨w1,ab,d0,av,hB⟩:=zn w (f.vs A c) 32;have HC:=zH (checkF_any n d f A c w1 ((hA.keep hB).more hB.size) hb);unfold Fm.vs at ab d0 HC ⊢;have ag:=zH ab;have HB:=zH hB;clear ab d0 hB hA hb av;go_enter func34,ntmps34;go_wp2_with fail;rw[ag.out];go_wp2_with fail;refine HC.out.mono ?_;rintro e w2 ⟨rfl,ae⟩;have au:=zH (Lc HB.out ae);go_wp2_with fail;go_ret;exact⟨rfl,au.out⟩
end
section
open Go.RowKit Go.Shelf
attribute [local go_sem] Oper.semAt_some
structure AtW(s:Sy)(A SV AV AX:Bb)(kc ks kv kx:Nat)(h:Fh)(AF:Bb)(lf cf:Nat)(out:List Int)(AR:Bb)(cr bS bF bR bH bV bI gH:Nat)(W:Ba):Prop where
 xs:XAt W W.heap.size AX s.xs
 cs:CAt W W.heap.size A s.p.t.cases
 ro:IAt W W.heap.size AR out
 hS:W.heap[bS]?=J (Ag (s.vs_ A kc SV ks AV kv AX kx) 39 (0,0))
 hF:W.heap[bF]?=J (Ag (fcs h AF lf cf) 32 (0,0))
 hR:W.heap[bR]?=J (Ag #[I AR out.length cr] 52 (0,0))
 hH:W.heap[bH]?=J (Ag #[I (J ⟨gH,0,Z⟩) s.vs.length s.vs.length] 50 (0,0))
 hG:RowAt W gH (qK s.vs s.vs.length)
 hV:W.heap[bV]?=J (Ag #[.func (.func 110) #[] #[Aj (J ⟨bS,0,Z⟩),Aj (J ⟨bF,0,Z⟩)]] 179 (0,0))
 hI:W.heap[bI]?=J (Ag #[.func (.func 111) #[] #[Aj (J ⟨bS,0,Z⟩)]] 180 (0,0))
section
variable {s:Sy} {A SV AV AX:Bb} {kc ks kv kx:Nat} {h:Fh} {AF:Bb} {lf cf:Nat} {out:List Int} {AR:Bb} {cr bS bF bR bH bV bI gH:Nat} {W W':Ba}
theorem AtW.keep(H:AtW s A SV AV AX kc ks kv kx h AF lf cf out AR cr bS bF bR bH bV bI gH W)(hb:Am W.heap.size W W'):AtW s A SV AV AX kc ks kv kx h AF lf cf out AR cr bS bF bR bH bV bI gH W':=
 have k:∀ {b:Nat} {o:Obj},W.heap[b]?=J o->W'.heap[b]?=J o:=fun e=>(hb.block _ (Ln.1 e).1).trans e
 ⟨(H.xs.keep hb).more hb.size,(H.cs.keep hb).more hb.size,(H.ro.keep hb).more hb.size,k H.hS,k H.hF,k H.hR,k H.hH,k H.hG,k H.hV,k H.hI⟩
end
theorem atv_any(s:Sy)(K N:Nat)(hF:Fine s K N)(h:Fh)(e k q:Nat)(he:e<s.xs.length)(hk:k<=K)(hq:q<N)(nB:h.p=(q:Int))(A SV AV AX AF AR:Bb)(kc ks kv kx lf cf:Nat)(out:List Int)(cr bS bF bR bH bV bI gH:Nat)(w:Ba)
  (hW:AtW s A SV AV AX kc ks kv kx h AF lf cf out AR cr bS bF bR bH bV bI gH w) :
  An Al 110 #[Ai #[O U (e:Int),O U (k:Int)],Aj (J ⟨bS,0,Z⟩),Aj (J ⟨bF,0,Z⟩)] w fun r w'=>r=Ak (O U (xw s.xs[e] k q))/\Am w.heap.size w w':=by
 have hX:=hW.xs;have hb:=hW.hS;have hp:=hW.hF;unfold fcs at hp;rw[nB] at hp;obtain⟨w1,ab,d0,av,hB⟩:=zn w #[O U (e:Int),O U (k:Int)] 178;have lY:=Lh he;obtain⟨dr,ah⟩:=hF.views _ lY;obtain⟨bx,ox,A1,c1,A2,c2,eX,cd,x0,x1,x2,iY,sx⟩:=(hX.keep hB).row e he;subst eX;obtain⟨x,hx⟩:∃x,x=s.xs[e]:=⟨_,rfl⟩;rw[<-hx] at dr ah x2 sx ⊢;obtain⟨bl,ol,A3,c3,eL,aY,y1,hI⟩:=sx.at_ k (by omega);subst eL;obtain⟨hl,mq⟩:=ah _ (Lh (by omega:k<x.views.length));have DD:∀row,x.views[k]'(by omega)=row->xw x k q=row.getD q 0:=fun row hr=>by unfold xw;rw[zA (by omega:k<x.views.length),hr]
 obtain⟨row,pI⟩:=Kj (x.views[k]'(by omega));rw[DD row pI];rw[pI] at y1 hI hl;obtain⟨b4,o4,e4,aD,z4⟩:=hI.at_ q (by omega);subst e4;have nt:row[q]'(by omega)=row.getD q 0:=by rw[Lf,Li (by omega)];rfl
 rw[nt] at z4;obtain⟨u,hu⟩:=Kj (row.getD q 0);rw[hu] at z4 ⊢;obtain⟨nv,DQ⟩:=Kj x.views.length;rw[DQ] at x2 dr;obtain⟨nr,Ml⟩:=Kj row.length;rw[Ml] at y1 hl;have ag:=zH ab;have HB:=zH hB;obtain⟨g0,g1,_⟩:=Ke d0;have p0:w1.cell? ⟨bF,1,Z⟩=J (O U (q:Int)):=zh (La hB hp) 1 rfl;have p9:w1.cell? ⟨bS,9,Z⟩=J (I (J ⟨bx,ox,Z⟩) s.xs.length kx):=zh (La hB hb) 9 rfl;have h1:(0:Int)<=(e:Int):=by omega
 have h2:(e:Int)<(s.xs.length:Int):=by omega
 have h3:(0:Int)<=(k:Int):=by omega
 have h4:(k:Int)<(nv:Int):=by omega
 have h5:(0:Int)<=(q:Int):=by omega
 have h6:(q:Int)<(nr:Int):=by omega
 clear ab d0 hB hX hb hp hF nt hu DQ Ml hx iY sx hI mq ah lY DD pI x0 x1 hl dr nB;go_enter func110,ntmps110;go_wp2_with fail;rw[ag.out];go_quiet (fail);go_wp2_with fail;go_ret;exact⟨rfl,yy HB.out _⟩
theorem ati_any(s:Sy)(h:Fh)(e k c:Nat)(he:e<s.xs.length)(hc:s.xs[e].c=(c:Int))(aA:c<s.p.t.cases.length)(A SV AV AX AF AR:Bb)(kc ks kv kx lf cf:Nat)(out:List Int)(cr bS bF bR bH bV bI gH:Nat)(w:Ba)
  (hW:AtW s A SV AV AX kc ks kv kx h AF lf cf out AR cr bS bF bR bH bV bI gH w) :
  An Al 111 #[Ai #[O U (e:Int),O U (k:Int)],Aj (J ⟨bS,0,Z⟩)] w fun r w'=>∃A' c',r=Ak (.slice A' (yA s.p c).length c')/\IAt w' w.heap.size A' (yA s.p c)/\Am w.heap.size w w':=by
 have hX:=hW.xs;have hC:=hW.cs;have hb:=hW.hS;obtain⟨w1,ab,d0,av,hB⟩:=zn w #[O U (e:Int),O U (k:Int)] 178;obtain⟨bx,ox,A1,c1,A2,c2,eX,cd,x0,x1,x2,iY,sx⟩:=(hX.keep hB).row e he;subst eX;rw[hc] at x0;obtain⟨bc,oc,A3,c3,A4,c4,A5,c5,eC,hbc,y0,y1,y2,hI,_,_⟩:=(hC.keep hB).row c aA;subst eC;have cx:yA s.p c=s.p.t.cases[c].inp:=by unfold yA;rw[Lf,Li aA];rfl
 rw[<-cx] at y0 hI;obtain⟨L,hL⟩:=Kj (yA s.p c);rw[hL] at y0 hI ⊢;obtain⟨nl,fj⟩:=Kj L.length;rw[fj] at y0 ⊢;have HI:=zH hI;have ag:=zH ab;have HB:=zH hB;have g0:=zh d0 0 rfl;have p3:w1.cell? ⟨bS,3,Z⟩=J (I (J ⟨bc,oc,Z⟩) s.p.t.cases.length kc):=zh (La hB hb) 3 rfl;have p9:w1.cell? ⟨bS,9,Z⟩=J (I (J ⟨bx,ox,Z⟩) s.xs.length kx):=zh (La hB hb) 9 rfl;have h1:(0:Int)<=(e:Int):=by omega
 have h2:(e:Int)<(s.xs.length:Int):=by omega
 have h3:(0:Int)<=(c:Int):=by omega
 have h4:(c:Int)<(s.p.t.cases.length:Int):=by omega
 clear ab d0 hB hX hC hb hc iY sx hI cx hL fj x1 x2 y1 y2;go_enter func111,ntmps111;go_wp2_with fail;rw[ag.out];go_quiet (fail);go_wp2_with fail;go_ret;exact⟨_,_,rfl,IAt.keep HI.out (yy (Ll w.heap.size w1) _),yy HB.out _⟩
end
section
open Go.RowKit Go.Shelf
attribute [local go_sem] Oper.semAt_some
theorem at0_any(s:Sy)(h:Fh)(e k:Nat)(_he:e<s.xs.length)(bZ:h.op=0)(A SV AV AX AF AR:Bb)(kc ks kv kx lf cf:Nat)(out:List Int)(cr bS bF bR bH bV bI gH:Nat)(w:Ba)
  (_hW:AtW s A SV AV AX kc ks kv kx h AF lf cf out AR cr bS bF bR bH bV bI gH w) :
  An Al 112 #[Ai #[O U (e:Int),O U (k:Int)]] w fun r w'=>r=Ak (Ah (xH s out h (e,k)))/\Am w.heap.size w w':=by
 obtain⟨w1,ab,d0,av,hB⟩:=zn w #[O U (e:Int),O U (k:Int)] 178;have hE:xH s out h (e,k)=Av:=by unfold xH;rw[Lj bZ]
 rw[hE];have ag:=zH ab;have HB:=zH hB;clear ab d0 hB _hW hE bZ _he av;go_enter func112,ntmps112;go_wp2_with fail;rw[ag.out];go_wp2_with fail;go_ret;exact⟨rfl,HB.out⟩
theorem at1_any(s:Sy)(h:Fh)(e k:Nat)(he:e<s.xs.length)(c q:Nat)(hc:s.xs[e].c=(c:Int))(aA:c<s.p.t.cases.length)(hq:q<(yA s.p c).length)(nB:h.p=(q:Int))(bZ:h.op=1)(A SV AV AX AF AR:Bb)(kc ks kv kx lf cf:Nat)(out:List Int)(cr bS bF bR bH bV bI gH:Nat)(w:Ba)
  (hW:AtW s A SV AV AX kc ks kv kx h AF lf cf out AR cr bS bF bR bH bV bI gH w) :
  An Al 113 #[Ai #[O U (e:Int),O U (k:Int)],Aj (J ⟨bI,0,Z⟩),Aj (J ⟨bF,0,Z⟩)] w fun r w'=>r=Ak (Ah (xH s out h (e,k)))/\Am w.heap.size w w':=by
 obtain⟨w1,ab,d0,av,hB⟩:=zn w #[O U (e:Int),O U (k:Int)] 178
 have hE:xH s out h (e,k)=decide ((yA s.p c).getD q 0=h.v):=by
  unfold xH;rw[Lg (by rw[bZ];decide),Lj bZ];dsimp only;rw[zA he,hc,nB,Lm,Lm]
 rw[hE];have HC:=zH (ati_any s h e k c he hc aA A SV AV AX AF AR kc ks kv kx lf cf out cr bS bF bR bH bV bI gH w1.drew (hW.keep hB.drew));have hF:=hW.hF;unfold fcs at hF;rw[nB] at hF;obtain⟨vv,sU⟩:=Kj h.v;rw[sU] at hF ⊢;obtain⟨L,hL⟩:=Kj (yA s.p c);rw[hL] at HC hq ⊢;obtain⟨y,hy⟩:=Kj (L.getD q 0);have HY:As (L[q]=y):=by rw[As,<-hy,zA hq]
 rw[hy];have C6:=hW.hI;have lF:=zj hF;have lI:=zj C6
 have aS:As (∀X,Am w1.heap.size w1 X->X.heap[bF]?=J (Ag #[O U h.op,O U (q:Int),O U h.o,O U vv,O U h.g,I AF lf cf] 32 (0,0))/\X.heap[bI]?=J (Ag #[.func (.func 111) #[] #[Aj (J ⟨bS,0,Z⟩)]] 180 (0,0))/\X.heap[w.heap.size]?=J (Ag #[O U (e:Int),O U (k:Int)] 178 (0,0))):=
  fun X hX=>⟨Lb hX (by omega) (Lb hB lF hF),Lb hX (by omega) (Lb hB lI C6),Lb hX (by omega) d0⟩
 have ag:=zH ab;have HB:=zH hB;have nh:=zH av;obtain⟨n,hn⟩:=Kj L.length;have HN:=zH hn;have VC:q<n:=by omega
 rw[hn] at HC;have h5:(0:Int)<=(q:Int):=by omega
 have h6:(q:Int)<(n:Int):=by omega
 clear ab d0 hB hW hF C6 hE hL sU bZ nB hc aA he av hy hn;go_enter func113,ntmps113;go_wp2_with fail;rw[ag.out];refine zr [(0,Av),(1,Av),(3,Av),(4,Av),(7,Av),(8,Av),(2,Aw),(5,Aw),(6,Aw),(9,Aw),(10,Aw)] (fun X=>X.heap[bF]?=J (Ag #[O U h.op,O U (q:Int),O U h.o,O U vv,O U h.g,I AF lf cf] 32 (0,0))/\X.heap[bI]?=J (Ag #[.func (.func 111) #[] #[Aj (J ⟨bS,0,Z⟩)]] 180 (0,0))/\X.heap[w.heap.size]?=J (Ag #[O U (e:Int),O U (k:Int)] 178 (0,0))) (by kernel_rfl) (by kernel_rfl) (aS.out _ (Ll _ _).drew) ?_
 repeat
  apply zk rfl
  . rintro K' aa X ⟨u1,u2,u3⟩
    have q1:=zh u1 1 rfl;have q3:=zh u1 3 rfl;have i0:=zh u2 0 rfl;obtain⟨g0,g1,_⟩:=Ke u3;clear u1 u2 u3;go_simp;exact aa
 refine zu rfl ?_;intro K' aa;go_simp;refine HC.out.mono ?_;rintro r w5 ⟨A',c',rfl,C7,am⟩;have am:Am w1.heap.size w1 w5:=(Ll _ w1).drew.trans (am.mono (Ld _));have aT:=zH (Lc HB.out am);have lp:=zH (aS.out w5 am);obtain⟨b4,o4,rfl,aD,z4⟩:=C7.at_ q (by rw[HN.out];exact VC);rw[HY.out] at z4;have HZ4:=zH z4;refine aa _ _ lp.out ?_;have z4:=HZ4.out;refine zu rfl ?_;intro K' aa;go_simp;refine aa _ _ lp.out ?_;refine zu rfl ?_;intro K' aa;go_simp;refine aa _ _ lp.out ?_;refine zu rfl ?_;intro K' aa;go_simp;refine aa _ _ lp.out ?_;refine zu rfl ?_;intro K' aa;go_simp;refine aa _ _ lp.out ?_;refine zz ?_;go_wp2_with fail;go_ret;exact⟨zy (by first | rfl | simp),aT.out⟩
theorem at2_any(s:Sy)(h:Fh)(e k:Nat)(he:e<s.xs.length)(c:Nat)(hc:s.xs[e].c=(c:Int))(aA:c<s.p.t.cases.length)(hLl:(yA s.p c).length<=5)(bZ:h.op=2)(A SV AV AX AF AR:Bb)(kc ks kv kx lf cf:Nat)(out:List Int)(cr bS bF bR bH bV bI gH:Nat)(w:Ba)
  (hW:AtW s A SV AV AX kc ks kv kx h AF lf cf out AR cr bS bF bR bH bV bI gH w) :
  An Al 114 #[Ai #[O U (e:Int),O U (k:Int)],Aj (J ⟨bI,0,Z⟩),Aj (J ⟨bF,0,Z⟩)] w fun r w'=>r=Ak (Ah (xH s out h (e,k)))/\Am w.heap.size w w':=by
 obtain⟨w1,ab,d0,av,hB⟩:=zn w #[O U (e:Int),O U (k:Int)] 178
 have hE:xH s out h (e,k)=decide (h.v∈yA s.p c):=by
  unfold xH;rw[Lg (by rw[bZ];decide),Lg (by rw[bZ];decide),Lj bZ];dsimp only;rw[zA he,hc,Lm]
 rw[hE];have HC:=zH (ati_any s h e k c he hc aA A SV AV AX AF AR kc ks kv kx lf cf out cr bS bF bR bH bV bI gH w1 (hW.keep hB));have hF:=hW.hF;unfold fcs at hF;obtain⟨vv,sU⟩:=Kj h.v;rw[sU] at hF ⊢;obtain⟨L,hL⟩:=Kj (yA s.p c);rw[hL] at HC hLl ⊢;have C6:=hW.hI;have lF:=zj hF;have lI:=zj C6;have aS:As (∀X,Am w1.heap.size w1 X->X.cell? ⟨bF,3,Z⟩=J (O U vv)):=fun X hX=>zh (Lb hX (by omega) (Lb hB lF hF)) 3 rfl
 have i0:=zh (Lb hB lI C6) 0 rfl;obtain⟨g0,g1,_⟩:=Ke d0;have ag:=zH ab;have HB:=zH hB;obtain⟨n,hn⟩:=Kj L.length;have HN:=zH hn;rw[hn] at HC hLl;clear ab d0 hB hW hF C6 hE hL sU bZ hc aA he av hn;go_enter func114,ntmps114;go_upto_region 1 with fail
 rw[ag.out];go_wp2_with fail;refine HC.out.mono ?_;rintro r w5 ⟨A',c',rfl,C7,am⟩;have am:Am w1.heap.size w1 w5:=am;have aT:=zH (Lc HB.out am);have p3:=aS.out w5 am;have rV:=zH C7;go_wp2_with fail
 go_loop [11] (fun i=>∃m:Nat,m<=n/\i=O U (m:Int)/\As (∀j (h:j<L.length),j<m->¬L[j]=vv)) (fun i=>n-(Ar i).toNat)
 case atStart=>exact⟨0,by omega,rfl,fun j _ h=>absurd h (by omega)⟩
 obtain⟨m,hm,rfl,nc⟩:=hrel
 by_cases hlt:m<n
 . have ie:m<L.length:=by have:=HN.out;omega
   obtain⟨b,off,rfl,aY,z0⟩:=rV.out.at_ m ie;obtain⟨x,hx⟩:=Kj (L[m]);have HX:=zH hx;rw[hx] at z0;have dg:(0:Int)<=(m:Int):=by omega
   have aM:(m:Int)<(n:Int):=by omega
   by_cases hxv:x=vv
   . subst hxv
     have cx:As (decide (x∈L)=Av):=Lw (by rw[<-HX.out];exact Lh ie);go_wp2_with fail;go_ret;exact⟨zy cx.out.symm,aT.out⟩
   have VN : As (∀ j (h : j < L.length), j < m + 1 -> ¬ L[j] = vv) := fun j h h2 => by
    by_cases e:j=m
    . subst e;rw[HX.out];exact hxv
    . exact nc.out j h (by omega)
   go_wp2_with fail
   go_round
   case rel=>exact⟨m+1,by omega,by go_num,VN⟩
   simp[Ar];omega
 obtain rfl:n=m:=by omega
 have hni:As (decide (vv∈L)=Aw):=Lv fun h=>by
  obtain⟨j,hj,e⟩:=LT h;exact nc.out j hj (by have:=HN.out;omega) e
 go_wp2_with fail;go_ret;exact⟨zy hni.out.symm,aT.out⟩
theorem at3_any(s:Sy)(h:Fh)(e k:Nat)(he:e<s.xs.length)(K N q o' S u:Nat)(BU:Fine s K N)(hk:k<=K)(hq:q<N)(nB:h.p=(q:Int))(ho:h.o=(o':Int))(na:o'<5)(hu:xw s.xs[e] k q=(u:Int))(KV:u<s.vs.length)(hS:(qK s.vs s.vs.length).getD u 0=(S:Int))(hS32:S<32)(bZ:h.op=3)(A SV AV AX AF AR:Bb)(kc ks kv kx lf cf:Nat)(out:List Int)(cr bS bF bR bH bV bI gH:Nat)(w:Ba)
  (hW:AtW s A SV AV AX kc ks kv kx h AF lf cf out AR cr bS bF bR bH bV bI gH w) :
  An Al 115 #[Ai #[O U (e:Int),O U (k:Int)],Aj (J ⟨bH,0,Z⟩),Aj (J ⟨bV,0,Z⟩),Aj (J ⟨bF,0,Z⟩)] w fun r w'=>r=Ak (Ah (xH s out h (e,k)))/\Am w.heap.size w w':=by
 obtain⟨w1,ab,d0,av,hB⟩:=zn w #[O U (e:Int),O U (k:Int)] 178
 have hE:xH s out h (e,k)=S.testBit o':=by
  unfold xH;rw[Lg (by rw[bZ];decide),Lg (by rw[bZ];decide),Lg (by rw[bZ];decide),Lj bZ];dsimp only;rw[zA he,nB,Lm,hu,Lm,hS,Lm,ho,Lm]
 rw[hE];have hC:=atv_any s K N BU h e k q he hk hq nB A SV AV AX AF AR kc ks kv kx lf cf out cr bS bF bR bH bV bI gH w1.drew (hW.keep hB.drew);rw[hu] at hC;have HC:=zH hC;have hF:=hW.hF;unfold fcs at hF;rw[ho] at hF;have Ua:=hW.hH;have Eg:=hW.hV;have hGw:=hW.hG;have z0:=hGw.cell u (by rw[ji];exact KV);have e0:(qK s.vs s.vs.length)[u]'(by rw[ji];exact KV)=(S:Int):=by rw[<-hS,zA (by rw[ji];exact KV)]
 rw[e0] at z0;obtain⟨n,hn⟩:=Kj s.vs.length;rw[hn] at Ua KV;have lF:=zj hF;have lH:=zj Ua;have lV:=zj Eg;have lG:=hGw.lt
 have aS:As (∀X,Am w1.heap.size w1 X->X.heap[bF]?=J (Ag #[O U h.op,O U h.p,O U (o':Int),O U h.v,O U h.g,I AF lf cf] 32 (0,0))/\X.heap[bH]?=J (Ag #[I (J ⟨gH,0,Z⟩) n n] 50 (0,0))/\X.heap[bV]?=J (Ag #[.func (.func 110) #[] #[Aj (J ⟨bS,0,Z⟩),Aj (J ⟨bF,0,Z⟩)]] 179 (0,0))/\X.heap[w.heap.size]?=J (Ag #[O U (e:Int),O U (k:Int)] 178 (0,0))):=
  fun X hX=>⟨Lb hX (by omega) (Lb hB lF hF),Lb hX (by omega) (Lb hB lH Ua),Lb hX (by omega) (Lb hB lV Eg),Lb hX (by omega) d0⟩
 have mI:As (∀X,Am w1.heap.size w1 X->X.cell? ⟨gH,u,Z⟩=J (O U (S:Int))):=fun X hX=>(hX.cell (p:=⟨gH,u,Z⟩) (by show gH<w1.heap.size;omega)).trans ((hB.cell (p:=⟨gH,u,Z⟩) lG).trans z0)
 have ag:=zH ab;have HB:=zH hB;have aF:=gd hS32 na;have h5:(0:Int)<=(u:Int):=by omega
 have h6:(u:Int)<(n:Int):=by omega
 have OJ:(0:Int)<=(S:Int):=by omega
 have DT:min o' 64=o':=by omega
 obtain⟨bt,pU⟩:=Kj (S.testBit o');rw[pU] at aF ⊢;clear ab d0 hB hW hF Ua Eg hGw hE bZ nB ho he av hu hS z0 e0 BU hC hk hq pU hn;go_enter func115,ntmps115;go_wp2_with fail;rw[ag.out];refine zr [(0,Av),(1,Av),(2,Av),(6,Av),(7,Av),(3,Aw),(4,Aw),(5,Aw),(8,Aw),(9,Aw),(10,Aw),(11,Aw)] (fun X=>X.heap[bF]?=J (Ag #[O U h.op,O U h.p,O U (o':Int),O U h.v,O U h.g,I AF lf cf] 32 (0,0))/\X.heap[bH]?=J (Ag #[I (J ⟨gH,0,Z⟩) n n] 50 (0,0))/\X.heap[bV]?=J (Ag #[.func (.func 110) #[] #[Aj (J ⟨bS,0,Z⟩),Aj (J ⟨bF,0,Z⟩)]] 179 (0,0))/\X.heap[w.heap.size]?=J (Ag #[O U (e:Int),O U (k:Int)] 178 (0,0))) (by kernel_rfl) (by kernel_rfl) (aS.out _ (Ll _ _).drew) ?_
 repeat
  apply zk rfl
  . rintro K' aa X ⟨u1,u2,u3,u4⟩
    have q2:=zh u1 2 rfl;have j0:=zh u2 0 rfl;have i0:=zh u3 0 rfl;obtain⟨g0,g1,_⟩:=Ke u4;clear u1 u2 u3 u4;go_simp;exact aa
 refine zu rfl ?_;intro K' aa;go_simp;refine HC.out.mono ?_;rintro r w5 ⟨rfl,am⟩;have am:Am w1.heap.size w1 w5:=(Ll _ w1).drew.trans (am.mono (Ld _));have aT:=zH (Lc HB.out am);have lp:=zH (aS.out w5 am);have z4:=mI.out w5 am;refine aa _ _ lp.out ?_;refine zu rfl ?_;intro K' aa;go_simp;refine aa _ _ lp.out ?_;refine zu rfl ?_;intro K' aa;go_simp;refine aa _ _ lp.out ?_;refine zu rfl ?_;intro K' aa;go_simp;refine aa _ _ lp.out ?_;refine zu rfl ?_;intro K' aa;go_simp;refine aa _ _ lp.out ?_;refine zu rfl ?_;intro K' aa;go_simp;refine aa _ _ lp.out ?_;refine zu rfl ?_;intro K' aa;go_simp;refine aa _ _ lp.out ?_;refine zz ?_;go_wp2_with fail;go_ret;exact⟨rfl,aT.out⟩
theorem at4_any(s:Sy)(h:Fh)(e k:Nat)(he:e<s.xs.length)(K N q:Nat)(BU:Fine s K N)(hk:k<=K)(Md:q<5)(nB:h.p=(q:Int))(nD:∀r∈s.xs[e].word,∃F:Nat,r.f=(F:Int)/\F<32)(bZ:h.op=4)(A SV AV AX AF AR:Bb)(kc ks kv kx lf cf:Nat)(out:List Int)(cr bS bF bR bH bV bI gH:Nat)(w:Ba)
  (hW:AtW s A SV AV AX kc ks kv kx h AF lf cf out AR cr bS bF bR bH bV bI gH w) :
  An Al 116 #[Ai #[O U (e:Int),O U (k:Int)],Aj (J ⟨bS,0,Z⟩),Aj (J ⟨bF,0,Z⟩)] w fun r w'=>r=Ak (Ah (xH s out h (e,k)))/\Am w.heap.size w w':=by
 obtain⟨w1,ab,d0,av,hB⟩:=zn w #[O U (e:Int),O U (k:Int)] 178
 have hE:xH s out h (e,k)=(decide (0<k)&&((s.xs[e].word.getD (k-1) default).f).toNat.testBit q):=by
  unfold xH;rw[Lg (by rw[bZ];decide),Lg (by rw[bZ];decide),Lg (by rw[bZ];decide),Lg (by rw[bZ];decide),Lj bZ];dsimp only;rw[zA he,nB,Lm]
 rw[hE];have hF:=hW.hF;unfold fcs at hF;rw[nB] at hF;have hSw:=hW.hS;have lF:=zj hF;have lS:=zj hSw;have li:=Lb hB lF hF;have Ou:=Lb hB lS hSw;obtain⟨g0,g1,_⟩:=Ke d0;have q1:=zh li 1 rfl;obtain⟨bx,ox,A1,c1,A2,c2,eX,cd,x0,x1,x2,iY,hLw⟩:=(hW.xs.keep hB).row e he;subst eX;have p9:w1.cell? ⟨bS,9,Z⟩=J (I (J ⟨bx,ox,Z⟩) s.xs.length kx):=zh Ou 9 rfl;have h1:(0:Int)<=(e:Int):=by omega
 have h2:(e:Int)<(s.xs.length:Int):=by omega
 obtain⟨x,hx⟩:∃x,x=s.xs[e]:=⟨_,rfl⟩;have mU:=(BU.word _ (Lh he)).1;rw[<-hx] at nD mU x1 iY ⊢;have ag:=zH ab;have HB:=zH hB;have hs1':=av;clear ab d0 hB hW hF li hSw Ou hE bZ nB x0 x2 hx hLw
 by_cases Wc:0<k
 case neg=>
  have oB:(decide (0<k)&&((x.word.getD (k-1) default).f).toNat.testBit q)=Aw:=by rw[Lv Wc];rfl
  rw[oB];have aM:decide ((k:Int)>0)=Aw:=Lv (by omega);obtain⟨ki,TL⟩:∃ki:Int,(k:Int)=ki:=⟨_,rfl⟩;rw[TL] at aM ag g1 ⊢;clear nD iY x1 oB Wc TL;go_enter func116,ntmps116;go_wp2_with fail;rw[ag.out];refine zr [(0,Av),(1,Av),(2,Av),(3,Av),(4,Av),(5,Av),(6,Av),(7,Av),(8,Av),(9,Av),(10,Av),(11,Av),(12,Av),(13,Av),(14,Av),(15,Av),(16,Av),(17,Av),(18,Av),(19,Av),(20,Av),(21,Av),(22,Av),(23,Av)] (fun X=>X=w1.drew) (by kernel_rfl) (by kernel_rfl) rfl ?_
  repeat
   apply zk rfl
   . rintro K' aa X rfl
     go_simp;exact aa
  refine zz ?_;go_wp2_with fail;go_ret;exact⟨rfl,HB.out.drew⟩
 obtain⟨k,rfl⟩:∃j,k=j+1:=⟨k-1,by omega⟩;obtain⟨bw,ow,eW,bz,y0,y1,y2,y3,y4,y5,y6⟩:=iY.row k (by omega);subst eW;have pQ:x.word.getD k default=x.word[k]'(by omega):=zA (by omega) default;obtain⟨F,hFf,hF32⟩:=nD _ (Lh (by omega:k<x.word.length));rw[hFf] at y6
 have oB:(decide (0<k+1)&&((x.word.getD (k+1-1) default).f).toNat.testBit q)=F.testBit q:=by
  rw[ND,pQ,hFf,Lm];simp
 rw[oB];have aF:=gd hF32 Md;obtain⟨bt,pU⟩:=Kj (F.testBit q);rw[pU] at aF ⊢;obtain⟨nw,iC⟩:=Kj x.word.length;rw[iC] at x1 mU;have dg:decide (((k+1:Nat):Int)>0)=Av:=Lw (by omega);have DF:IntKind.i64.wrap (((k+1:Nat):Int)-1)=(k:Int):=by have:=BU.k6;rw[Lo];omega
 have h3:(0:Int)<=(k:Int):=by omega
 have h4:(k:Int)<(nw:Int):=by omega
 have hoi0:(0:Int)<=(q:Int):=by omega
 have OJ:(0:Int)<=(F:Int):=by omega
 have DT:min q 64=q:=by omega
 obtain⟨k1,aM⟩:∃k1:Int,((k+1:Nat):Int)=k1:=⟨_,rfl⟩;rw[aM] at dg DF g1 ag ⊢;clear nD iY pQ hFf oB pU iC y0 y1 y2 y3 y4 y5 BU mU he aM hk;go_enter func116,ntmps116;go_wp2_with fail;rw[ag.out];refine zr [(0,Av),(1,Av),(2,Av),(3,Av),(4,Av),(5,Av),(6,Av),(7,Av),(8,Av),(9,Av),(10,Av),(11,Av),(12,Av),(13,Av),(14,Av),(15,Av),(16,Av),(17,Av),(18,Av),(19,Av),(20,Av),(21,Av),(22,Av),(23,Av)] (fun X=>X=w1.drew) (by kernel_rfl) (by kernel_rfl) rfl ?_
 repeat
  apply zk rfl
  . rintro K' aa X rfl
    go_simp;exact aa
 refine zz ?_;go_wp2_with fail;go_ret;exact⟨rfl,HB.out.drew⟩
theorem at5_any(s:Sy)(h:Fh)(e k:Nat)(he:e<s.xs.length)(K N q u:Nat)(BU:Fine s K N)(hk:k<=K)(hq:q<N)(nB:h.p=(q:Int))(hu:xw s.xs[e] k q=(u:Int))(KV:u<s.vs.length)(bZ:h.op=5)(A SV AV AX AF AR:Bb)(kc ks kv kx lf cf:Nat)(out:List Int)(cr bS bF bR bH bV bI gH:Nat)(w:Ba)
  (hW:AtW s A SV AV AX kc ks kv kx h AF lf cf out AR cr bS bF bR bH bV bI gH w) (iU:0<out.length->out.length=s.vs.length) :
  An Al 117 #[Ai #[O U (e:Int),O U (k:Int)],Aj (J ⟨bR,0,Z⟩),Aj (J ⟨bV,0,Z⟩),Aj (J ⟨bF,0,Z⟩)] w fun r w'=>r=Ak (Ah (xH s out h (e,k)))/\Am w.heap.size w w':=by
 obtain⟨w1,ab,d0,av,hB⟩:=zn w #[O U (e:Int),O U (k:Int)] 178
 have hE:xH s out h (e,k)=(decide (0<out.length)&&decide (out.getD u 0=h.v)):=by
  unfold xH;rw[Lg (by rw[bZ];decide),Lg (by rw[bZ];decide),Lg (by rw[bZ];decide),Lg (by rw[bZ];decide),Lg (by rw[bZ];decide),Lj bZ];dsimp only;rw[zA he,nB,Lm,hu,Lm]
 rw[hE];have hC:=atv_any s K N BU h e k q he hk hq nB A SV AV AX AF AR kc ks kv kx lf cf out cr bS bF bR bH bV bI gH w1.drew (hW.keep hB.drew);rw[hu] at hC;have HC:=zH hC;have hF:=hW.hF;unfold fcs at hF;obtain⟨vv,sU⟩:=Kj h.v;rw[sU] at hF ⊢;have iY:=hW.hR;have Eg:=hW.hV;have lF:=zj hF;have lR:=zj iY;have lV:=zj Eg;have Hx:=hW.ro;have ag:=zH ab
 by_cases h0:out.length=0
 . have hE0:(decide (0<out.length)&&decide (out.getD u 0=vv))=Aw:=by rw[h0];simp
   rw[hE0];have r0:=zh (Lb hB lR iY) 0 rfl;rw[show(#[I AR out.length cr]:Array Au)[0]=I AR 0 cr by rw[h0];rfl] at r0;have HB:=zH hB;clear ab d0 hB hW hF iY Eg hE bZ nB he av hu BU hC hk hq sU Hx HC hE0 iU h0;go_enter func117,ntmps117;go_wp2_with fail;rw[ag.out];go_quiet (fail);go_wp2_with fail;go_ret;exact⟨rfl,yy HB.out _⟩
 have Mj:=iU (by omega);obtain⟨b0,o0,eR,fP,z0⟩:=Hx.at_ u (by omega);subst eR;obtain⟨y,hy⟩:=Kj (out[u]'(by omega));rw[hy] at z0;have iZ:(decide (0<out.length)&&decide (out.getD u 0=vv))=decide (y=vv):=by rw[Lw (by omega:0<out.length),Ns,zA (by omega:u<out.length),hy]
 rw[iZ];obtain⟨n,hn⟩:=Kj out.length;rw[hn] at iY h0 Mj
 have aS:As (∀X,Am w1.heap.size w1 X->X.heap[bF]?=J (Ag #[O U h.op,O U h.p,O U h.o,O U vv,O U h.g,I AF lf cf] 32 (0,0))/\X.heap[bR]?=J (Ag #[I (J ⟨b0,o0,Z⟩) n cr] 52 (0,0))/\X.heap[bV]?=J (Ag #[.func (.func 110) #[] #[Aj (J ⟨bS,0,Z⟩),Aj (J ⟨bF,0,Z⟩)]] 179 (0,0))/\X.heap[w.heap.size]?=J (Ag #[O U (e:Int),O U (k:Int)] 178 (0,0))):=
  fun X hX=>⟨Lb hX (by omega) (Lb hB lF hF),Lb hX (by omega) (Lb hB lR iY),Lb hX (by omega) (Lb hB lV Eg),Lb hX (by omega) d0⟩
 have mI:As (∀X,Am w1.heap.size w1 X->X.cell? ⟨b0,o0+u,Z⟩=J (O U y)):=fun X hX=>(hX.cell (p:=⟨b0,o0+u,Z⟩) (by show b0<w1.heap.size;omega)).trans ((hB.cell (p:=⟨b0,o0+u,Z⟩) fP).trans z0)
 have HB:=zH hB;have h5:(0:Int)<=(u:Int):=by omega
 have h6:(u:Int)<(n:Int):=by omega
 have cZ:decide ((n:Int)>0)=Av:=Lw (by omega);have BH:(0:Int)<(n:Int):=by omega
 have hn3:0<n:=by omega
 clear ab d0 hB hW hF iY Eg hE bZ nB he av hu BU hC hk hq sU Hx iZ iU Mj hy hn z0;go_enter func117,ntmps117;go_wp2_with fail;rw[ag.out];refine zr [(0,Av),(1,Av),(2,Av),(3,Av),(4,Av),(5,Av),(6,Av),(7,Av),(8,Av),(12,Av),(13,Av),(9,Aw),(10,Aw),(11,Aw),(14,Aw),(15,Aw),(16,Aw)] (fun X=>X.heap[bF]?=J (Ag #[O U h.op,O U h.p,O U h.o,O U vv,O U h.g,I AF lf cf] 32 (0,0))/\X.heap[bR]?=J (Ag #[I (J ⟨b0,o0,Z⟩) n cr] 52 (0,0))/\X.heap[bV]?=J (Ag #[.func (.func 110) #[] #[Aj (J ⟨bS,0,Z⟩),Aj (J ⟨bF,0,Z⟩)]] 179 (0,0))/\X.heap[w.heap.size]?=J (Ag #[O U (e:Int),O U (k:Int)] 178 (0,0))) (by kernel_rfl) (by kernel_rfl) (aS.out _ (Ll _ _).drew) ?_
 repeat
  apply zk rfl
  . rintro K' aa X ⟨u1,u2,u3,u4⟩
    have q3:=zh u1 3 rfl;have j0:=zh u2 0 rfl;have i0:=zh u3 0 rfl;obtain⟨g0,g1,_⟩:=Ke u4;clear u1 u2 u3 u4;go_simp;exact aa
 refine zu rfl ?_;intro K' aa;go_simp;refine HC.out.mono ?_;rintro r w5 ⟨rfl,am⟩;have am:Am w1.heap.size w1 w5:=(Ll _ w1).drew.trans (am.mono (Ld _));have aT:=zH (Lc HB.out am);have lp:=zH (aS.out w5 am);have z4:=mI.out w5 am;refine aa _ _ lp.out ?_;refine zu rfl ?_;intro K' aa;go_simp;refine aa _ _ lp.out ?_;refine zu rfl ?_;intro K' aa;go_simp;refine aa _ _ lp.out ?_;refine zu rfl ?_;intro K' aa;go_simp;refine aa _ _ lp.out ?_;refine zu rfl ?_;intro K' aa;go_simp;refine aa _ _ lp.out ?_;refine zu rfl ?_;intro K' aa;go_simp;refine aa _ _ lp.out ?_;refine zz ?_;go_wp2_with fail;go_ret;exact⟨zy (by first | rfl | simp),aT.out⟩
theorem at6_any(s:Sy)(h:Fh)(e k:Nat)(_he:e<s.xs.length)(bZ:h.op=6)(A SV AV AX AF AR:Bb)(kc ks kv kx lf cf:Nat)(out:List Int)(cr bS bF bR bH bV bI gH:Nat)(w:Ba)
  (hW:AtW s A SV AV AX kc ks kv kx h AF lf cf out AR cr bS bF bR bH bV bI gH w) :
  An Al 118 #[Ai #[O U (e:Int),O U (k:Int)],Aj (J ⟨bF,0,Z⟩)] w fun r w'=>r=Ak (Ah (xH s out h (e,k)))/\Am w.heap.size w w':=by
 obtain⟨w1,ab,d0,av,hB⟩:=zn w #[O U (e:Int),O U (k:Int)] 178
 have hE:xH s out h (e,k)=decide ((k:Int)=h.v):=by
  unfold xH;rw[Lg (by rw[bZ];decide),Lg (by rw[bZ];decide),Lg (by rw[bZ];decide),Lg (by rw[bZ];decide),Lg (by rw[bZ];decide),Lg (by rw[bZ];decide)]
 rw[hE];have hF:=hW.hF;unfold fcs at hF;obtain⟨vv,sU⟩:=Kj h.v;rw[sU] at hF ⊢;have lF:=zj hF;have q3:=zh (Lb hB lF hF) 3 rfl;have g1:=zh d0 1 rfl;have ag:=zH ab;have HB:=zH hB;clear ab d0 hB hW hF hE bZ sU _he;go_enter func118,ntmps118;go_upto_region 1 with fail
 rw[ag.out];go_wp2_with fail;go_ret;exact⟨zy (by first | rfl | simp),HB.out⟩
end
section
open Go.RowKit Go.Shelf
def atG(bS bF bR bH bV bI:Nat):Int->Option Au:=
 xg (xg (xg (xg (xg (xg (xg (fun _=>Z) 0 (.func (.func 112) #[] #[])) 1 (.func (.func 113) #[] #[Aj (J ⟨bI,0,Z⟩),Aj (J ⟨bF,0,Z⟩)]))
  2 (.func (.func 114) #[] #[Aj (J ⟨bI,0,Z⟩),Aj (J ⟨bF,0,Z⟩)])) 3 (.func (.func 115) #[] #[Aj (J ⟨bH,0,Z⟩),Aj (J ⟨bV,0,Z⟩),Aj (J ⟨bF,0,Z⟩)]))
  4 (.func (.func 116) #[] #[Aj (J ⟨bS,0,Z⟩),Aj (J ⟨bF,0,Z⟩)])) 5 (.func (.func 117) #[] #[Aj (J ⟨bR,0,Z⟩),Aj (J ⟨bV,0,Z⟩),Aj (J ⟨bF,0,Z⟩)]))
  6 (.func (.func 118) #[] #[Aj (J ⟨bF,0,Z⟩)])
theorem fault_nat{r:Rd}{N:Nat}(h:yu r=0)(hn:r.n=(N:Int))(h5:N<=5):∃F:Nat,r.f=(F:Int)/\F<32:=by
 unfold yu at h
 split at h
 . rename_i az;exact absurd h az
 unfold yY at h
 split at h
 . cases h
 split at h
 . cases h
 rename_i h2;obtain⟨F,hF⟩:=Lp (show 0<=r.f by omega);refine⟨F,hF,?_⟩;have h4:((2^r.n.toNat:Nat):Int)=(2:Int)^r.n.toNat:=by push_cast;rfl
 have h3:r.f<((2^r.n.toNat:Nat):Int):=by first | omega | (rw[h4];omega)
 rw[hF,hn,Lm] at h3;have:=Nt (n:=2) (by omega) h5;omega
theorem atom_fn{s:Sy}{K N:Nat}(hF:Fine s K N)(hS:Sees s K N)(hl:LowV s.vs)(sM:∀c∈s.p.t.cases,c.inp.length=N){out:List Int}(iU:0<out.length->out.length=s.vs.length){h:Fh}(ok:AtmOk N h)
  (A SV AV AX AF AR:Bb) (kc ks kv kx lf cf cr bS bF bR bH bV bI gH:Nat) :
  ∃kf kb,atG bS bF bR bH bV bI h.op=J (.func (.func kf) #[] kb)/\Enters Al kf/\∀x∈zt (K+1) 0 s.xs.length,∀W,AtW s A SV AV AX kc ks kv kx h AF lf cf out AR cr bS bF bR bH bV bI gH W ->
   An Al kf (#[Ai #[O U x.1,O U x.2]]++kb) W fun r w'=>r=Ak (Ah (xH s out h x))/\Am W.heap.size W w':=by
 have h0:=ok.op0;have h6:=ok.op6;have nd:=hF.n5
 have hx:∀x∈zt (K+1) 0 s.xs.length,∃he:x.1<s.xs.length,x.2<=K/\∃c:Nat,s.xs[x.1].c=(c:Int)/\c<s.p.t.cases.length/\(yA s.p c).length=N:=fun x hx=>by
  obtain⟨_,h1,h2⟩:=xX _ _ x hx;have he:x.1<s.xs.length:=by omega
  obtain⟨c,hc,aA,_⟩:=hS.cs _ (Lh he);refine⟨he,by omega,c,hc,aA,?_⟩;unfold yA;rw[Lf,Li aA];exact sM _ (Lh aA)
 rcases(by omega:h.op=0\/h.op=1\/h.op=2\/h.op=3\/h.op=4\/h.op=5\/h.op=6) with e | e | e | e | e | e | e
 . refine⟨_,_,by rw[e];exact rfl,NA func112 (by kernel_rfl) rfl,fun x lY W hW=>?_⟩
   obtain⟨he,hk,c,hc,aA,sX⟩:=hx x lY;exact at0_any s h x.1 x.2 he e A SV AV AX AF AR kc ks kv kx lf cf out cr bS bF bR bH bV bI gH W hW
 . refine⟨_,_,by rw[e];exact rfl,NA func113 (by kernel_rfl) rfl,fun x lY W hW=>?_⟩
   obtain⟨he,hk,c,hc,aA,sX⟩:=hx x lY;obtain⟨iB,Mi⟩:=ok.p (.inl e);obtain⟨q,hq⟩:=Lp iB;exact at1_any s h x.1 x.2 he c q hc aA (by omega) hq e A SV AV AX AF AR kc ks kv kx lf cf out cr bS bF bR bH bV bI gH W hW
 . refine⟨_,_,by rw[e];exact rfl,NA func114 (by kernel_rfl) rfl,fun x lY W hW=>?_⟩
   obtain⟨he,hk,c,hc,aA,sX⟩:=hx x lY;exact at2_any s h x.1 x.2 he c hc aA (by omega) e A SV AV AX AF AR kc ks kv kx lf cf out cr bS bF bR bH bV bI gH W hW
 . refine⟨_,_,by rw[e];exact rfl,NA func115 (by kernel_rfl) rfl,fun x lY W hW=>?_⟩
   obtain⟨he,hk,c,hc,aA,sX⟩:=hx x lY;obtain⟨iB,Mi⟩:=ok.p (.inr (.inl e));obtain⟨q,hq⟩:=Lp iB;obtain⟨ho0,hoN⟩:=ok.o e;obtain⟨o,ho⟩:=Lp ho0;have Cm:=Lh he;obtain⟨S,e1,e2,_⟩:=hrd_view hF hS hl Cm x.2 hk q (by omega);obtain⟨v,hv,_⟩:=hS.pr Cm hk (show q<N by omega);have hlt:=hv.lt;obtain⟨u,hu⟩:=Lp hlt.1;rw[hu,Lm] at e1;exact at3_any s h x.1 x.2 he K N q o S u hF hk (by omega) hq ho (by omega) hu (by omega) e1 e2 e A SV AV AX AF AR kc ks kv kx lf cf out cr bS bF bR bH bV bI gH W hW
 . refine⟨_,_,by rw[e];exact rfl,NA func116 (by kernel_rfl) rfl,fun x lY W hW=>?_⟩
   obtain⟨he,hk,c,hc,aA,sX⟩:=hx x lY;obtain⟨iB,Mi⟩:=ok.p (.inr (.inr (.inl e)));obtain⟨q,hq⟩:=Lp iB
   exact at4_any s h x.1 x.2 he K N q hF hk (by omega) hq (fun r hr=>by
    obtain⟨iA,fi⟩:=(hF.word _ (Lh he)).2 r hr
    exact fault_nat iA fi nd) e A SV AV AX AF AR kc ks kv kx lf cf out cr bS bF bR bH bV bI gH W hW
 . refine⟨_,_,by rw[e];exact rfl,NA func117 (by kernel_rfl) rfl,fun x lY W hW=>?_⟩
   obtain⟨he,hk,c,hc,aA,sX⟩:=hx x lY;obtain⟨iB,Mi⟩:=ok.p (.inr (.inr (.inr e)));obtain⟨q,hq⟩:=Lp iB;have Cm:=Lh he;obtain⟨v,hv,_⟩:=hS.pr Cm hk (show q<N by omega);have hlt:=hv.lt;obtain⟨u,hu⟩:=Lp hlt.1;exact at5_any s h x.1 x.2 he K N q u hF hk (by omega) hq hu (by omega) e A SV AV AX AF AR kc ks kv kx lf cf out cr bS bF bR bH bV bI gH W hW iU
 refine⟨_,_,by rw[e];exact rfl,NA func118 (by kernel_rfl) rfl,fun x lY W hW=>?_⟩;obtain⟨he,hk,c,hc,aA,sX⟩:=hx x lY;exact at6_any s h x.1 x.2 he e A SV AV AX AF AR kc ks kv kx lf cf out cr bS bF bR bH bV bI gH W hW
end
section
open Go.RowKit Go.Shelf
theorem gT{K:Kd}{w:Ba}{base:Nat}{v:Au}{n:Nat}{cs:List Au}(h:OwnR K w base v n cs):∀r,v.ownBlock=J r->∀o,w.heap[r]?=J o->o.isCells=Av:=by
 intro r hr o ho;rcases h.2 with ⟨rfl,_⟩ | ⟨g,cap,cur,rfl,_,hg,_⟩
 . cases hr
 have e:g=r:=by injection hr
 subst e;rw[hg] at ho
 cases ho
 rfl
structure AtIn(b:Nat)(bs:List Bool)(w0 W:Ba):Prop where
 wrote:Wrote (fun z=>z=b) w0 W
 box:∃P c,W.heap[b]?=J (Ag #[I P bs.length c] 58 (0,0))/\OwnR kBl W w0.heap.size (I P bs.length c) bs.length (bs.map .bool)
section
variable {b:Nat} {bs:List Bool} {w0 W W':Ba}
theorem AtIn.turn{row:Option Nat}(h:AtIn b bs w0 W)(hb:b<w0.heap.size)(hg:W.grownBy W' row)(hr:∀r,row=J r->w0.heap.size<=r/\∃o:Obj,W.heap[r]?=J o/\o.isCells=Aw):AtIn b bs w0 W':=by
 obtain⟨P,c,hx,ho⟩:=h.box;have aP:=h.wrote.size;refine⟨h.wrote.trans (Wrote.of_grown (R:=fun k=>w0.heap.size<=k) hg (fun k e hk=>(hr k e).1)) (fun k h1 h2=>by omega),P,c,(hg.block b (by omega) (fun e=>by have:=(hr b e.symm).1;omega)).trans hx,ho.kept hg ?_⟩;rcases e:(I P bs.length c).ownBlock with _ | g
 . exact .inl rfl
 refine .inr fun e2=>?_
 obtain⟨o,h1,h2⟩:=(hr g e2.symm).2;have:=gT ho g e o h1;rw[this] at h2;cases h2
theorem AtIn.call(h:AtIn b bs w0 W)(hb:b<w0.heap.size)(hw:Am W.heap.size W W'):AtIn b bs w0 W':=by
 obtain⟨P,c,hx,ho⟩:=h.box;have aP:=h.wrote.size;exact⟨h.wrote.trans (Wrote.of_below hw) (fun _ _ h=>h),P,c,(hw.block b (by omega)).trans hx,ho.below hw (Ld _)⟩
theorem AtIn.push{P P2:Bb}{c c2:Nat}{v:Bool}{W1:Ba}(h:AtIn b bs w0 W)(hb:b<w0.heap.size)(hx:W.heap[b]?=J (Ag #[I P bs.length c] 58 (0,0)))(ho:OwnR kBl W w0.heap.size (I P bs.length c) bs.length (bs.map .bool))
  (pL:OwnR kBl W1 w0.heap.size (I P2 (bs.length+1) c2) (bs.length+1) (bs.map .bool++[Ah v])) (hg:W.grownBy W1 (I P bs.length c).ownBlock) :
  AtIn b (bs++[v]) w0 (W1.setCell ⟨b,0,Z⟩ (I P2 (bs.length+1) c2)):=by
 have aP:=h.wrote.size;have iE:=ho.lt;have aF:=(hg.block b (by omega) (fun e=>by have:=(iE b e.symm).1;omega)).trans hx;obtain⟨x1,x2,x3⟩:=qv aF (I P2 (bs.length+1) c2);have a1:Wrote (fun k=>w0.heap.size<=k) W W1:=Wrote.of_grown hg (fun k e hk=>(iE k e).1);have a2:Wrote (fun k=>k=b) W1 (W1.setCell ⟨b,0,Z⟩ (I P2 (bs.length+1) c2)):=Wrote.of_grown (zV W1 _ 0 _) (fun k e hk=>by cases e;rfl);refine⟨(h.wrote.trans a1 (fun k h1 h2=>by omega)).trans a2 (fun _ _ h=>h),P2,c2,by rw[Lr];exact x1,?_⟩;rw[Lr,LF];refine OwnR.kept (row:=J b) pL (zV W1 b 0 _) ?_;rcases e:(I P2 (bs.length+1) c2).ownBlock with _ | g
 . exact .inl rfl
 exact .inr fun e2 => by
  have:=(pL.lt g e).1
  cases e2
  omega
theorem AtIn.keeps{P:Bb}{c bi:Nat}{W1:Ba}(h:AtIn b bs w0 W)(hb:b<w0.heap.size)(hi:bi<w0.heap.size)(az:bi≠b)(hx:W.heap[b]?=J (Ag #[I P bs.length c] 58 (0,0)))(ho:OwnR kBl W w0.heap.size (I P bs.length c) bs.length (bs.map .bool))
  (hg:W.grownBy W1 (I P bs.length c).ownBlock) (v:Au):KeepsFrom w0.heap.size W (W1.setCell ⟨b,0,Z⟩ v)/\KeepB (fun k=>k=bi) W (W1.setCell ⟨b,0,Z⟩ v):=by
 have iE:=ho.lt;have aP:=h.wrote.size;have av:=hg.size;have aF:=(hg.block b (by omega) (fun e=>by have:=(iE _ e.symm).1;omega)).trans hx;obtain⟨x1,x2,x3⟩:=qv aF v;refine⟨⟨by simp[World.setCell];omega,fun k o hk aM pL=>?_⟩,⟨by simp[World.setCell];omega,fun k hk hl=>?_⟩⟩
 . refine(x3 k (by omega)).trans ((hg.block k (zj aM) (fun e=>?_)).trans aM)
   have:=gT ho k e.symm o aM;rw[this] at pL;cases pL
 subst hk;exact(x3 _ (by omega)).trans (hg.block _ (by omega) (fun e=>by have:=(iE _ e.symm).1;omega))
end
end
section
open Go.RowKit Go.Shelf
attribute [local go_sem] Oper.semAt_some
theorem blk_lt'{w:Ba}{b:Nat}{o:Obj}(h:w.heap[b]?=J o):b<w.heap.size:=(Ln.1 h).1
def RetBN(xs:List Bool)(n:Int)(w:Ba)(e:Ending)(w':Ba):Prop:=∃A c,e=Ak (.tuple #[I A xs.length c,O U n])/\OwnR kBl w' w.heap.size (I A xs.length c) xs.length (xs.map .bool)/\Am w.heap.size w w'
theorem atomN_any(s:Sy)(hs:LowS s)(hf:yU s.p)(out:List Int)(d:Nat)(f:Fm)(aP:(zR d f).1<=1000000)(A SV AV AX AF AR:Bb)(kc ks kv kx cf cr:Nat)(w:Ba)(hS:SyAt w w.heap.size A SV AV AX s)(hO:IAt w w.heap.size AR out)(hA:FsAt w w.heap.size d AF f.args) :
  An Al 62 #[.agg (s.vs_ A kc SV ks AV kv AX kx),Ai #[I AR out.length cr],.agg (f.vs AF cf)] w (RetBN (atmE s out d f).1 (atmE s out d f).2 w):=by
 obtain⟨wa,ic,da,mY,oW⟩:=zn w (s.vs_ A kc SV ks AV kv AX kx) 39;obtain⟨wb,ld,db,mX,p'⟩:=zn wa #[I AR out.length cr] 52;obtain⟨w1,ab,dc,oM,oC⟩:=zn wb (f.vs AF cf) 32;have hB:Am w.heap.size w w1:=(oW.trans (p'.mono (by omega))).trans (oC.mono (by omega));have da:w1.heap[w.heap.size]?=J (Ag (s.vs_ A kc SV ks AV kv AX kx) 39 (0,0)):=Lb oC (by omega) (Lb p' (by omega) da);have db:w1.heap[w.heap.size+1]?=J (Ag #[I AR out.length cr] 52 (0,0)):=by rw[<-mY];exact Lb oC (by omega) db
 have dc:w1.heap[w.heap.size+1+1]?=J (Ag (f.vs AF cf) 32 (0,0)):=by rw[<-mY,<-mX];exact dc
 have ce:w1.heap.size=w.heap.size+3:=by omega
 have HV:=zH (vi s hs hf A SV AV AX kc ks kv kx w1 (hS.up hB));have HE:As (atmE s out d f=if yc s≠0 then ([],yc s) else if 0<out.length/\out.length≠s.vs.length then ([],15) else if qy s.n d f≠0 then ([],qy s.n d f) else if 0<f.args.length then ([],11) else (jK s out f.h,0)):=rfl;have lO:=zH (fun h=>yF hf h);have tj:=zH (fun (N:Nat) (hn:s.n=(N:Int)) (h:qy s.n d f=0) (ha:f.args.length=0)=>atm_ok hn h ha);have pB:=zH (fun (X:Ba) (hX:Am w1.heap.size w1 X)=>ug s.n d f AF cf X ((hA.keep (Lc hB hX)).more (Lc hB hX).size) aP);have fH:As (∀X,Am w1.heap.size w1 X->SyAt X X.heap.size A SV AV AX s):=fun X hX=>(hS.up hB).up hX
 have Cb:As (∀X,Am w1.heap.size w1 X->IAt X X.heap.size AR out):=fun X hX=>(hO.keep (Lc hB hX)).more (Lc hB hX).size
 have pA:As (∀c,yc s=0->c∈s.p.t.cases->(c.inp.length:Int)=s.p.t.n):=fun c h hc=>by
  obtain⟨fP,_⟩:=yF hf h
  have iB:zZ s.p=0:=by
   by_cases h0:zZ s.p=0
   . exact h0
   . unfold yc at h
     rw[xn h0] at h;simp[h0] at h
  exact ZQ (yp iB).1 c hc
 have EE:=zH (fun (h:yc s=0)=>(by
  have h1:=(yF hf h).1
  rw[h1];exact built_asc _:LowV s.vs))
 have sB:=zH (fun (K N:Nat) (hF:Fine s K N) (h:yc s=0)=>(by
  have h1:=(yF hf h).1;have h2:=hF;rw[h1] at h2 ⊢
  exact built_sees h2:Sees s K N))
 have fT:=zH (fun (K:Nat) (h:s.p.k=(K:Int))=>(by unfold jK;rw[h];rfl:jK s out f.h=(zt (K+1) 0 s.xs.length).map (xH s out f.h)));obtain⟨E,hE⟩:=Kj (atmE s out d f);rw[hE] at HE ⊢;obtain⟨r,hr⟩:=Kj (yc s);rw[hr] at HV HE lO EE sB pA;unfold Sy.vs_ at ic da HV ⊢;unfold Fm.vs at ab dc pB ⊢;have ag:As (((w.alloc (Ag #[O U s.p.t.n,O U s.p.t.ins,O U s.p.t.outs,I A s.p.t.cases.length kc,O U s.p.a.n,I SV s.p.a.sts.length ks,O U s.p.k,O U s.n,I AV s.vs.length kv,I AX s.xs.length kx] 39)).alloc (Ag #[I AR out.length cr] 52)).alloc (Ag #[O U f.h.op,O U f.h.p,O U f.h.o,O U f.h.v,O U f.h.g,I AF f.args.length cf] 32)=w1):=by rw[As,ic,ld,ab]
 have HB:=zH hB
 have bD:As (∀X,Am w1.heap.size w1 X->X.heap[w.heap.size]?=J (Ag #[O U s.p.t.n,O U s.p.t.ins,O U s.p.t.outs,I A s.p.t.cases.length kc,O U s.p.a.n,I SV s.p.a.sts.length ks,O U s.p.k,O U s.n,I AV s.vs.length kv,I AX s.xs.length kx] 39 (0,0))/\X.heap[w.heap.size+1]?=J (Ag #[I AR out.length cr] 52 (0,0))/\X.heap[w.heap.size+1+1]?=J (Ag #[O U f.h.op,O U f.h.p,O U f.h.o,O U f.h.v,O U f.h.g,I AF f.args.length cf] 32 (0,0))):=
  fun X hX=>⟨Lb hX (by omega) da,Lb hX (by omega) db,Lb hX (by omega) dc⟩
 have Uu:=zH ce;have G1:As (Am w1.heap.size w1 w1):=Ll _ _;clear ic ld ab da db dc mY mX oM oW p' oC hB ce hS hO hA aP hE hs;obtain⟨D0,D1,D2⟩:=bD.out _ G1.out;obtain⟨p0,p1,p2,p3,p4,p5,p6,p7,p8,p9⟩:=zM (D0);clear D0 D1 D2;refine yg func62 rfl ?_;simp only[ntmps62,List.size_toArray,List.length_cons,List.length_nil,Nat.reduceAdd,Nat.reduceSub,Array.replicate_succ,Array.replicate_zero,List.push_toArray,List.append_toArray,List.nil_append,List.cons_append];go_wp2_with fail;rw[ag.out];go_wp2_with fail;refine HV.out.mono ?_;rintro e w2 ⟨rfl,ae⟩;have G2:=zH (Lc G1.out ae)
 by_cases h0:r=0
 case neg=>
  have hR:As (E=([],r)):=HE.out.trans (Lj h0);have e0:(r != 0)=Av:=by simpa using h0
  have ck:=zH (Lc HB.out G2.out);clear HE lO tj pB fH Cb pA EE sB fT bD;go_wp2_with fail;refine yo (Marks.nil w.heap.size _) (v:=.tuple #[I Z 0 0,O U r]) (fun W=>by kernel_rfl) ?_;intro X hX;rw[hR.out];exact⟨Z,0,rfl,OwnR.nil _ _ _,ck.out.trans hX.below⟩
 subst h0;have aj:=zH (HE.out.trans (Lg (by simp)));obtain⟨mX,K,N,hF⟩:=lO.out rfl;clear mX;have IF:=zH (sB.out K N hF rfl);have rn:=zH (EE.out rfl);have mg:As (∀c∈s.p.t.cases,c.inp.length=N):=fun c hc=>by have h1:=pA.out c rfl hc;have:=hF.pn;omega
 have sH:=zH hF;have nW:=zH (tj.out N hF.n);have sF:=zH (fT.out K hF.k);have hlv:=hF.lv;clear HE lO EE sB pA tj fT hF hr;obtain⟨D0,D1,D2⟩:=bD.out _ G2.out;have p8:=zh D0 8 rfl;have r0:=zh D1 0 rfl;clear D0 D1 D2;go_upto_region 4 with fail
 by_cases dh:0<out.length/\out.length≠s.vs.length
 case pos=>
  have hR:As (E=([],15)):=aj.out.trans (Lj dh);have e0:((out.length:Int) != 0)=Av:=by simp;intro h;rw[h] at dh;simp at dh
  have e1:((out.length:Int) != (s.vs.length:Int))=Av:=by simp;omega
  have e2:¬out=[]:=by rintro rfl;simp at dh
  have e3:¬(out.length:Int)=0:=by omega
  have e4:¬(out.length:Int)=(s.vs.length:Int):=by omega
  have e5:¬out.length=s.vs.length:=by omega
  have ck:=zH (Lc HB.out G2.out);clear aj pB fH Cb mg sH nW sF IF rn bD dh;go_wp2_with fail;refine yo (Marks.nil w.heap.size _) (v:=.tuple #[I Z 0 0,O U 15]) (fun W=>by kernel_rfl) ?_;intro X hX;rw[hR.out];exact⟨Z,0,rfl,OwnR.nil _ _ _,ck.out.trans hX.below⟩
 have ax:=zH (aj.out.trans (Lg dh));have ni:As (0<out.length->out.length=s.vs.length):=fun h=>Decidable.byContradiction fun e=>dh ⟨h,e⟩
 go_cut [1,34] from 16 (fun s1 s34 wx=>s1=Ai #[I AR out.length cr]/\s34=Ah Aw/\wx=w2)
 case first=>
  have ae:out.length=0\/out.length=s.vs.length:=by omega
  by_cases h1:out.length=0
  . have e0:((out.length:Int) != 0)=Aw:=by simp[h1]
    clear dh ae h1 ni pB fH Cb mg sH nW sF IF rn bD ax hlv;go_wp2_with fail
    go_meet
    exact⟨rfl,rfl,rfl⟩
  have e0:((out.length:Int) != 0)=Av:=by simp;intro h;rw[h] at h1;simp at h1
  have e1:((out.length:Int) != (s.vs.length:Int))=Aw:=by simp;omega
  clear dh ae h1 ni pB fH Cb mg sH nW sF IF rn bD ax hlv;go_wp2_with fail
  go_meet
  exact⟨rfl,rfl,rfl⟩
 case rest=>
 obtain⟨rfl,rfl,rfl⟩:=hcut;clear p8 r0 dh;have HC:=zH (pB.out _ G2.out);obtain⟨q,hq⟩:=Kj (qy s.n d f);rw[hq] at HC ax nW;obtain⟨D0,D1,D2⟩:=bD.out _ G2.out;have p7:=zh D0 7 rfl;obtain⟨q0,q1,q2,q3,q4,q5,_⟩:=Ki (D2);clear D0 D1 D2 pB hq;go_wp2_with fail;refine HC.out.mono ?_;rintro e w3 ⟨rfl,ak⟩;have G3:=zH (Lc G2.out ak)
 by_cases h0:q=0
 case neg=>
  have hR:As (E=([],q)):=ax.out.trans (Lj h0);have ck:=zH (Lc HB.out G3.out);go_wp2_with fail;refine yo (Marks.nil w.heap.size _) (v:=.tuple #[I Z 0 0,O U q]) (fun W=>by kernel_rfl) ?_;intro X hX;rw[hR.out];exact⟨Z,0,rfl,OwnR.nil _ _ _,ck.out.trans hX.below⟩
 subst h0;have cK:=zH (ax.out.trans (Lg (by simp)));obtain⟨D0,D1,D2⟩:=bD.out _ G3.out;have q5:=zh D2 5 rfl;clear D0 D1 D2 ax
 by_cases hla:0<f.args.length
 case pos=>
  have hR:As (E=([],11)):=cK.out.trans (Lj hla);have e0:((f.args.length:Int)>0)=True:=eq_true (by omega);have e1:(0:Int)<(f.args.length:Int):=by omega
  have ck:=zH (Lc HB.out G3.out);clear cK fH Cb mg sH nW sF IF rn bD ni;go_wp2_with fail;refine yo (Marks.nil w.heap.size _) (v:=.tuple #[I Z 0 0,O U 11]) (fun W=>by kernel_rfl) ?_;intro X hX;rw[hR.out];exact⟨Z,0,rfl,OwnR.nil _ _ _,ck.out.trans hX.below⟩
 have hR:As (E=(jK s out f.h,0)):=cK.out.trans (Lg hla);have HAO:=zH (nW.out rfl (by omega));have e1:¬(0:Int)<(f.args.length:Int):=by omega
 have HPH:=zH (pheard_any s sH.out.lv (fun v hv=>by
  obtain⟨⟨pq,h1,h2⟩,_⟩:=sH.out.vs v hv;refine⟨⟨pq,h1,by have:=sH.out.n5;omega⟩,fun j hj=>?_⟩;obtain⟨i,hi,rfl⟩:=LT hv;have:=rn.out i hi j hj
  omega) A SV AV AX kc ks kv kx w3 (fH.out _ G3.out).fv)
 unfold Sy.vs_ at HPH;obtain⟨D0,D1,D2⟩:=bD.out _ G3.out;obtain⟨p0,p1,p2,p3,p4,p5,p6,p7,p8,p9⟩:=zM (D0);clear D0 D1 D2 cK nW;go_wp2_with fail;refine HPH.out.mono ?_;rintro e w4 ⟨gH,rfl,hgH,hRH,aD⟩;have G4:=zH (Lc G3.out aD);have tC:w1.heap.size<=w4.heap.size:=G4.out.size;have TJ:=hRH.lt;clear aD HPH p0 p1 p2 p3 p4 p5 p6 p7 p8 p9;go_upto_region 12 with fail
 obtain⟨w5,dY,d5,cY,am⟩:=zn w4 #[I (J ⟨gH,0,Z⟩) s.vs.length s.vs.length] 50;rw[dY];go_upto_region 13 with fail
 obtain⟨w6,oJ,d6,fD,cB⟩:=zn w5 #[.func (.func 110) #[] #[Aj (J ⟨w.heap.size,0,Z⟩),Aj (J ⟨w.heap.size+1+1,0,Z⟩)]] 179;rw[oJ];go_upto_region 14 with fail
 obtain⟨w7,Cn,d7,fC,dE⟩:=zn w6 #[.func (.func 111) #[] #[Aj (J ⟨w.heap.size,0,Z⟩)]] 180;rw[Cn];have ht:Al.underlying 182=J (.map 3 181):=underlying182;have Mq:=@run_makeMap Al 182 w7;obtain⟨bH,hbH⟩:=Kj w4.heap.size;have e5:w5.heap.size=bH+1:=by omega
 have e6:w6.heap.size=bH+1+1:=by omega
 have e7:w7.heap.size=bH+1+1+1:=by omega
 have m0:MapOf (O U) (w7.alloc (.map #[] 0)) (bH+1+1+1) 0 (fun _=>Z):=by rw[<-e7];exact MapOf.made w7
 obtain⟨v1,u1,m1,g1⟩:=m0.put yC ht 0 (.func (.func 112) #[] #[]);obtain⟨v2,u2,m2,g2⟩:=m1.put yC ht 1 (.func (.func 113) #[] #[Aj (J ⟨bH+1+1,0,Z⟩),Aj (J ⟨w.heap.size+1+1,0,Z⟩)]);obtain⟨v3,u3,m3,g3⟩:=m2.put yC ht 2 (.func (.func 114) #[] #[Aj (J ⟨bH+1+1,0,Z⟩),Aj (J ⟨w.heap.size+1+1,0,Z⟩)]);obtain⟨v4,u4,m4,g4⟩:=m3.put yC ht 3 (.func (.func 115) #[] #[Aj (J ⟨bH,0,Z⟩),Aj (J ⟨bH+1,0,Z⟩),Aj (J ⟨w.heap.size+1+1,0,Z⟩)]);obtain⟨v5,u5,m5,g5⟩:=m4.put yC ht 4 (.func (.func 116) #[] #[Aj (J ⟨w.heap.size,0,Z⟩),Aj (J ⟨w.heap.size+1+1,0,Z⟩)]);obtain⟨v6,u6,m6,g6⟩:=m5.put yC ht 5 (.func (.func 117) #[] #[Aj (J ⟨w.heap.size+1,0,Z⟩),Aj (J ⟨bH+1,0,Z⟩),Aj (J ⟨w.heap.size+1+1,0,Z⟩)]);obtain⟨v7,u7,m7,g7⟩:=m6.put yC ht 6 (.func (.func 118) #[] #[Aj (J ⟨w.heap.size+1+1,0,Z⟩)])
 have EJ:As (Wrote (fun z=>z=bH+1+1+1) (w7.alloc (.map #[] 0)) v7):=by
  have t1:=Wrote.of_grown (R:=fun z=>z=bH+1+1+1) g1 (fun k e _=>by cases e;rfl);have t2:=t1.trans (Wrote.of_grown (R:=fun z=>z=bH+1+1+1) g2 (fun k e _=>by cases e;rfl)) (fun _ _ h=>h);have t3:=t2.trans (Wrote.of_grown (R:=fun z=>z=bH+1+1+1) g3 (fun k e _=>by cases e;rfl)) (fun _ _ h=>h);have t4:=t3.trans (Wrote.of_grown (R:=fun z=>z=bH+1+1+1) g4 (fun k e _=>by cases e;rfl)) (fun _ _ h=>h);have t5:=t4.trans (Wrote.of_grown (R:=fun z=>z=bH+1+1+1) g5 (fun k e _=>by cases e;rfl)) (fun _ _ h=>h);have t6:=t5.trans (Wrote.of_grown (R:=fun z=>z=bH+1+1+1) g6 (fun k e _=>by cases e;rfl)) (fun _ _ h=>h);exact t6.trans (Wrote.of_grown (R:=fun z=>z=bH+1+1+1) g7 (fun k e _=>by cases e;rfl)) (fun _ _ h=>h)
 have HM7:As (MapOf (O U) v7 (bH+1+1+1) 7 (atG w.heap.size (w.heap.size+1+1) (w.heap.size+1) bH (bH+1) (bH+1+1))):=m7;clear m0 m1 m2 m3 m4 m5 m6 m7 g1 g2 g3 g4 g5 g6 g7;have Bv:=zH d5;have tq:=zH d6;have HD7:=zH d7;have HRH:=zH hRH;have HS:=zH (And.intro cY (And.intro fD fC));have cj:=zH (And.intro am (And.intro cB dE));have rx:=zH (And.intro hbH (And.intro e5 (And.intro e6 e7)));have tC:=zH tC;have TJ:=zH TJ;clear d5 d6 d7 hRH cY fD fC am cB dE dY oJ Cn;simp only[hbH];rw[e7] at Mq;clear hbH e5 e6 e7;go_upto_region 15 with fail
 obtain⟨w8,KM,d8,sc,eD⟩:=zn v7 #[.map (J (bH+1+1+1))] 182;rw[KM];obtain⟨Up,nK⟩:=Kj v7.heap.size;simp only[nK];have HS8:=zH sc;clear sc Mq u1 u2 u3 u4 u5 u6 u7 KM;go_upto_region 16 with fail
 obtain⟨w9,KL,d9,sO,dL⟩:=zn w8 #[I Z 0 0] 58;rw[KL];obtain⟨oD,t9⟩:=Kj w8.heap.size;simp only[t9];have U9:w7.heap.size+1<=v7.heap.size:=by have:=EJ.out.size;simpa using this
 obtain⟨e4,e5,e6,e7⟩:=rx.out;obtain⟨k5,k6,k7⟩:=cj.out;have B7:Am w7.heap.size w7 v7:=⟨EJ.out.os,EJ.out.tape,EJ.out.output,by omega,fun k hk=>(EJ.out.block k (by simp;omega) (by show ¬k=bH+1+1+1;omega)).trans ((zW w7 _).block k hk)⟩;have B8:Am w7.heap.size w7 w8:=B7.trans (eD.mono (by omega));have B68:Am w6.heap.size w6 w8:=k7.trans (B8.mono (by omega));have B58:Am w5.heap.size w5 w8:=k6.trans (B68.mono (by omega));have B48:Am w4.heap.size w4 w8:=k5.trans (B58.mono (by omega));have DC:=tC.out;have MC:=TJ.out;have G8:=zH (G4.out.trans (B48.mono DC));have Vu:=HS8.out
 have IR:As (AtW s A SV AV AX kc ks kv kx f.h AF f.args.length cf out AR cr w.heap.size (w.heap.size+1+1) (w.heap.size+1) bH (bH+1) (bH+1+1) gH w8):=by
  obtain⟨x1,x2,x3⟩:=bD.out _ G8.out;refine⟨(fH.out _ G8.out).fx,(fH.out _ G8.out).fc,Cb.out _ G8.out,x1,x3,x2,?_,?_,?_,?_⟩
  . have:=Bv.out;rw[e4] at this;exact Lb B58 (by omega) this
  . exact(B48.block gH MC).trans HRH.out
  . have:=tq.out;rw[e5] at this;exact Lb B68 (by omega) this
  have:=HD7.out;rw[e6] at this;exact Lb B8 (by omega) this
 obtain⟨ed,Co,d10,pH,ct⟩:=zn w9 #[O U s.p.t.n,O U s.p.t.ins,O U s.p.t.outs,I A s.p.t.cases.length kc,O U s.p.a.n,I SV s.p.a.sts.length ks,O U s.p.k,O U s.n,I AV s.vs.length kv,I AX s.xs.length kx] 39;have Cl:oD+2=ed.heap.size:=by omega
 have dl:As (∀X,Wrote (fun z=>z=oD) ed X->AtW s A SV AV AX kc ks kv kx f.h AF f.args.length cf out AR cr w.heap.size (w.heap.size+1+1) (w.heap.size+1) bH (bH+1) (bH+1+1) gH X):=fun X hX=>IR.out.keep ⟨hX.os.trans (ct.os.trans dL.os),hX.tape.trans (ct.tape.trans dL.tape),hX.output.trans (ct.output.trans dL.output),by have:=hX.size;omega,fun k hk=>(hX.block k (by omega) (by show ¬k=oD;omega)).trans ((ct.block k (by omega)).trans (dL.block k (by omega)))⟩
 have HMP:As (∀X,Wrote (fun z=>z=oD) ed X->X.heap[Up]?=J (Ag #[.map (J (bH+1+1+1))] 182 (0,0))/\X.heap[bH+1+1+1]?=v7.heap[bH+1+1+1]?/\X.heap[w.heap.size+1+1]?=J (Ag #[O U f.h.op,O U f.h.p,O U f.h.o,O U f.h.v,O U f.h.g,I AF f.args.length cf] 32 (0,0))):=fun X hX=>by
  have hk:∀k,k<oD->X.heap[k]?=w8.heap[k]?:=fun k hk=>(hX.block k (by omega) (by show ¬k=oD;omega)).trans ((ct.block k (by omega)).trans (dL.block k (by omega)))
  refine⟨(hk Up (by omega)).trans ?_,(hk _ (by omega)).trans (eD.block _ (by omega)),?_⟩
  . rw[<-nK];exact d8
  . have h1:=Uu.out
    exact(hk _ (by omega)).trans (bD.out _ G8.out).2.2
 have h0I:AtIn oD [] ed ed:=⟨Wrote.refl _ _,Z,0,by rw[<-t9];exact Lb ct (by omega) d9,OwnR.nil _ _ _⟩;have Bo:=zH (atom_fn sH.out IF.out rn.out mg.out ni.out HAO.out A SV AV AX AF AR kc ks kv kx f.args.length cf cr w.heap.size (w.heap.size+1+1) (w.heap.size+1) bH (bH+1) (bH+1+1) gH);obtain⟨kf,kb,FG,ek,aB⟩:=Bo.out;have i9:=zH aB;have HGO:=zH FG;have EP:=zH (fun (X:Ba)=>Qy s A SV AV AX kc ks kv kx X)
 have ay:(zt (K+1) 0 s.xs.length).length<=20000:=by
  rw[vt (K+1) _ (by omega)];exact Lu (LU sH.out.lx (show K+1<=101 by have:=sH.out.k6;omega)) (by decide)
 have dG:=zH (gi (s.vs_ A kc SV ks AV kv AX kx) K s.xs.length (by have:=sH.out.k6;omega) (by have:=sH.out.lx;omega) AX kx ⟨by unfold Sy.vs_;rw[<-sH.out.k];rfl,by unfold Sy.vs_;rfl⟩ w9.heap.size ed d10);obtain⟨L,hL⟩:=Kj (zt (K+1) 0 s.xs.length);rw[hL] at dG i9 ay sF;unfold Sy.vs_ at EP
 have EQ:As (Am w.heap.size w ed):=by
  have g9:=G8.out.trans (dL.mono (by have:=G8.out.size;omega));have eU:=g9.trans (ct.mono (by have:=g9.size;omega));exact Lc HB.out eU
 have AU:As (w.heap.size+3<=oD):=by have:=G8.out.size;have:=Uu.out;rw[As];omega
 have HW10:=zH Co;have H0I:=zH h0I;have AN:=zH Cl;have O9:=zH sO;have D9:=zH ((dL.block w.heap.size (by have:=G8.out.size;have:=Uu.out;omega)).trans (bD.out _ G8.out).1);have la:=zH t9;clear KL d9 sO dL Co d10 pH ct Cl h0I FG aB Bo U9 e4 e5 e6 e7 k5 k6 k7 B7 B8 B68 B58 B48 DC MC Vu IR nK t9 d8 eD Bv tq HD7 HRH HS cj rx EJ G4 G3 G2 G1 fH Cb mg ni IF rn TJ tC hL;have tC:As True:=trivial;obtain⟨p0,p1,p2,p3,p4,p5,p6,p7,p8,p9⟩:=zM (D9.out);go_wp2_with fail;refine(EP.out _).mono ?_;rintro e wx ⟨rfl,hwx⟩;rw[HW10.out] at hwx;obtain rfl:=hwx;clear p0 p1 p2 p3 p4 p5 p6 p7 p8 p9;go_wp2_with fail
 refine qp rfl (NA Sg (by kernel_rfl) rfl) dG.out (by rintro x rfl;have:=AN.out;have:=O9.out;have:=la.out;omega) (fun _=>rfl)
  (fun (pre:List { x:Nat×Nat // x∈L }) (X:Ba)=>AtIn oD (pre.map fun x=>xH s out f.h x.1) ed X)
  (fun _ _ _=>False)
  ?hI (fun _ _ _ _ _ h _ _=>h)
  H0I.out (fun x=>#[O U x.1,O U x.2]) 178 ?a1 ?assign ?body ?done ?stop (fun _ _ h=>h.wrote.size)
 case hI=>
  intro pre X X' row hX hg hr;exact hX.turn (by have:=AN.out;omega) hg hr
 case assign=>
  intro l pre x X K' hI hK;obtain⟨g',fO⟩:∃g',g'=X.heap.size:=⟨_,rfl⟩;have HK:=zH (hK g' fO (hI.turn (by have:=AN.out;omega) (row:=Z) ⟨rfl,rfl,rfl,by simp,fun k hk _=>Nj X _ k hk⟩ (fun r e=>by cases e)));have HG:=zH fO;clear hK fO hI;gi_wp2;rw[<-HG.out];exact HK.out
 case body=>
  intro l pre x g W3 hg dK hI hlt;obtain⟨bs,aO⟩:∃bs,(pre.map fun x=>xH s out f.h x.1)=bs:=⟨_,rfl⟩;have aY:bs.length<=20000:=by rw[<-aO,LG];omega
  have Np:As (((pre++[x]).map fun x=>xH s out f.h x.1)=bs++[xH s out f.h x.1]):=by rw[As,LF,aO];rfl
  rw[aO] at hI;obtain⟨P,c,cd,ho⟩:=hI.box;obtain⟨x1,x2,x3⟩:=HMP.out W3 hI.wrote;have HC:=zH (i9.out x.1 x.2 W3.drew ((dl.out W3 hI.wrote).keep (Ll _ W3).drew));obtain⟨bv,Ec⟩:=Kj (xH s out f.h x.1);rw[Ec] at Np HC;have hszI:=hI.wrote.size;have Cl:=AN.out
  have aS:As (∀X,Am W3.heap.size W3 X->X.heap[oD]?=J (Ag #[I P bs.length c] 58 (0,0))/\X.heap[Up]?=J (Ag #[.map (J (bH+1+1+1))] 182 (0,0))/\X.heap[bH+1+1+1]?=v7.heap[bH+1+1+1]?/\X.heap[w.heap.size+1+1]?=J (Ag #[O U f.h.op,O U f.h.p,O U f.h.o,O U f.h.v,O U f.h.g,I AF f.args.length cf] 32 (0,0))/\X.heap[g]?=J (Ag #[O U x.1.1,O U x.1.2] 178 (0,0))):=fun X hX=>
   ⟨Lb hX (by omega) cd,La hX x1,Lb hX (by
    obtain⟨_,_,h1,_⟩:=HM7.out;rw[h1] at x2
    exact blk_lt' x2) x2,La hX x3,La hX dK⟩
  have tm:=zH hI;have mO:=zH ho;have Gt:=zH cd;have hgW:=zj dK;clear hI ho cd x1 x2 x3 dK aO Ec;gi_wp2_with fail;refine zS [(0,Av),(1,Av),(2,Av),(3,Av),(5,Av),(4,Av),(6,Aw),(7,Aw),(8,Aw),(9,Aw)] (fun X=>X.heap[oD]?=J (Ag #[I P bs.length c] 58 (0,0))/\X.heap[Up]?=J (Ag #[.map (J (bH+1+1+1))] 182 (0,0))/\X.heap[bH+1+1+1]?=v7.heap[bH+1+1+1]?/\X.heap[w.heap.size+1+1]?=J (Ag #[O U f.h.op,O U f.h.p,O U f.h.o,O U f.h.v,O U f.h.g,I AF f.args.length cf] 32 (0,0))/\X.heap[g]?=J (Ag #[O U x.1.1,O U x.1.2] 178 (0,0))) (by kernel_rfl) (by kernel_rfl) (by kernel_rfl) (by rintro⟨_,_,h⟩;exact h) (aS.out _ (Ll _ _).drew) ?_
  repeat
   apply zk rfl
   . rintro K' aa X ⟨u1,u2,u3,u4,u5⟩
     have dS:=(HM7.out.same u3).look yC ht (show(zeroValue 181).run Al X=.ok .nilFunc X by kernel_rfl) f.h.op;rw[HGO.out] at dS;simp only[Option.getD_some] at dS;have y0:=zh u1 0 rfl;have y1:=zh u2 0 rfl;have y2:=zh u4 0 rfl;obtain⟨y3,y4,_⟩:=Ke u5;clear u1 u2 u3 u4 u5;go_simp;exact aa
  refine zu rfl ?_;intro K' aa;go_simp;rw[ek];refine SA HC.out ?_;rintro e W4 ⟨rfl,aD⟩;have aD:Am W3.heap.size W3 W4:=(Ll _ W3).drew.trans aD;have fB:=zH aD;have EG:=zH (tm.out.call (by omega) aD);have mN:As (OwnR kBl W4 ed.heap.size (I P bs.length c) bs.length (bs.map .bool)):=mO.out.below aD (Ld _);refine aa _ _ (aS.out _ aD) ?_;clear aa K' aD HC;refine zu rfl ?_;intro K' aa;go_simp;obtain⟨W5,dQ,d5,cY,am⟩:=zn W4 #[Ah bv] 4;rw[dQ];have rV:=zH (EG.out.call (by omega) am);have mh:As (OwnR kBl W5 ed.heap.size (I P bs.length c) bs.length (bs.map .bool)):=mN.out.below am (Ld _);have aT:As (Am W3.heap.size W3 W5):=Lc fB.out am;have KX:ed.heap.size<=W5.heap.size:=by have:=aT.out.size;omega
  refine aa _ _ (aS.out _ aT.out) ?_;clear aa K' dQ EG mN;refine yd rfl (by kernel_rfl) ?_;intro K' aa;rw[Lj (by rfl)];refine qP kBl_ok (.tmp 62) (.tmp 69) (by rfl) ed.heap.size (I P bs.length c) bs.length (bs.map .bool) (by rfl) mh.out W4.heap.size #[Ah bv] (by rfl) d5 rfl (by simp[Value.oneCell']) (by omega) KX _ rfl ?_;intro g' ap W6 rD fF CV CH;have tX:=(aS.out _ aT.out).1;have Bm:As (AtIn oD (bs++[bv]) ed (W6.setCell ⟨oD,0,Z⟩ (I (J ⟨g',0,Z⟩) (bs.length+1) ap))):=rV.out.push (by omega) tX mh.out rD fF;have pf:=zH (rV.out.keeps (bi:=w9.heap.size) (by omega) (by have:=O9.out;have:=la.out;omega) (by have:=O9.out;have:=la.out;omega) tX mh.out fF (I (J ⟨g',0,Z⟩) (bs.length+1) ap));have cB:Am ed.heap.size W5 W6:=(Ll _ _).grown fF KX (fun k hk=>(mh.out.lt k hk).1);have hfz:=zi ((cB.block oD (by omega)).trans tX) 0;have Ic:=zj ((cB.block oD (by omega)).trans tX);have TY:=zh ((cB.block oD (by omega)).trans tX) 0 rfl;have fZ:As (∀k,k<ed.heap.size->W6.heap[k]?=W5.heap[k]?):=fun k hk=>cB.block k hk
  refine aa (fun _=>True) _ _ trivial ?_;clear aa K';refine zu rfl ?_;intro K' aa;go_simp;refine aa _ _ trivial ?_;refine zz ?_;clear aa K';refine⟨?_,?_,?_⟩
  . refine KeepsFrom.trans ?_ pf.out.1
    exact⟨aT.out.size,fun k o hk aM _=>(aT.out.block k (blk_lt' aM)).trans aM⟩
  . refine KeepB.trans ?_ pf.out.2
    exact⟨aT.out.size,fun k hk hl=>aT.out.block k hl⟩
  show AtIn oD _ ed _;rw[Np.out];exact Bm.out
 case done=>
  intro D ys W hD eJ hI eq;have ny:ys.map (fun x=>xH s out f.h x.1)=L.map (xH s out f.h):=by rw[show ys.map (fun x=>xH s out f.h x.1)=(ys.map (·.1)).map (xH s out f.h) by rw[PP];rfl,eJ]
  rw[ny] at hI;obtain⟨P,c,cd,ho⟩:=hI.box;have q4:=zh cd 0 rfl;have HO:=zH ho;have HI9:=zH hI;have Cg:=zH eq;clear hI ho cd eq eJ ny;go_wp2_with fail;refine yo (B:=ed.heap.size) (w:=W) (show Marks ed.heap.size _ W from⟨[D],rfl,by simp,fun r hr=>by rw[LQ] at hr;subst hr;exact⟨hD,Cg.out⟩⟩) (v:=.tuple #[I P L.length c,O U 0]) (fun W=>by kernel_rfl) ?_;intro X hS;rw[hR.out,sF.out];have ma:Am ed.heap.size W X:=hS.below;have KJ:=HI9.out.wrote;have Cl:=AN.out;have sO:=O9.out;have t9:=la.out;have hwz:=KJ.size;have FJ:=EQ.out.size;have ce:=Uu.out;have ld:=AU.out;refine⟨P,c,by rw[LG],?_,EQ.out.trans ⟨ma.os.trans KJ.os,ma.tape.trans KJ.tape,ma.output.trans KJ.output,by have:=ma.size;omega,fun k hk=>(ma.block k (by omega)).trans (KJ.block k (by omega) (by show ¬k=oD;omega))⟩⟩;have hO2:=hS.own HO.out;simp only[List.length_map] at hO2 ⊢;refine⟨hO2.1,?_⟩;rcases hO2.2 with h0 | ⟨gg,cap,cur,e1,hb,rest⟩
  . exact .inl h0
  exact .inr ⟨gg,cap,cur,e1,by omega,rest⟩
 intro D c pre W _ _ h;exact h.elim
end
section
open Go.RowKit Go.Shelf
def orL(n:Nat)(a b:List Bool):List Bool:=(List.range n).map fun i=>a.getD i Aw||b.getD i Aw
theorem Zx(n:Nat)(a b:List Bool):(orL n a b).length=n:=by simp[orL]
theorem orL_at{n:Nat}{a b:List Bool}{i:Nat}(h:i<n):(orL n a b)[i]'(by rw[Zx];exact h)=(a.getD i Aw||b.getD i Aw):=by
 simp only[orL,List.getElem_map,List.getElem_range]
def evlS(s:Sy)(h:Fh)(a b:List Bool):List Bool:=
 if h.op=10 then xR (ptn s) (ya s h.p.toNat) a
 else if h.op=11 then evG s h.g a
 else if h.op=12 then xR (ptn s) (kI s h.g) a
 else if h.op=13 then yq (ptn s) (evG s h.g) a (ptn s)
 else if h.op=7 then jH (ptn s) a
 else if h.op=8 then kV (ptn s) a b
 else orL (ptn s) a b
theorem evlS_len(s:Sy)(h:Fh)(a b:List Bool):(evlS s h a b).length=ptn s:=by
 unfold evlS
 repeat' split
 . exact xb _ _ _
 . exact qS _ _ _ _
 . exact xb _ _ _
 . exact qH _
 . exact ku _ _
 . exact xr _ _ _
 exact Zx _ _ _
def OwnB(w:Ba)(g cap:Nat)(bs:List Bool):Prop:=∃cur:Array Au,w.heap[g]?=J (Ag cur 4 (0,0))/\cur.size=cap/\bs.length<=cap/\cap<=maxLen/\cur.toList.take bs.length=bs.map .bool
theorem OwnB.lt{w:Ba}{g cap:Nat}{bs:List Bool}(h:OwnB w g cap bs):g<w.heap.size:=by obtain⟨_,h1,_⟩:=h;exact zj h1
theorem OwnB.cell{w:Ba}{g cap:Nat}{bs:List Bool}(h:OwnB w g cap bs)(k:Nat)(hk:k<bs.length):w.cell? ⟨g,k,Z⟩=J (Ah bs[k]):=by
 obtain⟨cur,h1,h2,h3,_,h4⟩:=h;refine zh h1 k ?_;have e:(cur.toList.take bs.length)[k]?=(bs.map Ah)[k]?:=by rw[h4]
 rw[NY,Lj hk,NJ,Li hk] at e;simpa using e
theorem OwnB.of{w:Ba}{base:Nat}{A:Bb}{n c:Nat}{bs:List Bool}(hl:bs.length=n)(h1:1<=n)(h:OwnR kBl w base (I A n c) n (bs.map .bool)):∃g,A=J ⟨g,0,Z⟩/\base<=g/\OwnB w g c bs:=by
 rcases h.2 with ⟨_,h0⟩ | ⟨g,cap,cur,e,hb,hg,cG,iJ,aP,sM⟩
 . omega
 cases e
 exact⟨g,rfl,hb,cur,hg,by rw[aP];exact NT _,by omega,iJ,by rw[hl,<-sM];show _=cur.toList.take (n*1);rw[NT]⟩
theorem OwnB.at_{w:Ba}{g c B:Nat}{bs:List Bool}(h:OwnB w g c bs)(hB:g<B):BAt w B (J ⟨g,0,Z⟩) bs:=fun _=>⟨g,0,rfl,hB,fun i hi=>by rw[LI];exact h.cell i hi⟩
end
section
open Go.RowKit
def yM(R i:Nat):Bool:=decide (i % (R+1)=R)
def bwL(R:Nat):Nat->List (Nat×Bool)
 | 0=>[]
 | k+1=>(k,!yM R k)::bwL R k
theorem uV(R:Nat):∀k,(bwL R k).length=k
 | 0=>rfl
 | k+1=>by rw[bwL,Lx,uV R k]
theorem bwL_at(R:Nat):∀(k i:Nat) (h:i<(bwL R k).length),(bwL R k)[i]=(k-1-i,!yM R (k-1-i))
 | 0,i,h=>by simp[bwL] at h
 | k+1,0,h=>rfl
 | k+1,i+1,h=>by
  have hl:i<(bwL R k).length:=by simpa[bwL] using h
  have:=bwL_at R k i hl;show(bwL R k)[i]=_;rw[this,show k+1-1-(i+1)=k-1-i by omega]
theorem bw_next{R n:Nat}{pre:List { x:Nat×Bool // x∈bwL R n }}{x:{ x:Nat×Bool // x∈bwL R n }}(h:(pre++[x]).map (·.1) <+: bwL R n):∃k,n=k+1+pre.length/\x.1=(k,!yM R k):=by
 obtain⟨t,ht⟩:=h
 have hl:pre.length<(bwL R n).length:=by
  have:=congrArg List.length ht;simp only[List.length_append,List.length_map,List.length_cons,List.length_nil] at this;omega
 have hx:(bwL R n)[pre.length]=x.1:=by
  simp only[<-ht,List.map_append,List.map_cons,List.map_nil];rw[Pr (by simp),NU (by simp)];simp
 rw[bwL_at] at hx;rw[uV] at hl;rw[show n-1-pre.length=n-(pre.length+1) by omega] at hx;exact⟨n-(pre.length+1),by omega,hx.symm⟩
theorem bwL_mem{R n:Nat}{x:Nat×Bool}(h:x∈bwL R n):x.1<n/\x.2=!yM R x.1:=by
 obtain⟨i,hi,rfl⟩:=LT h;rw[bwL_at];rw[uV] at hi;exact⟨by show n-1-i<n;omega,rfl⟩
theorem more_lt{R M i:Nat}(hi:i<M*(R+1))(h:yM R i=Aw):i+1<M*(R+1):=by
 have h0:i % (R+1)≠R:=NB h;rcases RI (i+1) (M*(R+1)) with h3 | h3
 . exact h3
 have e:i+1=M*(R+1):=by omega
 have h1:(i+1) % (R+1)=0:=by rw[e];exact Nat.mul_mod_left ..
 have h2:=Sw i (show 0<R+1 by omega);rw[<-Nat.mod_add_mod,Sl (by omega)] at h1;omega
def jq(rs:List Bool)(k:Nat):List Bool:=List.replicate k Aw++rs.drop k
theorem behB_len{rs:List Bool}{k:Nat}(h:k<=rs.length):(jq rs k).length=rs.length:=by unfold jq;simp;omega
theorem JT(rs:List Bool):jq rs 0=rs:=by simp[jq]
theorem XP{rs:List Bool}{n:Nat}(h:rs.length=n):jq rs n=List.replicate n Aw:=by unfold jq;rw[RJ (by omega)];simp
theorem behB_at{rs:List Bool}{k:Nat}(h:k<rs.length):(jq rs k)[k]'(by rw[behB_len (by omega)];exact h)=rs[k]:=by
 unfold jq;rw[NU (by simp)];simp
theorem behB_set{rs:List Bool}{k:Nat}(h:k<rs.length):(jq rs (k+1)).set k (rs[k])=jq rs k:=by
 unfold jq;refine List.ext_getElem? fun i=>?_
 rw[Rs]
 by_cases e:k=i
 . subst e
   rw[Lj rfl,Lj (by simp;omega),Ly (by simp)];simp[List.getElem?_eq_getElem h]
 rw[Lg e]
 by_cases e2:i<k
 . rw[LC (by simp;omega),LC (by simp;omega)]
   simp[e2,show i<k+1 by omega]
 rw[Ly (by simp;omega),Ly (by simp;omega)];simp only[List.length_replicate,List.getElem?_drop]
 congr 1;omega
def Qe(n R:Nat)(a:List Bool):List Bool:=(List.range n).map fun i=>!(yM R i)&&a.getD (i+1) Aw
def untV(a b:List Bool):Nat->Nat->Bool
 | 0,i=>b.getD i Aw
 | d+1,i=>b.getD i Aw||(a.getD i Aw&&untV a b d (i+1))
def wh(n R:Nat)(a b:List Bool):List Bool:=(List.range n).map fun i=>untV a b (R-i % (R+1)) i
def wU(n R:Nat)(b:List Bool):List Bool:=wh n R (List.replicate n Av) b
def alwL(n R:Nat)(a:List Bool):List Bool:=jH n (wU n R (jH n a))
theorem uH(n R:Nat)(a:List Bool):(Qe n R a).length=n:=by simp[Qe]
theorem jN(n R:Nat)(a b:List Bool):(wh n R a b).length=n:=by simp[wh]
theorem vd(n R:Nat)(b:List Bool):(wU n R b).length=n:=jN ..
theorem YM(n R:Nat)(a:List Bool):(alwL n R a).length=n:=ku ..
theorem nexL_at{n R:Nat}{a:List Bool}{i:Nat}(h:i<n):(Qe n R a).getD i Aw=(!(yM R i)&&a.getD (i+1) Aw):=by
 rw[zA (by rw[uH];exact h)];simp[Qe]
theorem untL_at{n R:Nat}{a b:List Bool}{i:Nat}(h:i<n):(wh n R a b).getD i Aw=untV a b (R-i % (R+1)) i:=by
 rw[zA (by rw[jN];exact h)];simp[wh]
theorem next_mod{n R i:Nat}(hn:n % (R+1)=0)(hi:i<n)(h:yM R i=Aw):(i+1) % (R+1)=i % (R+1)+1/\i % (R+1)<R/\i+1<n:=by
 have h0:i % (R+1)≠R:=NB h;have h1:i % (R+1)<R+1:=Sw _ (by omega);have h2:(i+1) % (R+1)=i % (R+1)+1:=by rw[<-Nat.mod_add_mod,Sl (by omega)]
 refine⟨h2,by omega,?_⟩;rcases RI (i+1) n with h3 | h3
 . exact h3
 have:i+1=n:=by omega
 rw[this,hn] at h2;omega
theorem unt_step{n R:Nat}{a b:List Bool}(hn:n % (R+1)=0){i:Nat}(hi:i<n) :
  (wh n R a b).getD i Aw=(b.getD i Aw||(a.getD i Aw&&(!(yM R i)&&(wh n R a b).getD (i+1) Aw))):=by
 rw[untL_at hi]
 cases hl:yM R i with
 | true=>
  have h0:i % (R+1)=R:=LA hl;rw[h0,Nq];simp[untV]
 | false=>
  obtain⟨h1,h2,h3⟩:=next_mod hn hi hl;rw[untL_at h3,h1,show R-i % (R+1)=(R-(i % (R+1)+1))+1 by omega,untV];simp
def vU(s:Sy)(h:Fh)(a b:List Bool):List Bool:=
 if h.op=14 then Qe (ptn s) s.p.k.toNat a
 else if h.op=15 then alwL (ptn s) s.p.k.toNat a
 else if h.op=16 then wU (ptn s) s.p.k.toNat a
 else if h.op=17 then wh (ptn s) s.p.k.toNat a b
 else evlS s h a b
theorem tvlS_len(s:Sy)(h:Fh)(a b:List Bool):(vU s h a b).length=ptn s:=by
 unfold vU
 repeat' split
 . exact uH ..
 . exact YM ..
 . exact vd ..
 . exact jN ..
 exact evlS_len ..
def qk(s:Sy)(out:List Int):Nat->Fm->List Bool
 | 0,f=>jK s out f.h
 | d+1,f=>if f.args.length=0 then jK s out f.h else vU s f.h (qk s out d (f.args.getD 0 default)) (qk s out d (f.args.getD 1 default))
theorem ZM(s:Sy)(out:List Int):∀d f,(qk s out d f).length=ptn s
 | 0,f=>YL s out f.h
 | d+1,f=>by
  unfold qk
  split
  . exact YL s out f.h
  . exact tvlS_len ..
end
section
open Go.RowKit
section
variable {n:Nat} {cls:Nat->List Int} {ps:List Nat} {a:List Bool}
theorem now_stop:yq n (evL n cls ps) a (n+1)=yq n (evL n cls ps) a n:=by
 obtain⟨M,h1,h2,_⟩:=XY (F:=yq n (evL n cls ps) a) (n:=n) (fun m=>qH m) (fun m i h=>uc m i h)
 have e:∀m,yq n (evL n cls ps) a (M+m)=yq n (evL n cls ps) a M:=by
  intro m
  induction m with
  | zero=>rfl
  | succ m ih=>
   show yq n (evL n cls ps) a (M+m+1)=_;rw[yq,ih];exact h2
 have e1:=e (n-M);have e2:=e (n+1-M);rw[show M+(n-M)=n by omega] at e1;rw[show M+(n+1-M)=n+1 by omega] at e2;rw[e1,e2]
end
end
section
open Go.RowKit
def inD:Nat->Fm->Prop
 | 0,f=>f.args=[]
 | d+1,f=>∀x∈f.args,inD d x
theorem inD_up:∀ {d:Nat} {f:Fm},inD d f->inD (d+1) f
 | 0,f,h=>by
  intro x hx;rw[show f.args=[] from h] at hx;cases hx
 | _+1,_,h=>fun x hx=>inD_up (h x hx)
theorem inD_le{d d':Nat}{f:Fm}(h:inD d f)(hd:d<=d'):inD d' f:=by
 induction hd with
 | refl=>exact h
 | step _ ih=>exact inD_up ih
theorem Qr{w:Ba}{B:Nat}:∀ {d:Nat} {A:Bb} {f:Fm},FsAt w B d A f.args->inD d f
 | 0,_,_,h=>h
 | d+1,A,f,h=>by
  intro x hx;obtain⟨i,hi,rfl⟩:=NM.1 hx;obtain⟨b,o,_,_,hr⟩:=h (by omega);obtain⟨A',c',_,h2⟩:=hr i hi;exact Qr h2
theorem tvl_up(s:Sy)(out:List Int):∀ {d:Nat} {f:Fm},inD d f->qk s out (d+1) f=qk s out d f
 | 0,f,h=>by
  have h:f.args=[]:=h;show(if f.args.length=0 then jK s out f.h else _)=jK s out f.h;rw[Lj (by rw[h];rfl)]
 | d+1,f,h=>by
  rw[qk];rw[show qk s out (d+1) f=if f.args.length=0 then jK s out f.h else vU s f.h (qk s out d (f.args.getD 0 default)) (qk s out d (f.args.getD 1 default)) from rfl]
  by_cases h0:f.args.length=0
  . rw[Lj h0,Lj h0]
  · have cx : ∀ i, inD d (f.args.getD i default) := fun i => by
     rcases RI i f.args.length with hi | hi
     . rw[Lf,Li hi];exact h _ (Lh hi)
     . rw[Lf,List.getElem?_eq_none hi]
       cases d with
       | zero=>rfl
       | succ d=>intro x hx;cases hx
    rw[Lg h0,Lg h0,tvl_up s out (cx 0),tvl_up s out (cx 1)]
theorem XT(s:Sy)(out:List Int){d d':Nat}{f:Fm}(h:inD d f)(hd:d<=d'):qk s out d' f=qk s out d f:=by
 induction hd with
 | refl=>rfl
 | step cG ih=>rw[tvl_up s out (inD_le h cG),ih]
def f1(op p g:Int)(f:Fm):Fm:=.mk ⟨op,p,0,0,g⟩ [f]
end
section
open Go.RowKit Go.Shelf
attribute [local go_sem] Oper.semAt_some
theorem set6F{w:Ba}{g:Nat}{a0 a1 a2 a3 a4 a5:Au}{t:TypeId}(h:w.heap[g]?=J (Ag #[a0,a1,a2,a3,a4,a5] t (0,0)))(v0 v1 v2 v3 v4 v5:Au) :
  ∃W,((((((w.setCell ⟨g,0,Z⟩ v0).setCell ⟨g,1,Z⟩ v1).setCell ⟨g,2,Z⟩ v2).setCell ⟨g,3,Z⟩ v3).setCell ⟨g,4,Z⟩ v4).setCell ⟨g,5,Z⟩ v5)=W/\W.heap[g]?=J (Ag #[v0,v1,v2,v3,v4,v5] t (0,0))/\(∀k,k≠g->W.heap[k]?=w.heap[k]?)/\(∀B,B<=g->Am B w W)/\W.heap.size=w.heap.size:=by
 refine⟨_,rfl,?_,fun k hk=>?_,fun B hB=>?_,by simp[World.setCell]⟩
 . exact Lk _ g 5 _ _ v5 (Lk _ g 4 _ _ v4 (Lk _ g 3 _ _ v3 (Lk _ g 2 _ _ v2 (Lk _ g 1 _ _ v1 (Lk _ g 0 _ _ v0 h)))))
 . exact(Le _ ⟨g,5,Z⟩ v5 k hk).trans ((Le _ ⟨g,4,Z⟩ v4 k hk).trans ((Le _ ⟨g,3,Z⟩ v3 k hk).trans ((Le _ ⟨g,2,Z⟩ v2 k hk).trans ((Le _ ⟨g,1,Z⟩ v1 k hk).trans (Le _ ⟨g,0,Z⟩ v0 k hk)))))
 exact(((((((Ll _ _).setCell hB _).setCell hB _).setCell hB _).setCell hB _).setCell hB _).setCell hB _)
theorem Y9(g:Int)(F:Fm)(v:Au)(w:Ba)(S:Nat->Prop)(hF:FmX w S F v):An Al 10 #[O U 10,O U g,v] w (RetFm S (f1 10 g 0 F) w):=by
 obtain⟨d,A,c,rfl,hA⟩:=hF;unfold Fm.vs;obtain⟨w1,ab,d0,av,aV⟩:=zn w #[O U F.h.op,O U F.h.p,O U F.h.o,O U F.h.v,O U F.h.g,I A F.args.length c] 32;obtain⟨w2,bh,d1,cM,bE⟩:=zn w1 #[O U 0,O U 0,O U 0,O U 0,O U 0,I Z 0 0] 32;have d0:=Lb bE (by omega) d0;rw[av] at d1 cM;obtain⟨w3,bL,d2,cz,aG⟩:=zn w2 #[O U F.h.op,O U F.h.p,O U F.h.o,O U F.h.v,O U F.h.g,I A F.args.length c] 32;rw[cM] at d2 cz;obtain⟨w4,fh,d3,iy,fG⟩:=zn w3 #[O U 10,O U 0,O U 0,O U 0,O U 0,I (J ⟨w.heap.size+1+1,0,Z⟩) 1 1] 32;rw[cz] at d3 iy;have d2:=Lb fG (by omega) d2;have e1:=Lb fG (by omega) (Lb aG (by omega) d1);have AI:Am w.heap.size w w4:=((aV.trans (bE.mono (by omega))).trans (aG.mono (by omega))).trans (fG.mono (by omega));obtain⟨w5,dY⟩:=Kj (w4.setCell ⟨w.heap.size+1+1+1,1,Z⟩ (O U g));have k5:∀z,z≠w.heap.size+1+1+1->w5.heap[z]?=w4.heap[z]?:=fun z hz=>by rw[<-dY];exact Le w4 ⟨_,1,Z⟩ _ z hz
 have cY:w5.heap.size=w4.heap.size:=by rw[<-dY];simp[World.setCell]
 have HA:=zH hA;have HB:As (Am w.heap.size w w5):=by rw[As,<-dY];exact AI.setCell (by show w.heap.size<=w.heap.size+1+1+1;omega) _
 have E1:=zH ((k5 _ (by omega)).trans e1);have E2:=zH ((k5 _ (by omega)).trans d2);have ag:=zH ab;have oY:=zH bh;have fy:=zH bL;have im:=zH fh;have mJ:=zH dY;have HZ:=zH (And.intro iy cY);obtain⟨q0,q1,q2,q3,q4,q5,_⟩:=Ki d0;obtain⟨r0,r1,r2,r3,r4,r5,_⟩:=Ki e1;have g0:=zi e1 0;have g1:=zi e1 1;have g2:=zi e1 2;have g3:=zi e1 3;have g4:=zi e1 4;have g5:=zi e1 5;obtain⟨c0,c1,c2,c3,c4,c5,_⟩:=Ki d3;have k0:=zi d3 0;have k1:=zi d3 1;have k2:=zi d3 2;have k3:=zi d3 3;have k4:=zi d3 4;have k5:=zi d3 5;clear hA ab bh bL fh dY d0 d1 d2 d3 e1 aV bE aG fG AI k5 cY;go_enter func10,ntmps10;go_upto_region 1 with fail
 rw[ag.out,oY.out];go_upto_region 2 with fail
 rw[fy.out,im.out];go_wp2_with fail;rw[mJ.out];obtain⟨WF,dP,f1,f2,f3,f4⟩:=set6F E1.out (O U 10) (O U g) (O U 0) (O U 0) (O U 0) (I (J ⟨w.heap.size+1+1,0,Z⟩) 1 1);rw[dP];have hz:=HZ.out
 (try simp only[Exit.inBlock,Exit.then])
 refine LP (Sj (P:=Al) rfl _ _ (w.heap.size+1) 32 _ (0,0) _ rfl f1 PK rfl (by kernel_rfl)) rfl ?_;have FW:Am w.heap.size w5 WF:=f3 _ (by omega);have Ee:=HB.out.trans FW;have hE:WF.heap[w.heap.size+1+1]?=J (Ag (F.vs A c) 32 (0,0)):=(f2 _ (by omega)).trans E2.out;obtain⟨D,hD⟩:=fs_one (S:=fun k=>S k\/w.heap.size<=k) hE (.inr (by omega)) (HA.out.keep Ee.size fun k hk hs=>⟨.inl hs,Ee.block k hk⟩);exact⟨_,rfl,⟨D,J ⟨w.heap.size+1+1,0,Z⟩,1,rfl,hD⟩,Ee⟩
theorem tryGr_any(op:Int)(bZ:op=11\/op=12\/op=13)(g:Int)(F:Fm)(v:Au)(w:Ba)(S:Nat->Prop)(hF:FmX w S F v):An Al 10 #[O U op,O U g,v] w (RetFm S (f1 op 0 g F) w):=by
 obtain⟨d,A,c,rfl,hA⟩:=hF;unfold Fm.vs;obtain⟨w1,ab,d0,av,aV⟩:=zn w #[O U F.h.op,O U F.h.p,O U F.h.o,O U F.h.v,O U F.h.g,I A F.args.length c] 32;obtain⟨w2,bh,d1,cM,bE⟩:=zn w1 #[O U 0,O U 0,O U 0,O U 0,O U 0,I Z 0 0] 32;have d0:=Lb bE (by omega) d0;rw[av] at d1 cM;obtain⟨w3,bL,d2,cz,aG⟩:=zn w2 #[O U F.h.op,O U F.h.p,O U F.h.o,O U F.h.v,O U F.h.g,I A F.args.length c] 32;rw[cM] at d2 cz;obtain⟨w4,fh,d3,iy,fG⟩:=zn w3 #[O U op,O U 0,O U 0,O U 0,O U 0,I (J ⟨w.heap.size+1+1,0,Z⟩) 1 1] 32;rw[cz] at d3 iy;have d2:=Lb fG (by omega) d2;have e1:=Lb fG (by omega) (Lb aG (by omega) d1);have AI:Am w.heap.size w w4:=((aV.trans (bE.mono (by omega))).trans (aG.mono (by omega))).trans (fG.mono (by omega));obtain⟨w5,dY⟩:=Kj (w4.setCell ⟨w.heap.size+1+1+1,4,Z⟩ (O U g));have k5:∀z,z≠w.heap.size+1+1+1->w5.heap[z]?=w4.heap[z]?:=fun z hz=>by rw[<-dY];exact Le w4 ⟨_,4,Z⟩ _ z hz
 have cY:w5.heap.size=w4.heap.size:=by rw[<-dY];simp[World.setCell]
 have HA:=zH hA;have HB:As (Am w.heap.size w w5):=by rw[As,<-dY];exact AI.setCell (by show w.heap.size<=w.heap.size+1+1+1;omega) _
 have E1:=zH ((k5 _ (by omega)).trans e1);have E2:=zH ((k5 _ (by omega)).trans d2);have ag:=zH ab;have oY:=zH bh;have fy:=zH bL;have im:=zH fh;have mJ:=zH dY;have HZ:=zH (And.intro iy cY);obtain⟨q0,q1,q2,q3,q4,q5,_⟩:=Ki d0;obtain⟨r0,r1,r2,r3,r4,r5,_⟩:=Ki e1;have g0:=zi e1 0;have g1:=zi e1 1;have g2:=zi e1 2;have g3:=zi e1 3;have g4:=zi e1 4;have g5:=zi e1 5;obtain⟨c0,c1,c2,c3,c4,c5,_⟩:=Ki d3;have k0:=zi d3 0;have k1:=zi d3 1;have k2:=zi d3 2;have k3:=zi d3 3;have k4:=zi d3 4;have k5:=zi d3 5;have rO:(op==10)=Aw:=by rcases bZ with rfl | rfl | rfl<;>rfl
 clear bZ;clear hA ab bh bL fh dY d0 d1 d2 d3 e1 aV bE aG fG AI k5 cY;go_enter func10,ntmps10;go_upto_region 1 with fail
 rw[ag.out,oY.out];go_upto_region 2 with fail
 rw[fy.out,im.out];go_wp2_with fail;rw[mJ.out];obtain⟨WF,dP,f1,f2,f3,f4⟩:=set6F E1.out (O U op) (O U 0) (O U 0) (O U 0) (O U g) (I (J ⟨w.heap.size+1+1,0,Z⟩) 1 1);rw[dP];have hz:=HZ.out
 (try simp only[Exit.inBlock,Exit.then])
 refine LP (Sj (P:=Al) rfl _ _ (w.heap.size+1) 32 _ (0,0) _ rfl f1 PK rfl (by kernel_rfl)) rfl ?_;have FW:Am w.heap.size w5 WF:=f3 _ (by omega);have Ee:=HB.out.trans FW;have hE:WF.heap[w.heap.size+1+1]?=J (Ag (F.vs A c) 32 (0,0)):=(f2 _ (by omega)).trans E2.out;obtain⟨D,hD⟩:=fs_one (S:=fun k=>S k\/w.heap.size<=k) hE (.inr (by omega)) (HA.out.keep Ee.size fun k hk hs=>⟨.inl hs,Ee.block k hk⟩);exact⟨_,rfl,⟨D,J ⟨w.heap.size+1+1,0,Z⟩,1,rfl,hD⟩,Ee⟩
end
section
open Go.RowKit
attribute [local go_sem] Oper.semAt_some
def uZ(w:Ba)(e:Ending)(w':Ba):Prop:=∃b:Bool,e=Ak (Ah b)/\Am w.heap.size w w'
def RetIx(w:Ba)(e:Ending)(w':Ba):Prop:=∃r:Int,e=Ak (O U r)/\Am w.heap.size w w'
theorem ZY(f g:Fm)(A B:Bb)(c e:Nat)(w:Ba)(hl:f.args.length<=1000000)
  (Cx:RecAt w A f.args fun cs _ X=>∀(y:Fm) (B':Bb) (e' d':Nat),FsAt X X.heap.size d' B' y.args->An Al 161 #[.agg cs,.agg (y.vs B' e')] X (uZ X))
  (hrg:RecAt w B g.args fun cs y X=>∃(B':Bb) (e' d':Nat),cs=y.vs B' e'/\FsAt X X.heap.size d' B' y.args) :
  An Al 161 #[.agg (f.vs A c),.agg (g.vs B e)] w (uZ w):=by
 obtain⟨w1,ab,d0,d1,av,hB⟩:=yI w (f.vs A c) (g.vs B e) 32 32;have IG:=zH Cx;have PI:=zH hrg;unfold Fm.vs at ab d0 d1 ⊢;unfold uZ at IG ⊢;obtain⟨l,aJ⟩:=Kj f.args;obtain⟨u,huu⟩:=Kj g.args;rw[aJ] at ab d0 IG hl ⊢;rw[huu] at ab d1 PI ⊢;obtain⟨n,hn⟩:=Kj l.length;have HN:=zH hn;rw[hn] at ab d0 hl ⊢;obtain⟨m,hm⟩:=Kj u.length;have HM:=zH hm;rw[hm] at ab d1 ⊢;obtain⟨a0,Oh⟩:=Kj f.h.op;obtain⟨a1,fw⟩:=Kj f.h.p;obtain⟨a2,pV⟩:=Kj f.h.o;obtain⟨a3,Of⟩:=Kj f.h.v;obtain⟨a4,CZ⟩:=Kj f.h.g;obtain⟨b0,fP⟩:=Kj g.h.op;obtain⟨b1,aF⟩:=Kj g.h.p;obtain⟨b2,ae⟩:=Kj g.h.o;obtain⟨b3,ak⟩:=Kj g.h.v;obtain⟨b4,aD⟩:=Kj g.h.g;rw[Oh,fw,pV,Of,CZ] at ab d0 ⊢;rw[fP,aF,ae,ak,aD] at ab d1 ⊢;have ag:=zH ab;have HB:=zH hB;have D0:As (∀X,Am w1.heap.size w1 X->X.heap[w.heap.size]?=J (Ag #[O U a0,O U a1,O U a2,O U a3,O U a4,I A n c] 32 (0,0))):=fun X hX=>La hX d0
 have D1:As (∀X,Am w1.heap.size w1 X->X.heap[w.heap.size+1]?=J (Ag #[O U b0,O U b1,O U b2,O U b3,O U b4,I B m e] 32 (0,0))):=fun X hX=>La hX d1
 obtain⟨p0,p1,p2,p3,p4,p5,_⟩:=Ki (d0);obtain⟨q0,q1,q2,q3,q4,q5,_⟩:=Ki (d1);clear ab d0 d1 hB Cx hrg aJ huu hn hm Oh fw pV Of CZ fP aF ae ak aD;have HF:As (∀X,Am w1.heap.size w1 X->∀b:Bool,∃b':Bool,Ak (Ah b)=Ak (Ah b')/\Am w.heap.size w X):=fun X hX b=>⟨b,rfl,Lc HB.out hX⟩
 go_enter func161,ntmps161;go_upto_region 1 with fail
 rw[ag.out];obtain⟨x0,oH⟩:∃x,(a0 != b0)=x:=⟨_,rfl⟩;obtain⟨x1,sa⟩:∃x,(a1 != b1)=x:=⟨_,rfl⟩;obtain⟨x2,To⟩:∃x,(a2 != b2)=x:=⟨_,rfl⟩;obtain⟨x3,hx3⟩:∃x,(a3 != b3)=x:=⟨_,rfl⟩;obtain⟨x4,KG⟩:∃x,(a4 != b4)=x:=⟨_,rfl⟩;obtain⟨x5,Ht⟩:∃x,((n:Int) != (m:Int))=x:=⟨_,rfl⟩
 cases x0
 case true=>
  go_wp2_with fail;go_ret
  first | exact HF.out _ (Ll _ _) Aw | exact(HB.out)
 cases x1
 case true=>
  go_wp2_with fail;go_ret
  first | exact HF.out _ (Ll _ _) Aw | exact(HB.out)
 cases x2
 case true=>
  go_wp2_with fail;go_ret
  first | exact HF.out _ (Ll _ _) Aw | exact(HB.out)
 cases x3
 case true=>
  go_wp2_with fail;go_ret
  first | exact HF.out _ (Ll _ _) Aw | exact(HB.out)
 cases x4
 case true=>
  clear IG PI;go_wp2_with fail;go_ret
  first | exact HF.out _ (Ll _ _) Aw | exact(HB.out)
 cases x5
 case true=>
  clear IG PI;go_wp2_with fail;go_ret
  first | exact HF.out _ (Ll _ _) Aw | exact(HB.out)
 have DT:m=n:=by
  have:=Ht;simp at this;omega
 subst DT;go_wp2_with fail
 go_loopw [5] (fun i wr=>∃k:Nat,k<=m/\i=O U (k:Int)/\As (Am w1.heap.size w1 wr)) (fun i _=>m-(Ar i).toNat)
 case atStart=>exact⟨0,by omega,rfl,Ll _ _⟩
 obtain⟨k,hk,rfl,aK⟩:=hrel;clear p0 p1 p2 p3 p4 p5 q0 q1 q2 q3 q4 q5 ag;have ns:IntKind.i64.wrap ((k:Int)+1)=((k+1:Nat):Int):=by rw[Lo];omega
 obtain⟨p0,p1,p2,p3,p4,p5,_⟩:=Ki (D0.out _ aK.out);obtain⟨q0,q1,q2,q3,q4,q5,_⟩:=Ki (D1.out _ aK.out)
 by_cases hlt:k<m
 . have dg:(0:Int)<=(k:Int):=by omega
   have aM:(k:Int)<(m:Int):=by omega
   obtain⟨bb,ob,A',c',eA,bj,al,aB⟩:=IG.out k (by rw[HN.out];exact hlt);obtain⟨bu,ou,B',e',eB,hbu,D',dJ⟩:=PI.out k (by rw[HM.out];exact hlt);subst eA;subst eB;have eK:Am w.heap.size w wr:=Lc HB.out aK.out;have oe:=eK.drew;obtain⟨B2,e2,d2,eq2,Ih⟩:=dJ _ oe;have hC:=aB _ oe _ B2 e2 d2 Ih;rw[<-eq2] at hC;have hc:=al _ oe;have nI:=D' _ oe;obtain⟨x,hx⟩:=Kj (l[k]'(by rw[HN.out];exact hlt));obtain⟨y,hy⟩:=Kj (u[k]'(by rw[HM.out];exact hlt));simp only[hx] at hc hC;simp only[hy] at nI hC;obtain⟨⟨h0,h1,h2,h3,h4⟩,xl⟩:=x;obtain⟨⟨i0,i1,i2,i3,i4⟩,yl⟩:=y;have hc:∀j v,#[O U h0,O U h1,O U h2,O U h3,O U h4,I A' xl.length c'][j]?=J v->wr.drew.cell? ⟨bb,ob+k*6+j,Z⟩=J v:=hc;have nI:∀j v,#[O U i0,O U i1,O U i2,O U i3,O U i4,I B' yl.length e'][j]?=J v->wr.drew.cell? ⟨bu,ou+k*6+j,Z⟩=J v:=nI;simp only[Fm.vs,Fm.args,Fm.h] at hC;have HC:=zH hC;have z0:wr.drew.cell? ⟨bb,ob+k*6,Z⟩=J (O U h0):=hc 0 _ rfl;have z1:wr.drew.cell? ⟨bb,ob+k*6+1,Z⟩=J (O U h1):=hc 1 _ rfl;have z2:wr.drew.cell? ⟨bb,ob+k*6+2,Z⟩=J (O U h2):=hc 2 _ rfl;have z3:wr.drew.cell? ⟨bb,ob+k*6+3,Z⟩=J (O U h3):=hc 3 _ rfl;have z4:wr.drew.cell? ⟨bb,ob+k*6+4,Z⟩=J (O U h4):=hc 4 _ rfl;have z5:wr.drew.cell? ⟨bb,ob+k*6+5,Z⟩=J (I A' xl.length c'):=hc 5 _ rfl
   have v0:wr.drew.cell? ⟨bu,ou+k*6,Z⟩=J (O U i0):=nI 0 _ rfl;have v1:wr.drew.cell? ⟨bu,ou+k*6+1,Z⟩=J (O U i1):=nI 1 _ rfl;have v2:wr.drew.cell? ⟨bu,ou+k*6+2,Z⟩=J (O U i2):=nI 2 _ rfl;have v3:wr.drew.cell? ⟨bu,ou+k*6+3,Z⟩=J (O U i3):=nI 3 _ rfl;have v4:wr.drew.cell? ⟨bu,ou+k*6+4,Z⟩=J (O U i4):=nI 4 _ rfl;have v5:wr.drew.cell? ⟨bu,ou+k*6+5,Z⟩=J (I B' yl.length e'):=nI 5 _ rfl;have Dl:=zH aK.out.drew;clear al D' aB dJ hC hx hy hc nI Ih eq2 oe eK aK;go_upto_region 6 with fail
   refine zr [(0,Av),(1,Av),(2,Av),(3,Av),(4,Av),(5,Av),(6,Av),(7,Av),(8,Av),(9,Av),(10,Aw),(11,Aw)] (fun X=>X=wr.drew) (by kernel_rfl) (by kernel_rfl) rfl ?_;have p5:wr.drew.cell? ⟨w.heap.size,5,Z⟩=J (I (J ⟨bb,ob,Z⟩) m c):=p5;have q5:wr.drew.cell? ⟨w.heap.size+1,5,Z⟩=J (I (J ⟨bu,ou,Z⟩) m e):=q5
   repeat
    apply zk rfl
    . rintro K' aa X rfl
      go_simp;exact aa
   refine yd rfl (by kernel_rfl) ?_;intro K' aa;go_simp;refine HC.out.mono ?_;rintro e w3 ⟨bo,rfl,ak⟩;have aC:=zH (Lc Dl.out ak);refine aa (fun _=>True) _ _ trivial ?_;clear aa K' ak HC z0 z1 z2 z3 z4 z5 v0 v1 v2 v3 v4 v5;refine zu rfl ?_;intro K' aa;go_simp;refine aa _ _ trivial ?_;clear aa K';refine zz ?_
   cases bo with
   | false=>
    clear IG PI;go_wp2_with fail;go_ret
    first | exact HF.out _ aC.out Aw | exact⟨⟨Aw,rfl⟩,Lc HB.out aC.out⟩ | exact Lc HB.out aC.out
   | true=>
    go_wp2_with fail
    go_roundw
    case rel=>exact⟨k+1,by omega,by go_num,aC⟩
    case measure=>simp[Ar];omega
 obtain rfl:k=m:=by omega
 have aM:¬(k:Int)<(k:Int):=by omega
 go_wp2_with fail;go_ret
 first | exact HF.out _ aK.out Av | exact⟨.inr rfl,Lc HB.out aK.out⟩ | exact .inr ⟨rfl,Lc HB.out aK.out⟩ | exact⟨⟨Av,rfl⟩,Lc HB.out aK.out⟩ | exact⟨Av,rfl,Lc HB.out aK.out⟩ | exact Lc HB.out aK.out
theorem ZX{d:Nat}{f x:Fm}(h:(zR (d+1) f).1<=1000000)(hx:x∈f.args):(zR d x).1<=1000000:=Lu (uu (zR d) hx) h
theorem Xf:∀(d:Nat) (f:Fm) (A:Bb) (c:Nat) (w:Ba),FsAt w w.heap.size d A f.args->(zR d f).1<=1000000->∀(g:Fm) (B:Bb) (e d':Nat),FsAt w w.heap.size d' B g.args ->
  An Al 161 #[.agg (f.vs A c),.agg (g.vs B e)] w (uZ w)
 | 0,f,A,c,w,hA,hb,g,B,e,d',hB=>by
  have h0:f.args=[]:=hA
  exact ZY f g A B c e w (by rw[h0];decide) (RecAt.none hA) (by
   cases d' with
   | zero=>exact RecAt.none hB
   | succ d'=>exact RecAt.of hB fun y B' e' X _ hX=>⟨B',e',d',rfl,hX⟩)
 | d+1,f,A,c,w,hA,hb,g,B,e,d',hB=>by
  have h1:(zP (zR d) f.args).1<=1000000:=hb;have h3:=qW (zR d) (kd d) f.args;refine ZY f g A B c e w (by omega) (RecAt.of hA fun x A' c' X hx hX y B' e' d' hY=>Xf d x A' c' X hX (ZX hb hx) y B' e' d' hY) ?_
  cases d' with
  | zero=>exact RecAt.none hB
  | succ d'=>exact RecAt.of hB fun y B' e' X _ hX=>⟨B',e',d',rfl,hX⟩
structure FmE where
 f:Fm
 A:Bb
 c:Nat
def FmE.cs(q:FmE):List Au:=[O U q.f.h.op,O U q.f.h.p,O U q.f.h.o,O U q.f.h.v,O U q.f.h.g,I q.A q.f.args.length q.c]
def FmE.ok(w:Ba)(B:Nat)(q:FmE):Prop:=∃d,FsAt w B d q.A q.f.args/\(zR d q.f).1<=1000000
def FlAt(w:Ba)(B:Nat)(A:Bb)(qs:List FmE):Prop:=0<qs.length->∃b o,A=J ⟨b,o,Z⟩/\b<B/\∀i (hi:i<qs.length) j v,(qs[i].cs)[j]?=J v->w.cell? ⟨b,o+i*6+j,Z⟩=J v
theorem FlAt.keep{w w':Ba}{B:Nat}{A:Bb}{qs:List FmE}(h:FlAt w B A qs)(hb:Am B w w'):FlAt w' B A qs:=fun h0=>by
 obtain⟨b,o,e,hlt,hr⟩:=h h0;exact⟨b,o,e,hlt,fun i hi j v hv=>(hb.cell hlt).trans (hr i hi j v hv)⟩
theorem FmE.ok.keep{w w':Ba}{B:Nat}{q:FmE}(h:q.ok w B)(hb:Am B w w'):q.ok w' B:=by obtain⟨d,h1,h2⟩:=h;exact⟨d,h1.keep hb,h2⟩
theorem FmE.ok.more{w:Ba}{B B':Nat}{q:FmE}(h:q.ok w B)(hb:B<=B'):q.ok w B':=by obtain⟨d,h1,h2⟩:=h;exact⟨d,h1.more hb,h2⟩
theorem QS(qs:List FmE)(n:Nat)(hn:qs.length=n)(Mp:n<=1000000)(A:Bb)(c:Nat)(g:Fm)(B:Bb)(e d':Nat)(w:Ba)(hA:FlAt w w.heap.size A qs)(hq:∀q∈qs,q.ok w w.heap.size)(hB:FsAt w w.heap.size d' B g.args) :
  An Al 141 #[I A n c,.agg (g.vs B e)] w (RetIx w):=by
 obtain⟨w1,ab,d0,av,aV⟩:=zn w (g.vs B e) 32;have HN:=zH hn;have HA:=zH (hA.keep aV);have HQ:As (∀X,Am w1.heap.size w1 X->∀q∈qs,q.ok X X.heap.size):=fun X hX q hm=>((((hq q hm).keep aV).more aV.size).keep hX).more hX.size
 have HG:As (∀X,Am w1.heap.size w1 X->FsAt X X.heap.size d' B g.args):=fun X hX=>(((hB.keep aV).more aV.size).keep hX).more hX.size
 have O8:As (∀(q:FmE) (X:Ba),q.ok X X.heap.size->FsAt X X.heap.size d' B g.args->An Al 161 #[.agg (q.f.vs q.A q.c),.agg (g.vs B e)] X (uZ X)):=fun q X h1 h2=>by
  obtain⟨d,h3,h4⟩:=h1;exact Xf d q.f q.A q.c X h3 h4 g B e d' h2
 unfold Fm.vs at ab d0 O8 ⊢;unfold uZ at O8;unfold RetIx;obtain⟨m,hm⟩:=Kj g.args.length;rw[hm] at ab d0 O8 ⊢;obtain⟨b0,fP⟩:=Kj g.h.op;obtain⟨b1,aF⟩:=Kj g.h.p;obtain⟨b2,ae⟩:=Kj g.h.o;obtain⟨b3,ak⟩:=Kj g.h.v;obtain⟨b4,aD⟩:=Kj g.h.g;rw[fP,aF,ae,ak,aD] at ab d0 O8 ⊢;have ag:=zH ab;have HB:=zH aV;have D1:As (∀X,Am w1.heap.size w1 X->X.heap[w.heap.size]?=J (Ag #[O U b0,O U b1,O U b2,O U b3,O U b4,I B m e] 32 (0,0))):=fun X hX=>La hX d0
 clear ab d0 aV hA hq hB hn hm fP aF ae ak aD;go_enter func141,ntmps141;go_wp2_with fail;rw[ag.out];go_wp2_with fail
 go_loopw [5] (fun i wr=>∃k:Nat,k<=n/\i=O U (k:Int)/\As (Am w1.heap.size w1 wr)) (fun i _=>n-(Ar i).toNat)
 case atStart=>exact⟨0,by omega,rfl,Ll _ _⟩
 obtain⟨k,hk,rfl,aK⟩:=hrel;have ns:IntKind.i64.wrap ((k:Int)+1)=((k+1:Nat):Int):=by rw[Lo];omega
 by_cases hlt:k<n
 . have dg:(0:Int)<=(k:Int):=by omega
   have aM:(k:Int)<(n:Int):=by omega
   have FA:k<qs.length:=by rw[HN.out];exact hlt
   obtain⟨bb,ob,eA,bj,hc⟩:=(HA.out.keep (aK.out.drew.mono HB.out.size)) (by omega);subst eA;have hc:=hc k FA;have HC:=zH (O8.out qs[k] wr.drew (HQ.out _ aK.out.drew _ (Lh FA)) (HG.out _ aK.out.drew));obtain⟨q,Cy⟩:=Kj (qs[k]);rw[Cy] at hc HC;obtain⟨⟨⟨h0,h1,h2,h3,h4⟩,xl⟩,A',c'⟩:=q;simp only[Fm.args,Fm.h] at HC;have hc:∀j v,[O U h0,O U h1,O U h2,O U h3,O U h4,I A' xl.length c'][j]?=J v->wr.drew.cell? ⟨bb,ob+k*6+j,Z⟩=J v:=hc;have z0:wr.drew.cell? ⟨bb,ob+k*6,Z⟩=J (O U h0):=hc 0 _ rfl;have z1:wr.drew.cell? ⟨bb,ob+k*6+1,Z⟩=J (O U h1):=hc 1 _ rfl;have z2:wr.drew.cell? ⟨bb,ob+k*6+2,Z⟩=J (O U h2):=hc 2 _ rfl;have z3:wr.drew.cell? ⟨bb,ob+k*6+3,Z⟩=J (O U h3):=hc 3 _ rfl;have z4:wr.drew.cell? ⟨bb,ob+k*6+4,Z⟩=J (O U h4):=hc 4 _ rfl;have z5:wr.drew.cell? ⟨bb,ob+k*6+5,Z⟩=J (I A' xl.length c'):=hc 5 _ rfl;have dd:=D1.out _ aK.out.drew;obtain⟨q0,q1,q2,q3,q4,q5,_⟩:=Ki (dd);have Dl:=zH aK.out.drew;go_upto_region 4 with fail
   refine zr [(0,Av),(1,Av),(2,Av),(3,Av),(4,Av),(5,Aw)] (fun X=>X=wr.drew) (by kernel_rfl) (by kernel_rfl) rfl ?_
   repeat
    apply zk rfl
    . rintro K' aa X rfl
      go_simp;exact aa
   refine yd rfl (by kernel_rfl) ?_;intro K' aa;go_simp;refine HC.out.mono ?_;rintro e w3 ⟨bo,rfl,ak⟩;have aC:=zH (Lc Dl.out ak);refine aa (fun _=>True) _ _ trivial ?_;refine zz ?_
   cases bo with
   | true=>
    have ck:=zH (Lc HB.out aC.out);go_wp2_with fail;go_ret
    first | exact ck.out | exact⟨⟨_,rfl⟩,ck.out⟩ | exact⟨_,rfl,ck.out⟩
   | false=>
    go_wp2_with fail
    go_roundw
    case rel=>exact⟨k+1,by omega,by go_num,aC⟩
    case measure=>simp[Ar];omega
 obtain rfl:k=n:=by omega
 have aM:¬(k:Int)<(k:Int):=by omega
 have ck:=zH (Lc HB.out aK.out);go_wp2_with fail;go_ret
 first | exact ck.out | exact⟨⟨_,rfl⟩,ck.out⟩ | exact⟨_,rfl,ck.out⟩
end
end Go.Proofs.YtkmbdfdaffmhjaaGreat
