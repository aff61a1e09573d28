/- Merged. -/
import Derived.Test.YtkmbdfdaffmhjaaGreatTf
import Derived.Deep.Cut
import Derived.Deep.CutBlock
open Go.Proofs.Tryz
open Go.Value renaming int->O,slice->I,bool->Ah,agg->Ai,pointer->Aj
open Go.IntKind renaming i64->U
open Option renaming none->Z,some->J
open Go.Obj renaming cells->Ag
open Go.Ending renaming returned->Ak
open Go.Proofs.Tryz renaming prog->Al,func143->NX,ntmps143->NR
open Go.RowKit renaming Below->Am,intOf->Ap,Hid->Aq
open Go renaming Calls->An,Value->Ar
open Bool renaming true->Au,false->Aw
open Nat renaming add_sub_cancel->NE
namespace Go.Proofs.YtkmbdfdaffmhjaaGreat
abbrev R8:=@Nat.mul_mod_left
set_option maxRecDepth 100000
set_option maxHeartbeats 4000000
section
open Go.RowKit Go.Shelf
attribute [local go_sem] Oper.semAt_some
def YU(r:Int)(i:Nat)(x:Int)(o:List Int):List Int:=if 0<r/\0<=x then o.set i (bits BinOp.or U (o.getD i 0) (o.getD x.toNat 0)) else o
def kN(v:Vw)(i:Nat)(o:List Int):Nat->List Int
 | 0=>o.set i ((2^v.p.toNat:Nat):Int)
 | q+1=>YU v.r i (v.h q) (kN v i o q)
def qG(vs:List Vw):Nat->List Int
 | 0=>List.replicate vs.length 0
 | k+1=>kN (vs.getD k default) k (qG vs k) 5
theorem hrd1_len{r:Int}{i:Nat}{x:Int}{o:List Int}:(YU r i x o).length=o.length:=by unfold YU;split<;>simp
theorem Yq{v:Vw}{i:Nat}{o:List Int}(q:Nat):(kN v i o q).length=o.length:=by
 induction q with
 | zero=>simp[kN]
 | succ q ih=>rw[kN,hrd1_len,ih]
theorem jf{vs:List Vw}(k:Nat):(qG vs k).length=vs.length:=by
 induction k with
 | zero=>simp[qG]
 | succ k ih=>rw[qG,Yq,ih]
theorem index_h5(v:Vw)(k:Nat)(hk:k<5)(w:Ba):(Instr.index 72 (Ai #[O U v.h0,O U v.h1,O U v.h2,O U v.h3,O U v.h4]) (O U (k:Int))).run Al w=.ok (O U (v.h k)) w:=by
 obtain rfl | rfl | rfl | rfl | rfl:k=0\/k=1\/k=2\/k=3\/k=4:=by omega
 all_goals kernel_rfl
theorem pheard_any(s:Sy)(hn:s.vs.length<=2100)(hv:∀v∈s.vs,(∃q:Nat,v.p=(q:Int)/\q<5)/\∀q,q<5->v.h q<(s.vs.length:Int))(A SV AV AX:Bb)(kc ks kv kx:Nat)(w:Ba)(hV:VAt w w.heap.size AV s.vs) :
  An Al 109 #[.agg (s.vs_ A kc SV ks AV kv AX kx)] w fun e w'=>∃g:Nat,e=Ak (I (J ⟨g,0,Z⟩) s.vs.length s.vs.length)/\w.heap.size<=g/\RowAt w' g (qG s.vs s.vs.length)/\Am w.heap.size w w':=by
 obtain⟨w1,ae,d0,aw,hB⟩:=zm w (s.vs_ A kc SV ks AV kv AX kx) 39;obtain⟨w2,aC,d2,bQ,az⟩:=zm w1 ((List.replicate s.vs.length 0).map (O U)).toArray 3;have iD:=make_rowN s.vs.length (by omega);have CP:Am w.heap.size w w2:=hB.trans (az.mono (by omega));have Eg:Aq (RowAt w2 (w.heap.size+1) (qG s.vs 0)):=by rw[<-aw];exact d2
 have HD:=zH (Lb az (by omega:w.heap.size<w1.heap.size) d0);have HV:Aq (VAt w2 w.heap.size AV s.vs):=hV.keep CP;obtain⟨vs,pJ⟩:=Kk s.vs;unfold Sy.vs_ at ae d0 HD ⊢;rw[pJ] at ae aC d0 iD Eg HV HD hn hv ⊢;obtain⟨n,Cw⟩:=Kk vs.length;have Hd:=zH Cw;rw[Cw] at ae aC d0 HD iD hn hv ⊢;have C3:=zH hv;have ak:=zH ae;have dK:=zH aC;have cX:=zH CP;have p8:=zh d0 8 rfl;have HMK:=zH iD;clear ae aC d0 d2 hB az CP hV hv pJ iD Cw;go_enter func109,ntmps109;go_upto_region 1 with fail
 rw[ak.out];have iD:=HMK.out;go_upto_region 2 with fail
 rw[show((w1.alloc (Ag (Array.replicate n (O U 0)) 3)))=w2 from(by rw[show Array.replicate n (O U 0)=((List.replicate n 0).map (O U)).toArray by simp];exact dK.out)];have p8:=zh HD.out 8 rfl;go_wp2_with fail
 go_loopw [17] (fun i wr=>∃k:Nat,k<=n/\i=O U (k:Int)/\Aq (RowAt wr (w.heap.size+1) (qG vs k))/\Aq (Am (w.heap.size+1) w2 wr)) (fun i _=>n-(Ap i).toNat)
 case atStart=>exact⟨0,by omega,rfl,Eg,Li _ _⟩
 obtain⟨k,hk,rfl,hRk,MZ⟩:=hrel;obtain⟨wE,rfl⟩:∃x,x=wr:=⟨_,rfl⟩
 by_cases hkn:k<n
 . obtain⟨v,Cl⟩:∃v,vs[k]'(by have:=Hd.out;omega)=v:=⟨_,rfl⟩
   have hvm:v∈vs:=by rw[<-Cl];exact Le _
   have HGV:Aq (vs.getD k default=v):=by rw[zw (by have:=Hd.out;omega),Cl];exact rfl
   obtain⟨⟨pp,hp,hp5⟩,hh⟩:=C3.out v hvm;have ID:VAt wE w.heap.size AV vs:=HV.out.keep (MZ.out.mono (by omega));obtain⟨ba,oa,rfl,CF,ap⟩:=ID (by have:=Hd.out;omega);have bn:=ap k (by have:=Hd.out;omega);rw[Cl] at bn;have c0:wE.cell? ⟨ba,oa+k*8,Z⟩=J (O U v.p):=bn 0 _ rfl;have c1:wE.cell? ⟨ba,oa+k*8+1,Z⟩=J (O U v.r):=bn 1 _ rfl;have c2:wE.cell? ⟨ba,oa+k*8+2,Z⟩=J (O U v.i):=bn 2 _ rfl;have c3:wE.cell? ⟨ba,oa+k*8+3,Z⟩=J (O U v.h0):=bn 3 _ rfl;have c4:wE.cell? ⟨ba,oa+k*8+4,Z⟩=J (O U v.h1):=bn 4 _ rfl;have c5:wE.cell? ⟨ba,oa+k*8+5,Z⟩=J (O U v.h2):=bn 5 _ rfl;have c6:wE.cell? ⟨ba,oa+k*8+6,Z⟩=J (O U v.h3):=bn 6 _ rfl;have c7:wE.cell? ⟨ba,oa+k*8+7,Z⟩=J (O U v.h4):=bn 7 _ rfl;rw[hp] at c0;have dS:(0:Int)<=(k:Int):=by omega
   have aW:(k:Int)<(n:Int):=by omega
   obtain⟨W5,iG,d5,cZ,lO⟩:=zm wE #[O U (pp:Int),O U v.r,O U v.i,O U v.h0,O U v.h1,O U v.h2,O U v.h3,O U v.h4] 133;have ET:=zH d5;have lC:=zH iG;have aK:=zH lO;have HH:=zH hh;have HP:=zH hp;clear Cl hvm ID ap bn iG d5 lO hh hp;go_upto_region 5 with fail
   rw[lC.out];have fF:=hRk.out;obtain⟨o,ho⟩:=Kk (qG vs k);have HO:=zH ho;have pP:o.length=n:=by rw[<-ho,jf];exact Hd.out
   have Ha:=zH pP;have Wo:RowAt W5 (w.heap.size+1) o:=by rw[<-ho];exact Lb aK.out fF.lt fF
   have eO:=zi Wo k;obtain⟨zq,q0⟩:∃z,W5.cell? ⟨w.heap.size+1,k,Z⟩=J (O U z):=⟨_,Wo.cell k (by omega)⟩;have p0:=zh ET.out 0 rfl;have hsh:=shl_one (N:=pp) (by omega);have mB:(0:Int)<=(pp:Int):=by omega
   have ez:=zH Wo;go_upto_region 6 with fail
   have aC:wrap64 (2^pp)=((2^pp:Nat):Int):=by
    obtain rfl | rfl | rfl | rfl | rfl:pp=0\/pp=1\/pp=2\/pp=3\/pp=4:=by omega
    all_goals kernel_rfl
   rw[aC];have iB:=ez.out.set k ((2^pp:Nat):Int);have KS:∀z,z≠w.heap.size+1->(W5.setCell ⟨w.heap.size+1,k,Z⟩ (O U ((2^pp:Nat):Int))).heap[z]?=W5.heap[z]?:=fun z hz=>Lf W5 ⟨w.heap.size+1,k,Z⟩ _ z hz
   have Vi:w.heap.size+1<=wE.heap.size:=by
    have:=MZ.out.size;have:=aw;have:=bQ;omega
   have mN:Am (w.heap.size+1) wE (W5.setCell ⟨w.heap.size+1,k,Z⟩ (O U ((2^pp:Nat):Int))):=(aK.out.mono Vi).setCell (Ld _) _;obtain⟨W6,pA⟩:=Kk (W5.setCell ⟨w.heap.size+1,k,Z⟩ (O U ((2^pp:Nat):Int)));rw[pA] at iB KS mN ⊢;have Ej:w.heap.size+2<=wE.heap.size:=by have:=MZ.out.size;omega
   have HEl:=zH Ej;have tr:=zH ((KS wE.heap.size (by omega)).trans ET.out)
   have OA:Aq (RowAt W6 (w.heap.size+1) (kN v k o 0)):=by
    show RowAt W6 _ (o.set k ((2^v.p.toNat:Nat):Int));rw[HP.out,Lo];exact iB
   have fh:=zH mN;have HS6:Aq (wE.heap.size<W6.heap.size):=zk tr.out;have c3:=zh tr.out 3 rfl;have c4:=zh tr.out 4 rfl;have c5:=zh tr.out 5 rfl;have c6:=zh tr.out 6 rfl;have c7:=zh tr.out 7 rfl;go_wp2_with fail
   go_loopw [30] (fun i wr=>∃q:Nat,q<=5/\i=O U (q:Int)/\Aq (RowAt wr (w.heap.size+1) (kN v k o q))/\Aq (Wrote (fun z=>z=w.heap.size+1) W6 wr)) (fun i _=>5-(Ap i).toNat)
   case atStart=>exact⟨0,by omega,rfl,OA,Wrote.refl _ _⟩
   obtain⟨q,hq,rfl,Ef,ME⟩:=hrel;have Ej:=HEl.out;have ce:=(ME.out.block wE.heap.size HS6.out (by show ¬wE.heap.size=w.heap.size+1;omega)).trans tr.out
   by_cases KO:q<5
   . have Vr:=index_h5 v q KO wr
     have hxn:=HH.out q KO;have dW:kN v k o (q+1)=YU v.r k (v.h q) (kN v k o q):=rfl;obtain⟨x,hx⟩:=Kk (v.h q);rw[hx] at Vr hxn dW;obtain⟨oq,hoq⟩:=Kk (kN v k o q);have hoql:oq.length=n:=by rw[<-hoq,Yq,Ha.out]
     rw[hoq] at Ef dW;have r1:=zh ce 1 rfl;have en:=zH dW;have Bw:(q:Int)<5:=by omega
     by_cases Cq:0<v.r
     case neg=>
      have GB:Aq (RowAt wr (w.heap.size+1) (kN v k o (q+1))):=by rw[en.out];unfold YU;rw[Lg (by omega)];exact Ef.out
      go_wp2_with fail
      go_roundw
      case rel=>exact⟨q+1,by omega,by go_num,GB,ME⟩
      simp[Ap];omega
     by_cases iT:0<=x
     case neg=>
      have GB:Aq (RowAt wr (w.heap.size+1) (kN v k o (q+1))):=by rw[en.out];unfold YU;rw[Lg (by omega)];exact Ef.out
      go_wp2_with fail
      go_roundw
      case rel=>exact⟨q+1,by omega,by go_num,GB,ME⟩
      simp[Ap];omega
     obtain⟨y,rfl⟩:=Ls iT;have c1:=Ef.out.cell k (by omega);have c2:=Ef.out.cell y (by omega);have Iy:oq.getD k 0=oq[k]'(by omega):=zw (by omega) 0;have hd2:oq.getD y 0=oq[y]'(by omega):=zw (by omega) 0;rw[<-Iy] at c1;rw[<-hd2] at c2;have hE:YU v.r k (y:Int) oq=oq.set k (bits BinOp.or U (oq.getD k 0) (oq.getD y 0)):=by unfold YU;rw[Lj (by omega),Lo]
     rw[hE] at en;obtain⟨a1,fP⟩:=Kk (oq.getD k 0);obtain⟨a2,ra⟩:=Kk (oq.getD y 0);rw[fP] at c1 en;rw[ra] at c2 en;have eO:=zi Ef.out k;have Bz:=Ef.out.set k (bits BinOp.or U a1 a2);rw[<-en.out] at Bz;have GB:Aq (RowAt (wr.drew.setCell ⟨w.heap.size+1,k,Z⟩ (O U (bits BinOp.or U a1 a2))) (w.heap.size+1) (kN v k o (q+1))):=Bz;have IB:Aq (Wrote (fun z=>z=w.heap.size+1) W6 (wr.drew.setCell ⟨w.heap.size+1,k,Z⟩ (O U (bits BinOp.or U a1 a2)))):=(ME.out.trans (Wrote.of_below ((Li _ wr).drew)) (fun _ _ h=>h)).trans (Wrote.of_grown (zQ wr.drew (w.heap.size+1) k _) (fun z e _=>by cases e;rfl)) (fun _ _ h=>h);go_upto_region 10 with fail
     refine zt [(0,Au),(1,Au),(2,Au),(3,Au),(4,Au),(5,Au),(6,Au),(7,Au),(8,Au),(9,Aw),(10,Aw)] (fun X=>X=wr.drew) (by kernel_rfl) (by kernel_rfl) rfl ?_
     repeat
      apply zj rfl
      . rintro K' aa X rfl
        go_simp;exact aa
     refine zn rfl ?_;intro K' aa;go_simp;refine aa _ _ rfl ?_;refine yb rfl (by kernel_rfl) ?_;intro K' aa;go_simp;refine aa (fun _=>True) _ _ trivial ?_;refine zy ?_;go_wp2_with fail
     go_roundw
     case rel=>exact⟨_,_,_,_,_,_,_,_,_,_,_,_,_,_,_,_,_,_,_,_,_,_,⟨q+1,by omega,by go_num,GB,IB⟩,rfl⟩
     simp[Ap];omega
   obtain rfl:q=5:=by omega
   have GB:Aq (RowAt wr (w.heap.size+1) (qG vs (k+1))):=by
    show RowAt wr _ (kN (vs.getD k default) k (qG vs k) 5);rw[HGV.out,HO.out];exact Ef.out
   have hBn:Aq (Am (w.heap.size+1) w2 wr):=(MZ.out.trans fh.out).trans (Y0 ME.out (by have:=HEl.out;have:=HS6.out;omega));go_wp2_with fail
   go_roundw
   case rel=>exact⟨k+1,by omega,by go_num,GB,hBn⟩
   simp[Ap];omega
 obtain rfl:n=k:=by omega
 go_wp2_with fail;go_ret;exact⟨w.heap.size+1,rfl,Nat.le_succ _,hRk.out,cX.out.trans (MZ.out.mono (Nat.le_succ _))⟩
end
section
open Go.RowKit
def LowV(vs:List Vw):Prop:=∀i (hi:i<vs.length),∀q,q<5->vs[i].h q<(i:Int)
theorem LowV.snoc{vs:List Vw}{v:Vw}(h:LowV vs)(hv:∀q,q<5->v.h q<(vs.length:Int)):LowV (vs++[v]):=fun i hi q hq=>by
 by_cases ac:i<vs.length
 . rw[Pq ac];exact h i ac q hq
 . rw[Lv,Ry] at hi
   obtain rfl:i=vs.length:=by omega
   rw[N3 (by omega)];simpa using hv q hq
theorem putW_asc{vs:List Vw}{v:Vw}(h:LowV vs)(hv:∀q,q<5->v.h q<(vs.length:Int)):LowV (qe vs v).1:=by
 unfold qe
 split
 . exact h
 exact h.snoc hv
theorem Z4{f:Nat->Vw}{vs:List Vw}(h:LowV vs):∀n,(∀p,p<n->∀q,q<5->(f p).h q<(vs.length:Int))->LowV (yq f vs n).1
 | 0,_=>h
 | n+1,hf=>by
  rw[yq];refine putW_asc (Z4 h n fun p hp=>hf p (by omega)) fun q hq=>?_
  have h1:=hf n (by omega) q hq;obtain⟨us,hu⟩:=uD f vs n;rw[hu,Lv];omega
theorem firstE_h(p:Nat)(i:Int)(q:Nat)(_hq:q<5):(yS p i).h q=-1:=by
 match q,_hq with
 | 0,_=>rfl
 | 1,_=>rfl
 | 2,_=>rfl
 | 3,_=>rfl
 | 4,_=>rfl
theorem QM{vs:List Vw}{n:Nat}{inp:List Int}{word:List Rd}(h:LowV vs):∀j,LowV (zA vs n inp word j).1
 | 0=>by
  rw[zA];refine Z4 h n fun p _ q hq=>?_
  rw[firstE_h p _ q hq];omega
 | j+1=>by
  rw[zA];refine Z4 (QM h j) n fun p _ q hq=>?_
  rw[ju _ _ _ _ q hq];unfold zW;rw[jx vs n inp word j j (Ld _)]
  split
  . rename_i hc
    rw[jS] at hc;exact(Zt vs n inp word j j q (Ld _) hc.1).lt.2
  . omega
theorem runW_asc(p:Pb)(l:List (Nat×List Rd)):LowV (zE p l).1:=by
 have key:∀n,n<=l.length->LowV (zE p (l.take n)).1:=by
  intro n
  induction n with
  | zero=>intro _;rw[PB,jR];intro i hi;cases hi
  | succ n ih=>
   intro hn;rw[Lq (by omega),qu];exact QM (ih (by omega)) _
 have:=key l.length (Ld _);rwa[LS] at this
theorem built_asc(p:Pb):LowV (zO p).vs:=runW_asc p _
theorem or_32{a b:Nat}(ha:a<32)(hb:b<32):bits BinOp.or U (a:Int) (b:Int)=((a ||| b:Nat):Int):=by
 have h:∀a:Nat,a<32->∀b:Nat,b<32->bits BinOp.or U (a:Int) (b:Int)=((a ||| b:Nat):Int):=by decide +kernel
 exact h a ha b hb
theorem vn{l:List Int}{i j:Nat}{x:Int}:(l.set i x).getD j 0=if i=j/\i<l.length then x else l.getD j 0:=by
 rw[Lh,Lh,List.getElem?_set]
 by_cases e:i=j
 . subst e
   by_cases h:i<l.length
   . simp[h]
   simp[h]
 simp[e]
theorem Yp{v:Vw}{i j:Nat}{o:List Int}(h:i≠j)(q:Nat):(kN v i o q).getD j 0=o.getD j 0:=by
 induction q with
 | zero=>rw[kN,vn,Lg (fun e=>h e.1)]
 | succ q ih=>
  rw[kN];unfold YU
  split
  . rw[vn,Lg (fun e=>h e.1),ih]
  . exact ih
theorem wZ{vs:List Vw}{k:Nat}:∀m,k<=m->∀i,i<k->(qG vs m).getD i 0=(qG vs k).getD i 0
 | 0,hm,i,hi=>by omega
 | m+1,hm,i,hi=>by
  by_cases e:k=m+1
  . subst e;rfl
  . rw[qG,Yp (by omega),wZ m (by omega) i hi]
theorem Yo{vs:List Vw}(hl:LowV vs){i:Nat}(hi:i<vs.length){p:Nat}(hp:vs[i].p=(p:Int))(hp5:p<5)
  (hE:∀j,j<i->∃S:Nat,(qG vs vs.length).getD j 0=(S:Int)/\S<32) :
  ∃S:Nat,(qG vs vs.length).getD i 0=(S:Int)/\S<32/\∀o,o<5->(S.testBit o=Au↔o=p\/(0<vs[i].r/\∃q,q<5/\0<=vs[i].h q/\∃T:Nat,(qG vs vs.length).getD (vs[i].h q).toNat 0=(T:Int)/\T.testBit o=Au)):=by
 have hv:vs.getD i default=vs[i]:=by rw[Lh,Lm hi];rfl
 have key:∀q,q<=5->∃S:Nat,(kN vs[i] i (qG vs i) q).getD i 0=(S:Int)/\S<32/\∀o,o<5->(S.testBit o=Au↔o=p\/(0<vs[i].r/\∃q',q'<q/\0<=vs[i].h q'/\∃T:Nat,(qG vs vs.length).getD (vs[i].h q').toNat 0=(T:Int)/\T.testBit o=Au)):=by
  intro q
  induction q with
  | zero=>
   intro _;refine⟨2^p,?_,?_,fun o ho=>?_⟩
   . rw[kN,vn,Lj ⟨rfl,by rw[jf];exact hi⟩,hp,Lo]
   . exact LE (Nat.pow_lt_pow_right (by omega) hp5) (by decide)
   . rw[Nat.testBit_two_pow]
     simp only[decide_eq_true_eq];constructor
     . intro e;exact .inl e.symm
     . rintro(e | ⟨_,q',Sw,_⟩)
       . exact e.symm
       . omega
  | succ q ih=>
   intro hq;obtain⟨S,e,hS,hb⟩:=ih (by omega);rw[kN];unfold YU
   by_cases hc:0<vs[i].r/\0<=vs[i].h q
   . rw[Lj hc]
     have ac:=hl i hi q (by omega);obtain⟨T,eT,hT⟩:=hE (vs[i].h q).toNat (by omega)
     have eT2:(kN vs[i] i (qG vs i) q).getD (vs[i].h q).toNat 0=(T:Int):=by
      rw[Yp (by omega),<-wZ vs.length (show i<=vs.length by omega) _ (show(vs[i].h q).toNat<i by omega),eT]
     refine⟨S ||| T,?_,Nat.or_lt_two_pow (n:=5) hS hT,fun o ho=>?_⟩
     . rw[vn,Lj ⟨rfl,by rw[Yq,jf];exact hi⟩,e,eT2]
       exact or_32 hS hT
     . rw[Nat.testBit_or,PM,hb o ho]
       constructor
       . rintro((e1 | ⟨h0,q',Sw,r⟩) | h)
         . exact .inl e1
         . exact .inr ⟨h0,q',by omega,r⟩
         . exact .inr ⟨hc.1,q,by omega,hc.2,T,eT,h⟩
       . rintro(e1 | ⟨h0,q',Sw,h2,T',eT',r⟩)
         . exact .inl (.inl e1)
         . by_cases e2:q'=q
           . subst e2
             rw[eT] at eT';have:T=T':=by omega
             subst this;exact .inr r
           . exact .inl (.inr ⟨h0,q',by omega,h2,T',eT',r⟩)
   . rw[Lg hc]
     refine⟨S,e,hS,fun o ho=>(hb o ho).trans ?_⟩;constructor
     . rintro(e1 | ⟨h0,q',Sw,r⟩)
       . exact .inl e1
       . exact .inr ⟨h0,q',by omega,r⟩
     . rintro(e1 | ⟨h0,q',Sw,h2,r⟩)
       . exact .inl e1
       . by_cases e2:q'=q
         . subst e2;exact absurd ⟨h0,h2⟩ hc
         . exact .inr ⟨h0,q',by omega,h2,r⟩
 obtain⟨S,e,hS,hb⟩:=key 5 (Ld _);refine⟨S,?_,hS,hb⟩;rw[wZ vs.length (show i+1<=vs.length by omega) i (by omega),qG,hv];exact e
theorem hrd_small{vs:List Vw}(hl:LowV vs)(hp:∀v∈vs,∃p:Nat,v.p=(p:Int)/\p<5):∀i,i<vs.length->∃S:Nat,(qG vs vs.length).getD i 0=(S:Int)/\S<32:=by
 intro i
 induction i using Nat.strongRecOn with
 | ind i ih=>
  intro hi;obtain⟨p,h1,h2⟩:=hp _ (Le hi);obtain⟨S,e,hS,_⟩:=Yo hl hi h1 h2 (fun j hj=>ih j hj (by omega));exact⟨S,e,hS⟩
def HR(N:Nat)(word:List Rd):Nat->Nat->Nat->Prop
 | 0,q,o=>o=q
 | k+1,q,o=>∃m,m<N/\((word.getD k default).h q).toNat.testBit m=Au/\HR N word k m o
theorem HR_own{s:Sy}{K N:Nat}(hF:Fine s K N){x:Exn}(hx:x∈s.xs):∀k,k<=K->∀q,q<N->HR N x.word k q q
 | 0,_,q,_=>rfl
 | k+1,hk,q,hq=>by
  obtain⟨r1,n1⟩:=hF.round hx (show k<K by omega);obtain⟨m,hm,_,hb⟩:=jg r1 n1 hF.n5 hq;exact⟨q,hq,by rw[hm,Lo];exact hb,HR_own hF hx k (by omega) q hq⟩
theorem hrd_view{s:Sy}{K N:Nat}(hF:Fine s K N)(hS:Sees s K N)(hl:LowV s.vs){x:Exn}(hx:x∈s.xs):∀k,k<=K->∀q,q<N->∃S:Nat,(qG s.vs s.vs.length).getD (xw x k q).toNat 0=(S:Int)/\S<32/\∀o,o<5->(S.testBit o=Au↔HR N x.word k q o):=by
 have lp:=hF.n5;have rG:=hrd_small hl (fun v hv=>by obtain⟨⟨p,h1,h2⟩,_⟩:=hF.vs v hv;exact⟨p,h1,by omega⟩);intro k
 induction k with
 | zero=>
  intro _ q hq;have ha:=hS.v0 x hx q hq;obtain⟨hi,e⟩:=Lp.1 ha.2;obtain⟨S,e1,e2,e3⟩:=Yo hl hi (p:=q) (by rw[e];rfl) (by omega) (fun j hj=>rG j (by omega));refine⟨S,e1,e2,fun o ho=>(e3 o ho).trans ?_⟩;rw[e];constructor
  . rintro(h | ⟨h0,_⟩)
    . exact h
    . exact absurd h0 (by show ¬((0:Int)<0);omega)
  . exact fun h=>.inl h
 | succ k ih=>
  intro hk q hq;have ha:=hS.vk x hx k (by omega) q hq;obtain⟨hi,e⟩:=Lp.1 ha.2;obtain⟨S,e1,e2,e3⟩:=Yo hl hi (p:=q) (by rw[e];rfl) (by omega) (fun j hj=>rG j (by omega));obtain⟨r1,n1⟩:=hF.round hx (show k<K by omega);obtain⟨m0,s',U9,hb⟩:=jg r1 n1 lp hq;obtain⟨oR,hp1⟩:=hF.row hx (show k<=K by omega);refine⟨S,e1,e2,fun o ho=>(e3 o ho).trans ?_⟩;rw[e]
  have eH:∀m,((x.word.getD k default).h q).toNat.testBit m=Au->m<N:=fun m hm=>by
   rw[s',Lo] at hm
   by_cases h:m<N
   . exact h
   . rw[Rt (LE U9 (Nk (by omega) (by omega)))] at hm
     cases hm
  constructor
  . rintro(rfl | ⟨_,m,pu,Cx,T,eT,hT⟩)
    . exact HR_own hF hx (k+1) hk o hq
    . rw[ju _ _ _ _ m pu] at Cx eT
      unfold zW at Cx eT
      by_cases hc:m<(x.views.getD k []).length/\((x.word.getD k default).h q).toNat.testBit m=Au
      . rw[Lj hc] at eT
        have pS:m<N:=by omega
        obtain⟨S',f1,f2,f3⟩:=ih (by omega) m pS;have e':(x.views.getD k []).getD m 0=xw x k m:=rfl;rw[e',f1] at eT;have:S'=T:=by omega
        subst this;exact⟨m,pS,hc.2,(f3 o ho).1 hT⟩
      . rw[Lg hc] at Cx
        exact absurd Cx (by omega)
  . rintro⟨m,pS,sn,hR⟩
    obtain⟨S',f1,f2,f3⟩:=ih (by omega) m pS;have e':(x.views.getD k []).getD m 0=xw x k m:=rfl;have hc:m<(x.views.getD k []).length/\((x.word.getD k default).h q).toNat.testBit m=Au:=⟨by omega,sn⟩;refine .inr ⟨by show(0:Int)<((k+1:Nat):Int);omega,m,by omega,?_,S',?_,(f3 o ho).2 hR⟩
    . rw[ju _ _ _ _ m (by omega)]
      unfold zW;rw[Lj hc,e'];obtain⟨v,hv,_⟩:=hS.pr hx (show k<=K by omega) pS;exact hv.lt.1
    . rw[ju _ _ _ _ m (by omega)]
      unfold zW;rw[Lj hc,e',f1]
def xH(s:Sy)(out:List Int)(h:Fh)(x:Nat×Nat):Bool:=
 if h.op=0 then Au
 else if h.op=1 then decide ((yy s.p (s.xs.getD x.1 default).c.toNat).getD h.p.toNat 0=h.v)
 else if h.op=2 then decide (h.v∈yy s.p (s.xs.getD x.1 default).c.toNat)
 else if h.op=3 then ((qG s.vs s.vs.length).getD (xw (s.xs.getD x.1 default) x.2 h.p.toNat).toNat 0).toNat.testBit h.o.toNat
 else if h.op=4 then decide (0<x.2)&&(((s.xs.getD x.1 default).word.getD (x.2-1) default).f).toNat.testBit h.p.toNat
 else if h.op=5 then decide (0<out.length)&&decide (out.getD (xw (s.xs.getD x.1 default) x.2 h.p.toNat).toNat 0=h.v)
 else decide ((x.2:Int)=h.v)
def jl(s:Sy)(out:List Int)(h:Fh):List Bool:=(zu (s.p.k.toNat+1) 0 s.xs.length).map (xH s out h)
def atmE(s:Sy)(out:List Int)(d:Nat)(f:Fm):List Bool×Int:=
 if zZ s≠0 then ([],zZ s) else if 0<out.length/\out.length≠s.vs.length then ([],15) else if qw s.n d f≠0 then ([],qw s.n d f) else if 0<f.args.length then ([],11) else (jl s out f.h,0)
theorem uZ(s:Sy)(out:List Int)(h:Fh):(jl s out h).length=s.xs.length*(s.p.k.toNat+1):=by unfold jl;rw[LM,kE _ _ (by omega)]
structure AtmOk(N:Nat)(h:Fh):Prop where
 op0:0<=h.op
 op6:h.op<=6
 p:h.op=1\/h.op=3\/h.op=4\/h.op=5->0<=h.p/\h.p<(N:Int)
 o:h.op=3->0<=h.o/\h.o<(N:Int)
theorem atm_ok{n:Int}{N:Nat}(hn:n=(N:Int)){d:Nat}{f:Fm}(h:qw n d f=0)(ha:f.args.length=0):AtmOk N f.h:=by
 have eG:xt N f.h 0=0:=by
  unfold qw at h
  split at h
  . cases h
  split at h
  . rename_i h2;exact absurd h h2
  have e : yJ n.toNat d f = if xt N f.h 0 ≠ 0 then xt N f.h 0 else yJ n.toNat d f := by
   have hN:n.toNat=N:=by omega
   rw[hN]
   cases d<;>(unfold yJ vx;rw[ha];split<;>simp_all)
  rw[e] at h
  split at h
  . exact h
  rename_i h3;simpa using h3
 unfold xt at eG
 by_cases h1:f.h.op<0\/17<f.h.op
 . rw[Lj h1] at eG;cases eG
 rw[Lg h1] at eG
 by_cases h2:((0:Nat):Int)≠arN f.h.op
 . rw[Lj h2] at eG;cases eG
 rw[Lg h2] at eG
 have h6:f.h.op<=6:=by
  unfold arN at h2
  by_cases e1:f.h.op=8\/f.h.op=9\/f.h.op=17
  . rw[Lj e1] at h2;simp at h2
  rw[Lg e1] at h2
  by_cases e2:f.h.op<=6
  . exact e2
  rw[Lg e2] at h2;simp at h2
 refine⟨by omega,h6,fun hp=>?_,fun ho=>?_⟩
 . have hu:usP f.h.op=Au:=by unfold usP;rw[Ny];omega
   by_cases hr:0<=f.h.p/\f.h.p<=(N:Int)-1
   . omega
   rw[Lj (.inl ⟨hu,hr⟩)] at eG;cases eG
 have hu:usO f.h.op=Au:=by unfold usO;rw[Ny];omega
 by_cases hr:0<=f.h.o/\f.h.o<=(N:Int)-1
 . omega
 rw[Lj (.inr (.inl ⟨hu,hr⟩))] at eG;cases eG
end
section
open Go.RowKit Go.Shelf
attribute [local go_sem] Oper.semAt_some
theorem Zn(a b c:Int)(w:Ba):An Al 102 #[O U a,O U b,O U c] w fun e w'=>e=Ak (Ah (decide (b<=a/\a<=c)))/\w'=w:=by
 go_enter func102,ntmps102
 by_cases h1:b<=a
 . by_cases h2:a<=c
   . have e:decide (b<=a/\a<=c)=Au:=by simp[h1,h2]
     rw[e];go_wp2_with fail;go_ret;exact⟨rfl,rfl⟩
   have e:decide (b<=a/\a<=c)=Aw:=by simp[h2]
   rw[e];go_wp2_with fail;go_ret;exact⟨rfl,rfl⟩
 have e:decide (b<=a/\a<=c)=Aw:=by simp[h1]
 rw[e];go_wp2_with fail;go_ret;exact⟨rfl,rfl⟩
theorem JZ(n d:Nat)(w:Ba):An Al 103 #[O U (n:Int),O U (d:Int)] w fun e w'=>e=Ak (O U (uX (n,d)))/\w'=w:=by
 by_cases h1:128<n
 . have e:uX (n,d)=5:=Lj h1
   have e1:(128:Int)<(n:Int):=by omega
   rw[e];go_enter func103,ntmps103;go_wp2_with fail;go_ret;exact⟨rfl,rfl⟩
 by_cases h2:24<d
 . have e:uX (n,d)=12:=by unfold uX;rw[Lg h1,Lj h2]
   have e1:¬(128:Int)<(n:Int):=by omega
   have e2:(24:Int)<(d:Int):=by omega
   rw[e];go_enter func103,ntmps103;go_wp2_with fail;go_ret;exact⟨rfl,rfl⟩
 have e:uX (n,d)=0:=by unfold uX;rw[Lg h1,Lg h2]
 have e1:¬(128:Int)<(n:Int):=by omega
 have e2:¬(24:Int)<(d:Int):=by omega
 rw[e];go_enter func103,ntmps103;go_wp2_with fail;go_ret;exact⟨rfl,rfl⟩
theorem Yv(f:Fm)(R:Fm->Nat×Nat)(A:Bb)(c:Nat)(w:Ba)(hl:f.args.length<=1000000)(hb:(zN R f.args).1<=1000000/\(zN R f.args).2<=1000000)
  (dX:RecAt w A f.args fun cs x X=>An Al 104 #[.agg cs] X fun e w'=>e=Ak (.tuple #[O U ((R x).1:Int),O U ((R x).2:Int)])/\Am X.heap.size X w') :
  An Al 104 #[.agg (f.vs A c)] w fun e w'=>e=Ak (.tuple #[O U ((zN R f.args).1:Int),O U (((zN R f.args).2+1:Nat):Int)])/\Am w.heap.size w w':=by
 obtain⟨w1,ae,d0,aw,hB⟩:=zm w (f.vs A c) 32;have aX:=zH dX;have mH:=zH (fun k=>qU R f.args k);have rT:=zH (fun k (h:k<f.args.length)=>(by rw[Lq h,qV]:zN R (f.args.take (k+1))=((zN R (f.args.take k)).1+(R f.args[k]).1,max (zN R (f.args.take k)).2 (R f.args[k]).2)));have eM:Aq (zN R (f.args.take f.args.length)=zN R f.args):=by rw[Aq,LS]
 have rz:=zH hb;unfold Fm.vs at ae d0 aX ⊢;obtain⟨l,aN⟩:=Kk f.args;rw[aN] at ae d0 aX mH rT eM rz hl ⊢;obtain⟨T,hT⟩:=Kk (zN R l);rw[hT] at mH eM rz ⊢;obtain⟨n,hn⟩:=Kk l.length;have HN:=zH hn;rw[hn] at ae d0 eM hl ⊢;have ak:=zH ae;have HB:=zH hB;clear ae d0 hB dX hb aN hT hn;go_enter func104,ntmps104;go_wp2_with fail;rw[ak.out];go_wp2_with fail
 go_loopw [4,5,13] (fun a b i wr=>∃k:Nat,k<=n/\i=O U (k:Int)/\a=O U ((zN R (l.take k)).1:Int)/\b=O U ((zN R (l.take k)).2:Int)/\Aq (Am w1.heap.size w1 wr)) (fun _ _ i _=>n-(Ap i).toNat)
 case atStart=>exact⟨0,by omega,rfl,rfl,rfl,Li _ _⟩
 obtain⟨k,hk,rfl,rfl,rfl,bD⟩:=hrel;obtain⟨a,ha⟩:=Kk ((zN R (l.take k)).1);obtain⟨b,hb⟩:=Kk ((zN R (l.take k)).2)
 have SS:a<=1000000/\b<=1000000:=by
  have h1:=mH.out k;have h2:=rz.out;omega
 by_cases ac:k<n
 . have dy:k<l.length:=by have:=HN.out;omega
   have fl:=rT.out k dy;have Bu:=mH.out (k+1);obtain⟨bb,o,A',c',eA,cj,ap,aJ⟩:=aX.out k dy;subst eA;obtain⟨x,hx⟩:=Kk (l[k]);rw[hx] at ap aJ fl;obtain⟨Rx,CM⟩:=Kk (R x);dsimp only at aJ;rw[CM] at aJ fl;rw[ha,hb] at fl;have lz:(zN R (l.take (k+1))).1=a+Rx.1:=by rw[fl]
   have oE:(zN R (l.take (k+1))).2=max b Rx.2:=by rw[fl]
   have aq:=zH lz;have am:=zH oE
   have fU:a+Rx.1<=1000000/\max b Rx.2<=1000000:=by
    have h2:=rz.out;omega
   obtain⟨xh,xl⟩:=x;obtain⟨h0,h1,h2,h3,h4⟩:=xh;have hc:∀j v,#[O U h0,O U h1,O U h2,O U h3,O U h4,I A' xl.length c'][j]?=J v->wr.cell? ⟨bb,o+k*6+j,Z⟩=J v:=ap wr (HB.out.trans (bD.out.mono (by have:=HB.out.size;omega)));have z0:wr.cell? ⟨bb,o+k*6,Z⟩=J (O U h0):=hc 0 _ rfl;have z1:wr.cell? ⟨bb,o+k*6+1,Z⟩=J (O U h1):=hc 1 _ rfl;have z2:wr.cell? ⟨bb,o+k*6+2,Z⟩=J (O U h2):=hc 2 _ rfl;have z3:wr.cell? ⟨bb,o+k*6+3,Z⟩=J (O U h3):=hc 3 _ rfl;have z4:wr.cell? ⟨bb,o+k*6+4,Z⟩=J (O U h4):=hc 4 _ rfl;have z5:wr.cell? ⟨bb,o+k*6+5,Z⟩=J (I A' xl.length c'):=hc 5 _ rfl;have dS:(0:Int)<=(k:Int):=by omega
   have aW:(k:Int)<(n:Int):=by omega
   have HC:=zH aJ;have Dd:=zH bD.out;simp only[Fm.vs,Fm.args,Fm.h] at HC;go_upto_region 5 with fail
   obtain⟨W2,ij,d2,bQ,ah⟩:=zm wr #[O U h0,O U h1,O U h2,O U h3,O U h4,I A' xl.length c'] 32;rw[ij];have bN:=HB.out.size;have aT:=zH (Lc Dd.out ah);have dV:=zH (HC.out W2 (HB.out.trans (aT.out.mono bN)));obtain⟨y0,y1,y2,y3,y4,y5,_⟩:=Ki d2;obtain⟨r1,r2⟩:=Rx;dsimp only at dV aq am fU;go_wp2_with fail;refine dV.out.mono ?_;rintro e w3 ⟨rfl,al⟩;have bK:=zH (Lc aT.out al);have ae:IntKind.i64.wrap ((a:Int)+(r1:Int))=((a+r1:Nat):Int):=by rw[Ll];omega
   go_wp2_with fail
   go_roundw
   case rel=>exact⟨k+1,by omega,by go_num,by first | (rw[aq.out];done) | (rw[aq.out];go_num),by first | (rw[am.out];done) | (rw[am.out];go_num),bK⟩
   simp[Ap];omega
 obtain rfl:k=n:=by omega
 have h1:Aq (a=T.1):=by rw[Aq,<-ha,eM.out]
 have h2:Aq (b=T.2):=by rw[Aq,<-hb,eM.out]
 have mO:=zH (HB.out.trans (bD.out.mono (by have:=HB.out.size;omega)));have ae:IntKind.i64.wrap ((b:Int)+1)=((b+1:Nat):Int):=by rw[Ll];omega
 go_wp2_with fail
 go_ret2
 refine⟨?_,mO.out⟩;show Ak (.tuple #[O U ((zN R (l.take k)).1:Int),O U ((b:Int)+1)])=_;rw[<-h1.out,<-h2.out,ha];rfl
theorem Xq:∀(d:Nat) (f:Fm) (A:Bb) (c:Nat) (w:Ba),FsAt w w.heap.size d A f.args->(zL d f).1<=1000000 ->
  An Al 104 #[.agg (f.vs A c)] w fun e w'=>e=Ak (.tuple #[O U ((zL d f).1:Int),O U ((zL d f).2:Int)])/\Am w.heap.size w w'
 | 0,f,A,c,w,hA,hb=>by
  have h0:f.args=[]:=hA;exact Yv f (fun _=>(0,0)) A c w (by rw[h0];decide) (by rw[h0];decide) (RecAt.none hA)
 | d+1,f,A,c,w,hA,hb=>by
  have h1:(zN (zL d) f.args).1<=1000000:=hb;have h2:(zN (zL d) f.args).2+1<=(zN (zL d) f.args).1:=kY (d+1) f;have h3:=qW (zL d) (ka d) f.args;refine Yv f (zL d) A c w (by omega) (by omega) (RecAt.of hA fun x A' c' X hx hX=>Xq d x A' c' X hX ?_);exact Lr (uB (zL d) hx) h1
def qh(op:Int):List Nat:=if op=1\/op=5 then [1,3] else if op=2 then [3] else if op=3 then [1,2] else if op=4\/op=10 then [1] else if op=6 then [3] else if op=11\/op=12\/op=13 then [4] else []
def Jh(n:Nat)(op:Int):List Int:=if op=1\/op=5 then [(n:Int)-1,7] else if op=2 then [7] else if op=3 then [(n:Int)-1,(n:Int)-1] else if op=4\/op=10 then [(n:Int)-1] else if op=6 then [6] else if op=11\/op=12\/op=13 then [(2:Int)^n-1] else []
def kA(os:List Nat)(ms:List Int)(b:Nat)(w:Ba)(e:Ending)(w':Ba):Prop:=
 ∃A1 A2,e=Ak (.tuple #[I A1 os.length os.length,I A2 os.length os.length])/\Am w.heap.size w w' /\
  ∀k (h:k<os.length),∃g1 g2,A1=J ⟨g1,0,Z⟩/\A2=J ⟨g2,0,Z⟩/\w.heap.size<=g1/\w.heap.size<=g2/\g1<w'.heap.size/\g2<w'.heap.size/\w'.cell? ⟨g1,k,Z⟩=J (Aj (J ⟨b,os[k],Z⟩))/\w'.cell? ⟨g2,k,Z⟩=J (O U (ms.getD k 0))
theorem vh{w w':Ba}{b:Nat}{o1 o2:Nat}{m1 m2:Int}{t1 t2:TypeId}{g1 g2:Nat}(hb:Am w.heap.size w w')(h1:w.heap.size<=g1)(h2:w.heap.size<=g2)
  (d1:w'.heap[g1]?=J (Ag #[Aj (J ⟨b,o1,Z⟩),Aj (J ⟨b,o2,Z⟩)] t1 (0,0))) (d2:w'.heap[g2]?=J (Ag #[O U m1,O U m2] t2 (0,0))) :
  kA [o1,o2] [m1,m2] b w (Ak (.tuple #[I (J ⟨g1,0,Z⟩) 2 2,I (J ⟨g2,0,Z⟩) 2 2])) w':=by
 refine⟨_,_,rfl,hb,fun k hk=>⟨g1,g2,rfl,rfl,h1,h2,zk d1,zk d2,?_⟩⟩;have iZ:k<2:=hk;obtain rfl | rfl:k=0\/k=1:=by omega
 . exact⟨zh d1 0 rfl,zh d2 0 rfl⟩
 exact⟨zh d1 1 rfl,zh d2 1 rfl⟩
theorem qA{w w':Ba}{b:Nat}{o1:Nat}{m1:Int}{t1 t2:TypeId}{g1 g2:Nat}(hb:Am w.heap.size w w')(h1:w.heap.size<=g1)(h2:w.heap.size<=g2)
  (d1:w'.heap[g1]?=J (Ag #[Aj (J ⟨b,o1,Z⟩)] t1 (0,0))) (d2:w'.heap[g2]?=J (Ag #[O U m1] t2 (0,0))) :
  kA [o1] [m1] b w (Ak (.tuple #[I (J ⟨g1,0,Z⟩) 1 1,I (J ⟨g2,0,Z⟩) 1 1])) w':=by
 refine⟨_,_,rfl,hb,fun k hk=>⟨g1,g2,rfl,rfl,h1,h2,zk d1,zk d2,?_⟩⟩;have iZ:k<1:=hk;obtain rfl:k=0:=by omega
 exact⟨zh d1 0 rfl,zh d2 0 rfl⟩
theorem jB(n:Nat)(hn:n<=5)(w:Ba):An Al 162 #[O U (n:Int)] w fun e w'=>e=Ak (O U ((2:Int)^n-1))/\w'=w:=by
 obtain rfl | rfl | rfl | rfl | rfl | rfl:n=0\/n=1\/n=2\/n=3\/n=4\/n=5:=by omega
 all_goals
  go_enter func162,ntmps162;go_wp2;go_ret;exact⟨rfl,rfl⟩
theorem yY(w:Ba)(c1 c2:Array Ar)(t1 t2:TypeId):(((w.alloc (Ag c1 t1)).alloc (Ag c2 t2)).heap[w.heap.size]?=J (Ag c1 t1 (0,0)))/\(((w.alloc (Ag c1 t1)).alloc (Ag c2 t2)).heap[w.heap.size+1]?=J (Ag c2 t2 (0,0)))/\Am w.heap.size w ((w.alloc (Ag c1 t1)).alloc (Ag c2 t2)):=by
 obtain⟨W,h,h1,h2,_,h3⟩:=xk w c1 c2 t1 t2;rw[h];exact⟨h1,h2,h3⟩
theorem fields_1(h:Fh)(A:Bb)(len c n:Nat)(hn:n<=5)(b:Nat)(w:Ba)(hb:w.heap[b]?=J (Ag #[O U h.op,O U h.p,O U h.o,O U h.v,O U h.g,I A len c] 32 (0,0)))(ho:h.op=1) :
  An Al 143 #[Aj (J ⟨b,0,Z⟩),O U (n:Int)] w (kA [1,3] [(n:Int)-1,7] b w):=by
 have p0:=zh hb 0 rfl;rw[ho] at p0;have ae:IntKind.i64.wrap ((n:Int)-1)=(n:Int)-1:=by rw[Ll];omega
 go_enter NX,NR;go_wp2_with fail
 go_region_held3 (fun _=>True) (exact trivial) (fail)
 all_goals
  go_wp2_with fail
  go_ret2
 all_goals
  first
  | (obtain ⟨H1, H2, H3⟩ := yY w #[Aj (J ⟨b, 1, Z⟩), Aj (J ⟨b, 3, Z⟩)] #[O U ((n : Int) - 1), O U (7)] 219 3
     exact vh H3.drew (by omega) (by omega) H1 H2)
  | (obtain ⟨H1, H2, H3⟩ := yY w #[O U ((n : Int) - 1), O U (7)] #[Aj (J ⟨b, 1, Z⟩), Aj (J ⟨b, 3, Z⟩)] 3 219
     exact vh H3.drew (by omega) (by omega) H2 H1)
theorem fields_5(h:Fh)(A:Bb)(len c n:Nat)(hn:n<=5)(b:Nat)(w:Ba)(hb:w.heap[b]?=J (Ag #[O U h.op,O U h.p,O U h.o,O U h.v,O U h.g,I A len c] 32 (0,0)))(ho:h.op=5) :
  An Al 143 #[Aj (J ⟨b,0,Z⟩),O U (n:Int)] w (kA [1,3] [(n:Int)-1,7] b w):=by
 have p0:=zh hb 0 rfl;rw[ho] at p0;have ae:IntKind.i64.wrap ((n:Int)-1)=(n:Int)-1:=by rw[Ll];omega
 go_enter NX,NR;go_wp2_with fail
 go_region_held3 (fun _=>True) (exact trivial) (fail)
 all_goals
  go_wp2_with fail
  go_ret2
 all_goals
  first
  | (obtain ⟨H1, H2, H3⟩ := yY w #[Aj (J ⟨b, 1, Z⟩), Aj (J ⟨b, 3, Z⟩)] #[O U ((n : Int) - 1), O U (7)] 219 3
     exact vh H3.drew (by omega) (by omega) H1 H2)
  | (obtain ⟨H1, H2, H3⟩ := yY w #[O U ((n : Int) - 1), O U (7)] #[Aj (J ⟨b, 1, Z⟩), Aj (J ⟨b, 3, Z⟩)] 3 219
     exact vh H3.drew (by omega) (by omega) H2 H1)
theorem fields_2(h:Fh)(A:Bb)(len c n:Nat)(_hn:n<=5)(b:Nat)(w:Ba)(hb:w.heap[b]?=J (Ag #[O U h.op,O U h.p,O U h.o,O U h.v,O U h.g,I A len c] 32 (0,0)))(ho:h.op=2) :
  An Al 143 #[Aj (J ⟨b,0,Z⟩),O U (n:Int)] w (kA [3] [7] b w):=by
 have p0:=zh hb 0 rfl;rw[ho] at p0;go_enter NX,NR;go_wp2_with fail
 go_ret2
 obtain⟨H1,H2,H3⟩:=yY w #[Aj (J ⟨b,3,Z⟩)] #[O U (7)] 219 3;exact qA H3 (by omega) (by omega) H1 H2
theorem fields_3(h:Fh)(A:Bb)(len c n:Nat)(hn:n<=5)(b:Nat)(w:Ba)(hb:w.heap[b]?=J (Ag #[O U h.op,O U h.p,O U h.o,O U h.v,O U h.g,I A len c] 32 (0,0)))(ho:h.op=3) :
  An Al 143 #[Aj (J ⟨b,0,Z⟩),O U (n:Int)] w (kA [1,2] [(n:Int)-1,(n:Int)-1] b w):=by
 have p0:=zh hb 0 rfl;rw[ho] at p0;have ae:IntKind.i64.wrap ((n:Int)-1)=(n:Int)-1:=by rw[Ll];omega
 go_enter NX,NR;go_wp2_with fail
 go_region_held3 (fun _=>True) (exact trivial) (fail)
 all_goals
  go_wp2_with fail
  go_ret2
 all_goals
  first
  | (obtain ⟨H1, H2, H3⟩ := yY w #[Aj (J ⟨b, 1, Z⟩), Aj (J ⟨b, 2, Z⟩)] #[O U ((n : Int) - 1), O U ((n : Int) - 1)] 219 3
     exact vh H3.drew (by omega) (by omega) H1 H2)
  | (obtain ⟨H1, H2, H3⟩ := yY w #[O U ((n : Int) - 1), O U ((n : Int) - 1)] #[Aj (J ⟨b, 1, Z⟩), Aj (J ⟨b, 2, Z⟩)] 3 219
     exact vh H3.drew (by omega) (by omega) H2 H1)
theorem fields_4(h:Fh)(A:Bb)(len c n:Nat)(hn:n<=5)(b:Nat)(w:Ba)(hb:w.heap[b]?=J (Ag #[O U h.op,O U h.p,O U h.o,O U h.v,O U h.g,I A len c] 32 (0,0)))(ho:h.op=4) :
  An Al 143 #[Aj (J ⟨b,0,Z⟩),O U (n:Int)] w (kA [1] [(n:Int)-1] b w):=by
 have p0:=zh hb 0 rfl;rw[ho] at p0;have ae:IntKind.i64.wrap ((n:Int)-1)=(n:Int)-1:=by rw[Ll];omega
 go_enter NX,NR;go_wp2_with fail
 go_ret2
 obtain⟨H1,H2,H3⟩:=yY w #[Aj (J ⟨b,1,Z⟩)] #[O U ((n:Int)-1)] 219 3;exact qA H3 (by omega) (by omega) H1 H2
theorem fields_10(h:Fh)(A:Bb)(len c n:Nat)(hn:n<=5)(b:Nat)(w:Ba)(hb:w.heap[b]?=J (Ag #[O U h.op,O U h.p,O U h.o,O U h.v,O U h.g,I A len c] 32 (0,0)))(ho:h.op=10) :
  An Al 143 #[Aj (J ⟨b,0,Z⟩),O U (n:Int)] w (kA [1] [(n:Int)-1] b w):=by
 have p0:=zh hb 0 rfl;rw[ho] at p0;have ae:IntKind.i64.wrap ((n:Int)-1)=(n:Int)-1:=by rw[Ll];omega
 go_enter NX,NR;go_wp2_with fail
 go_ret2
 obtain⟨H1,H2,H3⟩:=yY w #[Aj (J ⟨b,1,Z⟩)] #[O U ((n:Int)-1)] 219 3;exact qA H3 (by omega) (by omega) H1 H2
theorem fields_6(h:Fh)(A:Bb)(len c n:Nat)(_hn:n<=5)(b:Nat)(w:Ba)(hb:w.heap[b]?=J (Ag #[O U h.op,O U h.p,O U h.o,O U h.v,O U h.g,I A len c] 32 (0,0)))(ho:h.op=6) :
  An Al 143 #[Aj (J ⟨b,0,Z⟩),O U (n:Int)] w (kA [3] [6] b w):=by
 have p0:=zh hb 0 rfl;rw[ho] at p0;go_enter NX,NR;go_wp2_with fail
 go_ret2
 obtain⟨H1,H2,H3⟩:=yY w #[Aj (J ⟨b,3,Z⟩)] #[O U (6)] 219 3;exact qA H3 (by omega) (by omega) H1 H2
theorem fields_11(h:Fh)(A:Bb)(len c n:Nat)(hn:n<=5)(b:Nat)(w:Ba)(hb:w.heap[b]?=J (Ag #[O U h.op,O U h.p,O U h.o,O U h.v,O U h.g,I A len c] 32 (0,0)))(ho:h.op=11) :
  An Al 143 #[Aj (J ⟨b,0,Z⟩),O U (n:Int)] w (kA [4] [(2:Int)^n-1] b w):=by
 have p0:=zh hb 0 rfl;rw[ho] at p0;have HE:=zH (fun W=>jB n hn W);go_enter NX,NR;go_wp2_with fail
 go_region_held3 (fun _=>True) (exact trivial) ((go_at_call 162;refine(HE.out _).mono ?_;rintro e w2 ⟨rfl,rfl⟩))
 all_goals
  go_wp2_with fail
  go_ret2
 all_goals
  first
  | (obtain ⟨H1, H2, H3⟩ := yY w #[Aj (J ⟨b, 4, Z⟩)] #[O U ((2 : Int) ^ n - 1)] 219 3
     exact qA H3.drew (by omega) (by omega) H1 H2)
  | (obtain ⟨H1, H2, H3⟩ := yY w #[O U ((2 : Int) ^ n - 1)] #[Aj (J ⟨b, 4, Z⟩)] 3 219
     exact qA H3.drew (by omega) (by omega) H2 H1)
theorem fields_12(h:Fh)(A:Bb)(len c n:Nat)(hn:n<=5)(b:Nat)(w:Ba)(hb:w.heap[b]?=J (Ag #[O U h.op,O U h.p,O U h.o,O U h.v,O U h.g,I A len c] 32 (0,0)))(ho:h.op=12) :
  An Al 143 #[Aj (J ⟨b,0,Z⟩),O U (n:Int)] w (kA [4] [(2:Int)^n-1] b w):=by
 have p0:=zh hb 0 rfl;rw[ho] at p0;have HE:=zH (fun W=>jB n hn W);go_enter NX,NR;go_wp2_with fail
 go_region_held3 (fun _=>True) (exact trivial) ((go_at_call 162;refine(HE.out _).mono ?_;rintro e w2 ⟨rfl,rfl⟩))
 all_goals
  go_wp2_with fail
  go_ret2
 all_goals
  first
  | (obtain ⟨H1, H2, H3⟩ := yY w #[Aj (J ⟨b, 4, Z⟩)] #[O U ((2 : Int) ^ n - 1)] 219 3
     exact qA H3.drew (by omega) (by omega) H1 H2)
  | (obtain ⟨H1, H2, H3⟩ := yY w #[O U ((2 : Int) ^ n - 1)] #[Aj (J ⟨b, 4, Z⟩)] 3 219
     exact qA H3.drew (by omega) (by omega) H2 H1)
theorem fields_13(h:Fh)(A:Bb)(len c n:Nat)(hn:n<=5)(b:Nat)(w:Ba)(hb:w.heap[b]?=J (Ag #[O U h.op,O U h.p,O U h.o,O U h.v,O U h.g,I A len c] 32 (0,0)))(ho:h.op=13) :
  An Al 143 #[Aj (J ⟨b,0,Z⟩),O U (n:Int)] w (kA [4] [(2:Int)^n-1] b w):=by
 have p0:=zh hb 0 rfl;rw[ho] at p0;have HE:=zH (fun W=>jB n hn W);go_enter NX,NR;go_wp2_with fail
 go_region_held3 (fun _=>True) (exact trivial) ((go_at_call 162;refine(HE.out _).mono ?_;rintro e w2 ⟨rfl,rfl⟩))
 all_goals
  go_wp2_with fail
  go_ret2
 all_goals
  first
  | (obtain ⟨H1, H2, H3⟩ := yY w #[Aj (J ⟨b, 4, Z⟩)] #[O U ((2 : Int) ^ n - 1)] 219 3
     exact qA H3.drew (by omega) (by omega) H1 H2)
  | (obtain ⟨H1, H2, H3⟩ := yY w #[O U ((2 : Int) ^ n - 1)] #[Aj (J ⟨b, 4, Z⟩)] 3 219
     exact qA H3.drew (by omega) (by omega) H2 H1)
theorem fields_no(h:Fh)(A:Bb)(len c n:Nat)(b:Nat)(w:Ba)(hb:w.heap[b]?=J (Ag #[O U h.op,O U h.p,O U h.o,O U h.v,O U h.g,I A len c] 32 (0,0)))(ho:¬(h.op=1\/h.op=5\/h.op=2\/h.op=3\/h.op=4\/h.op=10\/h.op=6\/h.op=11\/h.op=12\/h.op=13)) :
  An Al 143 #[Aj (J ⟨b,0,Z⟩),O U (n:Int)] w (kA [] [] b w):=by
 have p0:=zh hb 0 rfl;have n1:¬h.op=1:=by omega
 have n5:¬h.op=5:=by omega
 have n2:¬h.op=2:=by omega
 have n3:¬h.op=3:=by omega
 have n4:¬h.op=4:=by omega
 have Sg:¬h.op=10:=by omega
 have n6:¬h.op=6:=by omega
 have n11:¬h.op=11:=by omega
 have n12:¬h.op=12:=by omega
 have n13:¬h.op=13:=by omega
 go_enter NX,NR;go_wp2_with fail
 go_ret2
 exact⟨Z,Z,rfl,Li _ _,fun k hk=>absurd hk (by simp)⟩
theorem fields_any(h:Fh)(A:Bb)(len c n:Nat)(hn:n<=5)(b:Nat)(w:Ba)(hb:w.heap[b]?=J (Ag #[O U h.op,O U h.p,O U h.o,O U h.v,O U h.g,I A len c] 32 (0,0))) :
  An Al 143 #[Aj (J ⟨b,0,Z⟩),O U (n:Int)] w (kA (qh h.op) (Jh n h.op) b w):=by
 by_cases e1:h.op=1
 . have:=fields_1 h A len c n hn b w hb e1
   rw[e1];exact this
 by_cases e5:h.op=5
 . have:=fields_5 h A len c n hn b w hb e5
   rw[e5];exact this
 by_cases e2:h.op=2
 . have:=fields_2 h A len c n hn b w hb e2
   rw[e2];exact this
 by_cases e3:h.op=3
 . have:=fields_3 h A len c n hn b w hb e3
   rw[e3];exact this
 by_cases e4:h.op=4
 . have:=fields_4 h A len c n hn b w hb e4
   rw[e4];exact this
 by_cases rj:h.op=10
 . have:=fields_10 h A len c n hn b w hb rj
   rw[rj];exact this
 by_cases e6:h.op=6
 . have:=fields_6 h A len c n hn b w hb e6
   rw[e6];exact this
 by_cases BF:h.op=11
 . have:=fields_11 h A len c n hn b w hb BF
   rw[BF];exact this
 by_cases BE:h.op=12
 . have:=fields_12 h A len c n hn b w hb BE
   rw[BE];exact this
 by_cases Te:h.op=13
 . have:=fields_13 h A len c n hn b w hb Te
   rw[Te];exact this
 have h1:qh h.op=[]:=by unfold qh;simp[e1,e5,e2,e3,e4,rj,e6,BF,BE,Te]
 have h2:Jh n h.op=[]:=by unfold Jh;simp[e1,e5,e2,e3,e4,rj,e6,BF,BE,Te]
 rw[h1,h2];exact fields_no h A len c n b w hb (by omega)
theorem Y1{w w':Ba}{b B:Nat}(h:Wrote (fun z=>z=b) w w')(hb:B<=b)(hl:B<=w.heap.size):Am B w w':=⟨h.os,h.tape,h.output,h.size,fun k hk=>h.block k (by omega) (by show ¬k=b;omega)⟩
def Fh.at(h:Fh)(a:Nat):Int:=if a=1 then h.p else if a=2 then h.o else if a=3 then h.v else h.g
def Fh.zero(h:Fh)(a:Nat):Fh:=if a=1 then { h with p:=0 } else if a=2 then { h with o:=0 } else if a=3 then { h with v:=0 } else { h with g:=0 }
def zF(h:Fh)(os:List Nat):Nat->Fh
 | 0=>h
 | k+1=>(zF h os k).zero (os.getD k 0)
def fcs(h:Fh)(A:Bb)(len c:Nat):Array Ar:=#[O U h.op,O U h.p,O U h.o,O U h.v,O U h.g,I A len c]
theorem fcs_cell{w:Ba}{b:Nat}{h:Fh}{A:Bb}{len c:Nat}(hb:w.heap[b]?=J (Ag (fcs h A len c) 32 (0,0))){a:Nat}(h1:1<=a)(h4:a<=4):w.cell? ⟨b,a,Z⟩=J (O U (h.at a)):=by
 obtain rfl | rfl | rfl | rfl:a=1\/a=2\/a=3\/a=4:=by omega
 . exact zh hb 1 rfl
 . exact zh hb 2 rfl
 . exact zh hb 3 rfl
 exact zh hb 4 rfl
theorem fcs_set(h:Fh)(A:Bb)(len c:Nat){a:Nat}(h1:1<=a)(h4:a<=4):(fcs h A len c).set! a (O U 0)=fcs (h.zero a) A len c:=by
 obtain rfl | rfl | rfl | rfl:a=1\/a=2\/a=3\/a=4:=by omega
 all_goals rfl
theorem fld_ok(op:Int):(qh op).length<=2/\(∀k (h:k<(qh op).length),1<=(qh op)[k]/\(qh op)[k]<=4):=by
 have key:∀l:List Nat,l∈[[1,3],[3],[1,2],[1],[4],[]]->l.length<=2/\∀k (h:k<l.length),1<=l[k]/\l[k]<=4:=by
  intro l hl;simp only[List.mem_cons,List.not_mem_nil,or_false] at hl
  have h2:(∀a∈l,1<=a/\a<=4)/\l.length<=2:=by
   rcases hl with rfl | rfl | rfl | rfl | rfl | rfl<;>decide
  exact⟨h2.2,fun k hk=>h2.1 _ (Le hk)⟩
 refine key _ ?_;unfold qh
 repeat' split
 all_goals simp
theorem nod_prog{n:Nat}{h:Fh}{m:Nat}(h0:0<=h.op)(h17:h.op<=17)(hm:(m:Int)=arN h.op) :
  (∀k (hk:k<(qh h.op).length),((zF h (qh h.op) k).at (qh h.op)[k]<0\/(Jh n h.op).getD k 0<(zF h (qh h.op) k).at (qh h.op)[k])->xt n h m=2) /\
  ((∀k (hk:k<(qh h.op).length),0<=(zF h (qh h.op) k).at (qh h.op)[k]/\(zF h (qh h.op) k).at (qh h.op)[k]<=(Jh n h.op).getD k 0) ->
   xt n h m=if (zF h (qh h.op) (qh h.op).length).p≠0\/(zF h (qh h.op) (qh h.op).length).o≠0\/(zF h (qh h.op) (qh h.op).length).v≠0\/(zF h (qh h.op) (qh h.op).length).g≠0 then 3 else 0):=by
 obtain⟨op,p,o,v,g⟩:=h;dsimp only at h0 h17 hm ⊢;have e1:¬(op<0\/17<op):=by omega
 have e2:¬((m:Int)≠arN op):=by simp[hm]
 unfold xt;dsimp only;rw[Lg e1,Lg e2];clear e1 e2 hm;have ew:=(fld_ok op).1;obtain rfl | rfl | rfl | rfl | rfl | rfl | rfl | rfl | rfl | rfl | rfl | rfl | rfl | rfl | rfl | rfl | rfl | rfl:op=0\/op=1\/op=2\/op=3\/op=4\/op=5\/op=6\/op=7\/op=8\/op=9\/op=10\/op=11\/op=12\/op=13\/op=14\/op=15\/op=16\/op=17:=by omega
 all_goals
  refine⟨fun k hk hh=>?_,fun hh=>?_⟩
  . have iZ:k=0\/k=1:=by omega
    simp only[usP,usO,usV,usG,mxV];rcases iZ with rfl | rfl
    all_goals
     simp[qh,Jh,zF,Fh.at,Fh.zero] at hk hh ⊢
     try omega
  . have h0:=hh 0
    have h1:=hh 1;simp only[usP,usO,usV,usG,mxV];clear hh;simp[qh,Jh,zF,Fh.at,Fh.zero] at h0 h1 ⊢
    try omega
theorem Zd(n:Nat)(_hn1:1<=n)(hn:n<=5)(f:Fm)(R:Fm->Int)(A:Bb)(c:Nat)(w:Ba)(hl:f.args.length<=1000000)
  (dX:RecAt w A f.args fun cs x X=>An Al 105 #[.agg cs,O U (n:Int)] X fun e w'=>e=Ak (O U (R x))/\Am X.heap.size X w') :
  An Al 105 #[.agg (f.vs A c),O U (n:Int)] w fun e w'=>e=Ak (O U (vx n R f))/\Am w.heap.size w w':=by
 obtain⟨w1,ae,d0,aw,hB⟩:=zm w (f.vs A c) 32;have aX:=zH dX;have mI:=zH aw;clear aw;have TQ:=zH (fun a b c W=>Zn a b c W);obtain⟨⟨op,hp,ho,hv,hg⟩,l⟩:=f;obtain⟨E,hE⟩:=Kk (vx n R (.mk ⟨op,hp,ho,hv,hg⟩ l));have HE:Aq (E=if xt n ⟨op,hp,ho,hv,hg⟩ l.length≠0 then xt n ⟨op,hp,ho,hv,hg⟩ l.length else Zp (l.map R)):=hE.symm;rw[hE];simp only[Fm.vs,Fm.args,Fm.h] at ae d0 aX hl HE ⊢;obtain⟨m,hm⟩:=Kk l.length;have HM:=zH hm;rw[hm] at ae d0 hl HE ⊢;have ak:=zH ae;have HB:=zH hB;have dU:=zH d0;obtain⟨p0,p1,p2,p3,p4,p5,_⟩:=Ki d0;clear ae d0 hB dX hm hE;go_enter func105,ntmps105;go_wp2_with fail;rw[ak.out];go_wp2_with fail;refine(TQ.out _ _ _ _).mono ?_;rintro e w2 ⟨rfl,aC⟩;obtain rfl:=aC
 by_cases cS:0<=op/\op<=17
 case neg=>
  have e0:decide (0<=op/\op<=17)=Aw:=Lu cS
  have pB:Aq (E=1):=by
   have h1:xt n ⟨op,hp,ho,hv,hg⟩ m=1:=Lj (by show op<0\/17<op;omega);rw[Aq,HE.out,h1];rfl
  clear HE aX cS;go_wp2_with fail;go_ret;rw[pB.out];exact⟨rfl,HB.out⟩
 have e0:decide (0<=op/\op<=17)=Au:=Lw cS
 go_upto_block 0 with fail
 go_cut [0,5] from 14 (fun s0 s5 wx=>s0=Ai #[O U op,O U hp,O U ho,O U hv,O U hg,I A m c]/\s5=O U (arN op)/\wx=w2)
 case first=>
  clear HE aX;obtain rfl | rfl | rfl | rfl | rfl | rfl | rfl | rfl | rfl | rfl | rfl | rfl | rfl | rfl | rfl | rfl | rfl | rfl:op=0\/op=1\/op=2\/op=3\/op=4\/op=5\/op=6\/op=7\/op=8\/op=9\/op=10\/op=11\/op=12\/op=13\/op=14\/op=15\/op=16\/op=17:=by omega
  all_goals
   go_wp2_with fail
   go_meet
   exact⟨rfl,rfl,rfl⟩
 obtain⟨rfl,rfl,rfl⟩:=hcut
 by_cases hm:(m:Int)=arN op
 case neg=>
  have pB:Aq (E=15):=by
   have h1:xt n ⟨op,hp,ho,hv,hg⟩ m=15:=by unfold xt;rw[Lg (by show ¬(op<0\/17<op);omega),Lj hm]
   rw[Aq,HE.out,h1];rfl
  have e1:((m:Int) != arN op)=Au:=by simpa using hm
  clear HE aX cS;go_wp2_with fail;go_ret;rw[pB.out];exact⟨rfl,HB.out⟩
 have e1:((m:Int) != arN op)=Aw:=by simpa using hm
 go_upto_region 20 with fail
 obtain⟨W2,ij,d2,bQ,ah⟩:=zm wc #[O U op,O U hp,O U ho,O U hv,O U hg,I A m c] 32;rw[ij];have WQ:=HB.out.size;have fJ:=zH bQ;clear bQ;have aT:=zH (HB.out.trans (ah.mono WQ));have HF:=zH (fields_any ⟨op,hp,ho,hv,hg⟩ A m c n hn wc.heap.size W2 d2);obtain⟨tW,Mi⟩:=fld_ok op;obtain⟨MQ,MP⟩:=nod_prog (n:=n) (h:=⟨op,hp,ho,hv,hg⟩) (m:=m) cS.1 cS.2 hm;have dU:=zH (La ah dU.out);have mi:=zH d2;dsimp only at HF MQ MP tW Mi
 revert HF MQ MP tW Mi
 generalize qh op=os
 generalize Jh n op=ms
 intro HF tW Mi MQ MP;have oh:=zH MQ;have Da:=zH MP;have OU:=zH Mi;unfold kA at HF;obtain⟨q,hq⟩:=Kk os.length;have HQ:=zH hq;rw[hq] at tW;simp only[hq] at HF;clear ij d2 ah MQ MP Mi p0 p1 p2 p3 p4 p5 e0 e1 hm;go_wp2_with fail;refine HF.out.mono ?_;rintro e W3 ⟨A1,A2,rfl,al,dP⟩;have dx:=al.size;have bK:=zH (aT.out.trans (al.mono (by have:=fJ.out;omega)));have rC:=zH dP;have dU:=zH (La al dU.out);have IZ:Aq (W3.heap[wc.heap.size]?=J (Ag (fcs (zF ⟨op,hp,ho,hv,hg⟩ os 0) A m c) 32 (0,0))):=La al mi.out;have nm:Aq (∀X,Wrote (fun z=>z=wc.heap.size) W3 X->X.heap[w.heap.size]?=J (Ag #[O U op,O U hp,O U ho,O U hv,O U hg,I A m c] 32 (0,0))):=fun X hX=>(hX.block _ (zk dU.out) (by have:=mI.out;omega)).trans dU.out
 clear al dP HF mi dU;go_wp2_with fail
 go_loopw [45] (fun i wr=>∃k:Nat,k<=q/\i=O U (k:Int)/\Aq (∀j (hj:j<os.length),j<k->0<=(zF ⟨op,hp,ho,hv,hg⟩ os j).at os[j]/\(zF ⟨op,hp,ho,hv,hg⟩ os j).at os[j]<=ms.getD j 0)/\Aq (wr.heap[wc.heap.size]?=J (Ag (fcs (zF ⟨op,hp,ho,hv,hg⟩ os k) A m c) 32 (0,0)))/\Aq (Wrote (fun z=>z=wc.heap.size) W3 wr)) (fun i _=>q-(Ap i).toNat)
 case atStart=>exact⟨0,by omega,rfl,fun j _ h=>absurd h (by omega),IZ,Wrote.refl _ _⟩
 obtain⟨k,hk,rfl,rN,hZ,mF⟩:=hrel;clear IZ
 by_cases SG:k<q
 . have Vk:k<os.length:=by have:=HQ.out;omega
   obtain⟨g1,g2,rfl,rfl,lK,mC,oR,ew,c1,c2⟩:=rC.out k (by have:=HQ.out;omega);obtain⟨fP,CK⟩:=OU.out k Vk;have oE:=oh.out k Vk;obtain⟨a,ha⟩:=Kk (os[k]);have Mh:os.getD k 0=a:=by rw[zw Vk];exact ha
   obtain⟨Ae,D'⟩:=Kk (zF ⟨op,hp,ho,hv,hg⟩ os k);have hZ1:zF ⟨op,hp,ho,hv,hg⟩ os (k+1)=Ae.zero a:=by rw[zF,D',Mh]
   obtain⟨mx,U7⟩:=Kk (ms.getD k 0)
   have TJ:Aq (0<=Ae.at a/\Ae.at a<=mx->∀j (hj:j<os.length),j<k+1->0<=(zF ⟨op,hp,ho,hv,hg⟩ os j).at os[j]/\(zF ⟨op,hp,ho,hv,hg⟩ os j).at os[j]<=ms.getD j 0):=fun h j hj F8=>by
    by_cases e:j=k
    . subst e;rw[D',ha,U7];exact h
    . exact rN.out j hj (by omega)
   simp only[ha,D',U7] at oE c1 c2 fP CK;rw[D'] at hZ;have u1:=(LN (a:=⟨g1,k,Z⟩) (mF.out.block g1 oR (by show ¬g1=wc.heap.size;have:=fJ.out;omega))).trans c1;have u2:=(LN (a:=⟨g2,k,Z⟩) (mF.out.block g2 ew (by show ¬g2=wc.heap.size;have:=fJ.out;omega))).trans c2;have z0:=fcs_cell hZ.out fP CK;have zf:=zi hZ.out a;have zl:=zk hZ.out;have iB:=jt hZ.out a (O U 0);rw[fcs_set Ae A m c fP CK,<-hZ1] at iB;have en:=zH iB.1;obtain⟨y,hy⟩:=Kk (Ae.at a);rw[hy] at z0;simp only[hy] at TJ oE;have am:=zH oE;have dS:(0:Int)<=(k:Int):=by omega
   have aW:(k:Int)<(q:Int):=by omega
   have IB:Aq (Wrote (fun z=>z=wc.heap.size) W3 (wr.setCell ⟨wc.heap.size,a,Z⟩ (O U 0)).drew):=(mF.out.trans (Wrote.of_grown (zQ wr wc.heap.size a _) (fun z e _=>by cases e;rfl)) (fun _ _ h=>h)).trans (Wrote.of_below ((Li _ _).drew)) (fun _ _ h=>h);have sN:Aq (∃bt:Bool,(bt=Au↔(0<=y/\y<=mx))/\∀W,An Al 102 #[O U y,O U 0,O U mx] W fun e w'=>e=Ak (Ah bt)/\w'=W):=⟨_,by simp,fun W=>TQ.out y 0 mx W⟩;obtain⟨bt,rP,CC⟩:=sN.out;have TO:=zH CC;have sO:=zH rP;clear sN CC rP;clear c1 c2 hZ iB ha Mh D' hZ1 U7 rN hy oE;go_upto_region 24 with fail
   refine zt [(0,Au),(1,Au),(2,Au),(3,Au),(4,Au),(5,Au),(6,Au),(7,Aw),(8,Au)] (fun X=>X=wr.drew) (by kernel_rfl) (by kernel_rfl) rfl ?_
   repeat
    apply zj rfl
    . rintro K' aa X rfl
      go_simp;exact aa
   refine zn rfl ?_;intro K' aa;go_simp;refine(TO.out _).mono ?_;rintro e w5 ⟨rfl,rfl⟩;refine aa _ _ rfl ?_;clear aa K'
   repeat
    apply zj rfl
    . rintro K' aa X rfl
      go_simp;exact aa
   refine zy ?_;clear TO
   cases bt with
   | false=>
    have pB:Aq (E=2):=by
     have h1:=am.out (by
      have:=sO.out;simp at this
      omega)
     rw[Aq,HE.out,h1];rfl
    have mO:Aq (Am w.heap.size w wr.drew):=(bK.out.trans (Y1 mF.out (by omega) (by have:=bK.out.size;omega))).drew;clear am HE aX sO TJ en IB mF;go_wp2_with fail;go_ret;rw[pB.out];exact⟨rfl,mO.out⟩
   | true=>
   have De:=zH (TJ.out (sO.out.1 rfl));have HST2:Aq ((wr.setCell ⟨wc.heap.size,a,Z⟩ (O U 0)).drew.heap[wc.heap.size]?=J (Ag (fcs (zF ⟨op,hp,ho,hv,hg⟩ os (k+1)) A m c) 32 (0,0))):=en.out;clear am sO TJ en mF;go_wp2_with fail
   go_roundw
   case rel=>exact⟨k+1,by omega,by go_num,De,HST2,IB⟩
   simp[Ap];omega
 obtain rfl:q=k:=by omega
 have MN:=Da.out fun j hj=>rN.out j hj (by have:=HQ.out;omega)
 rw[HQ.out] at MN;obtain⟨⟨zo0,zp,zo,zv,zg⟩,D'⟩:∃Ae,zF ⟨op,hp,ho,hv,hg⟩ os q=Ae:=⟨_,rfl⟩;rw[D'] at MN hZ;dsimp only at MN;have z1:wr.cell? ⟨wc.heap.size,1,Z⟩=J (O U zp):=zh hZ.out 1 rfl;have z2:wr.cell? ⟨wc.heap.size,2,Z⟩=J (O U zo):=zh hZ.out 2 rfl;have z3:wr.cell? ⟨wc.heap.size,3,Z⟩=J (O U zv):=zh hZ.out 3 rfl;have z4:wr.cell? ⟨wc.heap.size,4,Z⟩=J (O U zg):=zh hZ.out 4 rfl;have rX:=zH MN;have mO:Aq (Am w.heap.size w wr):=bK.out.trans (Y1 mF.out (by omega) (by have:=bK.out.size;omega));have ET:=zH (nm.out wr mF.out);clear MN D' hZ rN oh Da OU rC nm mF SG hk
 by_cases FS:zp≠0\/zo≠0\/zv≠0\/zg≠0
 case pos=>
  have pB:Aq (E=3):=by
   have h1:=rX.out;rw[Lj FS] at h1;rw[Aq,HE.out,h1];rfl
  clear HE aX rX
  by_cases i1:zp=0
  . by_cases i2:zo=0
    . by_cases i3:zv=0
      . have i4:¬zg=0:=by omega
        clear FS;go_wp2_with fail;go_ret;rw[pB.out];exact⟨rfl,mO.out⟩
      clear FS;go_wp2_with fail;go_ret;rw[pB.out];exact⟨rfl,mO.out⟩
    clear FS;go_wp2_with fail;go_ret;rw[pB.out];exact⟨rfl,mO.out⟩
  clear FS;go_wp2_with fail;go_ret;rw[pB.out];exact⟨rfl,mO.out⟩
 have TL:Aq (E=Zp (l.map R)):=by
  have h1:=rX.out;rw[Lg FS] at h1;rw[Aq,HE.out,h1];rfl
 obtain rfl:zp=0:=by omega
 obtain rfl:zo=0:=by omega
 obtain rfl:zv=0:=by omega
 obtain rfl:zg=0:=by omega
 have p5:=zh ET.out 5 rfl;clear FS HE rX ET;go_wp2_with fail
 go_loopw [83] (fun i wx=>∃k:Nat,k<=m/\i=O U (k:Int)/\Aq (∀j (hj:j<l.length),j<k->R l[j]=0)/\Aq (Am w.heap.size w wx)) (fun i _=>m-(Ap i).toNat)
 case atStart=>exact⟨0,by omega,rfl,fun j _ h=>absurd h (by omega),mO⟩
 obtain⟨k,hk,rfl,mX,bD⟩:=hrel;clear z1 z2 z3 z4 p5 mO
 by_cases ac:k<m
 . have dy:k<l.length:=by have:=HM.out;omega
   obtain⟨bb,o,A',c',eA,cj,ap,aJ⟩:=aX.out k dy;subst eA;obtain⟨x,hx⟩:=Kk (l[k]);have fl:Aq (R l[k]=R x):=by rw[Aq,hx]
   rw[hx] at ap aJ;obtain⟨Rx,CM⟩:=Kk (R x);dsimp only at aJ;simp only[CM] at aJ fl;obtain⟨⟨h0,h1,h2,h3,h4⟩,xl⟩:=x;have hc:∀j v,#[O U h0,O U h1,O U h2,O U h3,O U h4,I A' xl.length c'][j]?=J v->wr.cell? ⟨bb,o+k*6+j,Z⟩=J v:=ap wr bD.out;have z0:wr.cell? ⟨bb,o+k*6,Z⟩=J (O U h0):=hc 0 _ rfl;have z1:wr.cell? ⟨bb,o+k*6+1,Z⟩=J (O U h1):=hc 1 _ rfl;have z2:wr.cell? ⟨bb,o+k*6+2,Z⟩=J (O U h2):=hc 2 _ rfl;have z3:wr.cell? ⟨bb,o+k*6+3,Z⟩=J (O U h3):=hc 3 _ rfl;have z4:wr.cell? ⟨bb,o+k*6+4,Z⟩=J (O U h4):=hc 4 _ rfl;have z5:wr.cell? ⟨bb,o+k*6+5,Z⟩=J (I A' xl.length c'):=hc 5 _ rfl;have dS:(0:Int)<=(k:Int):=by omega
   have aW:(k:Int)<(m:Int):=by omega
   have aO:bb<wr.heap.size:=by have:=bD.out.size;omega
   have HC:=zH aJ;simp only[Fm.vs,Fm.args,Fm.h] at HC;clear ap aJ hx CM hc;go_upto_region 33 with fail
   obtain⟨W5,iG,d5,cZ,aj⟩:=zm wr #[O U h0,O U h1,O U h2,O U h3,O U h4,I A' xl.length c'] 32;rw[iG];have bN:=bD.out.size;have aK:=zH (bD.out.trans (aj.mono bN));have dV:=zH (HC.out W5 aK.out);obtain⟨y0,y1,y2,y3,y4,y5,_⟩:=Ki d5;clear iG d5 aj z0 z1 z2 z3 z4 z5 HC cZ;go_wp2_with fail;refine dV.out.mono ?_;rintro e w6 ⟨rfl,dj⟩;have fh:=zH (Lc aK.out dj);clear dj dV y0 y1 y2 y3 y4 y5
   by_cases hr:Rx=0
   · have ep : Aq (∀ j (hj : j < l.length), j < k + 1 → R l[j] = 0) := fun j hj F8 => by
      by_cases e:j=k
      . subst e;rw[fl.out];exact hr
      . exact mX.out j hj (by omega)
     have er:(Rx != 0)=Aw:=by simpa using hr
     subst hr;clear fl mX;go_wp2_with fail
     go_roundw
     case rel=>exact⟨k+1,by omega,by go_num,ep,fh⟩
     simp[Ap];omega
   have pB : Aq (E = Rx) := by
    rw[Aq,TL.out];refine(ffsE_at (l:=l.map R) (k:=k) (by simpa using dy) (fun j hj F8=>?_) ?_).trans ?_
    . rw[Ns];exact mX.out j (by simpa using hj) F8
    . rw[Ns,fl.out];exact hr
    rw[Ns,fl.out]
   have er:(Rx != 0)=Au:=by simpa using hr
   clear fl mX TL;go_wp2_with fail;go_ret;rw[pB.out];exact⟨rfl,fh.out⟩
 obtain rfl:m=k:=by omega
 have pB:Aq (E=0):=by
  rw[Aq,TL.out];refine ffsE_none fun e he=>?_
  obtain⟨x,hx,rfl⟩:=LZ.1 he;obtain⟨j,hj,rfl⟩:=LP hx;exact mX.out j hj (by have:=HM.out;omega)
 clear TL mX;go_wp2_with fail;go_ret;rw[pB.out];exact⟨rfl,bD.out⟩
theorem Yy(n:Nat)(dG:1<=n)(hn:n<=5):∀(d:Nat) (f:Fm) (A:Bb) (c:Nat) (w:Ba),FsAt w w.heap.size d A f.args->(zL d f).1<=1000000 ->
  An Al 105 #[.agg (f.vs A c),O U (n:Int)] w fun e w'=>e=Ak (O U (yJ n d f))/\Am w.heap.size w w'
 | 0,f,A,c,w,hA,_=>by
  have h0:f.args=[]:=hA;exact Zd n dG hn f (fun _=>0) A c w (by rw[h0];decide) (RecAt.none hA)
 | d+1,f,A,c,w,hA,hb=>by
  have h1:(zN (zL d) f.args).1<=1000000:=hb;have h3:=qW (zL d) (ka d) f.args;exact Zd n dG hn f (yJ n d) A c w (by omega) (RecAt.of hA fun x A' c' X hx hX=>Yy n dG hn d x A' c' X hX (Lr (uB (zL d) hx) h1))
theorem checkF_any(n:Int)(d:Nat)(f:Fm)(A:Bb)(c:Nat)(w:Ba)(hA:FsAt w w.heap.size d A f.args)(hb:(zL d f).1<=1000000) :
  An Al 58 #[.agg (f.vs A c),O U n] w fun e w'=>e=Ak (O U (qw n d f))/\Am w.heap.size w w':=by
 obtain⟨w1,ae,d0,aw,hB⟩:=zm w (f.vs A c) 32;have TQ:=zH (fun a b c W=>Zn a b c W);have pb:=zH (fun a b W=>JZ a b W);have HA:=zH hA;have rA:=zH (fun (X:Ba) (hX:Am w.heap.size w X)=>Xq d f A c X ((hA.keep hX).more hX.size) hb);have Be:=zH (fun (k:Nat) (h1:1<=k) (h5:k<=5) (X:Ba) (hX:Am w.heap.size w X)=>Yy k h1 h5 d f A c X ((hA.keep hX).more hX.size) hb);have HE:Aq (qw n d f=if n<1\/5<n then 2 else if uX (zL d f)≠0 then uX (zL d f) else yJ n.toNat d f):=rfl;obtain⟨E,hE⟩:=Kk (qw n d f);rw[hE] at HE ⊢;obtain⟨⟨z1,z2⟩,hz⟩:∃z,zL d f=z:=⟨_,rfl⟩;rw[hz] at rA HE;unfold Fm.vs at ae d0 rA Be ⊢;have ak:=zH ae;have HB:=zH hB;have dU:=zH d0;clear ae d0 hB hE hA hb hz aw;have sN:Aq (∃bt:Bool,(bt=Au↔(1<=n/\n<=5))/\∀W,An Al 102 #[O U n,O U 1,O U 5] W fun e w'=>e=Ak (Ah bt)/\w'=W):=⟨_,by simp,fun W=>TQ.out n 1 5 W⟩;obtain⟨bt,rP,CC⟩:=sN.out;have TO:=zH CC;have sO:=zH rP;clear sN CC rP;go_enter func58,ntmps58;go_wp2_with fail;rw[ak.out];go_wp2_with fail;refine(TO.out _).mono ?_;rintro e w2 ⟨rfl,aC⟩;obtain rfl:=aC
 cases bt with
 | false=>
  have pB:Aq (E=2):=by
   have:=sO.out;simp at this;rw[Aq,HE.out,Lj (by omega)]
  go_wp2_with fail;go_ret;rw[pB.out];exact⟨rfl,HB.out⟩
 | true=>
 have hn:=sO.out.1 rfl;obtain⟨k,rfl⟩:=Ls (show 0<=n by omega);have am:=zH (HE.out.trans (Lg (by omega)));rw[Lo] at am;have HFN2:=zH (Be.out k (by omega) (by omega));have HC:=zH (rA.out w2 HB.out);obtain⟨p0,p1,p2,p3,p4,p5,_⟩:=Ki dU.out;go_wp2_with fail;refine HC.out.mono ?_;rintro e w3 ⟨rfl,al⟩;have bK:=zH (Lc HB.out al);have IZ:=zH (La al dU.out);have dV:=zH (pb.out z1 z2 w3);obtain⟨r,hr⟩:=Kk (uX (z1,z2));rw[hr] at dV am;go_wp2_with fail;refine dV.out.mono ?_;rintro e w4 ⟨rfl,ip⟩;obtain rfl:=ip
 by_cases h0:r=0
 . subst h0
   have HC:=zH (HFN2.out w4 bK.out);have aM:Aq (E=yJ k d f):=am.out.trans (Lg (by simp));obtain⟨p0,p1,p2,p3,p4,p5,_⟩:=Ki IZ.out;go_wp2_with fail;refine HC.out.mono ?_;rintro e w5 ⟨rfl,aj⟩;have aK:=zH (Lc bK.out aj);go_wp2_with fail;go_ret;rw[aM.out];exact⟨rfl,aK.out⟩
 have aM:Aq (E=r):=am.out.trans (Lj h0);have e0:(r != 0)=Au:=by simpa using h0
 go_wp2_with fail;go_ret;rw[aM.out];exact⟨rfl,bK.out⟩
theorem ui(n:Int)(d:Nat)(f:Fm)(A:Bb)(c:Nat)(w:Ba)(hA:FsAt w w.heap.size d A f.args)(hb:(zL d f).1<=1000000) :
  An Al 34 #[.agg (f.vs A c),O U n] w fun e w'=>e=Ak (O U (qw n d f))/\Am w.heap.size w w':=by
 obtain⟨w1,ae,d0,aw,hB⟩:=zm w (f.vs A c) 32;have HC:=zH (checkF_any n d f A c w1 ((hA.keep hB).more hB.size) hb);unfold Fm.vs at ae d0 HC ⊢;have ak:=zH ae;have HB:=zH hB;clear ae d0 hB hA hb aw;go_enter func34,ntmps34;go_wp2_with fail;rw[ak.out];go_wp2_with fail;refine HC.out.mono ?_;rintro e w2 ⟨rfl,ah⟩;have aT:=zH (Lc HB.out ah);go_wp2_with fail;go_ret;exact⟨rfl,aT.out⟩
end
section
open Go.RowKit Go.Shelf
attribute [local go_sem] Oper.semAt_some
structure AtW(s:Sy)(A SV AV AX:Bb)(kc ks kv kx:Nat)(h:Fh)(AF:Bb)(lf cf:Nat)(out:List Int)(AR:Bb)(cr bS bF bR bH bV bI gH:Nat)(W:Ba):Prop where
 xs:XAt W W.heap.size AX s.xs
 cs:CAt W W.heap.size A s.p.t.cases
 ro:IAt W W.heap.size AR out
 hS:W.heap[bS]?=J (Ag (s.vs_ A kc SV ks AV kv AX kx) 39 (0,0))
 hF:W.heap[bF]?=J (Ag (fcs h AF lf cf) 32 (0,0))
 hR:W.heap[bR]?=J (Ag #[I AR out.length cr] 52 (0,0))
 hH:W.heap[bH]?=J (Ag #[I (J ⟨gH,0,Z⟩) s.vs.length s.vs.length] 50 (0,0))
 hG:RowAt W gH (qG s.vs s.vs.length)
 hV:W.heap[bV]?=J (Ag #[.func (.func 110) #[] #[Aj (J ⟨bS,0,Z⟩),Aj (J ⟨bF,0,Z⟩)]] 179 (0,0))
 hI:W.heap[bI]?=J (Ag #[.func (.func 111) #[] #[Aj (J ⟨bS,0,Z⟩)]] 180 (0,0))
section
variable {s:Sy} {A SV AV AX:Bb} {kc ks kv kx:Nat} {h:Fh} {AF:Bb} {lf cf:Nat} {out:List Int} {AR:Bb} {cr bS bF bR bH bV bI gH:Nat} {W W':Ba}
theorem AtW.keep(H:AtW s A SV AV AX kc ks kv kx h AF lf cf out AR cr bS bF bR bH bV bI gH W)(hb:Am W.heap.size W W'):AtW s A SV AV AX kc ks kv kx h AF lf cf out AR cr bS bF bR bH bV bI gH W':=
 have k:∀ {b:Nat} {o:Obj},W.heap[b]?=J o->W'.heap[b]?=J o:=fun e=>(hb.block _ (Ln.1 e).1).trans e
 ⟨(H.xs.keep hb).more hb.size,(H.cs.keep hb).more hb.size,(H.ro.keep hb).more hb.size,k H.hS,k H.hF,k H.hR,k H.hH,k H.hG,k H.hV,k H.hI⟩
end
theorem atv_any(s:Sy)(K N:Nat)(hF:Fine s K N)(h:Fh)(e k q:Nat)(he:e<s.xs.length)(hk:k<=K)(hq:q<N)(nJ:h.p=(q:Int))(A SV AV AX AF AR:Bb)(kc ks kv kx lf cf:Nat)(out:List Int)(cr bS bF bR bH bV bI gH:Nat)(w:Ba)
  (hW:AtW s A SV AV AX kc ks kv kx h AF lf cf out AR cr bS bF bR bH bV bI gH w) :
  An Al 110 #[Ai #[O U (e:Int),O U (k:Int)],Aj (J ⟨bS,0,Z⟩),Aj (J ⟨bF,0,Z⟩)] w fun r w'=>r=Ak (O U (xw s.xs[e] k q))/\Am w.heap.size w w':=by
 have hX:=hW.xs;have hb:=hW.hS;have hp:=hW.hF;unfold fcs at hp;rw[nJ] at hp;obtain⟨w1,ae,d0,aw,hB⟩:=zm w #[O U (e:Int),O U (k:Int)] 178;have lk:=Le he;obtain⟨eq,an⟩:=hF.views _ lk;obtain⟨bx,ox,A1,c1,A2,c2,eX,ce,x0,x1,x2,ly,sE⟩:=(hX.keep hB).row e he;subst eX;obtain⟨x,hx⟩:∃x,x=s.xs[e]:=⟨_,rfl⟩;rw[<-hx] at eq an x2 sE ⊢;obtain⟨bl,ol,A3,c3,eL,cp,y1,hI⟩:=sE.at_ k (by omega);subst eL;obtain⟨hl,lY⟩:=an _ (Le (by omega:k<x.views.length));have Du:∀row,x.views[k]'(by omega)=row->xw x k q=row.getD q 0:=fun row hr=>by unfold xw;rw[zw (by omega:k<x.views.length),hr]
 obtain⟨row,pM⟩:=Kk (x.views[k]'(by omega));rw[Du row pM];rw[pM] at y1 hI hl;obtain⟨b4,o4,e4,aP,z4⟩:=hI.at_ q (by omega);subst e4;have dz:row[q]'(by omega)=row.getD q 0:=by rw[Lh,Lm (by omega)];rfl
 rw[dz] at z4;obtain⟨u,hu⟩:=Kk (row.getD q 0);rw[hu] at z4 ⊢;obtain⟨nv,DF⟩:=Kk x.views.length;rw[DF] at x2 eq;obtain⟨nr,KX⟩:=Kk row.length;rw[KX] at y1 hl;have ak:=zH ae;have HB:=zH hB;obtain⟨g0,g1,_⟩:=Ke d0;have p0:w1.cell? ⟨bF,1,Z⟩=J (O U (q:Int)):=zh (La hB hp) 1 rfl;have p9:w1.cell? ⟨bS,9,Z⟩=J (I (J ⟨bx,ox,Z⟩) s.xs.length kx):=zh (La hB hb) 9 rfl;have h1:(0:Int)<=(e:Int):=by omega
 have h2:(e:Int)<(s.xs.length:Int):=by omega
 have h3:(0:Int)<=(k:Int):=by omega
 have h4:(k:Int)<(nv:Int):=by omega
 have h5:(0:Int)<=(q:Int):=by omega
 have h6:(q:Int)<(nr:Int):=by omega
 clear ae d0 hB hX hb hp hF dz hu DF KX hx ly sE hI lY an lk Du pM x0 x1 hl eq nJ;go_enter func110,ntmps110;go_wp2_with fail;rw[ak.out];go_quiet (fail);go_wp2_with fail;go_ret;exact⟨rfl,yv HB.out _⟩
theorem ati_any(s:Sy)(h:Fh)(e k c:Nat)(he:e<s.xs.length)(hc:s.xs[e].c=(c:Int))(bn:c<s.p.t.cases.length)(A SV AV AX AF AR:Bb)(kc ks kv kx lf cf:Nat)(out:List Int)(cr bS bF bR bH bV bI gH:Nat)(w:Ba)
  (hW:AtW s A SV AV AX kc ks kv kx h AF lf cf out AR cr bS bF bR bH bV bI gH w) :
  An Al 111 #[Ai #[O U (e:Int),O U (k:Int)],Aj (J ⟨bS,0,Z⟩)] w fun r w'=>∃A' c',r=Ak (.slice A' (yy s.p c).length c')/\IAt w' w.heap.size A' (yy s.p c)/\Am w.heap.size w w':=by
 have hX:=hW.xs;have hC:=hW.cs;have hb:=hW.hS;obtain⟨w1,ae,d0,aw,hB⟩:=zm w #[O U (e:Int),O U (k:Int)] 178;obtain⟨bx,ox,A1,c1,A2,c2,eX,ce,x0,x1,x2,ly,sE⟩:=(hX.keep hB).row e he;subst eX;rw[hc] at x0;obtain⟨bc,oc,A3,c3,A4,c4,A5,c5,eC,hbc,y0,y1,y2,hI,_,_⟩:=(hC.keep hB).row c bn;subst eC;have dD:yy s.p c=s.p.t.cases[c].inp:=by unfold yy;rw[Lh,Lm bn];rfl
 rw[<-dD] at y0 hI;obtain⟨L,hL⟩:=Kk (yy s.p c);rw[hL] at y0 hI ⊢;obtain⟨nl,fN⟩:=Kk L.length;rw[fN] at y0 ⊢;have HI:=zH hI;have ak:=zH ae;have HB:=zH hB;have g0:=zh d0 0 rfl;have p3:w1.cell? ⟨bS,3,Z⟩=J (I (J ⟨bc,oc,Z⟩) s.p.t.cases.length kc):=zh (La hB hb) 3 rfl;have p9:w1.cell? ⟨bS,9,Z⟩=J (I (J ⟨bx,ox,Z⟩) s.xs.length kx):=zh (La hB hb) 9 rfl;have h1:(0:Int)<=(e:Int):=by omega
 have h2:(e:Int)<(s.xs.length:Int):=by omega
 have h3:(0:Int)<=(c:Int):=by omega
 have h4:(c:Int)<(s.p.t.cases.length:Int):=by omega
 clear ae d0 hB hX hC hb hc ly sE hI dD hL fN x1 x2 y1 y2;go_enter func111,ntmps111;go_wp2_with fail;rw[ak.out];go_quiet (fail);go_wp2_with fail;go_ret;exact⟨_,_,rfl,IAt.keep HI.out (yv (Li w.heap.size w1) _),yv HB.out _⟩
end
section
open Go.RowKit Go.Shelf
attribute [local go_sem] Oper.semAt_some
theorem at0_any(s:Sy)(h:Fh)(e k:Nat)(_he:e<s.xs.length)(cS:h.op=0)(A SV AV AX AF AR:Bb)(kc ks kv kx lf cf:Nat)(out:List Int)(cr bS bF bR bH bV bI gH:Nat)(w:Ba)
  (_hW:AtW s A SV AV AX kc ks kv kx h AF lf cf out AR cr bS bF bR bH bV bI gH w) :
  An Al 112 #[Ai #[O U (e:Int),O U (k:Int)]] w fun r w'=>r=Ak (Ah (xH s out h (e,k)))/\Am w.heap.size w w':=by
 obtain⟨w1,ae,d0,aw,hB⟩:=zm w #[O U (e:Int),O U (k:Int)] 178;have hE:xH s out h (e,k)=Au:=by unfold xH;rw[Lj cS]
 rw[hE];have ak:=zH ae;have HB:=zH hB;clear ae d0 hB _hW hE cS _he aw;go_enter func112,ntmps112;go_wp2_with fail;rw[ak.out];go_wp2_with fail;go_ret;exact⟨rfl,HB.out⟩
theorem at1_any(s:Sy)(h:Fh)(e k:Nat)(he:e<s.xs.length)(c q:Nat)(hc:s.xs[e].c=(c:Int))(bn:c<s.p.t.cases.length)(hq:q<(yy s.p c).length)(nJ:h.p=(q:Int))(cS:h.op=1)(A SV AV AX AF AR:Bb)(kc ks kv kx lf cf:Nat)(out:List Int)(cr bS bF bR bH bV bI gH:Nat)(w:Ba)
  (hW:AtW s A SV AV AX kc ks kv kx h AF lf cf out AR cr bS bF bR bH bV bI gH w) :
  An Al 113 #[Ai #[O U (e:Int),O U (k:Int)],Aj (J ⟨bI,0,Z⟩),Aj (J ⟨bF,0,Z⟩)] w fun r w'=>r=Ak (Ah (xH s out h (e,k)))/\Am w.heap.size w w':=by
 obtain⟨w1,ae,d0,aw,hB⟩:=zm w #[O U (e:Int),O U (k:Int)] 178
 have hE:xH s out h (e,k)=decide ((yy s.p c).getD q 0=h.v):=by
  unfold xH;rw[Lg (by rw[cS];decide),Lj cS];dsimp only;rw[zw he,hc,nJ,Lo,Lo]
 rw[hE];have HC:=zH (ati_any s h e k c he hc bn A SV AV AX AF AR kc ks kv kx lf cf out cr bS bF bR bH bV bI gH w1.drew (hW.keep hB.drew));have hF:=hW.hF;unfold fcs at hF;rw[nJ] at hF;obtain⟨vv,sY⟩:=Kk h.v;rw[sY] at hF ⊢;obtain⟨L,hL⟩:=Kk (yy s.p c);rw[hL] at HC hq ⊢;obtain⟨y,hy⟩:=Kk (L.getD q 0);have HY:Aq (L[q]=y):=by rw[Aq,<-hy,zw hq]
 rw[hy];have CN:=hW.hI;have lF:=zk hF;have lI:=zk CN
 have ai:Aq (∀X,Am w1.heap.size w1 X->X.heap[bF]?=J (Ag #[O U h.op,O U (q:Int),O U h.o,O U vv,O U h.g,I AF lf cf] 32 (0,0))/\X.heap[bI]?=J (Ag #[.func (.func 111) #[] #[Aj (J ⟨bS,0,Z⟩)]] 180 (0,0))/\X.heap[w.heap.size]?=J (Ag #[O U (e:Int),O U (k:Int)] 178 (0,0))):=
  fun X hX=>⟨Lb hX (by omega) (Lb hB lF hF),Lb hX (by omega) (Lb hB lI CN),Lb hX (by omega) d0⟩
 have ak:=zH ae;have HB:=zH hB;have mI:=zH aw;obtain⟨n,hn⟩:=Kk L.length;have HN:=zH hn;have UU:q<n:=by omega
 rw[hn] at HC;have h5:(0:Int)<=(q:Int):=by omega
 have h6:(q:Int)<(n:Int):=by omega
 clear ae d0 hB hW hF CN hE hL sY cS nJ hc bn he aw hy hn;go_enter func113,ntmps113;go_wp2_with fail;rw[ak.out];refine zt [(0,Au),(1,Au),(3,Au),(4,Au),(7,Au),(8,Au),(2,Aw),(5,Aw),(6,Aw),(9,Aw),(10,Aw)] (fun X=>X.heap[bF]?=J (Ag #[O U h.op,O U (q:Int),O U h.o,O U vv,O U h.g,I AF lf cf] 32 (0,0))/\X.heap[bI]?=J (Ag #[.func (.func 111) #[] #[Aj (J ⟨bS,0,Z⟩)]] 180 (0,0))/\X.heap[w.heap.size]?=J (Ag #[O U (e:Int),O U (k:Int)] 178 (0,0))) (by kernel_rfl) (by kernel_rfl) (ai.out _ (Li _ _).drew) ?_
 repeat
  apply zj rfl
  . rintro K' aa X ⟨u1,u2,u3⟩
    have q1:=zh u1 1 rfl;have q3:=zh u1 3 rfl;have i0:=zh u2 0 rfl;obtain⟨g0,g1,_⟩:=Ke u3;clear u1 u2 u3;go_simp;exact aa
 refine zn rfl ?_;intro K' aa;go_simp;refine HC.out.mono ?_;rintro r w5 ⟨A',c',rfl,CO,aj⟩;have aj:Am w1.heap.size w1 w5:=(Li _ w1).drew.trans (aj.mono (Ld _));have aK:=zH (Lc HB.out aj);have lQ:=zH (ai.out w5 aj);obtain⟨b4,o4,rfl,aP,z4⟩:=CO.at_ q (by rw[HN.out];exact UU);rw[HY.out] at z4;have HZ4:=zH z4;refine aa _ _ lQ.out ?_;have z4:=HZ4.out;refine zn rfl ?_;intro K' aa;go_simp;refine aa _ _ lQ.out ?_;refine zn rfl ?_;intro K' aa;go_simp;refine aa _ _ lQ.out ?_;refine zn rfl ?_;intro K' aa;go_simp;refine aa _ _ lQ.out ?_;refine zn rfl ?_;intro K' aa;go_simp;refine aa _ _ lQ.out ?_;refine zy ?_;go_wp2_with fail;go_ret;exact⟨zz (by first | rfl | simp),aK.out⟩
theorem at2_any(s:Sy)(h:Fh)(e k:Nat)(he:e<s.xs.length)(c:Nat)(hc:s.xs[e].c=(c:Int))(bn:c<s.p.t.cases.length)(Wt:(yy s.p c).length<=5)(cS:h.op=2)(A SV AV AX AF AR:Bb)(kc ks kv kx lf cf:Nat)(out:List Int)(cr bS bF bR bH bV bI gH:Nat)(w:Ba)
  (hW:AtW s A SV AV AX kc ks kv kx h AF lf cf out AR cr bS bF bR bH bV bI gH w) :
  An Al 114 #[Ai #[O U (e:Int),O U (k:Int)],Aj (J ⟨bI,0,Z⟩),Aj (J ⟨bF,0,Z⟩)] w fun r w'=>r=Ak (Ah (xH s out h (e,k)))/\Am w.heap.size w w':=by
 obtain⟨w1,ae,d0,aw,hB⟩:=zm w #[O U (e:Int),O U (k:Int)] 178
 have hE:xH s out h (e,k)=decide (h.v∈yy s.p c):=by
  unfold xH;rw[Lg (by rw[cS];decide),Lg (by rw[cS];decide),Lj cS];dsimp only;rw[zw he,hc,Lo]
 rw[hE];have HC:=zH (ati_any s h e k c he hc bn A SV AV AX AF AR kc ks kv kx lf cf out cr bS bF bR bH bV bI gH w1 (hW.keep hB));have hF:=hW.hF;unfold fcs at hF;obtain⟨vv,sY⟩:=Kk h.v;rw[sY] at hF ⊢;obtain⟨L,hL⟩:=Kk (yy s.p c);rw[hL] at HC Wt ⊢;have CN:=hW.hI;have lF:=zk hF;have lI:=zk CN;have ai:Aq (∀X,Am w1.heap.size w1 X->X.cell? ⟨bF,3,Z⟩=J (O U vv)):=fun X hX=>zh (Lb hX (by omega) (Lb hB lF hF)) 3 rfl
 have i0:=zh (Lb hB lI CN) 0 rfl;obtain⟨g0,g1,_⟩:=Ke d0;have ak:=zH ae;have HB:=zH hB;obtain⟨n,hn⟩:=Kk L.length;have HN:=zH hn;rw[hn] at HC Wt;clear ae d0 hB hW hF CN hE hL sY cS hc bn he aw hn;go_enter func114,ntmps114;go_upto_region 1 with fail
 rw[ak.out];go_wp2_with fail;refine HC.out.mono ?_;rintro r w5 ⟨A',c',rfl,CO,aj⟩;have aj:Am w1.heap.size w1 w5:=aj;have aK:=zH (Lc HB.out aj);have p3:=ai.out w5 aj;have rY:=zH CO;go_wp2_with fail
 go_loop [11] (fun i=>∃m:Nat,m<=n/\i=O U (m:Int)/\Aq (∀j (h:j<L.length),j<m->¬L[j]=vv)) (fun i=>n-(Ap i).toNat)
 case atStart=>exact⟨0,by omega,rfl,fun j _ h=>absurd h (by omega)⟩
 obtain⟨m,hm,rfl,nd⟩:=hrel
 by_cases ac:m<n
 . have rI:m<L.length:=by have:=HN.out;omega
   obtain⟨b,off,rfl,cp,z0⟩:=rY.out.at_ m rI;obtain⟨x,hx⟩:=Kk (L[m]);have HX:=zH hx;rw[hx] at z0;have dS:(0:Int)<=(m:Int):=by omega
   have aW:(m:Int)<(n:Int):=by omega
   by_cases hxv:x=vv
   . subst hxv
     have dD:Aq (decide (x∈L)=Au):=Lw (by rw[<-HX.out];exact Le rI);go_wp2_with fail;go_ret;exact⟨zz dD.out.symm,aK.out⟩
   have U3 : Aq (∀ j (h : j < L.length), j < m + 1 -> ¬ L[j] = vv) := fun j h h2 => by
    by_cases e:j=m
    . subst e;rw[HX.out];exact hxv
    . exact nd.out j h (by omega)
   go_wp2_with fail
   go_round
   case rel=>exact⟨m+1,by omega,by go_num,U3⟩
   simp[Ap];omega
 obtain rfl:n=m:=by omega
 have hni:Aq (decide (vv∈L)=Aw):=Lu fun h=>by
  obtain⟨j,hj,e⟩:=LP h;exact nd.out j hj (by have:=HN.out;omega) e
 go_wp2_with fail;go_ret;exact⟨zz hni.out.symm,aK.out⟩
theorem at3_any(s:Sy)(h:Fh)(e k:Nat)(he:e<s.xs.length)(K N q o' S u:Nat)(BD:Fine s K N)(hk:k<=K)(hq:q<N)(nJ:h.p=(q:Int))(ho:h.o=(o':Int))(pQ:o'<5)(hu:xw s.xs[e] k q=(u:Int))(Ky:u<s.vs.length)(hS:(qG s.vs s.vs.length).getD u 0=(S:Int))(Wj:S<32)(cS:h.op=3)(A SV AV AX AF AR:Bb)(kc ks kv kx lf cf:Nat)(out:List Int)(cr bS bF bR bH bV bI gH:Nat)(w:Ba)
  (hW:AtW s A SV AV AX kc ks kv kx h AF lf cf out AR cr bS bF bR bH bV bI gH w) :
  An Al 115 #[Ai #[O U (e:Int),O U (k:Int)],Aj (J ⟨bH,0,Z⟩),Aj (J ⟨bV,0,Z⟩),Aj (J ⟨bF,0,Z⟩)] w fun r w'=>r=Ak (Ah (xH s out h (e,k)))/\Am w.heap.size w w':=by
 obtain⟨w1,ae,d0,aw,hB⟩:=zm w #[O U (e:Int),O U (k:Int)] 178
 have hE:xH s out h (e,k)=S.testBit o':=by
  unfold xH;rw[Lg (by rw[cS];decide),Lg (by rw[cS];decide),Lg (by rw[cS];decide),Lj cS];dsimp only;rw[zw he,nJ,Lo,hu,Lo,hS,Lo,ho,Lo]
 rw[hE];have hC:=atv_any s K N BD h e k q he hk hq nJ A SV AV AX AF AR kc ks kv kx lf cf out cr bS bF bR bH bV bI gH w1.drew (hW.keep hB.drew);rw[hu] at hC;have HC:=zH hC;have hF:=hW.hF;unfold fcs at hF;rw[ho] at hF;have S6:=hW.hH;have Ea:=hW.hV;have WH:=hW.hG;have z0:=WH.cell u (by rw[jf];exact Ky);have e0:(qG s.vs s.vs.length)[u]'(by rw[jf];exact Ky)=(S:Int):=by rw[<-hS,zw (by rw[jf];exact Ky)]
 rw[e0] at z0;obtain⟨n,hn⟩:=Kk s.vs.length;rw[hn] at S6 Ky;have lF:=zk hF;have lH:=zk S6;have lV:=zk Ea;have lG:=WH.lt
 have ai:Aq (∀X,Am w1.heap.size w1 X->X.heap[bF]?=J (Ag #[O U h.op,O U h.p,O U (o':Int),O U h.v,O U h.g,I AF lf cf] 32 (0,0))/\X.heap[bH]?=J (Ag #[I (J ⟨gH,0,Z⟩) n n] 50 (0,0))/\X.heap[bV]?=J (Ag #[.func (.func 110) #[] #[Aj (J ⟨bS,0,Z⟩),Aj (J ⟨bF,0,Z⟩)]] 179 (0,0))/\X.heap[w.heap.size]?=J (Ag #[O U (e:Int),O U (k:Int)] 178 (0,0))):=
  fun X hX=>⟨Lb hX (by omega) (Lb hB lF hF),Lb hX (by omega) (Lb hB lH S6),Lb hX (by omega) (Lb hB lV Ea),Lb hX (by omega) d0⟩
 have oG:Aq (∀X,Am w1.heap.size w1 X->X.cell? ⟨gH,u,Z⟩=J (O U (S:Int))):=fun X hX=>(hX.cell (p:=⟨gH,u,Z⟩) (by show gH<w1.heap.size;omega)).trans ((hB.cell (p:=⟨gH,u,Z⟩) lG).trans z0)
 have ak:=zH ae;have HB:=zH hB;have aQ:=gj Wj pQ;have h5:(0:Int)<=(u:Int):=by omega
 have h6:(u:Int)<(n:Int):=by omega
 have WL:(0:Int)<=(S:Int):=by omega
 have tM:min o' 64=o':=by omega
 obtain⟨bt,rP⟩:=Kk (S.testBit o');rw[rP] at aQ ⊢;clear ae d0 hB hW hF S6 Ea WH hE cS nJ ho he aw hu hS z0 e0 BD hC hk hq rP hn;go_enter func115,ntmps115;go_wp2_with fail;rw[ak.out];refine zt [(0,Au),(1,Au),(2,Au),(6,Au),(7,Au),(3,Aw),(4,Aw),(5,Aw),(8,Aw),(9,Aw),(10,Aw),(11,Aw)] (fun X=>X.heap[bF]?=J (Ag #[O U h.op,O U h.p,O U (o':Int),O U h.v,O U h.g,I AF lf cf] 32 (0,0))/\X.heap[bH]?=J (Ag #[I (J ⟨gH,0,Z⟩) n n] 50 (0,0))/\X.heap[bV]?=J (Ag #[.func (.func 110) #[] #[Aj (J ⟨bS,0,Z⟩),Aj (J ⟨bF,0,Z⟩)]] 179 (0,0))/\X.heap[w.heap.size]?=J (Ag #[O U (e:Int),O U (k:Int)] 178 (0,0))) (by kernel_rfl) (by kernel_rfl) (ai.out _ (Li _ _).drew) ?_
 repeat
  apply zj rfl
  . rintro K' aa X ⟨u1,u2,u3,u4⟩
    have q2:=zh u1 2 rfl;have j0:=zh u2 0 rfl;have i0:=zh u3 0 rfl;obtain⟨g0,g1,_⟩:=Ke u4;clear u1 u2 u3 u4;go_simp;exact aa
 refine zn rfl ?_;intro K' aa;go_simp;refine HC.out.mono ?_;rintro r w5 ⟨rfl,aj⟩;have aj:Am w1.heap.size w1 w5:=(Li _ w1).drew.trans (aj.mono (Ld _));have aK:=zH (Lc HB.out aj);have lQ:=zH (ai.out w5 aj);have z4:=oG.out w5 aj;refine aa _ _ lQ.out ?_;refine zn rfl ?_;intro K' aa;go_simp;refine aa _ _ lQ.out ?_;refine zn rfl ?_;intro K' aa;go_simp;refine aa _ _ lQ.out ?_;refine zn rfl ?_;intro K' aa;go_simp;refine aa _ _ lQ.out ?_;refine zn rfl ?_;intro K' aa;go_simp;refine aa _ _ lQ.out ?_;refine zn rfl ?_;intro K' aa;go_simp;refine aa _ _ lQ.out ?_;refine zn rfl ?_;intro K' aa;go_simp;refine aa _ _ lQ.out ?_;refine zy ?_;go_wp2_with fail;go_ret;exact⟨rfl,aK.out⟩
theorem at4_any(s:Sy)(h:Fh)(e k:Nat)(he:e<s.xs.length)(K N q:Nat)(BD:Fine s K N)(hk:k<=K)(KO:q<5)(nJ:h.p=(q:Int))(tW:∀r∈s.xs[e].word,∃F:Nat,r.f=(F:Int)/\F<32)(cS:h.op=4)(A SV AV AX AF AR:Bb)(kc ks kv kx lf cf:Nat)(out:List Int)(cr bS bF bR bH bV bI gH:Nat)(w:Ba)
  (hW:AtW s A SV AV AX kc ks kv kx h AF lf cf out AR cr bS bF bR bH bV bI gH w) :
  An Al 116 #[Ai #[O U (e:Int),O U (k:Int)],Aj (J ⟨bS,0,Z⟩),Aj (J ⟨bF,0,Z⟩)] w fun r w'=>r=Ak (Ah (xH s out h (e,k)))/\Am w.heap.size w w':=by
 obtain⟨w1,ae,d0,aw,hB⟩:=zm w #[O U (e:Int),O U (k:Int)] 178
 have hE:xH s out h (e,k)=(decide (0<k)&&((s.xs[e].word.getD (k-1) default).f).toNat.testBit q):=by
  unfold xH;rw[Lg (by rw[cS];decide),Lg (by rw[cS];decide),Lg (by rw[cS];decide),Lg (by rw[cS];decide),Lj cS];dsimp only;rw[zw he,nJ,Lo]
 rw[hE];have hF:=hW.hF;unfold fcs at hF;rw[nJ] at hF;have Wh:=hW.hS;have lF:=zk hF;have lS:=zk Wh;have hF1:=Lb hB lF hF;have MJ:=Lb hB lS Wh;obtain⟨g0,g1,_⟩:=Ke d0;have q1:=zh hF1 1 rfl;obtain⟨bx,ox,A1,c1,A2,c2,eX,ce,x0,x1,x2,ly,hLw⟩:=(hW.xs.keep hB).row e he;subst eX;have p9:w1.cell? ⟨bS,9,Z⟩=J (I (J ⟨bx,ox,Z⟩) s.xs.length kx):=zh MJ 9 rfl;have h1:(0:Int)<=(e:Int):=by omega
 have h2:(e:Int)<(s.xs.length:Int):=by omega
 obtain⟨x,hx⟩:∃x,x=s.xs[e]:=⟨_,rfl⟩;have Dv:=(BD.word _ (Le he)).1;rw[<-hx] at tW Dv x1 ly ⊢;have ak:=zH ae;have HB:=zH hB;have hs1':=aw;clear ae d0 hB hW hF hF1 Wh MJ hE cS nJ x0 x2 hx hLw
 by_cases hkz:0<k
 case neg=>
  have oE:(decide (0<k)&&((x.word.getD (k-1) default).f).toNat.testBit q)=Aw:=by rw[Lu hkz];rfl
  rw[oE];have aW:decide ((k:Int)>0)=Aw:=Lu (by omega);obtain⟨ki,SI⟩:∃ki:Int,(k:Int)=ki:=⟨_,rfl⟩;rw[SI] at aW ak g1 ⊢;clear tW ly x1 oE hkz SI;go_enter func116,ntmps116;go_wp2_with fail;rw[ak.out];refine zt [(0,Au),(1,Au),(2,Au),(3,Au),(4,Au),(5,Au),(6,Au),(7,Au),(8,Au),(9,Au),(10,Au),(11,Au),(12,Au),(13,Au),(14,Au),(15,Au),(16,Au),(17,Au),(18,Au),(19,Au),(20,Au),(21,Au),(22,Au),(23,Au)] (fun X=>X=w1.drew) (by kernel_rfl) (by kernel_rfl) rfl ?_
  repeat
   apply zj rfl
   . rintro K' aa X rfl
     go_simp;exact aa
  refine zy ?_;go_wp2_with fail;go_ret;exact⟨rfl,HB.out.drew⟩
 obtain⟨k,rfl⟩:∃j,k=j+1:=⟨k-1,by omega⟩;obtain⟨bw,ow,eW,aO,y0,y1,y2,y3,y4,y5,y6⟩:=ly.row k (by omega);subst eW;have sr:x.word.getD k default=x.word[k]'(by omega):=zw (by omega) default;obtain⟨F,WM,WO⟩:=tW _ (Le (by omega:k<x.word.length));rw[WM] at y6
 have oE:(decide (0<k+1)&&((x.word.getD (k+1-1) default).f).toNat.testBit q)=F.testBit q:=by
  rw[NE,sr,WM,Lo];simp
 rw[oE];have aQ:=gj WO KO;obtain⟨bt,rP⟩:=Kk (F.testBit q);rw[rP] at aQ ⊢;obtain⟨nw,U1⟩:=Kk x.word.length;rw[U1] at x1 Dv;have dS:decide (((k+1:Nat):Int)>0)=Au:=Lw (by omega);have Dx:IntKind.i64.wrap (((k+1:Nat):Int)-1)=(k:Int):=by have:=BD.k6;rw[Ll];omega
 have h3:(0:Int)<=(k:Int):=by omega
 have h4:(k:Int)<(nw:Int):=by omega
 have hoi0:(0:Int)<=(q:Int):=by omega
 have WL:(0:Int)<=(F:Int):=by omega
 have tM:min q 64=q:=by omega
 obtain⟨k1,aW⟩:∃k1:Int,((k+1:Nat):Int)=k1:=⟨_,rfl⟩;rw[aW] at dS Dx g1 ak ⊢;clear tW ly sr WM oE rP U1 y0 y1 y2 y3 y4 y5 BD Dv he aW hk;go_enter func116,ntmps116;go_wp2_with fail;rw[ak.out];refine zt [(0,Au),(1,Au),(2,Au),(3,Au),(4,Au),(5,Au),(6,Au),(7,Au),(8,Au),(9,Au),(10,Au),(11,Au),(12,Au),(13,Au),(14,Au),(15,Au),(16,Au),(17,Au),(18,Au),(19,Au),(20,Au),(21,Au),(22,Au),(23,Au)] (fun X=>X=w1.drew) (by kernel_rfl) (by kernel_rfl) rfl ?_
 repeat
  apply zj rfl
  . rintro K' aa X rfl
    go_simp;exact aa
 refine zy ?_;go_wp2_with fail;go_ret;exact⟨rfl,HB.out.drew⟩
theorem at5_any(s:Sy)(h:Fh)(e k:Nat)(he:e<s.xs.length)(K N q u:Nat)(BD:Fine s K N)(hk:k<=K)(hq:q<N)(nJ:h.p=(q:Int))(hu:xw s.xs[e] k q=(u:Int))(Ky:u<s.vs.length)(cS:h.op=5)(A SV AV AX AF AR:Bb)(kc ks kv kx lf cf:Nat)(out:List Int)(cr bS bF bR bH bV bI gH:Nat)(w:Ba)
  (hW:AtW s A SV AV AX kc ks kv kx h AF lf cf out AR cr bS bF bR bH bV bI gH w) (pP:0<out.length->out.length=s.vs.length) :
  An Al 117 #[Ai #[O U (e:Int),O U (k:Int)],Aj (J ⟨bR,0,Z⟩),Aj (J ⟨bV,0,Z⟩),Aj (J ⟨bF,0,Z⟩)] w fun r w'=>r=Ak (Ah (xH s out h (e,k)))/\Am w.heap.size w w':=by
 obtain⟨w1,ae,d0,aw,hB⟩:=zm w #[O U (e:Int),O U (k:Int)] 178
 have hE:xH s out h (e,k)=(decide (0<out.length)&&decide (out.getD u 0=h.v)):=by
  unfold xH;rw[Lg (by rw[cS];decide),Lg (by rw[cS];decide),Lg (by rw[cS];decide),Lg (by rw[cS];decide),Lg (by rw[cS];decide),Lj cS];dsimp only;rw[zw he,nJ,Lo,hu,Lo]
 rw[hE];have hC:=atv_any s K N BD h e k q he hk hq nJ A SV AV AX AF AR kc ks kv kx lf cf out cr bS bF bR bH bV bI gH w1.drew (hW.keep hB.drew);rw[hu] at hC;have HC:=zH hC;have hF:=hW.hF;unfold fcs at hF;obtain⟨vv,sY⟩:=Kk h.v;rw[sY] at hF ⊢;have ly:=hW.hR;have Ea:=hW.hV;have lF:=zk hF;have lR:=zk ly;have lV:=zk Ea;have US:=hW.ro;have ak:=zH ae
 by_cases h0:out.length=0
 . have hE0:(decide (0<out.length)&&decide (out.getD u 0=vv))=Aw:=by rw[h0];simp
   rw[hE0];have r0:=zh (Lb hB lR ly) 0 rfl;rw[show(#[I AR out.length cr]:Array Ar)[0]=I AR 0 cr by rw[h0];rfl] at r0;have HB:=zH hB;clear ae d0 hB hW hF ly Ea hE cS nJ he aw hu BD hC hk hq sY US HC hE0 pP h0;go_enter func117,ntmps117;go_wp2_with fail;rw[ak.out];go_quiet (fail);go_wp2_with fail;go_ret;exact⟨rfl,yv HB.out _⟩
 have KT:=pP (by omega);obtain⟨b0,o0,eR,lL,z0⟩:=US.at_ u (by omega);subst eR;obtain⟨y,hy⟩:=Kk (out[u]'(by omega));rw[hy] at z0;have lz:(decide (0<out.length)&&decide (out.getD u 0=vv))=decide (y=vv):=by rw[Lw (by omega:0<out.length),Nn,zw (by omega:u<out.length),hy]
 rw[lz];obtain⟨n,hn⟩:=Kk out.length;rw[hn] at ly h0 KT
 have ai:Aq (∀X,Am w1.heap.size w1 X->X.heap[bF]?=J (Ag #[O U h.op,O U h.p,O U h.o,O U vv,O U h.g,I AF lf cf] 32 (0,0))/\X.heap[bR]?=J (Ag #[I (J ⟨b0,o0,Z⟩) n cr] 52 (0,0))/\X.heap[bV]?=J (Ag #[.func (.func 110) #[] #[Aj (J ⟨bS,0,Z⟩),Aj (J ⟨bF,0,Z⟩)]] 179 (0,0))/\X.heap[w.heap.size]?=J (Ag #[O U (e:Int),O U (k:Int)] 178 (0,0))):=
  fun X hX=>⟨Lb hX (by omega) (Lb hB lF hF),Lb hX (by omega) (Lb hB lR ly),Lb hX (by omega) (Lb hB lV Ea),Lb hX (by omega) d0⟩
 have oG:Aq (∀X,Am w1.heap.size w1 X->X.cell? ⟨b0,o0+u,Z⟩=J (O U y)):=fun X hX=>(hX.cell (p:=⟨b0,o0+u,Z⟩) (by show b0<w1.heap.size;omega)).trans ((hB.cell (p:=⟨b0,o0+u,Z⟩) lL).trans z0)
 have HB:=zH hB;have h5:(0:Int)<=(u:Int):=by omega
 have h6:(u:Int)<(n:Int):=by omega
 have dG:decide ((n:Int)>0)=Au:=Lw (by omega);have sZ:(0:Int)<(n:Int):=by omega
 have hn3:0<n:=by omega
 clear ae d0 hB hW hF ly Ea hE cS nJ he aw hu BD hC hk hq sY US lz pP KT hy hn z0;go_enter func117,ntmps117;go_wp2_with fail;rw[ak.out];refine zt [(0,Au),(1,Au),(2,Au),(3,Au),(4,Au),(5,Au),(6,Au),(7,Au),(8,Au),(12,Au),(13,Au),(9,Aw),(10,Aw),(11,Aw),(14,Aw),(15,Aw),(16,Aw)] (fun X=>X.heap[bF]?=J (Ag #[O U h.op,O U h.p,O U h.o,O U vv,O U h.g,I AF lf cf] 32 (0,0))/\X.heap[bR]?=J (Ag #[I (J ⟨b0,o0,Z⟩) n cr] 52 (0,0))/\X.heap[bV]?=J (Ag #[.func (.func 110) #[] #[Aj (J ⟨bS,0,Z⟩),Aj (J ⟨bF,0,Z⟩)]] 179 (0,0))/\X.heap[w.heap.size]?=J (Ag #[O U (e:Int),O U (k:Int)] 178 (0,0))) (by kernel_rfl) (by kernel_rfl) (ai.out _ (Li _ _).drew) ?_
 repeat
  apply zj rfl
  . rintro K' aa X ⟨u1,u2,u3,u4⟩
    have q3:=zh u1 3 rfl;have j0:=zh u2 0 rfl;have i0:=zh u3 0 rfl;obtain⟨g0,g1,_⟩:=Ke u4;clear u1 u2 u3 u4;go_simp;exact aa
 refine zn rfl ?_;intro K' aa;go_simp;refine HC.out.mono ?_;rintro r w5 ⟨rfl,aj⟩;have aj:Am w1.heap.size w1 w5:=(Li _ w1).drew.trans (aj.mono (Ld _));have aK:=zH (Lc HB.out aj);have lQ:=zH (ai.out w5 aj);have z4:=oG.out w5 aj;refine aa _ _ lQ.out ?_;refine zn rfl ?_;intro K' aa;go_simp;refine aa _ _ lQ.out ?_;refine zn rfl ?_;intro K' aa;go_simp;refine aa _ _ lQ.out ?_;refine zn rfl ?_;intro K' aa;go_simp;refine aa _ _ lQ.out ?_;refine zn rfl ?_;intro K' aa;go_simp;refine aa _ _ lQ.out ?_;refine zn rfl ?_;intro K' aa;go_simp;refine aa _ _ lQ.out ?_;refine zy ?_;go_wp2_with fail;go_ret;exact⟨zz (by first | rfl | simp),aK.out⟩
theorem at6_any(s:Sy)(h:Fh)(e k:Nat)(_he:e<s.xs.length)(cS:h.op=6)(A SV AV AX AF AR:Bb)(kc ks kv kx lf cf:Nat)(out:List Int)(cr bS bF bR bH bV bI gH:Nat)(w:Ba)
  (hW:AtW s A SV AV AX kc ks kv kx h AF lf cf out AR cr bS bF bR bH bV bI gH w) :
  An Al 118 #[Ai #[O U (e:Int),O U (k:Int)],Aj (J ⟨bF,0,Z⟩)] w fun r w'=>r=Ak (Ah (xH s out h (e,k)))/\Am w.heap.size w w':=by
 obtain⟨w1,ae,d0,aw,hB⟩:=zm w #[O U (e:Int),O U (k:Int)] 178
 have hE:xH s out h (e,k)=decide ((k:Int)=h.v):=by
  unfold xH;rw[Lg (by rw[cS];decide),Lg (by rw[cS];decide),Lg (by rw[cS];decide),Lg (by rw[cS];decide),Lg (by rw[cS];decide),Lg (by rw[cS];decide)]
 rw[hE];have hF:=hW.hF;unfold fcs at hF;obtain⟨vv,sY⟩:=Kk h.v;rw[sY] at hF ⊢;have lF:=zk hF;have q3:=zh (Lb hB lF hF) 3 rfl;have g1:=zh d0 1 rfl;have ak:=zH ae;have HB:=zH hB;clear ae d0 hB hW hF hE cS sY _he;go_enter func118,ntmps118;go_upto_region 1 with fail
 rw[ak.out];go_wp2_with fail;go_ret;exact⟨zz (by first | rfl | simp),HB.out⟩
end
section
open Go.RowKit Go.Shelf
def atG(bS bF bR bH bV bI:Nat):Int->Option Ar:=
 ql (ql (ql (ql (ql (ql (ql (fun _=>Z) 0 (.func (.func 112) #[] #[])) 1 (.func (.func 113) #[] #[Aj (J ⟨bI,0,Z⟩),Aj (J ⟨bF,0,Z⟩)]))
  2 (.func (.func 114) #[] #[Aj (J ⟨bI,0,Z⟩),Aj (J ⟨bF,0,Z⟩)])) 3 (.func (.func 115) #[] #[Aj (J ⟨bH,0,Z⟩),Aj (J ⟨bV,0,Z⟩),Aj (J ⟨bF,0,Z⟩)]))
  4 (.func (.func 116) #[] #[Aj (J ⟨bS,0,Z⟩),Aj (J ⟨bF,0,Z⟩)])) 5 (.func (.func 117) #[] #[Aj (J ⟨bR,0,Z⟩),Aj (J ⟨bV,0,Z⟩),Aj (J ⟨bF,0,Z⟩)]))
  6 (.func (.func 118) #[] #[Aj (J ⟨bF,0,Z⟩)])
theorem fault_nat{r:Rd}{N:Nat}(h:yi r=0)(hn:r.n=(N:Int))(h5:N<=5):∃F:Nat,r.f=(F:Int)/\F<32:=by
 unfold yi at h
 split at h
 . rename_i bC;exact absurd h bC
 unfold yZ at h
 split at h
 . cases h
 split at h
 . cases h
 rename_i h2;obtain⟨F,hF⟩:=Ls (show 0<=r.f by omega);refine⟨F,hF,?_⟩;have h4:((2^r.n.toNat:Nat):Int)=(2:Int)^r.n.toNat:=by push_cast;rfl
 have h3:r.f<((2^r.n.toNat:Nat):Int):=by first | omega | (rw[h4];omega)
 rw[hF,hn,Lo] at h3;have:=Nk (n:=2) (by omega) h5;omega
theorem atom_fn{s:Sy}{K N:Nat}(hF:Fine s K N)(hS:Sees s K N)(hl:LowV s.vs)(Bu:∀c∈s.p.t.cases,c.inp.length=N){out:List Int}(pP:0<out.length->out.length=s.vs.length){h:Fh}(ok:AtmOk N h)
  (A SV AV AX AF AR:Bb) (kc ks kv kx lf cf cr bS bF bR bH bV bI gH:Nat) :
  ∃kf kb,atG bS bF bR bH bV bI h.op=J (.func (.func kf) #[] kb)/\Enters Al kf/\∀x∈zu (K+1) 0 s.xs.length,∀W,AtW s A SV AV AX kc ks kv kx h AF lf cf out AR cr bS bF bR bH bV bI gH W ->
   An Al kf (#[Ai #[O U x.1,O U x.2]]++kb) W fun r w'=>r=Ak (Ah (xH s out h x))/\Am W.heap.size W w':=by
 have h0:=ok.op0;have h6:=ok.op6;have lp:=hF.n5
 have hx:∀x∈zu (K+1) 0 s.xs.length,∃he:x.1<s.xs.length,x.2<=K/\∃c:Nat,s.xs[x.1].c=(c:Int)/\c<s.p.t.cases.length/\(yy s.p c).length=N:=fun x hx=>by
  obtain⟨_,h1,h2⟩:=xW _ _ x hx;have he:x.1<s.xs.length:=by omega
  obtain⟨c,hc,bn,_⟩:=hS.cs _ (Le he);refine⟨he,by omega,c,hc,bn,?_⟩;unfold yy;rw[Lh,Lm bn];exact Bu _ (Le bn)
 rcases(by omega:h.op=0\/h.op=1\/h.op=2\/h.op=3\/h.op=4\/h.op=5\/h.op=6) with e | e | e | e | e | e | e
 . refine⟨_,_,by rw[e];exact rfl,NC func112 (by kernel_rfl) rfl,fun x lk W hW=>?_⟩
   obtain⟨he,hk,c,hc,bn,tc⟩:=hx x lk;exact at0_any s h x.1 x.2 he e A SV AV AX AF AR kc ks kv kx lf cf out cr bS bF bR bH bV bI gH W hW
 . refine⟨_,_,by rw[e];exact rfl,NC func113 (by kernel_rfl) rfl,fun x lk W hW=>?_⟩
   obtain⟨he,hk,c,hc,bn,tc⟩:=hx x lk;obtain⟨mB,KR⟩:=ok.p (.inl e);obtain⟨q,hq⟩:=Ls mB;exact at1_any s h x.1 x.2 he c q hc bn (by omega) hq e A SV AV AX AF AR kc ks kv kx lf cf out cr bS bF bR bH bV bI gH W hW
 . refine⟨_,_,by rw[e];exact rfl,NC func114 (by kernel_rfl) rfl,fun x lk W hW=>?_⟩
   obtain⟨he,hk,c,hc,bn,tc⟩:=hx x lk;exact at2_any s h x.1 x.2 he c hc bn (by omega) e A SV AV AX AF AR kc ks kv kx lf cf out cr bS bF bR bH bV bI gH W hW
 . refine⟨_,_,by rw[e];exact rfl,NC func115 (by kernel_rfl) rfl,fun x lk W hW=>?_⟩
   obtain⟨he,hk,c,hc,bn,tc⟩:=hx x lk;obtain⟨mB,KR⟩:=ok.p (.inr (.inl e));obtain⟨q,hq⟩:=Ls mB;obtain⟨ho0,hoN⟩:=ok.o e;obtain⟨o,ho⟩:=Ls ho0;have Ch:=Le he;obtain⟨S,e1,e2,_⟩:=hrd_view hF hS hl Ch x.2 hk q (by omega);obtain⟨v,hv,_⟩:=hS.pr Ch hk (show q<N by omega);have ac:=hv.lt;obtain⟨u,hu⟩:=Ls ac.1;rw[hu,Lo] at e1;exact at3_any s h x.1 x.2 he K N q o S u hF hk (by omega) hq ho (by omega) hu (by omega) e1 e2 e A SV AV AX AF AR kc ks kv kx lf cf out cr bS bF bR bH bV bI gH W hW
 . refine⟨_,_,by rw[e];exact rfl,NC func116 (by kernel_rfl) rfl,fun x lk W hW=>?_⟩
   obtain⟨he,hk,c,hc,bn,tc⟩:=hx x lk;obtain⟨mB,KR⟩:=ok.p (.inr (.inr (.inl e)));obtain⟨q,hq⟩:=Ls mB
   exact at4_any s h x.1 x.2 he K N q hF hk (by omega) hq (fun r hr=>by
    obtain⟨iV,iC⟩:=(hF.word _ (Le he)).2 r hr
    exact fault_nat iV iC lp) e A SV AV AX AF AR kc ks kv kx lf cf out cr bS bF bR bH bV bI gH W hW
 . refine⟨_,_,by rw[e];exact rfl,NC func117 (by kernel_rfl) rfl,fun x lk W hW=>?_⟩
   obtain⟨he,hk,c,hc,bn,tc⟩:=hx x lk;obtain⟨mB,KR⟩:=ok.p (.inr (.inr (.inr e)));obtain⟨q,hq⟩:=Ls mB;have Ch:=Le he;obtain⟨v,hv,_⟩:=hS.pr Ch hk (show q<N by omega);have ac:=hv.lt;obtain⟨u,hu⟩:=Ls ac.1;exact at5_any s h x.1 x.2 he K N q u hF hk (by omega) hq hu (by omega) e A SV AV AX AF AR kc ks kv kx lf cf out cr bS bF bR bH bV bI gH W hW pP
 refine⟨_,_,by rw[e];exact rfl,NC func118 (by kernel_rfl) rfl,fun x lk W hW=>?_⟩;obtain⟨he,hk,c,hc,bn,tc⟩:=hx x lk;exact at6_any s h x.1 x.2 he e A SV AV AX AF AR kc ks kv kx lf cf out cr bS bF bR bH bV bI gH W hW
end
section
open Go.RowKit Go.Shelf
theorem gT{K:Kd}{w:Ba}{ab:Nat}{v:Ar}{n:Nat}{cs:List Ar}(h:OwnR K w ab v n cs):∀r,v.ownBlock=J r->∀o,w.heap[r]?=J o->o.isCells=Au:=by
 intro r hr o ho;rcases h.2 with ⟨rfl,_⟩ | ⟨g,cap,cur,rfl,_,hg,_⟩
 . cases hr
 have e:g=r:=by injection hr
 subst e;rw[hg] at ho
 cases ho
 rfl
structure AtIn(b:Nat)(bs:List Bool)(w0 W:Ba):Prop where
 wrote:Wrote (fun z=>z=b) w0 W
 box:∃P c,W.heap[b]?=J (Ag #[I P bs.length c] 58 (0,0))/\OwnR kBl W w0.heap.size (I P bs.length c) bs.length (bs.map .bool)
section
variable {b:Nat} {bs:List Bool} {w0 W W':Ba}
theorem AtIn.turn{row:Option Nat}(h:AtIn b bs w0 W)(hb:b<w0.heap.size)(hg:W.grownBy W' row)(hr:∀r,row=J r->w0.heap.size<=r/\∃o:Obj,W.heap[r]?=J o/\o.isCells=Aw):AtIn b bs w0 W':=by
 obtain⟨P,c,hx,ho⟩:=h.box;have bL:=h.wrote.size;refine⟨h.wrote.trans (Wrote.of_grown (R:=fun k=>w0.heap.size<=k) hg (fun k e hk=>(hr k e).1)) (fun k h1 h2=>by omega),P,c,(hg.block b (by omega) (fun e=>by have:=(hr b e.symm).1;omega)).trans hx,ho.kept hg ?_⟩;rcases e:(I P bs.length c).ownBlock with _ | g
 . exact .inl rfl
 refine .inr fun e2=>?_
 obtain⟨o,h1,h2⟩:=(hr g e2.symm).2;have:=gT ho g e o h1;rw[this] at h2;cases h2
theorem AtIn.call(h:AtIn b bs w0 W)(hb:b<w0.heap.size)(hw:Am W.heap.size W W'):AtIn b bs w0 W':=by
 obtain⟨P,c,hx,ho⟩:=h.box;have bL:=h.wrote.size;exact⟨h.wrote.trans (Wrote.of_below hw) (fun _ _ h=>h),P,c,(hw.block b (by omega)).trans hx,ho.below hw (Ld _)⟩
theorem AtIn.push{P P2:Bb}{c c2:Nat}{v:Bool}{W1:Ba}(h:AtIn b bs w0 W)(hb:b<w0.heap.size)(hx:W.heap[b]?=J (Ag #[I P bs.length c] 58 (0,0)))(ho:OwnR kBl W w0.heap.size (I P bs.length c) bs.length (bs.map .bool))
  (pR:OwnR kBl W1 w0.heap.size (I P2 (bs.length+1) c2) (bs.length+1) (bs.map .bool++[Ah v])) (hg:W.grownBy W1 (I P bs.length c).ownBlock) :
  AtIn b (bs++[v]) w0 (W1.setCell ⟨b,0,Z⟩ (I P2 (bs.length+1) c2)):=by
 have bL:=h.wrote.size;have iW:=ho.lt;have aQ:=(hg.block b (by omega) (fun e=>by have:=(iW b e.symm).1;omega)).trans hx;obtain⟨x1,x2,x3⟩:=qK aQ (I P2 (bs.length+1) c2);have a1:Wrote (fun k=>w0.heap.size<=k) W W1:=Wrote.of_grown hg (fun k e hk=>(iW k e).1);have a2:Wrote (fun k=>k=b) W1 (W1.setCell ⟨b,0,Z⟩ (I P2 (bs.length+1) c2)):=Wrote.of_grown (zQ W1 _ 0 _) (fun k e hk=>by cases e;rfl);refine⟨(h.wrote.trans a1 (fun k h1 h2=>by omega)).trans a2 (fun _ _ h=>h),P2,c2,by rw[Lv];exact x1,?_⟩;rw[Lv,LK];refine OwnR.kept (row:=J b) pR (zQ W1 b 0 _) ?_;rcases e:(I P2 (bs.length+1) c2).ownBlock with _ | g
 . exact .inl rfl
 exact .inr fun e2 => by
  have:=(pR.lt g e).1
  cases e2
  omega
theorem AtIn.keeps{P:Bb}{c bi:Nat}{W1:Ba}(h:AtIn b bs w0 W)(hb:b<w0.heap.size)(hi:bi<w0.heap.size)(bC:bi≠b)(hx:W.heap[b]?=J (Ag #[I P bs.length c] 58 (0,0)))(ho:OwnR kBl W w0.heap.size (I P bs.length c) bs.length (bs.map .bool))
  (hg:W.grownBy W1 (I P bs.length c).ownBlock) (v:Ar):KeepsFrom w0.heap.size W (W1.setCell ⟨b,0,Z⟩ v)/\KeepB (fun k=>k=bi) W (W1.setCell ⟨b,0,Z⟩ v):=by
 have iW:=ho.lt;have bL:=h.wrote.size;have aw:=hg.size;have aQ:=(hg.block b (by omega) (fun e=>by have:=(iW _ e.symm).1;omega)).trans hx;obtain⟨x1,x2,x3⟩:=qK aQ v;refine⟨⟨by simp[World.setCell];omega,fun k o hk aW pR=>?_⟩,⟨by simp[World.setCell];omega,fun k hk hl=>?_⟩⟩
 . refine(x3 k (by omega)).trans ((hg.block k (zk aW) (fun e=>?_)).trans aW)
   have:=gT ho k e.symm o aW;rw[this] at pR;cases pR
 subst hk;exact(x3 _ (by omega)).trans (hg.block _ (by omega) (fun e=>by have:=(iW _ e.symm).1;omega))
end
end
section
open Go.RowKit Go.Shelf
attribute [local go_sem] Oper.semAt_some
theorem blk_lt'{w:Ba}{b:Nat}{o:Obj}(h:w.heap[b]?=J o):b<w.heap.size:=(Ln.1 h).1
def RetBN(xs:List Bool)(n:Int)(w:Ba)(e:Ending)(w':Ba):Prop:=∃A c,e=Ak (.tuple #[I A xs.length c,O U n])/\OwnR kBl w' w.heap.size (I A xs.length c) xs.length (xs.map .bool)/\Am w.heap.size w w'
theorem atomN_any(s:Sy)(hs:LowS s)(hf:xu s.p)(out:List Int)(d:Nat)(f:Fm)(bL:(zL d f).1<=1000000)(A SV AV AX AF AR:Bb)(kc ks kv kx cf cr:Nat)(w:Ba)(hS:SyAt w w.heap.size A SV AV AX s)(hO:IAt w w.heap.size AR out)(hA:FsAt w w.heap.size d AF f.args) :
  An Al 62 #[.agg (s.vs_ A kc SV ks AV kv AX kx),Ai #[I AR out.length cr],.agg (f.vs AF cf)] w (RetBN (atmE s out d f).1 (atmE s out d f).2 w):=by
 obtain⟨wa,ec,da,ie,mc⟩:=zm w (s.vs_ A kc SV ks AV kv AX kx) 39;obtain⟨wb,fj,db,fM,iH⟩:=zm wa #[I AR out.length cr] 52;obtain⟨w1,ae,dc,oA,fz⟩:=zm wb (f.vs AF cf) 32;have hB:Am w.heap.size w w1:=(mc.trans (iH.mono (by omega))).trans (fz.mono (by omega));have da:w1.heap[w.heap.size]?=J (Ag (s.vs_ A kc SV ks AV kv AX kx) 39 (0,0)):=Lb fz (by omega) (Lb iH (by omega) da);have db:w1.heap[w.heap.size+1]?=J (Ag #[I AR out.length cr] 52 (0,0)):=by rw[<-ie];exact Lb fz (by omega) db
 have dc:w1.heap[w.heap.size+1+1]?=J (Ag (f.vs AF cf) 32 (0,0)):=by rw[<-ie,<-fM];exact dc
 have cY:w1.heap.size=w.heap.size+3:=by omega
 have HV:=zH (uv s hs hf A SV AV AX kc ks kv kx w1 (hS.up hB));have HE:Aq (atmE s out d f=if zZ s≠0 then ([],zZ s) else if 0<out.length/\out.length≠s.vs.length then ([],15) else if qw s.n d f≠0 then ([],qw s.n d f) else if 0<f.args.length then ([],11) else (jl s out f.h,0)):=rfl;have mR:=zH (fun h=>yG hf h);have nn:=zH (fun (N:Nat) (hn:s.n=(N:Int)) (h:qw s.n d f=0) (ha:f.args.length=0)=>atm_ok hn h ha);have pG:=zH (fun (X:Ba) (hX:Am w1.heap.size w1 X)=>ui s.n d f AF cf X ((hA.keep (Lc hB hX)).more (Lc hB hX).size) bL);have ia:Aq (∀X,Am w1.heap.size w1 X->SyAt X X.heap.size A SV AV AX s):=fun X hX=>(hS.up hB).up hX
 have BK:Aq (∀X,Am w1.heap.size w1 X->IAt X X.heap.size AR out):=fun X hX=>(hO.keep (Lc hB hX)).more (Lc hB hX).size
 have pF:Aq (∀c,zZ s=0->c∈s.p.t.cases->(c.inp.length:Int)=s.p.t.n):=fun c h hc=>by
  obtain⟨lL,_⟩:=yG hf h
  have mB:zV s.p=0:=by
   by_cases h0:zV s.p=0
   . exact h0
   . unfold zZ at h
     rw[xm h0] at h;simp[h0] at h
  exact ZP (yg mB).1 c hc
 have Hf:=zH (fun (h:zZ s=0)=>(by
  have h1:=(yG hf h).1
  rw[h1];exact built_asc _:LowV s.vs))
 have sH:=zH (fun (K N:Nat) (hF:Fine s K N) (h:zZ s=0)=>(by
  have h1:=(yG hf h).1;have h2:=hF;rw[h1] at h2 ⊢
  exact YJ h2:Sees s K N))
 have oo:=zH (fun (K:Nat) (h:s.p.k=(K:Int))=>(by unfold jl;rw[h];rfl:jl s out f.h=(zu (K+1) 0 s.xs.length).map (xH s out f.h)));obtain⟨E,hE⟩:=Kk (atmE s out d f);rw[hE] at HE ⊢;obtain⟨r,hr⟩:=Kk (zZ s);rw[hr] at HV HE mR Hf sH pF;unfold Sy.vs_ at ec da HV ⊢;unfold Fm.vs at ae dc pG ⊢;have ak:Aq (((w.alloc (Ag #[O U s.p.t.n,O U s.p.t.ins,O U s.p.t.outs,I A s.p.t.cases.length kc,O U s.p.a.n,I SV s.p.a.sts.length ks,O U s.p.k,O U s.n,I AV s.vs.length kv,I AX s.xs.length kx] 39)).alloc (Ag #[I AR out.length cr] 52)).alloc (Ag #[O U f.h.op,O U f.h.p,O U f.h.o,O U f.h.v,O U f.h.g,I AF f.args.length cf] 32)=w1):=by rw[Aq,ec,fj,ae]
 have HB:=zH hB
 have aY:Aq (∀X,Am w1.heap.size w1 X->X.heap[w.heap.size]?=J (Ag #[O U s.p.t.n,O U s.p.t.ins,O U s.p.t.outs,I A s.p.t.cases.length kc,O U s.p.a.n,I SV s.p.a.sts.length ks,O U s.p.k,O U s.n,I AV s.vs.length kv,I AX s.xs.length kx] 39 (0,0))/\X.heap[w.heap.size+1]?=J (Ag #[I AR out.length cr] 52 (0,0))/\X.heap[w.heap.size+1+1]?=J (Ag #[O U f.h.op,O U f.h.p,O U f.h.o,O U f.h.v,O U f.h.g,I AF f.args.length cf] 32 (0,0))):=
  fun X hX=>⟨Lb hX (by omega) da,Lb hX (by omega) db,Lb hX (by omega) dc⟩
 have Tl:=zH cY;have G1:Aq (Am w1.heap.size w1 w1):=Li _ _;clear ec fj ae da db dc ie fM oA mc iH fz hB cY hS hO hA bL hE hs;obtain⟨D0,D1,D2⟩:=aY.out _ G1.out;obtain⟨p0,p1,p2,p3,p4,p5,p6,p7,p8,p9⟩:=zK (D0);clear D0 D1 D2;refine yr func62 rfl ?_;simp only[ntmps62,List.size_toArray,List.length_cons,List.length_nil,Nat.reduceAdd,Nat.reduceSub,Array.replicate_succ,Array.replicate_zero,List.push_toArray,List.append_toArray,List.nil_append,List.cons_append];go_wp2_with fail;rw[ak.out];go_wp2_with fail;refine HV.out.mono ?_;rintro e w2 ⟨rfl,ah⟩;have G2:=zH (Lc G1.out ah)
 by_cases h0:r=0
 case neg=>
  have hR:Aq (E=([],r)):=HE.out.trans (Lj h0);have e0:(r != 0)=Au:=by simpa using h0
  have cF:=zH (Lc HB.out G2.out);clear HE mR nn pG ia BK pF Hf sH oo aY;go_wp2_with fail;refine yU (Marks.nil w.heap.size _) (v:=.tuple #[I Z 0 0,O U r]) (fun W=>by kernel_rfl) ?_;intro X hX;rw[hR.out];exact⟨Z,0,rfl,OwnR.nil _ _ _,cF.out.trans hX.below⟩
 subst h0;have am:=zH (HE.out.trans (Lg (by simp)));obtain⟨fM,K,N,hF⟩:=mR.out rfl;clear fM;have IP:=zH (sH.out K N hF rfl);have ru:=zH (Hf.out rfl);have mH:Aq (∀c∈s.p.t.cases,c.inp.length=N):=fun c hc=>by have h1:=pF.out c rfl hc;have:=hF.pn;omega
 have sM:=zH hF;have nZ:=zH (nn.out N hF.n);have sJ:=zH (oo.out K hF.k);have hlv:=hF.lv;clear HE mR Hf sH pF nn oo hF hr;obtain⟨D0,D1,D2⟩:=aY.out _ G2.out;have p8:=zh D0 8 rfl;have r0:=zh D1 0 rfl;clear D0 D1 D2;go_upto_region 4 with fail
 by_cases dI:0<out.length/\out.length≠s.vs.length
 case pos=>
  have hR:Aq (E=([],15)):=am.out.trans (Lj dI);have e0:((out.length:Int) != 0)=Au:=by simp;intro h;rw[h] at dI;simp at dI
  have e1:((out.length:Int) != (s.vs.length:Int))=Au:=by simp;omega
  have e2:¬out=[]:=by rintro rfl;simp at dI
  have e3:¬(out.length:Int)=0:=by omega
  have e4:¬(out.length:Int)=(s.vs.length:Int):=by omega
  have e5:¬out.length=s.vs.length:=by omega
  have cF:=zH (Lc HB.out G2.out);clear am pG ia BK mH sM nZ sJ IP ru aY dI;go_wp2_with fail;refine yU (Marks.nil w.heap.size _) (v:=.tuple #[I Z 0 0,O U 15]) (fun W=>by kernel_rfl) ?_;intro X hX;rw[hR.out];exact⟨Z,0,rfl,OwnR.nil _ _ _,cF.out.trans hX.below⟩
 have aM:=zH (am.out.trans (Lg dI));have Ha:Aq (0<out.length->out.length=s.vs.length):=fun h=>Decidable.byContradiction fun e=>dI ⟨h,e⟩
 go_cut [1,34] from 16 (fun s1 s34 wx=>s1=Ai #[I AR out.length cr]/\s34=Ah Aw/\wx=w2)
 case first=>
  have ah:out.length=0\/out.length=s.vs.length:=by omega
  by_cases h1:out.length=0
  . have e0:((out.length:Int) != 0)=Aw:=by simp[h1]
    clear dI ah h1 Ha pG ia BK mH sM nZ sJ IP ru aY aM hlv;go_wp2_with fail
    go_meet
    exact⟨rfl,rfl,rfl⟩
  have e0:((out.length:Int) != 0)=Au:=by simp;intro h;rw[h] at h1;simp at h1
  have e1:((out.length:Int) != (s.vs.length:Int))=Aw:=by simp;omega
  clear dI ah h1 Ha pG ia BK mH sM nZ sJ IP ru aY aM hlv;go_wp2_with fail
  go_meet
  exact⟨rfl,rfl,rfl⟩
 case rest=>
 obtain⟨rfl,rfl,rfl⟩:=hcut;clear p8 r0 dI;have HC:=zH (pG.out _ G2.out);obtain⟨q,hq⟩:=Kk (qw s.n d f);rw[hq] at HC aM nZ;obtain⟨D0,D1,D2⟩:=aY.out _ G2.out;have p7:=zh D0 7 rfl;obtain⟨q0,q1,q2,q3,q4,q5,_⟩:=Ki (D2);clear D0 D1 D2 pG hq;go_wp2_with fail;refine HC.out.mono ?_;rintro e w3 ⟨rfl,al⟩;have G3:=zH (Lc G2.out al)
 by_cases h0:q=0
 case neg=>
  have hR:Aq (E=([],q)):=aM.out.trans (Lj h0);have cF:=zH (Lc HB.out G3.out);go_wp2_with fail;refine yU (Marks.nil w.heap.size _) (v:=.tuple #[I Z 0 0,O U q]) (fun W=>by kernel_rfl) ?_;intro X hX;rw[hR.out];exact⟨Z,0,rfl,OwnR.nil _ _ _,cF.out.trans hX.below⟩
 subst h0;have dR:=zH (aM.out.trans (Lg (by simp)));obtain⟨D0,D1,D2⟩:=aY.out _ G3.out;have q5:=zh D2 5 rfl;clear D0 D1 D2 aM
 by_cases hla:0<f.args.length
 case pos=>
  have hR:Aq (E=([],11)):=dR.out.trans (Lj hla);have e0:((f.args.length:Int)>0)=True:=eq_true (by omega);have e1:(0:Int)<(f.args.length:Int):=by omega
  have cF:=zH (Lc HB.out G3.out);clear dR ia BK mH sM nZ sJ IP ru aY Ha;go_wp2_with fail;refine yU (Marks.nil w.heap.size _) (v:=.tuple #[I Z 0 0,O U 11]) (fun W=>by kernel_rfl) ?_;intro X hX;rw[hR.out];exact⟨Z,0,rfl,OwnR.nil _ _ _,cF.out.trans hX.below⟩
 have hR:Aq (E=(jl s out f.h,0)):=dR.out.trans (Lg hla);have HAO:=zH (nZ.out rfl (by omega));have e1:¬(0:Int)<(f.args.length:Int):=by omega
 have HPH:=zH (pheard_any s sM.out.lv (fun v hv=>by
  obtain⟨⟨pq,h1,h2⟩,_⟩:=sM.out.vs v hv;refine⟨⟨pq,h1,by have:=sM.out.n5;omega⟩,fun j hj=>?_⟩;obtain⟨i,hi,rfl⟩:=LP hv;have:=ru.out i hi j hj
  omega) A SV AV AX kc ks kv kx w3 (ia.out _ G3.out).fv)
 unfold Sy.vs_ at HPH;obtain⟨D0,D1,D2⟩:=aY.out _ G3.out;obtain⟨p0,p1,p2,p3,p4,p5,p6,p7,p8,p9⟩:=zK (D0);clear D0 D1 D2 dR nZ;go_wp2_with fail;refine HPH.out.mono ?_;rintro e w4 ⟨gH,rfl,hgH,Wm,aP⟩;have G4:=zH (Lc G3.out aP);have tC:w1.heap.size<=w4.heap.size:=G4.out.size;have SD:=Wm.lt;clear aP HPH p0 p1 p2 p3 p4 p5 p6 p7 p8 p9;go_upto_region 12 with fail
 obtain⟨w5,eU,d5,cZ,aj⟩:=zm w4 #[I (J ⟨gH,0,Z⟩) s.vs.length s.vs.length] 50;rw[eU];go_upto_region 13 with fail
 obtain⟨w6,sU,d6,fU,dj⟩:=zm w5 #[.func (.func 110) #[] #[Aj (J ⟨w.heap.size,0,Z⟩),Aj (J ⟨w.heap.size+1+1,0,Z⟩)]] 179;rw[sU];go_upto_region 14 with fail
 obtain⟨w7,lW,d7,fq,dk⟩:=zm w6 #[.func (.func 111) #[] #[Aj (J ⟨w.heap.size,0,Z⟩)]] 180;rw[lW];have ht:Al.underlying 182=J (.map 3 181):=underlying182;have K9:=@run_makeMap Al 182 w7;obtain⟨bH,VZ⟩:=Kk w4.heap.size;have e5:w5.heap.size=bH+1:=by omega
 have e6:w6.heap.size=bH+1+1:=by omega
 have e7:w7.heap.size=bH+1+1+1:=by omega
 have m0:MapOf (O U) (w7.alloc (.map #[] 0)) (bH+1+1+1) 0 (fun _=>Z):=by rw[<-e7];exact MapOf.made w7
 obtain⟨v1,u1,m1,g1⟩:=m0.put yO ht 0 (.func (.func 112) #[] #[]);obtain⟨v2,u2,m2,g2⟩:=m1.put yO ht 1 (.func (.func 113) #[] #[Aj (J ⟨bH+1+1,0,Z⟩),Aj (J ⟨w.heap.size+1+1,0,Z⟩)]);obtain⟨v3,u3,m3,g3⟩:=m2.put yO ht 2 (.func (.func 114) #[] #[Aj (J ⟨bH+1+1,0,Z⟩),Aj (J ⟨w.heap.size+1+1,0,Z⟩)]);obtain⟨v4,u4,m4,g4⟩:=m3.put yO ht 3 (.func (.func 115) #[] #[Aj (J ⟨bH,0,Z⟩),Aj (J ⟨bH+1,0,Z⟩),Aj (J ⟨w.heap.size+1+1,0,Z⟩)]);obtain⟨v5,u5,m5,g5⟩:=m4.put yO ht 4 (.func (.func 116) #[] #[Aj (J ⟨w.heap.size,0,Z⟩),Aj (J ⟨w.heap.size+1+1,0,Z⟩)]);obtain⟨v6,u6,m6,g6⟩:=m5.put yO ht 5 (.func (.func 117) #[] #[Aj (J ⟨w.heap.size+1,0,Z⟩),Aj (J ⟨bH+1,0,Z⟩),Aj (J ⟨w.heap.size+1+1,0,Z⟩)]);obtain⟨v7,u7,m7,g7⟩:=m6.put yO ht 6 (.func (.func 118) #[] #[Aj (J ⟨w.heap.size+1+1,0,Z⟩)])
 have EP:Aq (Wrote (fun z=>z=bH+1+1+1) (w7.alloc (.map #[] 0)) v7):=by
  have t1:=Wrote.of_grown (R:=fun z=>z=bH+1+1+1) g1 (fun k e _=>by cases e;rfl);have t2:=t1.trans (Wrote.of_grown (R:=fun z=>z=bH+1+1+1) g2 (fun k e _=>by cases e;rfl)) (fun _ _ h=>h);have t3:=t2.trans (Wrote.of_grown (R:=fun z=>z=bH+1+1+1) g3 (fun k e _=>by cases e;rfl)) (fun _ _ h=>h);have t4:=t3.trans (Wrote.of_grown (R:=fun z=>z=bH+1+1+1) g4 (fun k e _=>by cases e;rfl)) (fun _ _ h=>h);have t5:=t4.trans (Wrote.of_grown (R:=fun z=>z=bH+1+1+1) g5 (fun k e _=>by cases e;rfl)) (fun _ _ h=>h);have t6:=t5.trans (Wrote.of_grown (R:=fun z=>z=bH+1+1+1) g6 (fun k e _=>by cases e;rfl)) (fun _ _ h=>h);exact t6.trans (Wrote.of_grown (R:=fun z=>z=bH+1+1+1) g7 (fun k e _=>by cases e;rfl)) (fun _ _ h=>h)
 have HM7:Aq (MapOf (O U) v7 (bH+1+1+1) 7 (atG w.heap.size (w.heap.size+1+1) (w.heap.size+1) bH (bH+1) (bH+1+1))):=m7;clear m0 m1 m2 m3 m4 m5 m6 m7 g1 g2 g3 g4 g5 g6 g7;have ET:=zH d5;have tr:=zH d6;have HD7:=zH d7;have HRH:=zH Wm;have HS:=zH (And.intro cZ (And.intro fU fq));have cX:=zH (And.intro aj (And.intro dj dk));have tt:=zH (And.intro VZ (And.intro e5 (And.intro e6 e7)));have tC:=zH tC;have SD:=zH SD;clear d5 d6 d7 Wm cZ fU fq aj dj dk eU sU lW;simp only[VZ];rw[e7] at K9;clear VZ e5 e6 e7;go_upto_region 15 with fail
 obtain⟨w8,Dw,d8,nc,du⟩:=zm v7 #[.map (J (bH+1+1+1))] 182;rw[Dw];obtain⟨Tg,pY⟩:=Kk v7.heap.size;simp only[pY];have HS8:=zH nc;clear nc K9 u1 u2 u3 u4 u5 u6 u7 Dw;go_upto_region 16 with fail
 obtain⟨w9,Kt,d9,po,ey⟩:=zm w8 #[I Z 0 0] 58;rw[Kt];obtain⟨oF,u'⟩:=Kk w8.heap.size;simp only[u'];have Uu:w7.heap.size+1<=v7.heap.size:=by have:=EP.out.size;simpa using this
 obtain⟨e4,e5,e6,e7⟩:=tt.out;obtain⟨k5,k6,k7⟩:=cX.out;have B7:Am w7.heap.size w7 v7:=⟨EP.out.os,EP.out.tape,EP.out.output,by omega,fun k hk=>(EP.out.block k (by simp;omega) (by show ¬k=bH+1+1+1;omega)).trans ((zU w7 _).block k hk)⟩;have B8:Am w7.heap.size w7 w8:=B7.trans (du.mono (by omega));have B68:Am w6.heap.size w6 w8:=k7.trans (B8.mono (by omega));have B58:Am w5.heap.size w5 w8:=k6.trans (B68.mono (by omega));have B48:Am w4.heap.size w4 w8:=k5.trans (B58.mono (by omega));have Dt:=tC.out;have Ma:=SD.out;have G8:=zH (G4.out.trans (B48.mono Dt));have UP:=HS8.out
 have I6:Aq (AtW s A SV AV AX kc ks kv kx f.h AF f.args.length cf out AR cr w.heap.size (w.heap.size+1+1) (w.heap.size+1) bH (bH+1) (bH+1+1) gH w8):=by
  obtain⟨x1,x2,x3⟩:=aY.out _ G8.out;refine⟨(ia.out _ G8.out).fx,(ia.out _ G8.out).fc,BK.out _ G8.out,x1,x3,x2,?_,?_,?_,?_⟩
  . have:=ET.out;rw[e4] at this;exact Lb B58 (by omega) this
  . exact(B48.block gH Ma).trans HRH.out
  . have:=tr.out;rw[e5] at this;exact Lb B68 (by omega) this
  have:=HD7.out;rw[e6] at this;exact Lb B8 (by omega) this
 obtain⟨fD,Cj,d10,pL,de⟩:=zm w9 #[O U s.p.t.n,O U s.p.t.ins,O U s.p.t.outs,I A s.p.t.cases.length kc,O U s.p.a.n,I SV s.p.a.sts.length ks,O U s.p.k,O U s.n,I AV s.vs.length kv,I AX s.xs.length kx] 39;have Cg:oF+2=fD.heap.size:=by omega
 have ef:Aq (∀X,Wrote (fun z=>z=oF) fD X->AtW s A SV AV AX kc ks kv kx f.h AF f.args.length cf out AR cr w.heap.size (w.heap.size+1+1) (w.heap.size+1) bH (bH+1) (bH+1+1) gH X):=fun X hX=>I6.out.keep ⟨hX.os.trans (de.os.trans ey.os),hX.tape.trans (de.tape.trans ey.tape),hX.output.trans (de.output.trans ey.output),by have:=hX.size;omega,fun k hk=>(hX.block k (by omega) (by show ¬k=oF;omega)).trans ((de.block k (by omega)).trans (ey.block k (by omega)))⟩
 have HMP:Aq (∀X,Wrote (fun z=>z=oF) fD X->X.heap[Tg]?=J (Ag #[.map (J (bH+1+1+1))] 182 (0,0))/\X.heap[bH+1+1+1]?=v7.heap[bH+1+1+1]?/\X.heap[w.heap.size+1+1]?=J (Ag #[O U f.h.op,O U f.h.p,O U f.h.o,O U f.h.v,O U f.h.g,I AF f.args.length cf] 32 (0,0))):=fun X hX=>by
  have hk:∀k,k<oF->X.heap[k]?=w8.heap[k]?:=fun k hk=>(hX.block k (by omega) (by show ¬k=oF;omega)).trans ((de.block k (by omega)).trans (ey.block k (by omega)))
  refine⟨(hk Tg (by omega)).trans ?_,(hk _ (by omega)).trans (du.block _ (by omega)),?_⟩
  . rw[<-pY];exact d8
  . have h1:=Tl.out
    exact(hk _ (by omega)).trans (aY.out _ G8.out).2.2
 have h0I:AtIn oF [] fD fD:=⟨Wrote.refl _ _,Z,0,by rw[<-u'];exact Lb de (by omega) d9,OwnR.nil _ _ _⟩;have Be:=zH (atom_fn sM.out IP.out ru.out mH.out Ha.out HAO.out A SV AV AX AF AR kc ks kv kx f.args.length cf cr w.heap.size (w.heap.size+1+1) (w.heap.size+1) bH (bH+1) (bH+1+1) gH);obtain⟨kf,kb,Ga,ek,aJ⟩:=Be.out;have rC:=zH aJ;have HGO:=zH Ga;have EW:=zH (fun (X:Ba)=>Qd s A SV AV AX kc ks kv kx X)
 have aL:(zu (K+1) 0 s.xs.length).length<=20000:=by
  rw[kE (K+1) _ (by omega)];exact Lr (LV sM.out.lx (show K+1<=101 by have:=sM.out.k6;omega)) (by decide)
 have ib:=zH (gq (s.vs_ A kc SV ks AV kv AX kx) K s.xs.length (by have:=sM.out.k6;omega) (by have:=sM.out.lx;omega) AX kx ⟨by unfold Sy.vs_;rw[<-sM.out.k];rfl,by unfold Sy.vs_;rfl⟩ w9.heap.size fD d10);obtain⟨L,hL⟩:=Kk (zu (K+1) 0 s.xs.length);rw[hL] at ib rC aL sJ;unfold Sy.vs_ at EW
 have I8:Aq (Am w.heap.size w fD):=by
  have g9:=G8.out.trans (ey.mono (by have:=G8.out.size;omega));have g10:=g9.trans (de.mono (by have:=g9.size;omega));exact Lc HB.out g10
 have o7:Aq (w.heap.size+3<=oF):=by have:=G8.out.size;have:=Tl.out;rw[Aq];omega
 have HW10:=zH Cj;have H0I:=zH h0I;have AK:=zH Cg;have Ou:=zH po;have D9:=zH ((ey.block w.heap.size (by have:=G8.out.size;have:=Tl.out;omega)).trans (aY.out _ G8.out).1);have lD:=zH u';clear Kt d9 po ey Cj d10 pL de Cg h0I Ga aJ Be Uu e4 e5 e6 e7 k5 k6 k7 B7 B8 B68 B58 B48 Dt Ma UP I6 pY u' d8 du ET tr HD7 HRH HS cX tt EP G4 G3 G2 G1 ia BK mH Ha IP ru SD tC hL;have tC:Aq True:=trivial;obtain⟨p0,p1,p2,p3,p4,p5,p6,p7,p8,p9⟩:=zK (D9.out);go_wp2_with fail;refine(EW.out _).mono ?_;rintro e wx ⟨rfl,hwx⟩;rw[HW10.out] at hwx;obtain rfl:=hwx;clear p0 p1 p2 p3 p4 p5 p6 p7 p8 p9;go_wp2_with fail
 refine kR rfl (NC RZ (by kernel_rfl) rfl) ib.out (by rintro x rfl;have:=AK.out;have:=Ou.out;have:=lD.out;omega) (fun _=>rfl)
  (fun (pre:List { x:Nat×Nat // x∈L }) (X:Ba)=>AtIn oF (pre.map fun x=>xH s out f.h x.1) fD X)
  (fun _ _ _=>False)
  ?hI (fun _ _ _ _ _ h _ _=>h)
  H0I.out (fun x=>#[O U x.1,O U x.2]) 178 ?a1 ?assign ?body ?done ?stop (fun _ _ h=>h.wrote.size)
 case hI=>
  intro pre X X' row hX hg hr;exact hX.turn (by have:=AK.out;omega) hg hr
 case assign=>
  intro l pre x X K' hI hK;obtain⟨g',nK⟩:∃g',g'=X.heap.size:=⟨_,rfl⟩;have HK:=zH (hK g' nK (hI.turn (by have:=AK.out;omega) (row:=Z) ⟨rfl,rfl,rfl,by simp,fun k hk _=>NP X _ k hk⟩ (fun r e=>by cases e)));have HG:=zH nK;clear hK nK hI;gi_wp2;rw[<-HG.out];exact HK.out
 case body=>
  intro l pre x g W3 hg lr hI ac;obtain⟨bs,bN⟩:∃bs,(pre.map fun x=>xH s out f.h x.1)=bs:=⟨_,rfl⟩;have cp:bs.length<=20000:=by rw[<-bN,LM];omega
  have Mt:Aq (((pre++[x]).map fun x=>xH s out f.h x.1)=bs++[xH s out f.h x.1]):=by rw[Aq,LK,bN];rfl
  rw[bN] at hI;obtain⟨P,c,ce,ho⟩:=hI.box;obtain⟨x1,x2,x3⟩:=HMP.out W3 hI.wrote;have HC:=zH (rC.out x.1 x.2 W3.drew ((ef.out W3 hI.wrote).keep (Li _ W3).drew));obtain⟨bv,Mq⟩:=Kk (xH s out f.h x.1);rw[Mq] at Mt HC;have hszI:=hI.wrote.size;have Cg:=AK.out
  have ai:Aq (∀X,Am W3.heap.size W3 X->X.heap[oF]?=J (Ag #[I P bs.length c] 58 (0,0))/\X.heap[Tg]?=J (Ag #[.map (J (bH+1+1+1))] 182 (0,0))/\X.heap[bH+1+1+1]?=v7.heap[bH+1+1+1]?/\X.heap[w.heap.size+1+1]?=J (Ag #[O U f.h.op,O U f.h.p,O U f.h.o,O U f.h.v,O U f.h.g,I AF f.args.length cf] 32 (0,0))/\X.heap[g]?=J (Ag #[O U x.1.1,O U x.1.2] 178 (0,0))):=fun X hX=>
   ⟨Lb hX (by omega) ce,La hX x1,Lb hX (by
    obtain⟨_,_,h1,_⟩:=HM7.out;rw[h1] at x2
    exact blk_lt' x2) x2,La hX x3,La hX lr⟩
  have BO:=zH hI;have tl:=zH ho;have HX3:=zH ce;have hgW:=zk lr;clear hI ho ce x1 x2 x3 lr bN Mq;gi_wp2_with fail;refine zX [(0,Au),(1,Au),(2,Au),(3,Au),(5,Au),(4,Au),(6,Aw),(7,Aw),(8,Aw),(9,Aw)] (fun X=>X.heap[oF]?=J (Ag #[I P bs.length c] 58 (0,0))/\X.heap[Tg]?=J (Ag #[.map (J (bH+1+1+1))] 182 (0,0))/\X.heap[bH+1+1+1]?=v7.heap[bH+1+1+1]?/\X.heap[w.heap.size+1+1]?=J (Ag #[O U f.h.op,O U f.h.p,O U f.h.o,O U f.h.v,O U f.h.g,I AF f.args.length cf] 32 (0,0))/\X.heap[g]?=J (Ag #[O U x.1.1,O U x.1.2] 178 (0,0))) (by kernel_rfl) (by kernel_rfl) (by kernel_rfl) (by rintro⟨_,_,h⟩;exact h) (ai.out _ (Li _ _).drew) ?_
  repeat
   apply zj rfl
   . rintro K' aa X ⟨u1,u2,u3,u4,u5⟩
     have fF:=(HM7.out.same u3).look yO ht (show(zeroValue 181).run Al X=.ok .nilFunc X by kernel_rfl) f.h.op;rw[HGO.out] at fF;simp only[Option.getD_some] at fF;have y0:=zh u1 0 rfl;have y1:=zh u2 0 rfl;have y2:=zh u4 0 rfl;obtain⟨y3,y4,_⟩:=Ke u5;clear u1 u2 u3 u4 u5;go_simp;exact aa
  refine zn rfl ?_;intro K' aa;go_simp;rw[ek];refine Sl HC.out ?_;rintro e W4 ⟨rfl,aP⟩;have aP:Am W3.heap.size W3 W4:=(Li _ W3).drew.trans aP;have fK:=zH aP;have EN:=zH (BO.out.call (by omega) aP);have mS:Aq (OwnR kBl W4 fD.heap.size (I P bs.length c) bs.length (bs.map .bool)):=tl.out.below aP (Ld _);refine aa _ _ (ai.out _ aP) ?_;clear aa K' aP HC;refine zn rfl ?_;intro K' aa;go_simp;obtain⟨W5,iG,d5,cZ,aj⟩:=zm W4 #[Ah bv] 4;rw[iG];have rY:=zH (EN.out.call (by omega) aj);have rq:Aq (OwnR kBl W5 fD.heap.size (I P bs.length c) bs.length (bs.map .bool)):=mS.out.below aj (Ld _);have aK:Aq (Am W3.heap.size W3 W5):=Lc fK.out aj;have Kz:fD.heap.size<=W5.heap.size:=by have:=aK.out.size;omega
  refine aa _ _ (ai.out _ aK.out) ?_;clear aa K' iG EN mS;refine yb rfl (by kernel_rfl) ?_;intro K' aa;rw[Lj (by rfl)];refine jo kBl_ok (.tmp 62) (.tmp 69) (by rfl) fD.heap.size (I P bs.length c) bs.length (bs.map .bool) (by rfl) rq.out W4.heap.size #[Ah bv] (by rfl) d5 rfl (by simp[Value.oneCell']) (by omega) Kz _ rfl ?_;intro g' aH W6 Bv i8 CH Cy;have t9:=(ai.out _ aK.out).1;have Bc:Aq (AtIn oF (bs++[bv]) fD (W6.setCell ⟨oF,0,Z⟩ (I (J ⟨g',0,Z⟩) (bs.length+1) aH))):=rY.out.push (by omega) t9 rq.out Bv i8;have pg:=zH (rY.out.keeps (bi:=w9.heap.size) (by omega) (by have:=Ou.out;have:=lD.out;omega) (by have:=Ou.out;have:=lD.out;omega) t9 rq.out i8 (I (J ⟨g',0,Z⟩) (bs.length+1) aH));have dj:Am fD.heap.size W5 W6:=(Li _ _).grown i8 Kz (fun k hk=>(rq.out.lt k hk).1);have hfz:=zi ((dj.block oF (by omega)).trans t9) 0;have In:=zk ((dj.block oF (by omega)).trans t9);have hc6:=zh ((dj.block oF (by omega)).trans t9) 0 rfl;have iw:Aq (∀k,k<fD.heap.size->W6.heap[k]?=W5.heap[k]?):=fun k hk=>dj.block k hk
  refine aa (fun _=>True) _ _ trivial ?_;clear aa K';refine zn rfl ?_;intro K' aa;go_simp;refine aa _ _ trivial ?_;refine zy ?_;clear aa K';refine⟨?_,?_,?_⟩
  . refine KeepsFrom.trans ?_ pg.out.1
    exact⟨aK.out.size,fun k o hk aW _=>(aK.out.block k (blk_lt' aW)).trans aW⟩
  . refine KeepB.trans ?_ pg.out.2
    exact⟨aK.out.size,fun k hk hl=>aK.out.block k hl⟩
  show AtIn oF _ fD _;rw[Mt.out];exact Bc.out
 case done=>
  intro D ys W hD iy hI ik;have so:ys.map (fun x=>xH s out f.h x.1)=L.map (xH s out f.h):=by rw[show ys.map (fun x=>xH s out f.h x.1)=(ys.map (·.1)).map (xH s out f.h) by rw[PR];rfl,iy]
  rw[so] at hI;obtain⟨P,c,ce,ho⟩:=hI.box;have q4:=zh ce 0 rfl;have HO:=zH ho;have HI9:=zH hI;have BP:=zH ik;clear hI ho ce ik iy so;go_wp2_with fail;refine yU (B:=fD.heap.size) (w:=W) (show Marks fD.heap.size _ W from⟨[D],rfl,by simp,fun r hr=>by rw[LY] at hr;subst hr;exact⟨hD,BP.out⟩⟩) (v:=.tuple #[I P L.length c,O U 0]) (fun W=>by kernel_rfl) ?_;intro X hS;rw[hR.out,sJ.out];have nN:Am fD.heap.size W X:=hS.below;have Ks:=HI9.out.wrote;have Cg:=AK.out;have po:=Ou.out;have u':=lD.out;have hwz:=Ks.size;have hg10:=I8.out.size;have cY:=Tl.out;have fj:=o7.out;refine⟨P,c,by rw[LM],?_,I8.out.trans ⟨nN.os.trans Ks.os,nN.tape.trans Ks.tape,nN.output.trans Ks.output,by have:=nN.size;omega,fun k hk=>(nN.block k (by omega)).trans (Ks.block k (by omega) (by show ¬k=oF;omega))⟩⟩;have Ws:=hS.own HO.out;simp only[List.length_map] at Ws ⊢;refine⟨Ws.1,?_⟩;rcases Ws.2 with h0 | ⟨gg,cap,cur,e1,hb,rest⟩
  . exact .inl h0
  exact .inr ⟨gg,cap,cur,e1,by omega,rest⟩
 intro D c pre W _ _ h;exact h.elim
end
section
open Go.RowKit Go.Shelf
def orL(n:Nat)(a b:List Bool):List Bool:=(List.range n).map fun i=>a.getD i Aw||b.getD i Aw
theorem jy(n:Nat)(a b:List Bool):(orL n a b).length=n:=by simp[orL]
theorem orL_at{n:Nat}{a b:List Bool}{i:Nat}(h:i<n):(orL n a b)[i]'(by rw[jy];exact h)=(a.getD i Aw||b.getD i Aw):=by
 simp only[orL,List.getElem_map,List.getElem_range]
def evlS(s:Sy)(h:Fh)(a b:List Bool):List Bool:=
 if h.op=10 then yo (ptn s) (yt s h.p.toNat) a
 else if h.op=11 then evG s h.g a
 else if h.op=12 then yo (ptn s) (qm s h.g) a
 else if h.op=13 then zR (ptn s) (evG s h.g) a (ptn s)
 else if h.op=7 then qb (ptn s) a
 else if h.op=8 then qz (ptn s) a b
 else orL (ptn s) a b
theorem evlS_len(s:Sy)(h:Fh)(a b:List Bool):(evlS s h a b).length=ptn s:=by
 unfold evlS
 repeat' split
 . exact yC _ _ _
 . exact jC _ _ _ _
 . exact yC _ _ _
 . exact qD _
 . exact qf _ _
 . exact yN _ _ _
 exact jy _ _ _
def OwnB(w:Ba)(g cap:Nat)(bs:List Bool):Prop:=∃cur:Array Ar,w.heap[g]?=J (Ag cur 4 (0,0))/\cur.size=cap/\bs.length<=cap/\cap<=maxLen/\cur.toList.take bs.length=bs.map .bool
theorem OwnB.lt{w:Ba}{g cap:Nat}{bs:List Bool}(h:OwnB w g cap bs):g<w.heap.size:=by obtain⟨_,h1,_⟩:=h;exact zk h1
theorem OwnB.cell{w:Ba}{g cap:Nat}{bs:List Bool}(h:OwnB w g cap bs)(k:Nat)(hk:k<bs.length):w.cell? ⟨g,k,Z⟩=J (Ah bs[k]):=by
 obtain⟨cur,h1,h2,h3,_,h4⟩:=h;refine zh h1 k ?_;have e:(cur.toList.take bs.length)[k]?=(bs.map Ah)[k]?:=by rw[h4]
 rw[PZ,Lj hk,List.getElem?_map,Lm hk] at e;simpa using e
theorem OwnB.of{w:Ba}{ab:Nat}{A:Bb}{n c:Nat}{bs:List Bool}(hl:bs.length=n)(h1:1<=n)(h:OwnR kBl w ab (I A n c) n (bs.map .bool)):∃g,A=J ⟨g,0,Z⟩/\ab<=g/\OwnB w g c bs:=by
 rcases h.2 with ⟨_,h0⟩ | ⟨g,cap,cur,e,hb,hg,ed,oU,bL,Bu⟩
 . omega
 cases e
 exact⟨g,rfl,hb,cur,hg,by rw[bL];exact N0 _,by omega,oU,by rw[hl,<-Bu];show _=cur.toList.take (n*1);rw[N0]⟩
theorem OwnB.at_{w:Ba}{g c B:Nat}{bs:List Bool}(h:OwnB w g c bs)(hB:g<B):BAt w B (J ⟨g,0,Z⟩) bs:=fun _=>⟨g,0,rfl,hB,fun i hi=>by rw[LQ];exact h.cell i hi⟩
end
section
open Go.RowKit
def zY(R i:Nat):Bool:=decide (i % (R+1)=R)
def bwL(R:Nat):Nat->List (Nat×Bool)
 | 0=>[]
 | k+1=>(k,!zY R k)::bwL R k
theorem uW(R:Nat):∀k,(bwL R k).length=k
 | 0=>rfl
 | k+1=>by rw[bwL,Lz,uW R k]
theorem bwL_at(R:Nat):∀(k i:Nat) (h:i<(bwL R k).length),(bwL R k)[i]=(k-1-i,!zY R (k-1-i))
 | 0,i,h=>by simp[bwL] at h
 | k+1,0,h=>rfl
 | k+1,i+1,h=>by
  have hl:i<(bwL R k).length:=by simpa[bwL] using h
  have:=bwL_at R k i hl;show(bwL R k)[i]=_;rw[this,show k+1-1-(i+1)=k-1-i by omega]
theorem bw_next{R n:Nat}{pre:List { x:Nat×Bool // x∈bwL R n }}{x:{ x:Nat×Bool // x∈bwL R n }}(h:(pre++[x]).map (·.1) <+: bwL R n):∃k,n=k+1+pre.length/\x.1=(k,!zY R k):=by
 obtain⟨t,ht⟩:=h
 have hl:pre.length<(bwL R n).length:=by
  have:=congrArg List.length ht;simp only[List.length_append,List.length_map,List.length_cons,List.length_nil] at this;omega
 have hx:(bwL R n)[pre.length]=x.1:=by
  simp only[<-ht,List.map_append,List.map_cons,List.map_nil];rw[Pq (by simp),N3 (by simp)];simp
 rw[bwL_at] at hx;rw[uW] at hl;rw[show n-1-pre.length=n-(pre.length+1) by omega] at hx;exact⟨n-(pre.length+1),by omega,hx.symm⟩
theorem bwL_mem{R n:Nat}{x:Nat×Bool}(h:x∈bwL R n):x.1<n/\x.2=!zY R x.1:=by
 obtain⟨i,hi,rfl⟩:=LP h;rw[bwL_at];rw[uW] at hi;exact⟨by show n-1-i<n;omega,rfl⟩
theorem more_lt{R M i:Nat}(hi:i<M*(R+1))(h:zY R i=Aw):i+1<M*(R+1):=by
 have h0:i % (R+1)≠R:=Nt h;rcases PQ (i+1) (M*(R+1)) with h3 | h3
 . exact h3
 have e:i+1=M*(R+1):=by omega
 have h1:(i+1) % (R+1)=0:=by rw[e];exact R8 ..
 have h2:=Pv i (show 0<R+1 by omega);rw[<-Nat.mod_add_mod,Rn (by omega)] at h1;omega
def jk(rs:List Bool)(k:Nat):List Bool:=List.replicate k Aw++rs.drop k
theorem behB_len{rs:List Bool}{k:Nat}(h:k<=rs.length):(jk rs k).length=rs.length:=by unfold jk;simp;omega
theorem JD(rs:List Bool):jk rs 0=rs:=by simp[jk]
theorem XF{rs:List Bool}{n:Nat}(h:rs.length=n):jk rs n=List.replicate n Aw:=by unfold jk;rw[Rv (by omega)];simp
theorem behB_at{rs:List Bool}{k:Nat}(h:k<rs.length):(jk rs k)[k]'(by rw[behB_len (by omega)];exact h)=rs[k]:=by
 unfold jk;rw[N3 (by simp)];simp
theorem behB_set{rs:List Bool}{k:Nat}(h:k<rs.length):(jk rs (k+1)).set k (rs[k])=jk rs k:=by
 unfold jk;refine List.ext_getElem? fun i=>?_
 rw[List.getElem?_set]
 by_cases e:k=i
 . subst e
   rw[Lj rfl,Lj (by simp;omega),LJ (by simp)];simp[List.getElem?_eq_getElem h]
 rw[Lg e]
 by_cases e2:i<k
 . rw[LO (by simp;omega),LO (by simp;omega)]
   simp[e2,show i<k+1 by omega]
 rw[LJ (by simp;omega),LJ (by simp;omega)];simp only[List.length_replicate,List.getElem?_drop]
 congr 1;omega
def vy(n R:Nat)(a:List Bool):List Bool:=(List.range n).map fun i=>!(zY R i)&&a.getD (i+1) Aw
def untV(a b:List Bool):Nat->Nat->Bool
 | 0,i=>b.getD i Aw
 | d+1,i=>b.getD i Aw||(a.getD i Aw&&untV a b d (i+1))
def vt(n R:Nat)(a b:List Bool):List Bool:=(List.range n).map fun i=>untV a b (R-i % (R+1)) i
def kO(n R:Nat)(b:List Bool):List Bool:=vt n R (List.replicate n Au) b
def kQ(n R:Nat)(a:List Bool):List Bool:=qb n (kO n R (qb n a))
theorem uL(n R:Nat)(a:List Bool):(vy n R a).length=n:=by simp[vy]
theorem kU(n R:Nat)(a b:List Bool):(vt n R a b).length=n:=by simp[vt]
theorem kp(n R:Nat)(b:List Bool):(kO n R b).length=n:=kU ..
theorem wg(n R:Nat)(a:List Bool):(kQ n R a).length=n:=qf ..
theorem jA{n R:Nat}{a:List Bool}{i:Nat}(h:i<n):(vy n R a).getD i Aw=(!(zY R i)&&a.getD (i+1) Aw):=by
 rw[zw (by rw[uL];exact h)];simp[vy]
theorem untL_at{n R:Nat}{a b:List Bool}{i:Nat}(h:i<n):(vt n R a b).getD i Aw=untV a b (R-i % (R+1)) i:=by
 rw[zw (by rw[kU];exact h)];simp[vt]
theorem vm{n:Nat}{a b:List Bool}{i:Nat}(h:i<n):(orL n a b).getD i Aw=(a.getD i Aw||b.getD i Aw):=by
 rw[zw (by rw[jy];exact h),orL_at h]
theorem jd{n R i:Nat}(hn:n % (R+1)=0)(hi:i<n)(h:zY R i=Aw):(i+1) % (R+1)=i % (R+1)+1/\i % (R+1)<R/\i+1<n:=by
 have h0:i % (R+1)≠R:=Nt h;have h1:i % (R+1)<R+1:=Pv _ (by omega);have h2:(i+1) % (R+1)=i % (R+1)+1:=by rw[<-Nat.mod_add_mod,Rn (by omega)]
 refine⟨h2,by omega,?_⟩;rcases PQ (i+1) n with h3 | h3
 . exact h3
 have:i+1=n:=by omega
 rw[this,hn] at h2;omega
theorem ZJ{n R:Nat}{a b:List Bool}(hn:n % (R+1)=0){i:Nat}(hi:i<n) :
  (vt n R a b).getD i Aw=(b.getD i Aw||(a.getD i Aw&&(!(zY R i)&&(vt n R a b).getD (i+1) Aw))):=by
 rw[untL_at hi]
 cases hl:zY R i with
 | true=>
  have h0:i % (R+1)=R:=Lx hl;rw[h0,Nq];simp[untV]
 | false=>
  obtain⟨h1,h2,h3⟩:=jd hn hi hl;rw[untL_at h3,h1,show R-i % (R+1)=(R-(i % (R+1)+1))+1 by omega,untV];simp
theorem unt_set{n R:Nat}{a b:List Bool}(hn:n % (R+1)=0):vt n R a b=orL n b (qz n a (vy n R (vt n R a b))):=by
 refine xD (kU ..) (jy ..) fun i hi=>?_
 rw[ZJ hn hi,vm hi,qa hi,jA hi]
theorem Jm{n R:Nat}{b:List Bool}(hn:n % (R+1)=0){i:Nat}(hi:i<n) :
  (kO n R b).getD i Aw=(b.getD i Aw||(!(zY R i)&&(kO n R b).getD (i+1) Aw)):=by
 unfold kO;rw[ZJ hn hi,show(List.replicate n Au).getD i Aw=Au by simp[List.getD_eq_getElem?_getD,hi],Nn]
theorem evt_set{n R:Nat}{b:List Bool}(hn:n % (R+1)=0):kO n R b=orL n b (vy n R (kO n R b)):=by
 refine xD (kp ..) (jy ..) fun i hi=>?_
 rw[Jm hn hi,vm hi,jA hi]
theorem vb{n R:Nat}{a:List Bool}(hn:n % (R+1)=0){i:Nat}(hi:i<n) :
  (kQ n R a).getD i Aw=(a.getD i Aw&&(zY R i||(kQ n R a).getD (i+1) Aw)):=by
 unfold kQ;rw[xN hi,Jm hn hi,xN hi]
 cases hl:zY R i with
 | true=>simp
 | false=>
  obtain⟨_,_,h3⟩:=jd hn hi hl;rw[xN h3]
  cases a.getD i Aw<;>cases (kO n R (qb n a)).getD (i+1) Aw<;>rfl
theorem alw_set{n R:Nat}{a:List Bool}(hn:n % (R+1)=0):kQ n R a=qz n a (orL n (qb n (vy n R (List.replicate n Au))) (vy n R (kQ n R a))):=by
 refine xD (wg ..) (yN ..) fun i hi=>?_
 rw[vb hn hi,qa hi,vm hi,xN hi,jA hi,jA hi]
 cases hl:zY R i with
 | true=>simp
 | false=>
  obtain⟨_,_,h3⟩:=jd hn hi hl;rw[show(List.replicate n Au).getD (i+1) Aw=Au by simp[List.getD_eq_getElem?_getD,h3]];simp
theorem not_not{n:Nat}{a:List Bool}(h:a.length=n):qb n (qb n a)=a:=by
 refine xD (qf ..) h fun i hi=>?_
 rw[xN hi,xN hi,Bool.not_not]
theorem not_alw(n R:Nat)(a:List Bool):qb n (kQ n R a)=kO n R (qb n a):=not_not (kp ..)
theorem alw_now{n R:Nat}{a:List Bool}(hn:n % (R+1)=0){i:Nat}(hi:i<n)(h:(kQ n R a).getD i Aw=Au):a.getD i Aw=Au:=by
 rw[vb hn hi,LB] at h;exact h.1
theorem alw_next{n R:Nat}{a:List Bool}(hn:n % (R+1)=0){i:Nat}(hi:i<n)(hl:zY R i=Aw)(h:(kQ n R a).getD i Aw=Au):(kQ n R a).getD (i+1) Aw=Au:=by
 rw[vb hn hi,LB,hl,PG] at h;exact h.2
def vU(s:Sy)(h:Fh)(a b:List Bool):List Bool:=
 if h.op=14 then vy (ptn s) s.p.k.toNat a
 else if h.op=15 then kQ (ptn s) s.p.k.toNat a
 else if h.op=16 then kO (ptn s) s.p.k.toNat a
 else if h.op=17 then vt (ptn s) s.p.k.toNat a b
 else evlS s h a b
theorem tvlS_len(s:Sy)(h:Fh)(a b:List Bool):(vU s h a b).length=ptn s:=by
 unfold vU
 repeat' split
 . exact uL ..
 . exact wg ..
 . exact kp ..
 . exact kU ..
 exact evlS_len ..
def xn(s:Sy)(out:List Int):Nat->Fm->List Bool
 | 0,f=>jl s out f.h
 | d+1,f=>if f.args.length=0 then jl s out f.h else vU s f.h (xn s out d (f.args.getD 0 default)) (xn s out d (f.args.getD 1 default))
theorem jM(s:Sy)(out:List Int):∀d f,(xn s out d f).length=ptn s
 | 0,f=>uZ s out f.h
 | d+1,f=>by
  unfold xn
  split
  . exact uZ s out f.h
  . exact tvlS_len ..
end
section
open Go.RowKit
def SubB(n:Nat)(a b:List Bool):Prop:=∀i,i<n->a.getD i Aw=Au->b.getD i Aw=Au
def Q8(n:Nat)(a b:List Bool):List Bool:=orL n (qb n a) b
def JI(n:Nat)(a:List Bool):Prop:=∀i,i<n->a.getD i Aw=Au
theorem imp_all{n:Nat}{a b:List Bool}:JI n (Q8 n a b)↔SubB n a b:=by
 unfold JI SubB Q8;refine⟨fun h i hi ha=>?_,fun h i hi=>?_⟩
 . have:=h i hi
   rw[vm hi,xN hi,ha] at this;simpa using this
 rw[vm hi,xN hi];have:=h i hi
 cases ha:a.getD i Aw with
 | false=>rfl
 | true=>rw[this ha];rfl
theorem SubB.rfl'{n:Nat}{a:List Bool}:SubB n a a:=fun _ _ h=>h
theorem SubB.of_eq{n:Nat}{a b:List Bool}(h:a=b):SubB n a b:=by subst h;exact SubB.rfl'
theorem and_iff{n:Nat}{a b:List Bool}{i:Nat}(hi:i<n):(qz n a b).getD i Aw=Au↔a.getD i Aw=Au/\b.getD i Aw=Au:=by rw[qa hi,LB]
section
variable {n:Nat} {ls:List Int} {a b:List Bool}
theorem kn_true:SubB n (yo n ls a) a:=fun _ hi h=>X5 hi h
theorem kn_twice:SubB n (yo n ls a) (yo n ls (yo n ls a)):=.of_eq (ins_twice n ls a).symm
theorem kn_not:SubB n (qb n (yo n ls a)) (yo n ls (qb n (yo n ls a))):=.of_eq (ins_not n ls a).symm
theorem kn_imp:SubB n (qz n (yo n ls a) (yo n ls (Q8 n a b))) (yo n ls b):=by
 intro i hi h;rw[and_iff hi,yD hi,yD hi] at h;rw[yD hi];intro j hj e;have h1:=h.1 j hj e;have h2:=h.2 j hj e;unfold Q8 at h2;rw[vm hj,xN hj,h1] at h2;simpa using h2
end
section
variable {n:Nat} {aA:Nat->List Int} {ps:List Nat} {a:List Bool}
theorem uK:zR n (evL n aA ps) a (n+1)=zR n (evL n aA ps) a n:=by
 obtain⟨M,h1,h2,_⟩:=stop_ex (F:=zR n (evL n aA ps) a) (n:=n) (fun m=>qD m) (fun m i h=>uc m i h)
 have e:∀m,zR n (evL n aA ps) a (M+m)=zR n (evL n aA ps) a M:=by
  intro m
  induction m with
  | zero=>rfl
  | succ m ih=>
   show zR n (evL n aA ps) a (M+m+1)=_;rw[zR,ih];exact h2
 have e1:=e (n-M);have e2:=e (n+1-M);rw[show M+(n-M)=n by omega] at e1;rw[show M+(n+1-M)=n+1 by omega] at e2;rw[e1,e2]
theorem com_step:evL n aA ps (qz n a (zR n (evL n aA ps) a n))=zR n (evL n aA ps) a n:=now_fix uK
theorem com_true(fW:ps≠[]):SubB n (zR n (evL n aA ps) a n) a:=fun _ hi h=>now_in fW uK hi h
theorem com_twice:SubB n (zR n (evL n aA ps) a n) (zR n (evL n aA ps) (zR n (evL n aA ps) a n) n):=by
 have h1:zR n (evL n aA ps) (zR n (evL n aA ps) a n) n=zR n (evL n aA ps) a n:=now_twice (qD n) (now_ev uK) uK;rw[h1];exact SubB.rfl'
theorem ev_kn{q:Nat}(hq:q∈ps):SubB n (evL n aA ps a) (yo n (aA q) a):=by
 intro i hi h;rw[yD hi];exact(ZA hi ps).1 h q hq
theorem com_ind(h:SubB n a (evL n aA ps a)):SubB n a (zR n (evL n aA ps) a n):=by
 have key:∀m,SubB n a (zR n (evL n aA ps) a m):=by
  intro m
  induction m with
  | zero=>intro i hi _;simp[zR,List.getD_eq_getElem?_getD,hi]
  | succ m ih=>
   intro i hi hh;rw[zR];exact Jp (fun j hj hj2=>by rw[and_iff hj];exact⟨hj2,ih j hj hj2⟩) hi (h i hi hh)
 exact key n
end
theorem time_kn{n R:Nat}{ls:List Int}{a:List Bool}(hn:n % (R+1)=0)
  (hr:∀i j,i+1<n->j<n->zY R i=Aw->ls.getD j 0=ls.getD (i+1) 0->∃k,j=k+1/\zY R k=Aw/\ls.getD k 0=ls.getD i 0) :
  SubB n (yo n ls (vy n R a)) (vy n R (yo n ls a)):=by
 intro i hi h;rw[yD hi] at h;have h0:=h i hi rfl;rw[jA hi,LB] at h0 ⊢
 have hl:zY R i=Aw:=by cases e:zY R i with
  | false=>rfl
  | true=>rw[e] at h0;simp at h0
 obtain⟨_,_,h3⟩:=jd hn hi hl;refine⟨h0.1,?_⟩;rw[yD h3];intro j hj e;obtain⟨k,rfl,hk,ek⟩:=hr i j h3 hj hl e;have:=h k (by omega) ek;rw[jA (by omega),LB] at this;exact this.2
theorem time_ever{n R:Nat}{ls:List Int}{a:List Bool}(hn:n % (R+1)=0)
  (hr:∀i j,i+1<n->j<n->zY R i=Aw->ls.getD j 0=ls.getD (i+1) 0->∃k,j=k+1/\zY R k=Aw/\ls.getD k 0=ls.getD i 0) :
  SubB n (yo n ls (kQ n R a)) (kQ n R (yo n ls a)):=by
 have key:∀d i,i<n->R-i % (R+1)=d->(yo n ls (kQ n R a)).getD i Aw=Au->(kQ n R (yo n ls a)).getD i Aw=Au:=by
  intro d
  induction d with
  | zero=>
   intro i hi hd h;rw[vb hn hi,LB];have h1:i % (R+1)<R+1:=Pv _ (by omega);have hl:zY R i=Au:=Lw (by omega);rw[hl,Bool.true_or];refine⟨?_,rfl⟩;rw[yD hi] at h ⊢;exact fun j hj e=>alw_now hn hj (h j hj e)
  | succ d ih=>
   intro i hi hd h;have hl:zY R i=Aw:=Lu (by omega);obtain⟨h1,h2,h3⟩:=jd hn hi hl;rw[vb hn hi,LB,hl,PG];rw[yD hi] at h;refine⟨?_,ih (i+1) h3 (by omega) ?_⟩
   . rw[yD hi];exact fun j hj e=>alw_now hn hj (h j hj e)
   . rw[yD h3]
     intro j hj e;obtain⟨k,rfl,hk,ek⟩:=hr i j h3 hj hl e;exact alw_next hn (by omega) hk (h k (by omega) ek)
 exact fun i hi h=>key _ i hi rfl h
end
section
open Go.RowKit
theorem time_rem{p:Pb}(h:qd p=Au){K N:Nat}(hF:Fine (zO p) K N)(hS:Sees (zO p) K N){q:Nat}(hq:q<N){n:Nat}(hn:n=ptn (zO p))(hm:n % (K+1)=0) :
  ∀i j,i+1<n->j<n->zY K i=Aw->(yt (zO p) q).getD j 0=(yt (zO p) q).getD (i+1) 0->∃k,j=k+1/\zY K k=Aw/\(yt (zO p) q).getD k 0=(yt (zO p) q).getD i 0:=by
 subst hn;intro i j hi hj hl e;obtain⟨h1,h2,_⟩:=jd hm (show i<ptn (zO p) by omega) hl;obtain⟨r1,r2⟩:=rem_facts h hF hS hq hi hj e.symm;have h3:0<j % (K+1):=by omega
 have h4:0<j:=by
  rcases Nu j with h5 | h5
  . rw[h5,Nat.zero_mod] at h3;omega
  exact h5
 refine⟨j-1,by omega,?_,?_⟩
 . have:=(Yb (show 0<K+1 by omega) h3).2
   exact Lu (by omega)
 have:=r2 (by omega);rw[NE] at this;exact this.symm
def inD:Nat->Fm->Prop
 | 0,f=>f.args=[]
 | d+1,f=>∀x∈f.args,inD d x
theorem inD_up:∀ {d:Nat} {f:Fm},inD d f->inD (d+1) f
 | 0,f,h=>by
  intro x hx;rw[show f.args=[] from h] at hx;cases hx
 | _+1,_,h=>fun x hx=>inD_up (h x hx)
theorem X7{d d':Nat}{f:Fm}(h:inD d f)(hd:d<=d'):inD d' f:=by
 induction hd with
 | refl=>exact h
 | step _ ih=>exact inD_up ih
theorem Yn{w:Ba}{B:Nat}:∀ {d:Nat} {A:Bb} {f:Fm},FsAt w B d A f.args->inD d f
 | 0,_,_,h=>h
 | d+1,A,f,h=>by
  intro x hx;obtain⟨i,hi,rfl⟩:=NG.1 hx;obtain⟨b,o,_,_,hr⟩:=h (by omega);obtain⟨A',c',_,h2⟩:=hr i hi;exact Yn h2
theorem JQ(s:Sy)(out:List Int):∀ {d:Nat} {f:Fm},inD d f->xn s out (d+1) f=xn s out d f
 | 0,f,h=>by
  have h:f.args=[]:=h;show(if f.args.length=0 then jl s out f.h else _)=jl s out f.h;rw[Lj (by rw[h];rfl)]
 | d+1,f,h=>by
  rw[xn];rw[show xn s out (d+1) f=if f.args.length=0 then jl s out f.h else vU s f.h (xn s out d (f.args.getD 0 default)) (xn s out d (f.args.getD 1 default)) from rfl]
  by_cases h0:f.args.length=0
  . rw[Lj h0,Lj h0]
  · have dD : ∀ i, inD d (f.args.getD i default) := fun i => by
     rcases PQ i f.args.length with hi | hi
     . rw[Lh,Lm hi];exact h _ (Le hi)
     . rw[Lh,List.getElem?_eq_none hi]
       cases d with
       | zero=>rfl
       | succ d=>intro x hx;cases hx
    rw[Lg h0,Lg h0,JQ s out (dD 0),JQ s out (dD 1)]
theorem wn(s:Sy)(out:List Int){d d':Nat}{f:Fm}(h:inD d f)(hd:d<=d'):xn s out d' f=xn s out d f:=by
 induction hd with
 | refl=>rfl
 | step ed ih=>rw[JQ s out (X7 h ed),ih]
def f1(op p g:Int)(f:Fm):Fm:=.mk ⟨op,p,0,0,g⟩ [f]
def f2(op:Int)(f g:Fm):Fm:=.mk ⟨op,0,0,0,0⟩ [f,g]
def yc(f:Fm):Fm:=f1 7 0 0 f
def fOr(f g:Fm):Fm:=f2 9 f g
def yx(f g:Fm):Fm:=f2 8 f g
def fIf(f g:Fm):Fm:=fOr (yc f) g
end
section
open Go.RowKit Go.Shelf
attribute [local go_sem] Oper.semAt_some
theorem xU{w:Ba}{g:Nat}{a0 a1 a2 a3 a4 a5:Ar}{t:TypeId}(h:w.heap[g]?=J (Ag #[a0,a1,a2,a3,a4,a5] t (0,0)))(v0 v1 v2 v3 v4 v5:Ar) :
  ∃W,((((((w.setCell ⟨g,0,Z⟩ v0).setCell ⟨g,1,Z⟩ v1).setCell ⟨g,2,Z⟩ v2).setCell ⟨g,3,Z⟩ v3).setCell ⟨g,4,Z⟩ v4).setCell ⟨g,5,Z⟩ v5)=W/\W.heap[g]?=J (Ag #[v0,v1,v2,v3,v4,v5] t (0,0))/\(∀k,k≠g->W.heap[k]?=w.heap[k]?)/\(∀B,B<=g->Am B w W)/\W.heap.size=w.heap.size:=by
 refine⟨_,rfl,?_,fun k hk=>?_,fun B hB=>?_,by simp[World.setCell]⟩
 . exact Lk _ g 5 _ _ v5 (Lk _ g 4 _ _ v4 (Lk _ g 3 _ _ v3 (Lk _ g 2 _ _ v2 (Lk _ g 1 _ _ v1 (Lk _ g 0 _ _ v0 h)))))
 . exact(Lf _ ⟨g,5,Z⟩ v5 k hk).trans ((Lf _ ⟨g,4,Z⟩ v4 k hk).trans ((Lf _ ⟨g,3,Z⟩ v3 k hk).trans ((Lf _ ⟨g,2,Z⟩ v2 k hk).trans ((Lf _ ⟨g,1,Z⟩ v1 k hk).trans (Lf _ ⟨g,0,Z⟩ v0 k hk)))))
 exact(((((((Li _ _).setCell hB _).setCell hB _).setCell hB _).setCell hB _).setCell hB _).setCell hB _)
theorem ZM(F:Fm)(v:Ar)(w:Ba)(S:Nat->Prop)(hF:FmX w S F v):An Al 13 #[v] w (RetFm S (yc F) w):=by
 obtain⟨d,A,c,rfl,hA⟩:=hF;unfold Fm.vs;obtain⟨w1,ae,d0,aw,aB⟩:=zm w #[O U F.h.op,O U F.h.p,O U F.h.o,O U F.h.v,O U F.h.g,I A F.args.length c] 32;obtain⟨w2,aC,d1,bQ,az⟩:=zm w1 #[O U 0,O U 0,O U 0,O U 0,O U 0,I Z 0 0] 32;have d0:=Lb az (by omega) d0;rw[aw] at d1 bQ;have aF:Am w.heap.size w w2:=aB.trans (az.mono (by omega));have HF:=zH hA;have HB:=zH aF;have HZ:=zH bQ;have D2:=zH d1;have ak:=zH ae;have dK:=zH aC;obtain⟨q0,q1,q2,q3,q4,q5,_⟩:=Ki d0;obtain⟨r0,r1,r2,r3,r4,r5,_⟩:=Ki d1;have g0:=zi d1 0;have g1:=zi d1 1;have g2:=zi d1 2;have g3:=zi d1 3;have g4:=zi d1 4;have g5:=zi d1 5;clear hA ae aC d0 d1 aB az aF;go_enter func13,ntmps13;go_upto_region 1 with fail
 rw[ak.out,dK.out];go_wp2_with fail;obtain⟨WF,cM,f1,f2,f3,f4⟩:=xU D2.out (O U 7) (O U 0) (O U 0) (O U 0) (O U 0) (I (J ⟨w.heap.size+1+1,0,Z⟩) 1 1);rw[cM];obtain⟨WG,Gt,d3,dx,ck⟩:=zm WF #[O U F.h.op,O U F.h.p,O U F.h.o,O U F.h.v,O U F.h.g,I A F.args.length c] 32;rw[Gt];have hz:=HZ.out
 (try simp only[Exit.inBlock,Exit.then])
 refine LI (L9 (P:=Al) rfl _ _ (w.heap.size+1) 32 _ (0,0) _ rfl (Lb ck (by omega) f1) LW rfl (by kernel_rfl)) rfl ?_;have fw:Am w.heap.size w2 WF:=f3 _ (by omega);have Gn:=fw.trans (ck.mono (by omega));have hE:WG.heap[w.heap.size+1+1]?=J (Ag (F.vs A c) 32 (0,0)):=by rw[show w.heap.size+1+1=WF.heap.size by omega];exact d3
 have ir:=HB.out.trans Gn;obtain⟨D,hD⟩:=Yx (S:=fun k=>S k\/w.heap.size<=k) hE (.inr (by omega)) (HF.out.keep ir.size fun k hk hs=>⟨.inl hs,ir.block k hk⟩);exact⟨_,rfl,⟨D,J ⟨w.heap.size+1+1,0,Z⟩,1,rfl,hD⟩,ir⟩
theorem Y5(F G:Fm)(v u:Ar)(w:Ba)(S:Nat->Prop)(hF:FmX w S F v)(hG:FmX w S G u):An Al 23 #[v,u] w (RetFm S (fOr F G) w):=by
 obtain⟨d,A,c,rfl,hA⟩:=hF;obtain⟨d',B,k,rfl,hB⟩:=hG;unfold Fm.vs;obtain⟨w1,ae,d0,aw,aB⟩:=zm w #[O U F.h.op,O U F.h.p,O U F.h.o,O U F.h.v,O U F.h.g,I A F.args.length c] 32;obtain⟨w2,aC,d1,bQ,az⟩:=zm w1 #[O U G.h.op,O U G.h.p,O U G.h.o,O U G.h.v,O U G.h.g,I B G.args.length k] 32;obtain⟨w3,cO,d2,dx,ck⟩:=zm w2 #[O U 0,O U 0,O U 0,O U 0,O U 0,I Z 0 0] 32;have d0:=Lb ck (by omega) (Lb az (by omega) d0);have d1:=Lb ck (by omega) d1;rw[aw] at d1 bQ;rw[bQ] at d2 dx;have me:Am w.heap.size w w3:=(aB.trans (az.mono (by omega))).trans (ck.mono (by omega));have HF:=zH hA;have HG:=zH hB;have HB:=zH me;have HZ:=zH dx;have D2:=zH d2;have ak:=zH ae;have dK:=zH aC;have fI:=zH cO;obtain⟨q0,q1,q2,q3,q4,q5,_⟩:=Ki d0;obtain⟨p0,p1,p2,p3,p4,p5,_⟩:=Ki d1;obtain⟨r0,r1,r2,r3,r4,r5,_⟩:=Ki d2;have g0:=zi d2 0;have g1:=zi d2 1;have g2:=zi d2 2;have g3:=zi d2 3;have g4:=zi d2 4;have g5:=zi d2 5;clear hA hB ae aC cO d0 d1 d2 aB az ck me;go_enter func23,ntmps23;go_upto_region 1 with fail
 rw[ak.out,dK.out,fI.out];go_wp2_with fail;obtain⟨WF,cM,f1,f2,f3,f4⟩:=xU D2.out (O U 9) (O U 0) (O U 0) (O U 0) (O U 0) (I (J ⟨w.heap.size+1+1+1,0,Z⟩) 2 2);rw[cM];obtain⟨WG,Gt,d3,iU,fZ⟩:=zm WF #[O U F.h.op,O U F.h.p,O U F.h.o,O U F.h.v,O U F.h.g,I A F.args.length c,O U G.h.op,O U G.h.p,O U G.h.o,O U G.h.v,O U G.h.g,I B G.args.length k] 32;rw[Gt];have hz:=HZ.out
 (try simp only[Exit.inBlock,Exit.then])
 refine LI (L9 (P:=Al) rfl _ _ (w.heap.size+1+1) 32 _ (0,0) _ rfl (Lb fZ (by omega) f1) LW rfl (by kernel_rfl)) rfl ?_;have fw:Am w.heap.size w3 WF:=f3 _ (by omega);have Gn:=fw.trans (fZ.mono (by omega));have hE:WG.heap[w.heap.size+1+1+1]?=J (Ag #[O U F.h.op,O U F.h.p,O U F.h.o,O U F.h.v,O U F.h.g,I A F.args.length c,O U G.h.op,O U G.h.p,O U G.h.o,O U G.h.v,O U G.h.g,I B G.args.length k] 32 (0,0)):=by rw[show w.heap.size+1+1+1=WF.heap.size by omega];exact d3
 have ir:=HB.out.trans Gn;obtain⟨D,hD⟩:=Yw (S:=fun k=>S k\/w.heap.size<=k) hE (.inr (by omega)) (HF.out.keep ir.size fun k hk hs=>⟨.inl hs,ir.block k hk⟩) (HG.out.keep ir.size fun k hk hs=>⟨.inl hs,ir.block k hk⟩);exact⟨_,rfl,⟨D,J ⟨w.heap.size+1+1+1,0,Z⟩,2,rfl,hD⟩,ir⟩
theorem ZN(F G:Fm)(v u:Ar)(w:Ba)(S:Nat->Prop)(hF:FmX w S F v)(hG:FmX w S G u):An Al 14 #[v,u] w (RetFm S (yx F G) w):=by
 obtain⟨d,A,c,rfl,hA⟩:=hF;obtain⟨d',B,k,rfl,hB⟩:=hG;unfold Fm.vs;obtain⟨w1,ae,d0,aw,aB⟩:=zm w #[O U F.h.op,O U F.h.p,O U F.h.o,O U F.h.v,O U F.h.g,I A F.args.length c] 32;obtain⟨w2,aC,d1,bQ,az⟩:=zm w1 #[O U G.h.op,O U G.h.p,O U G.h.o,O U G.h.v,O U G.h.g,I B G.args.length k] 32;obtain⟨w3,cO,d2,dx,ck⟩:=zm w2 #[O U 0,O U 0,O U 0,O U 0,O U 0,I Z 0 0] 32;have d0:=Lb ck (by omega) (Lb az (by omega) d0);have d1:=Lb ck (by omega) d1;rw[aw] at d1 bQ;rw[bQ] at d2 dx;have me:Am w.heap.size w w3:=(aB.trans (az.mono (by omega))).trans (ck.mono (by omega));have HF:=zH hA;have HG:=zH hB;have HB:=zH me;have HZ:=zH dx;have D2:=zH d2;have ak:=zH ae;have dK:=zH aC;have fI:=zH cO;obtain⟨q0,q1,q2,q3,q4,q5,_⟩:=Ki d0;obtain⟨p0,p1,p2,p3,p4,p5,_⟩:=Ki d1;obtain⟨r0,r1,r2,r3,r4,r5,_⟩:=Ki d2;have g0:=zi d2 0;have g1:=zi d2 1;have g2:=zi d2 2;have g3:=zi d2 3;have g4:=zi d2 4;have g5:=zi d2 5;clear hA hB ae aC cO d0 d1 d2 aB az ck me;go_enter func14,ntmps14;go_upto_region 1 with fail
 rw[ak.out,dK.out,fI.out];go_wp2_with fail;obtain⟨WF,cM,f1,f2,f3,f4⟩:=xU D2.out (O U 8) (O U 0) (O U 0) (O U 0) (O U 0) (I (J ⟨w.heap.size+1+1+1,0,Z⟩) 2 2);rw[cM];obtain⟨WG,Gt,d3,iU,fZ⟩:=zm WF #[O U F.h.op,O U F.h.p,O U F.h.o,O U F.h.v,O U F.h.g,I A F.args.length c,O U G.h.op,O U G.h.p,O U G.h.o,O U G.h.v,O U G.h.g,I B G.args.length k] 32;rw[Gt];have hz:=HZ.out
 (try simp only[Exit.inBlock,Exit.then])
 refine LI (L9 (P:=Al) rfl _ _ (w.heap.size+1+1) 32 _ (0,0) _ rfl (Lb fZ (by omega) f1) LW rfl (by kernel_rfl)) rfl ?_;have fw:Am w.heap.size w3 WF:=f3 _ (by omega);have Gn:=fw.trans (fZ.mono (by omega));have hE:WG.heap[w.heap.size+1+1+1]?=J (Ag #[O U F.h.op,O U F.h.p,O U F.h.o,O U F.h.v,O U F.h.g,I A F.args.length c,O U G.h.op,O U G.h.p,O U G.h.o,O U G.h.v,O U G.h.g,I B G.args.length k] 32 (0,0)):=by rw[show w.heap.size+1+1+1=WF.heap.size by omega];exact d3
 have ir:=HB.out.trans Gn;obtain⟨D,hD⟩:=Yw (S:=fun k=>S k\/w.heap.size<=k) hE (.inr (by omega)) (HF.out.keep ir.size fun k hk hs=>⟨.inl hs,ir.block k hk⟩) (HG.out.keep ir.size fun k hk hs=>⟨.inl hs,ir.block k hk⟩);exact⟨_,rfl,⟨D,J ⟨w.heap.size+1+1+1,0,Z⟩,2,rfl,hD⟩,ir⟩
theorem tryIf_any(F G:Fm)(v u:Ar)(w:Ba)(S:Nat->Prop)(hF:FmX w S F v)(hG:FmX w S G u):An Al 12 #[v,u] w (RetFm S (fIf F G) w):=by
 have cd:=zH hF;have sL:=zH hG;obtain⟨d,A,c,rfl,hA⟩:=hF;obtain⟨d',B,k,rfl,hB⟩:=hG;unfold Fm.vs at cd sL ⊢;obtain⟨w1,ae,d0,aw,aB⟩:=zm w #[O U F.h.op,O U F.h.p,O U F.h.o,O U F.h.v,O U F.h.g,I A F.args.length c] 32;obtain⟨w2,aC,d1,bQ,az⟩:=zm w1 #[O U G.h.op,O U G.h.p,O U G.h.o,O U G.h.v,O U G.h.g,I B G.args.length k] 32;obtain⟨w3,cO,d2,dx,ck⟩:=zm w2 #[O U 0,O U 0,O U 0,O U 0,O U 0,I Z 0 0] 32;have d0:=Lb ck (by omega) (Lb az (by omega) d0);have d1:=Lb ck (by omega) d1;rw[aw] at d1 bQ;rw[bQ] at d2 dx;have me:Am w.heap.size w w3:=(aB.trans (az.mono (by omega))).trans (ck.mono (by omega));have ai:Aq (∀X,Am w3.heap.size w3 X->X.heap[w.heap.size]?=J (Ag #[O U F.h.op,O U F.h.p,O U F.h.o,O U F.h.v,O U F.h.g,I A F.args.length c] 32 (0,0))/\X.heap[w.heap.size+1]?=J (Ag #[O U G.h.op,O U G.h.p,O U G.h.o,O U G.h.v,O U G.h.g,I B G.args.length k] 32 (0,0))/\X.heap[w.heap.size+1+1]?=J (Ag #[O U 0,O U 0,O U 0,O U 0,O U 0,I Z 0 0] 32 (0,0))):=fun X hX=>⟨Lb hX (by omega) d0,Lb hX (by omega) d1,Lb hX (by omega) d2⟩
 have bh:Am w.heap.size w w3.drew:=me.trans ((Li _ w3).drew.mono me.size);have HN:=zH (ZM F _ w3.drew (fun k=>S k/\k<w.heap.size) (cd.out.keep bh.size fun k hk hs=>⟨⟨hs,hk⟩,bh.block k hk⟩))
 have HO:=zH (fun (v:Ar) (X:Ba) (hX:Am w3.heap.size w3 X) (hv:FmX X (fun k=>(S k/\k<w.heap.size)\/w3.heap.size<=k) (yc F) v)=>Y5 (yc F) G v _ X (fun k=>(S k/\k<w.heap.size)\/w3.heap.size<=k) hv (by
  have hb:=Lc me hX
  exact sL.out.keep hb.size fun k hk hs=>⟨.inl ⟨hs,hk⟩,hb.block k hk⟩))
 have HB:=zH me;have HZ:=zH dx;have ak:=zH ae;have dK:=zH aC;have fI:=zH cO;unfold RetFm at HN HO;clear hA hB ae aC cO d0 d1 d2 aB az ck me;go_enter func12,ntmps12;go_upto_region 1 with fail
 rw[ak.out,dK.out,fI.out];refine zt [(0,Au),(2,Au),(1,Aw),(3,Aw),(4,Aw)] (fun X=>X.heap[w.heap.size]?=J (Ag #[O U F.h.op,O U F.h.p,O U F.h.o,O U F.h.v,O U F.h.g,I A F.args.length c] 32 (0,0))/\X.heap[w.heap.size+1]?=J (Ag #[O U G.h.op,O U G.h.p,O U G.h.o,O U G.h.v,O U G.h.g,I B G.args.length k] 32 (0,0))/\X.heap[w.heap.size+1+1]?=J (Ag #[O U 0,O U 0,O U 0,O U 0,O U 0,I Z 0 0] 32 (0,0))) (by kernel_rfl) (by kernel_rfl) (ai.out _ (Li _ _).drew) ?_
 repeat
  apply zj rfl
  . rintro K' aa X ⟨u1,u2,u3⟩
    obtain⟨q0,q1,q2,q3,q4,q5,_⟩:=Ki u1;obtain⟨p0,p1,p2,p3,p4,p5,_⟩:=Ki u2;clear u1 u2 u3;go_simp;exact aa
 refine zn rfl ?_;intro K' aa;go_simp;refine HN.out.mono ?_;rintro e w4 ⟨v4,rfl,hv4,aP⟩;have HV4:=zH hv4;have fK:Aq (Am w3.heap.size w3 w4):=(Li _ w3).drew.trans aP;refine aa _ _ (ai.out _ fK.out) ?_;clear aa K' aP hv4;refine zn rfl ?_;intro K' aa;go_simp;refine(HO.out v4 w4 fK.out HV4.out).mono ?_;rintro e w5 ⟨v5,rfl,oK,aj⟩;obtain⟨d5,A5,c5,rfl,ld⟩:=oK;have aK:=zH (Lc fK.out aj);refine aa _ _ (ai.out _ aK.out) ?_;clear aa K' aj;obtain⟨_,_,e2⟩:=ai.out _ aK.out;have lE:=zH ld;have E2:=zH e2;obtain⟨r0,r1,r2,r3,r4,r5,_⟩:=Ki e2;have g0:=zi e2 0;have g1:=zi e2 1;have g2:=zi e2 2;have g3:=zi e2 3;have g4:=zi e2 4;have g5:=zi e2 5;clear ld;refine yb rfl (by kernel_rfl) ?_;intro K' aa;unfold Fm.vs;go_simp;obtain⟨WF,cM,f1,f2,f3,f4⟩:=xU E2.out (O U (fIf F G).h.op) (O U (fIf F G).h.p) (O U (fIf F G).h.o) (O U (fIf F G).h.v) (O U (fIf F G).h.g) (.slice A5 (fIf F G).args.length c5);rw[show fOr (yc F) G=fIf F G from rfl] at lE ⊢;rw[cM];refine aa (fun _=>True) _ _ trivial ?_;refine zy ?_;clear aa K';go_wp2_with fail
 (try simp only[Exit.inBlock,Exit.then])
 refine LI (L9 (P:=Al) rfl _ _ (w.heap.size+1+1) 32 _ (0,0) _ rfl f1 LW rfl (by kernel_rfl)) rfl ?_;have hz:=HZ.out;have h45:=aK.out.size;have fw:Am w.heap.size w5 WF:=f3 _ (by omega);have h34:=fK.out.size;refine⟨_,rfl,⟨d5,A5,c5,rfl,lE.out.keep (by omega) fun k hk hs=>⟨?_,f2 k ?_⟩⟩,(Lc HB.out aK.out).trans fw⟩
 . rcases hs with (hs | hs) | hs
   . exact .inl hs.1
   . exact .inr (by omega)
   exact .inr (by omega)
 rcases hs with (hs | hs) | hs<;>omega
end
end Go.Proofs.YtkmbdfdaffmhjaaGreat
