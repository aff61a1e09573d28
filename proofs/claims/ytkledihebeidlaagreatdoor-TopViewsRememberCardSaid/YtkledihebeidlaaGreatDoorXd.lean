/- Merged. -/
import Derived.Test.YtkledihebeidlaaGreatDoorXc
import Derived.Laws.CopyOwn
import Derived.IntWalk
import Derived.Maps.RangeWalk
import Derived.Deep.LoopGhost
open Go.Proofs.Tryz
open Go.Value renaming int->O,slice->I,agg->Ai,pointer->Aj
open Go.IntKind renaming i64->U
open Option renaming none->Z,some->J
open Go.Obj renaming cells->Ag
open Go.Ending renaming returned->Ak
open Go.Proofs.Tryz renaming prog->Al,func142->RG
open Go.RowKit renaming Below->Am,intOf->Ao,Hid->Ap
open Go renaming Calls->An,Value->Aq
open Bool renaming true->Ar,false->As
open Nat renaming sub_zero->Ph
open List renaming flatMap_cons->Ny,sum_cons->Rx,getD_cons_succ->Rt
namespace Go.Proofs.YtkledihebeidlaaGreatDoor
abbrev NK:=@Array.getElem?_setIfInBounds_self_of_lt
abbrev NP:=@Nat.sub_self
abbrev Py:=@Go.World.cell?_alloc_lt
abbrev RM:=@List.replicate_append_replicate
abbrev Pp:=@List.getElem?_replicate
abbrev Nz:=@List.length_replicate
abbrev Pu:=@List.ext_getElem
abbrev P8:=@Nat.le_mul_of_pos_right
set_option maxRecDepth 100000
set_option maxHeartbeats 4000000
section
open Go.RowKit
def RowX{α:Type}(C:Ct α)(S:Nat->Prop)(w:Ba)(g:Nat)(xs:List α):Prop:=
 ∃cZ,w.heap[g]?=J (Ag cZ C.K.e (0,0))/\∀(i:Nat) (hi:i<xs.length),∃cs,C.lies (fun k=>S k/\k≠g) w cs xs[i]/\∀j u,cs[j]?=J u->cZ[i*C.K.size+j]?=J u
section
variable {α:Type} {C:Ct α} {S S':Nat->Prop} {w w':Ba} {g:Nat} {xs:List α}
theorem RowX.keep(ok:CtOk C)(h:RowX C S w g xs)(hk:KeepB (fun k=>S k/\k≠g) w w')(hg:w'.heap[g]?=w.heap[g]?):RowX C S w' g xs:=by
 obtain⟨cZ,h1,h2⟩:=h;refine⟨cZ,hg.trans h1,fun i hi=>?_⟩;obtain⟨cs,h3,h4⟩:=h2 i hi;exact⟨cs,ok.keep h3 hk,h4⟩
theorem RowX.below(ok:CtOk C){B:Nat}(h:RowX C S w g xs)(hb:Am B w w')(hB:w.heap.size<=B):RowX C S w' g xs:=
 h.keep ok ⟨hb.size,fun k _ hk=>hb.block k (by omega)⟩ (hb.block g (by obtain⟨cZ,h1,_⟩:=h;have:=zd h1;omega))
theorem RowX.mono(ok:CtOk C)(h:RowX C S w g xs)(hm:∀k,k<w.heap.size->S k->S' k):RowX C S' w g xs:=by
 obtain⟨cZ,h1,h2⟩:=h;refine⟨cZ,h1,fun i hi=>?_⟩;obtain⟨cs,h3,h4⟩:=h2 i hi;exact⟨cs,ok.mono h3 fun k hk hs=>⟨hm k hk hs.1,hs.2⟩,h4⟩
theorem RowX.lt(h:RowX C S w g xs):g<w.heap.size:=by obtain⟨cZ,h1,_⟩:=h;exact zd h1
theorem RowX.other(ok:CtOk C)(h:RowX C S w g xs){b:Nat}(o:Nat)(v:Aq)(hb:b≠g)(hS:¬S b):RowX C S (w.setCell ⟨b,o,Z⟩ v) g xs:=
 h.keep ok (KeepB.setCell (fun h=>hS h.1) v) (Ld w ⟨b,o,Z⟩ v g (fun e=>hb e.symm))
theorem RowX.of_own(ok:CtOk C){base n cap:Nat}{v:Aq}{cs:List Aq}(h:OwnR C.K w base v n cs)(hv:v=I (J ⟨g,0,Z⟩) n cap)(_hn:xs.length=n)
  (hc:∀(i:Nat) (hi:i<xs.length),∃d,C.lies (fun k=>S k/\k≠g) w d xs[i]/\∀j u,d[j]?=J u->cs[i*C.K.size+j]?=J u):RowX C S w g xs:=by
 have:=ok;subst hv;rcases h.2 with ⟨e,_⟩ | ⟨g',aZ,cur,e,_,hg,_,_,_,ht⟩
 . cases e
 cases e
 refine⟨cur,hg,fun i hi=>?_⟩;obtain⟨d,h1,h2⟩:=hc i hi;refine⟨d,h1,fun j u hu=>?_⟩;have h3:=h2 j u hu;rw[<-ht,Pc] at h3
 split at h3
 . simpa using h3
 cases h3
end
theorem RowX.set3{S:Nat->Prop}{w:Ba}{g:Nat}{xs:List Cs}(h:RowX cCs S w g xs){i:Nat}(hi:i<xs.length){v0 v1 v2:Aq}(hl:cCs.lies (fun k=>S k/\k≠g) w [v0,v1,v2] xs[i]) :
  RowX cCs S (((w.setCell ⟨g,i*3,Z⟩ v0).setCell ⟨g,i*3+1,Z⟩ v1).setCell ⟨g,i*3+2,Z⟩ v2) g xs:=by
 obtain⟨cZ,h1,h2⟩:=h;have k1:=Li w g (i*3) cZ _ v0 h1;have k2:=Li _ g (i*3+1) _ _ v1 k1;have k3:=Li _ g (i*3+2) _ _ v2 k2
 have hk:KeepB (fun k=>S k/\k≠g) w (((w.setCell ⟨g,i*3,Z⟩ v0).setCell ⟨g,i*3+1,Z⟩ v1).setCell ⟨g,i*3+2,Z⟩ v2):=
  ((KeepB.setCell (a:=⟨g,i*3,Z⟩) (fun h=>h.2 rfl) v0).trans (KeepB.setCell (a:=⟨g,i*3+1,Z⟩) (fun h=>h.2 rfl) v1)).trans (KeepB.setCell (a:=⟨g,i*3+2,Z⟩) (fun h=>h.2 rfl) v2)
 refine⟨_,k3,fun i' cN=>?_⟩
 by_cases e:i'=i
 . subst e
   obtain⟨cs,h3,h4⟩:=h2 i' cN;have aM:=xz.len h3
   have hb:i'*3+2<cZ.size:=by
    have iR:2<cs.length:=by rw[aM];show 2<3;omega
    have:=h4 2 cs[2] (Lj iR);exact(Lf.1 this).1
   refine⟨[v0,v1,v2],xz.keep hl hk,fun j u hu=>?_⟩;change (((cZ.setIfInBounds (i'*3) v0).setIfInBounds (i'*3+1) v1).setIfInBounds (i'*3+2) v2)[i'*3+j]?=J u
   match j,hu with
   | 0,hu=>cases hu;rw[LR (by omega),LR (by omega),Pt,NK (by omega)]
   | 1,hu=>cases hu;rw[LR (by omega),NK (by simp;omega)]
   | 2,hu=>cases hu;rw[NK (by simp;omega)]
 obtain⟨cs,h3,h4⟩:=h2 i' cN;refine⟨cs,xz.keep h3 hk,fun j u hu=>?_⟩;have hj:j<3:=by have:=(Ll.1 hu).1;rw[xz.len h3] at this;exact this
 have h5:=h4 j u hu;change cZ[i'*3+j]?=J u at h5;change (((cZ.setIfInBounds (i*3) v0).setIfInBounds (i*3+1) v1).setIfInBounds (i*3+2) v2)[i'*3+j]?=J u;rw[LR (by omega),LR (by omega),LR (by omega)];exact h5
theorem RowX.set1{α:Type}{C:Ct α}(ok:CtOk C)(Eh:C.K.size=1){S:Nat->Prop}{w:Ba}{g:Nat}{xs:List α}(h:RowX C S w g xs){i:Nat}(hi:i<xs.length){v0:Aq}(hl:C.lies (fun k=>S k/\k≠g) w [v0] xs[i]) :
  RowX C S (w.setCell ⟨g,i,Z⟩ v0) g xs:=by
 obtain⟨cZ,h1,h2⟩:=h;have k1:=Li w g i cZ _ v0 h1;have hk:KeepB (fun k=>S k/\k≠g) w (w.setCell ⟨g,i,Z⟩ v0):=KeepB.setCell (a:=⟨g,i,Z⟩) (fun h=>h.2 rfl) v0;refine⟨_,k1,fun i' cN=>?_⟩;obtain⟨cs,h3,h4⟩:=h2 i' cN;have aM:=ok.len h3;rw[Eh] at aM
 by_cases e:i'=i
 . subst e
   have hb:i'<cZ.size:=by
    have:=h4 0 cs[0] (Lj (by omega));rw[Eh] at this;have:=(Lf.1 this).1;omega
   refine⟨[v0],ok.keep hl hk,fun j u hu=>?_⟩;have hj:j=0:=by have:=(Ll.1 hu).1;simp at this;omega
   subst hj
   cases hu
   rw[Eh,NS,Pt,NK hb]
 refine⟨cs,ok.keep h3 hk,fun j u hu=>?_⟩;have hj:j=0:=by have:=(Ll.1 hu).1;omega
 subst hj;have h5:=h4 0 u hu;rw[Eh,NS,Pt] at h5 ⊢;rw[LR (by omega)];exact h5
theorem RowX.cat{S:Nat->Prop}{w:Ba}{g:Nat}{xs:List Cs}(h:RowX cCs S w g xs):CAt w w.heap.size (J ⟨g,0,Z⟩) xs:=fun _=>by
 obtain⟨cZ,h1,h2⟩:=h;refine⟨g,0,rfl,zd h1,fun i hi=>?_⟩;obtain⟨cs,⟨A0,c0,A1,c1,A2,c2,rfl,BJ,oq,fq⟩,h4⟩:=h2 i hi;refine⟨_,_,_,?_,?_,?_,⟨A0,c0,rfl,BJ.iat⟩,⟨A1,c1,rfl,oq.lat⟩,⟨A2,c2,rfl,fq.lat⟩⟩
 . rw[LH];exact za h1 _ (h4 0 _ rfl)
 . rw[LH];exact za h1 _ (h4 1 _ rfl)
 . rw[LH];exact za h1 _ (h4 2 _ rfl)
theorem RowX.sat{S:Nat->Prop}{w:Ba}{g:Nat}{xs:List (List Mv)}(h:RowX cMl S w g xs):SAt w w.heap.size (J ⟨g,0,Z⟩) xs:=fun _=>by
 obtain⟨cZ,h1,h2⟩:=h;refine⟨g,0,rfl,zd h1,fun i hi=>?_⟩;obtain⟨cs,⟨A0,c0,rfl,BJ⟩,h4⟩:=h2 i hi;refine⟨A0,c0,?_,BJ.mat⟩;have:=h4 0 _ rfl;change cZ[i*1+0]?=_ at this;rw[LH];exact za h1 _ (by rw[<-this];congr 1;omega)
theorem CAt.raw{w:Ba}{B:Nat}{A:Bb}{xs:List Cs}(h:CAt w B A xs)(hB:B<=w.heap.size):∃cs:List Aq,cs.length=xs.length*3/\Raw w A xs.length cs/\(∀u∈cs,u.oneCell'=Ar) /\
  ∀(i:Nat) (hi:i<xs.length),∃d,cCs.lies (fun k=>k<B) w d xs[i]/\∀j u,d[j]?=J u->cs[i*3+j]?=J u:=by
 have key:∀n,n<=xs.length->∃aC:List (List Aq),aC.length=n/\(∀c∈aC,c.length=3/\∀u∈c,u.oneCell'=Ar)/\∀(i:Nat) (hi:i<n) (hx:i<xs.length),∃d,aC[i]?=J d/\cCs.lies (fun k=>k<B) w d xs[i] /\
   ∀b off,A=J ⟨b,off,Z⟩->∀j u,d[j]?=J u->w.cell? ⟨b,off+(i*3+j),Z⟩=J u:=by
  intro n
  induction n with
  | zero=>exact fun _=>⟨[],rfl,by simp,fun i hi=>absurd hi (by omega)⟩
  | succ n ih=>
   intro hn;obtain⟨aC,c1,c2,c3⟩:=ih (by omega);obtain⟨b,off,A0,k0,A1,k1,A2,k2,e,hb,x0,x1,x2,i0,l1,l2⟩:=h.row n (by omega);refine⟨aC++[[I A0 xs[n].inp.length k0,I A1 xs[n].out.length k1,I A2 xs[n].calm.length k2]],by simp[c1],?_,fun i hi hx=>?_⟩
   . intro c hc
     rcases LM.1 hc with hc | hc
     . exact c2 c hc
     . simp at hc;subst hc
       exact⟨rfl,fun u hu=>by simp at hu;rcases hu with rfl | rfl | rfl<;>rfl⟩
   . by_cases ei:i<n
     . obtain⟨d,d1,d2⟩:=c3 i ei hx
       exact⟨d,by rw[L3 (by omega)];exact d1,d2⟩
     . obtain rfl:i=n:=by omega
       refine⟨_,by rw[LW (by omega),c1,NP];rfl,⟨A0,k0,A1,k1,A2,k2,rfl,IAtS.of_iat i0 hB (fun _ h=>h),LAtS.of_lat l1 hB (fun _ h=>h),LAtS.of_lat l2 hB (fun _ h=>h)⟩,fun b' lU e' j u hu=>?_⟩;rw[e] at e';cases e'
       match j,hu with
       | 0,hu=>cases hu;exact x0
       | 1,hu=>cases hu;exact x1
       | 2,hu=>cases hu;exact x2
 obtain⟨aC,c1,c2,c3⟩:=key xs.length (Lh _);have bl:∀c∈aC,c.length=3:=fun c hc=>(c2 c hc).1
 have pH:aC.flatten.length=xs.length*3:=by
  rw[List.length_flatten,<-c1];clear c3 c1
  induction aC with
  | nil=>rfl
  | cons c aC ih=>simp only[List.map_cons,List.sum_cons,List.length_cons];rw[ih (fun d hd=>c2 d (by simp[hd])) (fun d hd=>bl d (by simp[hd])),bl c (by simp)];omega
 refine⟨aC.flatten,pH,fun h0=>?_,fun u hu=>?_,fun i hi=>?_⟩
 . obtain⟨b,off,e,hb,_⟩:=h h0
   refine⟨b,off,e,by omega,fun j u hj=>?_⟩;have bf:j<xs.length*3:=by rw[<-pH];exact(Ll.1 hj).1
   have cN:j / 3<xs.length:=by omega
   obtain⟨d,d1,_,d3⟩:=c3 (j / 3) cN cN;have h8:j / 3*3+j % 3=j:=by omega
   have h9:=uF aC bl (j / 3) (by omega) (j % 3) (by omega);rw[h8,hj] at h9;obtain⟨_,d4⟩:=Ll.1 d1;rw[d4] at h9;have:=d3 b off e (j % 3) u h9.symm;rwa[h8] at this
 . obtain⟨c,hc,hu⟩:=Nu.1 hu
   exact(c2 c hc).2 u hu
 obtain⟨d,d1,d2,_⟩:=c3 i hi hi;refine⟨d,d2,fun j u hu=>?_⟩;have hj:j<3:=by have:=(Ll.1 hu).1;rw[xz.len d2] at this;exact this
 obtain⟨d5,d4⟩:=Ll.1 d1;rw[uF aC bl i d5 j hj,d4];exact hu
theorem SAt.raw{w:Ba}{B:Nat}{A:Bb}{xs:List (List Mv)}(h:SAt w B A xs)(hB:B<=w.heap.size):∃cs:List Aq,cs.length=xs.length*1/\Raw w A xs.length cs/\(∀u∈cs,u.oneCell'=Ar) /\
  ∀(i:Nat) (hi:i<xs.length),∃d,cMl.lies (fun k=>k<B) w d xs[i]/\∀j u,d[j]?=J u->cs[i*1+j]?=J u:=by
 have key:∀n,n<=xs.length->∃cs:List Aq,cs.length=n/\(∀u∈cs,u.oneCell'=Ar)/\∀(i:Nat) (hi:i<n) (hx:i<xs.length),∃A' c,cs[i]?=J (I A' xs[i].length c)/\MAtS (fun k=>k<B) w A' xs[i] /\
   ∀b off,A=J ⟨b,off,Z⟩->w.cell? ⟨b,off+i,Z⟩=J (I A' xs[i].length c):=by
  intro n
  induction n with
  | zero=>exact fun _=>⟨[],rfl,by simp,fun i hi=>absurd hi (by omega)⟩
  | succ n ih=>
   intro hn;obtain⟨cs,c1,c2,c3⟩:=ih (by omega);obtain⟨b,off,A',c,e,hb,x0,m0⟩:=h.at_ n (by omega);refine⟨cs++[I A' xs[n].length c],by simp[c1],?_,fun i hi hx=>?_⟩
   . intro u hu
     rcases LM.1 hu with hu | hu
     . exact c2 u hu
     . simp at hu;subst hu;rfl
   . by_cases ei:i<n
     . obtain⟨A2,k2,d1,d2⟩:=c3 i ei hx
       exact⟨A2,k2,by rw[L3 (by omega)];exact d1,d2⟩
     . obtain rfl:i=n:=by omega
       refine⟨A',c,by rw[LW (by omega),c1,NP];rfl,MAtS.of_mat m0 hB (fun _ h=>h),fun b' lU e'=>?_⟩;rw[e] at e';cases e';exact x0
 obtain⟨cs,c1,c2,c3⟩:=key xs.length (Lh _);refine⟨cs,by omega,fun h0=>?_,c2,fun i hi=>?_⟩
 . obtain⟨b,off,e,hb,_⟩:=h h0
   refine⟨b,off,e,by omega,fun j u hj=>?_⟩;have bf:j<xs.length:=by rw[<-c1];exact(Ll.1 hj).1
   obtain⟨A',c,d1,_,d3⟩:=c3 j bf bf;rw[hj] at d1;cases d1;exact d3 b off e
 obtain⟨A',c,d1,d2,_⟩:=c3 i hi hi;refine⟨[I A' xs[i].length c],⟨A',c,rfl,d2⟩,fun j u hu=>?_⟩;have hj:j=0:=by have:=(Ll.1 hu).1;simp at this;omega
 subst hj
 cases hu
 rw[NS,Pt];exact d1
end
section
open Go.RowKit
attribute [local go_sem] Oper.semAt_some
theorem QW(w:Ba)(c1:Array Aq)(t1:TypeId):∃W0,(w.alloc (Ag c1 t1)).drew=W0/\W0.heap[w.heap.size]?=J (Ag c1 t1 (0,0))/\W0.heap.size=w.heap.size+1/\Am w.heap.size w W0:=
 ⟨_,rfl,ze w _,by show(w.alloc _).heap.size=_;simp,(zw w _).drew⟩
def yJ(pre:List Rd)(l:List (List Rd)):List (List Rd):=l.map (pre++·)
theorem QB(pre:List Rd):yJ pre [[]]=[pre]:=by simp[yJ]
theorem Xa(pre:List Rd)(r:Rd)(l:List (List Rd)):yJ pre (l.map (r::·))=yJ (pre++[r]) l:=by simp[yJ]
def ya(a:Ad)(k:Nat)(M:List Mv)(j:Nat):List (List Rd):=(M.take j).flatMap fun m=>(zn a k m.to).map (m.r::·)
theorem jD(a:Ad)(k:Nat)(M:List Mv):ya a k M 0=[]:=by simp[ya]
theorem qb(a:Ad)(k:Nat)(M:List Mv){j:Nat}(h:j<M.length):ya a k M (j+1)=ya a k M j++(zn a k M[j].to).map (M[j].r::·):=by
 unfold ya;rw[Ls h,PD];simp
theorem vL(a:Ad)(k:Nat){s:Nat}(h:s<a.sts.length):ya a k a.sts[s] a.sts[s].length=zn a (k+1) (s:Int):=by
 unfold ya;rw[zn,LC,show a.at_ (s:Int)=a.sts[s] by unfold Ad.at_;rw[Lu,Lg,Lj h];rfl]
theorem vK(a:Ad)(k:Nat)(M:List Mv)(j:Nat):(ya a k M j).length<=(ya a k M M.length).length:=by
 unfold ya;rw[LC]
 conv=>rhs;rw[<-Rk j M,PD,Lp]
 omega
def Fx(bR bO bA bF g k:Nat):Prop:=k≠bR/\k≠bO/\k≠bA/\k≠bF/\k≠g
structure FromIn(a:Ad)(K:Nat)(SV:Bb)(ks B bR bO bA bF g:Nat)(V:Aq)(pre:List Rd)(outs:List (List Rd))(w0 w:Ba):Prop where
 hR:w.heap[bR]?=J (Ag #[O U K] 3 (0,0))
 hO:w.heap[bO]?=J (Ag #[V] 104 (0,0))
 hA:w.heap[bA]?=J (Ag #[O U a.n,I SV a.sts.length ks] 27 (0,0))
 hF:w.heap[bF]?=J (Ag #[.func (.func 82) #[] #[Aj (J ⟨bR,0,Z⟩),Aj (J ⟨bO,0,Z⟩),Aj (J ⟨bA,0,Z⟩),Aj (J ⟨bF,0,Z⟩)]] 160 (0,0))
 out:OwnX cWd (Fx bR bO bA bF g) w B V outs
 ne:∀k,V.ownBlock=J k->Fx bR bO bA bF g k
 buf:OwnR kRd w B (I (J ⟨g,0,Z⟩) pre.length K) pre.length (yp pre)
 bel:Am B w0 w
theorem FromIn.fresh{a:Ad}{K:Nat}{SV:Bb}{ks B bR bO bA bF g:Nat}{V:Aq}{pre:List Rd}{outs:List (List Rd)}{w0 w:Ba}(H:FromIn a K SV ks B bR bO bA bF g V pre outs w0 w){k:Nat}(hk:w.heap.size<=k):Fx bR bO bA bF g k:=by
 have h1:=zd H.hR;have h2:=zd H.hO;have h3:=zd H.hA;have h4:=zd H.hF;have h5:=(H.buf.lt g rfl).2;exact⟨by omega,by omega,by omega,by omega,by omega⟩
structure FromB(B bR bO bA bF g:Nat):Prop where
 r:B<=bR
 o:B<=bO
 a:B<=bA
 f:B<=bF
 ro:bR≠bO
 ao:bA≠bO
 fo:bF≠bO
 gr:g≠bR
 go:g≠bO
 ga:g≠bA
 gf:g≠bF
 g:B<=g
def j8(a:Ad)(K:Nat)(SV:Bb)(ks k:Nat):Prop:=∀(s:Int) (pre:List Rd) (outs:List (List Rd)) (V:Aq) (B bR bO bA bF g:Nat) (w0 w:Ba),
 pre.length+k=K->(k=0\/(0<=s/\s<a.sts.length))->outs.length+(zn a k s).length<=5000->FromB B bR bO bA bF g->SAt w0 B SV a.sts->FromIn a K SV ks B bR bO bA bF g V pre outs w0 w ->
 An Al 82 #[O U s,I (J ⟨g,0,Z⟩) pre.length K,Aj (J ⟨bR,0,Z⟩),Aj (J ⟨bO,0,Z⟩),Aj (J ⟨bA,0,Z⟩),Aj (J ⟨bF,0,Z⟩)] w
  fun e w'=>(∃v,e=Ak v)/\∃V',FromIn a K SV ks B bR bO bA bF g V' pre (outs++yJ pre (zn a k s)) w0 w'
theorem FromIn.push{a:Ad}{K:Nat}{SV:Bb}{ks B bR bO bA bF g:Nat}{V:Aq}{pre:List Rd}{outs:List (List Rd)}{w0 w W w3:Ba}{x:List Rd}{aC:List (List Aq)}{A2:Bb}{c2 g' cap:Nat}
  (H:FromIn a K SV ks B bR bO bA bF g V pre outs w0 w) (hB:FromB B bR bO bA bF g) (hw:Am w.heap.size w W) (hl:aC.length=outs.length)
  (h3:∀(i:Nat) (h1:i<aC.length) (h2:i<outs.length),cWd.lies (fun k=>Fx bR bO bA bF g k/\V.ownBlock≠J k) W aC[i] outs[i])
  (hx:RAtS (fun k=>w.heap.size<=k) W A2 x) (RL:x.length<=c2) (hr:OwnR kWd w3 B (I (J ⟨g',0,Z⟩) (outs.length+1) cap) (outs.length+1) (aC.flatten++[I A2 x.length c2]))
  (hg:W.grownBy w3 V.ownBlock) (bn:V.ownBlock=J g'\/g'=W.heap.size) :
  FromIn a K SV ks B bR bO bA bF g (I (J ⟨g',0,Z⟩) (outs.length+1) cap) pre (outs++[x]) w0 (w3.setCell ⟨bO,0,Z⟩ (I (J ⟨g',0,Z⟩) (outs.length+1) cap)):=by
 have aa:=H.out.lt;have nk:g<w.heap.size:=(H.buf.lt g rfl).2;have Fa:=hw.size;have k1:=zd H.hR;have k2:=zd H.hO;have k3:=zd H.hA;have k4:=zd H.hF
 have hk:∀b,b<w.heap.size->V.ownBlock≠J b->b≠bO->(w3.setCell ⟨bO,0,Z⟩ (I (J ⟨g',0,Z⟩) (outs.length+1) cap)).heap[b]?=w.heap[b]?:=fun b h1 h0 h2=>
  (Ld _ _ _ b h2).trans ((hg.block b (by omega) (fun e=>h0 e.symm)).trans (hw.block b h1))
 have fj:w3.heap[bO]?=J (Ag #[V] 104 (0,0)):=(hg.block bO (by omega) (fun e=>(H.ne bO e.symm).2.1 rfl)).trans ((hw.block bO (by omega)).trans H.hO);obtain⟨x1,x2,x3⟩:=va fj (I (J ⟨g',0,Z⟩) (outs.length+1) cap);have hX:cWd.lies (fun k=>Fx bR bO bA bF g k/\V.ownBlock≠J k) W [I A2 x.length c2] x:=⟨A2,c2,rfl,hx.mono fun k _ hk=>⟨H.fresh hk,fun e=>by have:=(aa k e).2;omega⟩,RL⟩;have hO:=OwnX.app xM hl h3 hX hr hg bn;have oz:B<=g'/\g'<w3.heap.size:=hr.lt g' rfl
 have BP:Fx bR bO bA bF g g':=by
  rcases bn with e | e
  . exact H.ne g' e
  exact H.fresh (by omega)
 have Ff:V.ownBlock≠J g:=fun e=>(H.ne g e).2.2.2.2 rfl
 refine⟨(hk _ k1 (fun e=>(H.ne _ e).1 rfl) hB.ro).trans H.hR,x1,(hk _ k3 (fun e=>(H.ne _ e).2.2.1 rfl) hB.ao).trans H.hA,(hk _ k4 (fun e=>(H.ne _ e).2.2.2.1 rfl) hB.fo).trans H.hF,?_,?_,?_,?_⟩
 . refine hO.kept xM (yj w3 bO 0 _) (.inr (fun e=>?_)) (fun k e=>.inl fun hs=>?_)
   . have e2:g'=bO:=by simpa[Value.ownBlock] using e
     exact BP.2.1 e2
   cases e
   exact hs.2.1 rfl
 . intro k e
   have e2:g'=k:=by simpa[Value.ownBlock] using e
   subst e2;exact BP
 . refine((H.buf.below hw (Lh _)).kept hg (.inr (fun e=>Ff e.symm))).kept (yj w3 bO 0 _) (.inr (fun e=>?_))
   have e2:g=bO:=by simpa[Value.ownBlock] using e
   exact hB.go e2
 have h1:=hB.o;have h2:=hB.g;exact((H.bel.trans (hw.mono (by omega))).grown hg (by omega) (fun k hk=>(aa k hk).1)).setCell (by show B<=bO;omega) _
theorem J8(a:Ad)(K:Nat)(hK:K<=6)(SV:Bb)(ks:Nat):j8 a K SV ks 0:=by
 intro s pre outs V B bR bO bA bF g w0 w oe _ aM hB hS H;obtain rfl:K=pre.length:=by omega
 have aM:outs.length<=5000:=by omega
 have HI:=zH H;have bL:=zH hB;have r0:=za H.hR 0 rfl;have o0:=za H.hO 0 rfl
 have ry:Raw w.drew (J ⟨g,0,Z⟩) pre.length (yp pre):=by
  obtain⟨A,cap,e,_,_,h⟩:=H.buf.raw
  cases e;exact h
 have HC:=zH (Zh (J ⟨g,0,Z⟩) pre.length pre.length (yp pre) w.drew (xe pre) ry (jo pre) (by omega));go_enter func82,ntmps82;go_wp2_with fail;refine zI [(0,Ar),(1,Ar),(2,As),(3,As),(4,As),(5,As)] (fun W=>W.cell? ⟨bO,0,Z⟩=J V) (by kernel_rfl) (by kernel_rfl) (by exact o0) ?_
 repeat
  apply zU rfl
  . intro K' ah W hW
    go_simp;exact ah
 refine zN rfl ?_;intro K' ah;go_simp;refine HC.out.mono ?_;rintro e w2 ⟨v2,rfl,bW,ae⟩;obtain⟨A2,c2,rfl,iR,fX,fq⟩:=jn bW;have ae:Am w.heap.size w w2:=gx ae;have fq:RAtS (fun k=>w.heap.size<=k) w2 A2 pre:=fq;have sU:=HI.out.hO;have o2:w2.cell? ⟨bO,0,Z⟩=J V:=(ae.cell (p:=⟨bO,0,Z⟩) (zd sU)).trans o0;refine ah _ _ o2 ?_;refine zN rfl ?_;intro K' ah;go_simp;have Gh:bO<w2.heap.size:=by have:=zd sU;have:=ae.size;omega
 refine ah _ _ ((Py _ _ _ Gh).trans o2) ?_;refine zN rfl ?_;intro K' ah;obtain⟨W2,eZ⟩:=Kh (w2.alloc (Ag #[I A2 pre.length c2] 39));have ix:=ze w2 (Ag #[I A2 pre.length c2] 39);have bG:Am w.heap.size w W2:=by rw[<-eZ];exact ae.alloc ae.size _
 have sy:RAtS (fun k=>w.heap.size<=k) W2 A2 pre:=by rw[<-eZ];exact fq.keep (KeepB.alloc _ _ _)
 rw[eZ] at ix ⊢;obtain⟨aC,bD,eH,bl⟩:=HI.out.out.below xM bG (Lh _);have bu:B<=W2.heap.size:=by have:=bL.out.g;have:=(HI.out.buf.lt g rfl).2;have:=bG.size;omega
 refine Ju Qd (by rfl) (.tmp 14) (.tmp 17) (by rfl) B V outs.length aC.flatten (by rfl) eH w2.heap.size #[I A2 pre.length c2] (by rfl) ix rfl (by simp[Value.oneCell']) (by omega) bu _ rfl ?_;intro g' cap w3 hr aS bn FA
 have o3:w3.cell? ⟨bO,0,Z⟩=J V:=by
  refine(LU (aS.block bO (by have:=zd sU;have:=bG.size;omega) (fun e=>?_))).trans ((bG.cell (p:=⟨bO,0,Z⟩) (zd sU)).trans o0);exact(HI.out.ne bO e.symm).2.1 rfl
 have f3:w3.frozen? ⟨bO,0,Z⟩=As:=by
  refine zb (cs:=#[V]) (t:=104) ((aS.block bO (by have:=zd sU;have:=bG.size;omega) (fun e=>?_)).trans ((bG.block bO (zd sU)).trans sU)) 0;exact(HI.out.ne bO e.symm).2.1 rfl
 have HP:=zH (HI.out.push bL.out bG bD bl sy iR hr aS bn);refine ah _ _ o3 ?_;refine xv rfl (by kernel_rfl) ?_;intro K' ah;go_simp;refine ah (fun _=>True) _ _ trivial ?_;refine yr ?_;go_simp;go_wp2_with fail;refine LP (PE rfl _ _ _) rfl ?_;refine⟨⟨.tuple #[],rfl⟩,I (J ⟨g',0,Z⟩) (outs.length+1) cap,?_⟩;rw[show zn a 0 s=[[]] from rfl,QB];exact HP.out
theorem FromIn.ext{a:Ad}{K:Nat}{SV:Bb}{ks B bR bO bA bF g:Nat}{V:Aq}{pre:List Rd}{outs:List (List Rd)}{w0 w W w4:Ba}{r:Rd}
  (H:FromIn a K SV ks B bR bO bA bF g V pre outs w0 w) (hB:FromB B bR bO bA bF g) (hw:Am w.heap.size w W)
  (hr:OwnR kRd w4 B (I (J ⟨g,0,Z⟩) (pre.length+1) K) (pre.length+1) (yp pre++r.cells.toList)) (hg:W.grownBy w4 (J g)) :
  FromIn a K SV ks B bR bO bA bF g V (pre++[r]) outs w0 w4:=by
 have nk:g<w.heap.size:=(H.buf.lt g rfl).2;have Fa:=hw.size;have k1:=zd H.hR;have k2:=zd H.hO;have k3:=zd H.hA;have k4:=zd H.hF;have hk:∀b,b<w.heap.size->g≠b->w4.heap[b]?=w.heap[b]?:=fun b h1 h2=>(hg.block b (by omega) (fun e=>by cases e;exact h2 rfl)).trans (hw.block b h1)
 have Ff:V.ownBlock≠J g:=fun e=>(H.ne g e).2.2.2.2 rfl
 refine⟨(hk _ k1 hB.gr).trans H.hR,(hk _ k2 hB.go).trans H.hO,(hk _ k3 hB.ga).trans H.hA,(hk _ k4 hB.gf).trans H.hF,?_,H.ne,?_,?_⟩
 . exact(H.out.below xM hw (Lh _)).kept xM hg (.inr Ff) (fun k e=>.inl fun hs=>hs.2.2.2.2 (by cases e;rfl))
 . rw[Lp,jc];exact hr
 have:=hB.g;exact(H.bel.trans (hw.mono (by omega))).grown hg (by omega) (fun k hk=>by cases hk;omega)
theorem FromIn.cut{a:Ad}{K:Nat}{SV:Bb}{ks B bR bO bA bF g:Nat}{V:Aq}{pre:List Rd}{outs:List (List Rd)}{w0 w:Ba}{r:Rd}
  (H:FromIn a K SV ks B bR bO bA bF g V (pre++[r]) outs w0 w):FromIn a K SV ks B bR bO bA bF g V pre outs w0 w:=by
 refine⟨H.hR,H.hO,H.hA,H.hF,H.out,H.ne,?_,H.bel⟩;have h:=H.buf;rw[jc,Lp] at h;exact h.pop (xe pre)
theorem QC(pre:List Rd)(l:List (List Rd)):(yJ pre l).length=l.length:=by simp[yJ]
theorem gz(pre:List Rd)(l m:List (List Rd)):yJ pre (l++m)=yJ pre l++yJ pre m:=by simp[yJ]
theorem J9(a:Ad)(K:Nat)(SV:Bb)(ks k:Nat)(hz:zk a a.sts=0)(hf:FewA a)(ih:j8 a K SV ks k):j8 a K SV ks (k+1):=by
 intro s pre outs V B bR bO bA bF g w0 w oe fG aM hB hS H;have hs:0<=s/\s<a.sts.length:=fG.resolve_left (by omega);obtain⟨S,rfl⟩:=Lq hs.1;have iC:S<a.sts.length:=by omega
 have HI:=zH H;have bL:=zH hB;have Ij:=zH ih;have dr:=zH hS;have HZ:=zH (@yS a hz);have mh:=hf.each (Le iC);have fN:=zH (vL a k iC);have rh:=zH aM;have sX:=zH (fun (m:Mv) (hm:m∈a.sts[S])=>(Nu.2 ⟨_,Le iC,hm⟩:m∈a.mvs));have r0:=za H.hR 0 rfl;have a1:=za H.hA 1 rfl;obtain⟨bs,os,A',lC,tM,bu,s0,sw⟩:=(hS.keep H.bel).at_ S iC;have Sr:SV.map (fun x=>x)=J ⟨bs,os,Z⟩:=by rw[tM];rfl
 have oZ:Ap (∀W,Am B w0 W->MAt W B A' a.sts[S]):=by
  intro W hW;obtain⟨bs2,os2,A2,cs2,Cn,_,s2,pQ⟩:=(hS.keep hW).at_ S iC;rw[tM] at Cn
  cases Cn
  have e1:=(hS.keep H.bel).at_ S iC;obtain⟨bs3,os3,A3,cs3,Cm,B8,s3,T'⟩:=hS.at_ S iC;rw[tM] at Cm
  cases Cm
  have x1:=(H.bel.cell (p:=⟨bs,os+S,Z⟩) B8).trans s3;have x2:=(hW.cell (p:=⟨bs,os+S,Z⟩) B8).trans s3;rw[x1] at s0
  cases s0
  exact T'.keep hW
 clear Sr sw hS;subst tM;obtain⟨M,hM⟩:=Kh (a.sts[S]);rw[hM] at s0 oZ fN sX mh;have e0:((pre.length:Int)==(K:Int))=As:=by simp;omega
 have aW:(S:Int)<(a.sts.length:Int):=by omega
 have dk:(0:Int)<=(S:Int):=by omega
 clear H hB hM hz hf ih hs fG;go_enter func82,ntmps82;go_wp2_with fail;clear r0 a1 s0 e0
 go_loopw [25] (fun i wr=>∃(j:Nat) (V':Aq),j<=M.length/\i=O U (j:Int)/\Ap (FromIn a K (J ⟨bs,os,Z⟩) ks B bR bO bA bF g V' pre (outs++yJ pre (ya a k M j)) w0 wr)) (fun i _=>M.length-(Ao i).toNat)
 case atStart=>exact⟨0,V,by omega,rfl,by rw[jD,show yJ pre []=[] from rfl,L7];exact HI.out⟩
 obtain⟨j,V',hj,rfl,HJ⟩:=hrel
 by_cases bf:j<M.length
 case neg=>
  obtain rfl:j=M.length:=by omega
  go_wp2_with fail
  go_end0
  refine⟨⟨.tuple #[],rfl⟩,V',?_⟩;rw[<-fN.out];exact HJ.out
 obtain⟨bm,om,e1,TK,m0,m1,m2,m3,m4,m5,m6,m7⟩:=(oZ.out _ HJ.out.bel).row j bf;subst e1;have DK:(0:Int)<=(j:Int):=by omega
 have DJ:(j:Int)<(M.length:Int):=by omega
 have HF:=HJ.out.hF;have f0:=za HF 0 rfl;have Gi:bF<wr.heap.size:=zd HF;have dU:=sX.out M[j] (Le bf);obtain⟨z1,z2,z3,z4⟩:=HZ.out _ dU;have cU:=zH (qb a k M bf);have dI:=vK a k M (j+1);rw[qb a k M bf,Lp,LT] at dI;obtain⟨m,tu⟩:=Kh (M[j]);rw[tu] at m0 m1 m2 m3 m4 m5 m6 m7 dU z1 z2 z3 z4 cU dI
 have fl:(outs++yJ pre (ya a k M j)).length+(zn a k m.to).length<=5000:=by
  have:=rh.out;rw[<-fN.out] at this;rw[Lp,QC];omega
 have C3:=zH fl;have Vi:=zH z3;have Vh:=zH z4;clear tu dI z1 z2 z3 z4 fl dU sX HZ rh HI oZ fN;go_wp2_with fail;clear m0 m1 m2 m3 m4 m5 m6 m7;obtain⟨W1,cA,g0,cj,ay⟩:=zq wr m.cells 121;unfold Mv.cells at cA;rw[cA];clear cA;have f1:=(ay.cell (p:=⟨bF,0,Z⟩) Gi).trans f0;have cI:=(HJ.out.buf.lt g rfl).2;have BN:=bL.out.gf;have SM:pre.length+1<=K:=by omega
 have Fq:(pre++[m.r]).length+k=K:=by rw[Lp,List.length_singleton];omega
 have oM:wr.heap.size<W1.heap.size:=by omega
 have hD:=zH g0
 refine zI [(0,Ar),(1,Ar),(2,Ar),(3,Ar),(4,Ar),(5,Ar),(6,As),(7,As),(8,As)]
  (fun W=>W.cell? ⟨bF,0,Z⟩=J (.func (.func 82) #[] #[Aj (J ⟨bR,0,Z⟩),Aj (J ⟨bO,0,Z⟩),Aj (J ⟨bA,0,Z⟩),Aj (J ⟨bF,0,Z⟩)])/\W.heap[wr.heap.size]?=J (Ag m.cells 121 (0,0)))
  (by kernel_rfl) (by kernel_rfl) ⟨f1,g0⟩ ?_
 clear f0
 repeat
  apply zU rfl
  . rintro K' ah W ⟨y0,y1⟩
    have g1:W.cell? ⟨wr.heap.size,0,Z⟩=J (O U m.r.n):=za y1 0 rfl;have g2:W.cell? ⟨wr.heap.size,1,Z⟩=J (O U m.r.h0):=za y1 1 rfl;have g3:W.cell? ⟨wr.heap.size,2,Z⟩=J (O U m.r.h1):=za y1 2 rfl;have g4:W.cell? ⟨wr.heap.size,3,Z⟩=J (O U m.r.h2):=za y1 3 rfl;have g5:W.cell? ⟨wr.heap.size,4,Z⟩=J (O U m.r.h3):=za y1 4 rfl;have g6:W.cell? ⟨wr.heap.size,5,Z⟩=J (O U m.r.h4):=za y1 5 rfl;have g7:W.cell? ⟨wr.heap.size,6,Z⟩=J (O U m.r.f):=za y1 6 rfl;have g8:W.cell? ⟨wr.heap.size,7,Z⟩=J (O U m.to):=za y1 7 rfl;clear y1;go_simp;exact ah
 refine zN rfl ?_;intro K' ah;go_simp;obtain⟨W2,eZ,d0,eQ,sB⟩:=QW W1 m.r.cells 75;unfold Rd.cells at eZ;rw[eZ];have g2:=Lb sB oM hD.out;have f2:=(sB.cell (p:=⟨bF,0,Z⟩) (by show bF<W1.heap.size;omega)).trans f1;refine ah _ _ ⟨f2,g2⟩ ?_;have tP:Am wr.heap.size wr W2:=ay.trans (sB.mono (by omega));refine zN rfl ?_;intro K' ah;rw[Lm (by rfl)];refine wp_fitR ZO (.tmp 32) (.tmp 35) (by rfl) B g pre.length K (yp pre) (by rfl) (HJ.out.buf.below tP (Lh _)) (wr.heap.size+1) m.r.cells (by rfl) (cj▸d0) rfl (by simp[Rd.cells,Value.oneCell']) SM ?_;intro W3 hr cC;have HX:=zH (HJ.out.ext bL.out tP hr cC);have g3:=(cC.block _ (by omega) (fun e=>by cases e;omega)).trans g2;have f3:=(LU (cC.block bF (by omega) (fun e=>by cases e;exact BN rfl))).trans f2;refine ah _ _ ⟨f3,g3⟩ ?_;refine xv rfl (by kernel_rfl) ?_;intro K' ah;go_simp;have HC:=Ij.out m.to (pre++[m.r]) (outs++yJ pre (ya a k M j)) V' B bR bO bA bF g w0 W3 Fq (.inr ⟨Vi.out,Vh.out⟩) C3.out bL.out dr.out HX.out;rw[Lp,List.length_singleton] at HC;refine HC.mono ?_;rintro e w4 ⟨⟨v4,rfl⟩,V4,H4⟩;have H5:=zH H4.cut;rw[L1,<-Xa,<-gz,<-cU.out] at H5;refine ah (fun _=>True) _ _ trivial ?_;refine yr ?_;go_wp2_with fail
 go_roundw
 case rel=>exact⟨j+1,V4,by omega,by go_num,H5⟩
 simp[Ao];omega
theorem YS(a:Ad)(K:Nat)(hK:K<=6)(SV:Bb)(ks:Nat)(hz:zk a a.sts=0)(hf:FewA a):∀k,j8 a K SV ks k
 | 0=>J8 a K hK SV ks
 | k+1=>J9 a K SV ks k hz hf (YS a K hK SV ks hz hf k)
theorem J4{W w w':Ba}{r r':Option Nat}(h:W.grownBy w r)(hg:w.grownBy w' r')(hr:∀k,r'=J k->k<W.heap.size->r=J k):W.grownBy w' r:=
 ⟨hg.os.trans h.os,hg.tape.trans h.tape,hg.output.trans h.output,LE h.size hg.size,fun k hk hn=>(hg.block k (LD hk h.size) (fun e=>hn (hr k e.symm hk).symm)).trans (h.block k hk hn)⟩
theorem Qm{W w w':Ba}{r:Option Nat}(h:W.grownBy w r)(hb:Am w.heap.size w w'):W.grownBy w' r:=
 ⟨hb.os.trans h.os,hb.tape.trans h.tape,hb.output.trans h.output,LE h.size hb.size,fun k hk hn=>(hb.block k (LD hk h.size)).trans (h.block k hk hn)⟩
def qO(a:Ad)(SV:Bb)(ks k:Nat):Prop:=∀(s:Int) (w:Ba),(k=0\/(0<=s/\s<a.sts.length))->(zn a k s).length<=5000->SAt w w.heap.size SV a.sts ->
 An Al 123 #[Ai #[O U a.n,I SV a.sts.length ks],O U s,O U k] w fun e w'=>∃v,e=Ak v/\OwnX cWd (fun b=>w.heap.size<=b) w' w.heap.size v (zn a k s)/\Am w.heap.size w w'
theorem Qo(a:Ad)(SV:Bb)(ks:Nat):qO a SV ks 0:=by
 intro s w _ _ _;go_enter func123,ntmps123;go_wp2_with fail;obtain⟨w1,af,d0,d1,aW,bE⟩:=yx w #[O U a.n,I SV a.sts.length ks] #[I Z 0 0] 27 39;rw[af];go_ret;refine⟨_,rfl,⟨[[I Z 0 0]],rfl,?_,?_⟩,bE⟩
 . exact OwnR.of_block (K:=kWd) (n:=1) d1 (by omega) rfl (by unfold maxLen;omega)
 intro i h1 h2;obtain rfl:i=0:=by simp at h1;omega
 exact⟨Z,0,rfl,RAtS.nil _ _ _,Lh _⟩
theorem Qp(a:Ad)(SV:Bb)(ks k:Nat)(iu:k<=6)(hz:zk a a.sts=0)(hf:FewA a)(ih:qO a SV ks k):qO a SV ks (k+1):=by
 intro s w fG aM hS;have hs:0<=s/\s<a.sts.length:=fG.resolve_left (by omega);obtain⟨S,rfl⟩:=Lq hs.1;have iC:S<a.sts.length:=by omega
 have Ij:=zH ih;have HZ:=zH (@yS a hz);have mh:=hf.each (Le iC);have fN:=zH (vL a k iC);have rh:=zH aM;have sX:=zH (fun (m:Mv) (hm:m∈a.sts[S])=>(Nu.2 ⟨_,Le iC,hm⟩:m∈a.mvs));have HS:=zH hS;obtain⟨bs,os,A',lC,tM,bu,s0,sw⟩:=hS.at_ S iC;subst tM;have oZ:=zH sw;obtain⟨M,hM⟩:=Kh (a.sts[S]);rw[hM] at s0 oZ fN sX mh;have e0:(((k+1:Nat):Int)==0)=As:=by simp;omega
 have af:IntKind.i64.wrap (((k+1:Nat):Int)-1)=(k:Int):=by rw[Lw];omega
 have aW:(S:Int)<(a.sts.length:Int):=by omega
 have dk:(0:Int)<=(S:Int):=by omega
 obtain⟨K,hK⟩:∃K:Int,((k+1:Nat):Int)=K:=⟨_,rfl⟩;rw[hK] at e0 af ⊢;go_enter func123,ntmps123;go_wp2_with fail;obtain⟨w1,cA,d0,cj,ay⟩:=zq w #[O U a.n,I (J ⟨bs,os,Z⟩) a.sts.length ks] 27;rw[cA];have aX:=zH d0;have cd:=zH ay;clear d0 ay e0
 go_loopw [7,8] (fun o i wr=>∃j:Nat,j<=M.length/\i=O U (j:Int)/\Ap (OwnX cWd (fun b=>w.heap.size<b) wr (w.heap.size+1) o (ya a k M j))/\Ap (Am w1.heap.size w1 wr)) (fun _ i _=>M.length-(Ao i).toNat)
 case atStart=>exact⟨0,by omega,rfl,by rw[jD];exact OwnX.nil _ _ _ _,Ln _ _⟩
 obtain⟨j,hj,rfl,HO,dc⟩:=hrel;have D0:=Lb dc.out (by omega) aX.out;have q1:=za D0 1 rfl;have aD:=dc.out.size;have s1:wr.cell? ⟨bs,os+S,Z⟩=J (I A' M.length lC):=((cd.out.trans (dc.out.mono (by omega))).cell (p:=⟨bs,os+S,Z⟩) bu).trans s0
 by_cases bf:j<M.length
 case neg=>
  obtain rfl:j=M.length:=by omega
  go_wp2_with fail;go_ret;refine⟨_,rfl,?_,cd.out.trans (dc.out.mono (by omega))⟩;rw[<-fN.out];exact(HO.out.mono xM fun b _ hb=>by omega).low (by omega)
 obtain⟨bm,om,e1,TK,m0,m1,m2,m3,m4,m5,m6,m7⟩:=(oZ.out.keep (cd.out.trans (dc.out.mono (by omega)))).row j bf;subst e1;have DK:(0:Int)<=(j:Int):=by omega
 have DJ:(j:Int)<(M.length:Int):=by omega
 have q0:=za D0 0 rfl;have nk:w.heap.size<wr.heap.size:=by omega
 have dU:=sX.out M[j] (Le bf);obtain⟨z1,z2,z3,z4⟩:=HZ.out _ dU;have dr:=zH (qb a k M bf);have dI:=vK a k M (j+1);rw[qb a k M bf,Lp,LT] at dI;obtain⟨m,tu⟩:=Kh (M[j]);rw[tu] at m0 m1 m2 m3 m4 m5 m6 m7 dU z1 z2 z3 z4 dr dI
 have fl:(ya a k M j).length+(zn a k m.to).length<=5000:=by
  have:=rh.out;rw[<-fN.out] at this;omega
 have HC:=zH (fun (W:Ba) (hW:Am wr.heap.size wr W)=>Ij.out m.to W (.inr ⟨z3,z4⟩) (by omega) (((HS.out.keep (cd.out.trans ((dc.out.trans (hW.mono aD)).mono (by omega)))).more (by have:=hW.size;omega))));clear tu dI z1 z2 z3 z4 dU sX HZ rh oZ fN;go_wp2_with fail;clear m0 m1 m2 m3 m4 m5 m6 m7 q0 q1 s1;obtain⟨W1,cA,g0,eQ,bG⟩:=zq wr m.cells 121;unfold Mv.cells at cA;rw[cA];refine(HC.out W1 bG).mono ?_;rintro e w3 ⟨rv,rfl,fj,ak⟩;obtain⟨AR,cR,rfl,hcR,hmR,hWR⟩:=wV fj;have G0:=Lb ak (by omega) g0;have cx:Ap (Am wr.heap.size wr w3):=bG.trans (ak.mono (by omega));have mH:=zH (HO.out.below xM cx.out (Lh _));have pB:=HO.out.lt;have rc:=zH (fj.mono (S':=fun b=>wr.heap.size<b) xM fun b _ hb=>by omega);have C':=zH G0;have io:=ak.size;obtain⟨R,hR⟩:=Kh (zn a k m.to);have Oa:=zH (yP a k m.to);rw[hR] at fl dr rc Oa ⊢;go_wp2_with fail;obtain⟨Ab,rfl⟩:∃Ab,Ab=u7:=⟨_,rfl⟩;obtain⟨wo,rfl⟩:∃x,x=wr:=⟨_,rfl⟩
 go_loopw [7,11] (fun o i wx=>∃l:Nat,l<=R.length/\i=O U (l:Int)/\Ap (OwnX cWd (fun b=>w.heap.size<b) wx (w.heap.size+1) o (ya a k M j++(R.take l).map (m.r::·)))/\Ap (w3.grownBy wx (Value.ownBlock Ab))/\Ap (o.ownBlock=Value.ownBlock Ab\/∀b,o.ownBlock=J b->w3.heap.size<=b)) (fun _ i _=>R.length-(Ao i).toNat)
 case atStart=>exact⟨0,by omega,rfl,by rw[LQ,NF,L7];exact mH.out,Pa _ _,.inl rfl⟩
 obtain⟨l,hl,rfl,HX,HG,HW⟩:=hrel;have ez:Ap (Am w1.heap.size w1 wr):=(dc.out.trans (cx.out.mono aD)).grown HG.out (by omega) (fun b hb=>by have:=(pB b hb).1;omega)
 by_cases bq:l<R.length
 case neg=>
  obtain rfl:l=R.length:=by omega
  rw[LC,<-dr.out] at HX;go_wp2_with fail
  go_roundw
  case rel=>exact⟨j+1,by omega,by go_num,HX,ez⟩
  simp[Ao];omega
 have My:OwnX cWd (fun b=>wo.heap.size<b) wr W1.heap.size (I AR R.length cR) R:=rc.out.kept xM HG.out (by
  cases Ul:(I AR R.length cR).ownBlock with
  | none=>exact .inl rfl
  | some b=>exact .inr fun e=>by have h1:=(rc.out.lt b Ul).1;have h2:=(pB b e.symm).2;omega) (fun b hb=>.inl fun h=>by have:=(pB b hb).2;omega)
 obtain⟨A9,c9,e9,_,_,Mm⟩:=wV My
 cases e9
 obtain⟨br,O',A2,c2,er,dB,r0,iq⟩:=Mm.at_ l bq;subst er;have G1:=(HG.out.block wo.heap.size (by omega) (fun e=>by have:=(pB _ e.symm).2;omega)).trans C'.out;have lX:=zd G1;have sQ:=zH iq;have Oi:=zH HX.out;have FB:(ya a k M j++(R.take l).map (m.r::·)).length=(ya a k M j).length+l:=by simp;omega
 have AT:Ap (ya a k M j++(R.take (l+1)).map (m.r::·)=(ya a k M j++(R.take l).map (m.r::·))++[m.r::R[l]]):=by
  show _=_;rw[Ls bq,LN,L1];rfl
 have cy:=Oa.out _ (Le bq);have FC:R[l].length<=6:=by omega
 clear cy;have nj:(0:Int)<=(l:Int):=by omega
 have oq:(l:Int)<(R.length:Int):=by omega
 obtain⟨x,hx⟩:=Kh (R[l]);rw[hx] at r0 sQ AT FC;have ry:Ap (Raw (wr.alloc (Ag m.r.cells 75)) A2 x.length (yp x)):=uX ((sQ.out.keep (zw wr _)).more (by simp));have g0:wr.cell? ⟨wo.heap.size,0,Z⟩=J (O U m.r.n):=za G1 0 rfl;have g1:wr.cell? ⟨wo.heap.size,1,Z⟩=J (O U m.r.h0):=za G1 1 rfl;have g2:wr.cell? ⟨wo.heap.size,2,Z⟩=J (O U m.r.h1):=za G1 2 rfl;have g3:wr.cell? ⟨wo.heap.size,3,Z⟩=J (O U m.r.h2):=za G1 3 rfl;have g4:wr.cell? ⟨wo.heap.size,4,Z⟩=J (O U m.r.h3):=za G1 4 rfl;have g5:wr.cell? ⟨wo.heap.size,5,Z⟩=J (O U m.r.h4):=za G1 5 rfl;have g6:wr.cell? ⟨wo.heap.size,6,Z⟩=J (O U m.r.f):=za G1 6 rfl;have TJ:br<wr.heap.size:=dB;have th:w.heap.size+1<=wr.heap.size:=by have:=HG.out.size;omega
 clear hx My Mm iq G1 HX;have C':=zH (ze wr (Ag m.r.cells 75));obtain⟨N,hN⟩:=Kh ((ya a k M j++(R.take l).map (m.r::·)).length);have T9:N<=5000:=by omega
 have HN:=zH hN;clear hN FB
 go_wp2_with (at_builtin;(first
  | ((refine Z3 ZO rfl (.tmp 50) (.tmp 54) rfl wr.heap.size (I (J ⟨wr.heap.size, 0, Z⟩) 1 1) 1 m.r.cells.toList rfl (OwnR.of_block C'.out (Nat.le_refl _) rfl (by unfold maxLen; omega)) A2 x.length c2 (yp x) rfl (xe _) ry.out (jo _) (by omega) (by simp) ?_)
     intro v1 w5 pq dL _;have Bg:OwnR kRd w5 wr.heap.size v1 (m.r::x).length (yp (m.r::x)):=by rw[Ly,Nat.add_comm];exact pq
     obtain⟨A5,c5,rfl,tH,_,fl⟩:=jn Bg;have lB:Am wr.heap.size wr w5:=(zw wr _).grown dL (by simp) (fun b hb=>by cases hb;exact Lh _);have nx:=zH (lB.alloc lB.size (Ag #[.slice A5 (m.r::x).length c5] 39));have Wk:=zH (ze w5 (Ag #[.slice A5 (m.r::x).length c5] 39));have tX:=zH (fl.keep (KeepB.alloc _ w5 (Ag #[.slice A5 (m.r::x).length c5] 39)));have CY:=zH (Oi.out.below xM nx.out (Lh _));have Sp:wr.heap.size<=w5.heap.size:=lB.size
     clear pq Bg dL fl lB)
  | (obtain ⟨aC, bD, eH, bl⟩ := CY.out
     rw[HN.out] at eH;refine yO Qd rfl (.tmp 49) (.tmp 56) rfl (w.heap.size+1) u7 N aC.flatten rfl eH w5.heap.size #[.slice A5 (m.r::x).length c5] rfl Wk.out rfl (by simp[Value.oneCell']) (by omega) (by simp;omega) _ rfl ?_;intro g' cap w7 ip eq cJ mi;have hX:cWd.lies (fun b=>(fun b=>w.heap.size<b) b/\Value.ownBlock u7≠J b) _ [.slice A5 (m.r::x).length c5] (m.r::x):=⟨A5,c5,rfl,tX.out.mono fun b _ hb=>⟨by have:wr.heap.size<=b:=hb;show w.heap.size<b;omega,fun e=>by have:=(Oi.out.lt b e).2;have:wr.heap.size<=b:=hb;omega⟩,tH⟩;have eR:=ip;rw[<-HN.out] at eR;have sV:=zH (OwnX.app xM bD bl hX eR eq cJ);rw[<-AT.out,HN.out] at sV
     have Wj:Ap (w3.grownBy w7 Ab.ownBlock):=J4 (Qm HG.out nx.out) eq (fun b hb aa=>by
      rcases HW.out with h | h
      . rw[<-h];exact hb
      . have:=h b hb;omega)
     have Vs:Ap ((I (J ⟨g',0,Z⟩) (N+1) cap).ownBlock=Ab.ownBlock\/∀b,(I (J ⟨g',0,Z⟩) (N+1) cap).ownBlock=J b->w3.heap.size<=b):=by
      have le:=HG.out.size;rcases cJ with e | e
      . rcases HW.out with h | h
        . exact .inl (by rw[<-h,e];rfl)
        . exact .inr fun b hb=>h b (by rw[e];exact hb)
      . refine .inr fun b hb=>?_
        have h9:g'=b:=by simpa[Value.ownBlock] using hb
        simp at e;omega
     clear ip eR eq cJ hX bl eH bD)
  ))
 go_roundw
 case rel=>exact⟨l+1,by omega,by go_num,sV,Wj,Vs⟩
 simp[Ao];omega
theorem Zd(a:Ad)(SV:Bb)(ks:Nat)(hz:zk a a.sts=0)(hf:FewA a):∀k,k<=6->qO a SV ks k
 | 0,_=>Qo a SV ks
 | k+1,h=>Qp a SV ks k (by omega) hz hf (Zd a SV ks hz hf k (by omega))
structure Wrote(R:Nat->Prop)(w w':Ba):Prop where
 os:w'.os=w.os
 tape:w'.tape=w.tape
 output:w'.output=w.output
 size:w.heap.size<=w'.heap.size
 block:∀k,k<w.heap.size->¬R k->w'.heap[k]?=w.heap[k]?
theorem Wrote.refl(R:Nat->Prop)(w:Ba):Wrote R w w:=⟨rfl,rfl,rfl,Lh _,fun _ _ _=>rfl⟩
theorem Wrote.trans{R R':Nat->Prop}{a b c:Ba}(h:Wrote R a b)(k:Wrote R' b c)(hr:∀k,k<a.heap.size->R' k->R k):Wrote R a c:=
 ⟨k.os.trans h.os,k.tape.trans h.tape,k.output.trans h.output,LE h.size k.size,fun i hi hn=>(k.block i (LD hi h.size) (fun h'=>hn (hr i hi h'))).trans (h.block i hi hn)⟩
theorem Wrote.of_below{R:Nat->Prop}{a b:Ba}(h:Am a.heap.size a b):Wrote R a b:=⟨h.os,h.tape,h.output,h.size,fun k hk _=>h.block k hk⟩
theorem Wrote.of_grown{R:Nat->Prop}{a b:Ba}{row:Option Nat}(h:a.grownBy b row)(hr:∀k,row=J k->k<a.heap.size->R k):Wrote R a b:=⟨h.os,h.tape,h.output,h.size,fun k hk hn=>h.block k hk (fun e=>hn (hr k e.symm hk))⟩
theorem Wrote.below{R:Nat->Prop}{a b:Ba}{B:Nat}(h:Wrote R a b)(hB:B<=a.heap.size)(hr:∀k,k<B->¬R k):Am B a b:=⟨h.os,h.tape,h.output,h.size,fun k hk=>h.block k (by omega) (hr k hk)⟩
theorem Wrote.keep{R S:Nat->Prop}{a b:Ba}(h:Wrote R a b)(hr:∀k,k<a.heap.size->S k->¬R k):KeepB S a b:=⟨h.size,fun k hs hk=>h.block k hk (hr k hk hs)⟩
theorem Wrote.more{R R':Nat->Prop}{a b:Ba}(h:Wrote R a b)(hr:∀k,k<a.heap.size->R k->R' k):Wrote R' a b:=⟨h.os,h.tape,h.output,h.size,fun k hk hn=>h.block k hk (fun h'=>hn (hr k hk h'))⟩
def jQ(vs:List Vw):Vw->Option Aq:=fun v=>if v∈vs then J (O U (qp vs v)) else Z
theorem numF_nil:jQ []=fun _=>Z:=by funext v;simp[jQ]
theorem numF_put{vs:List Vw}{v:Vw}(h:v∉vs):uu (jQ vs) v (O U vs.length)=jQ (vs++[v]):=by
 funext x
 unfold uu jQ
 by_cases e:x=v
 . subst e
   rw[Lm rfl,Lm (by simp)]
   congr 2
   exact(YO (k:=vs.length) (by simp) (by simp) (by rw[List.take_left];exact h)).symm
 rw[Lk e]
 by_cases hx:x∈vs
 . rw[Lm hx,Lm (by simp[hx])]
   congr 2
   unfold qp;rw[Lm hx,Lm (by simp[hx]),List.idxOf_append,Lm hx]
 rw[Lk hx,Lk (by simp[hx,e])]
structure BdIn(B bB bM:Nat)(n:Int)(V:Aq)(vs:List Vw)(w:Ba):Prop where
 hB:w.heap[bB]?=J (Ag #[O U n,V,.map (J bM)] 111 (0,0))
 num:∃m,MapOf (fun v:Vw=>.agg v.cells) w bM m (jQ vs)
 own:OwnV w B V vs
 ne:∀k,V.ownBlock=J k->k≠bB/\k≠bM
 bm:bB≠bM
 lo:B<=bB/\B<=bM
def Bk(bB bM:Nat)(V:Aq)(k:Nat):Prop:=k=bB\/k=bM\/V.ownBlock=J k
def BdOn(bB bM:Nat)(V:Aq)(w:Ba)(V':Aq)(w':Ba):Prop:=Wrote (Bk bB bM V) w w'/\∀k,V'.ownBlock=J k->V.ownBlock=J k\/w.heap.size<=k
theorem BdOn.refl(bB bM:Nat)(V:Aq)(w:Ba):BdOn bB bM V w V w:=⟨Wrote.refl _ _,fun _ h=>.inl h⟩
theorem BdOn.trans{bB bM:Nat}{V V1 V2:Aq}{w w1 w2:Ba}(h:BdOn bB bM V w V1 w1)(k:BdOn bB bM V1 w1 V2 w2):BdOn bB bM V w V2 w2:=by
 refine⟨h.1.trans k.1 fun j hj hr=>?_,fun j hj=>?_⟩
 . rcases hr with e | e | e
   . exact .inl e
   . exact .inr (.inl e)
   rcases h.2 j e with e | e
   . exact .inr (.inr e)
   omega
 rcases k.2 j hj with e | e
 . exact h.2 j e
 exact .inr (LE h.1.size e)
theorem BdOn.after{bB bM:Nat}{V V1:Aq}{w w1 w2:Ba}(h:BdOn bB bM V w V1 w1)(k:Am w1.heap.size w1 w2):BdOn bB bM V w V1 w2:=⟨h.1.trans (Wrote.of_below (R:=fun _=>False) k) (fun _ _ h=>h.elim),h.2⟩
theorem BdIn.on{B bB bM:Nat}{n:Int}{V:Aq}{vs:List Vw}{w w':Ba}(h:BdIn B bB bM n V vs w)(hb:Am w.heap.size w w'):BdIn B bB bM n V vs w':=by
 obtain⟨m,hm⟩:=h.num;exact⟨La hb h.hB,⟨m,hm.same (hb.block _ hm.lt)⟩,h.own.below hb (Lh _),h.ne,h.bm,h.lo⟩
theorem BdIn.push{B bB bM m:Nat}{n:Int}{A:Bb}{cap:Nat}{vs:List Vw}{v:Vw}{w w2 W w4:Ba}{g' aZ:Nat}(H:BdIn B bB bM n (I A vs.length cap) vs w)(ix:w.grownBy w2 (J bM))
  (fX:MapOf (fun v:Vw=>.agg v.cells) w2 bM m (jQ (vs++[v]))) (hW:Am w2.heap.size w2 W)
  (hr:OwnR kVw w4 B (I (J ⟨g',0,Z⟩) (vs.length+1) aZ) (vs.length+1) (yo vs++v.cells.toList)) (hg:W.grownBy w4 (I A vs.length cap).ownBlock)
  (bn:(I A vs.length cap).ownBlock=J g'\/g'=W.heap.size) :
  BdIn B bB bM n (I (J ⟨g',0,Z⟩) (vs.length+1) aZ) (vs++[v]) (w4.setCell ⟨bB,1,Z⟩ (I (J ⟨g',0,Z⟩) (vs.length+1) aZ)) /\
   BdOn bB bM (I A vs.length cap) w (I (J ⟨g',0,Z⟩) (vs.length+1) aZ) (w4.setCell ⟨bB,1,Z⟩ (I (J ⟨g',0,Z⟩) (vs.length+1) aZ)):=by
 have ni:=zd H.hB;obtain⟨m0,iO⟩:=H.num;have KQ:=iO.lt;have dk:=ix.size;have DB:=hW.size;have pB:=H.own.lt;have ae:=(ix.block bB ni (fun e=>by cases e;exact H.bm rfl)).trans H.hB;have bK:=(hg.block bB (by omega) (fun e=>(H.ne bB e.symm).1 rfl)).trans ((hW.block bB (by omega)).trans ae);have DF:=((fX.same (hW.block bM (by omega))).same (hg.block bM (by omega) (fun e=>(H.ne bM e.symm).2 rfl)));have cI:=hr.lt g' rfl
 have bj:g'≠bB/\g'≠bM:=by
  rcases bn with e | e
  . exact H.ne g' e
  exact⟨by omega,by omega⟩
 refine⟨⟨?_,⟨m,DF.same (Ld w4 _ _ bM (fun e=>H.bm e.symm))⟩,?_,?_,H.bm,H.lo⟩,?_,?_⟩
 . rw[Li w4 bB 1 _ _ _ bK];rfl
 . have h5:OwnR kVw (w4.setCell ⟨bB,1,Z⟩ (I (J ⟨g',0,Z⟩) (vs.length+1) aZ)) B (I (J ⟨g',0,Z⟩) (vs.length+1) aZ) (vs.length+1) (yo vs++v.cells.toList):=hr.kept (yj w4 bB 1 _) (.inr (fun e=>bj.1 (by simpa[Value.ownBlock] using e)))
   unfold OwnV;rw[Lp,kX,show yo [v]=v.cells.toList by simp[yo]];exact h5
 . intro k hk
   have:g'=k:=by simpa[Value.ownBlock] using hk
   subst this;exact bj
 . have h1:Wrote (Bk bB bM (I A vs.length cap)) w w2:=Wrote.of_grown ix (fun k hk _=>by cases hk;exact .inr (.inl rfl))
   have h2:Wrote (Bk bB bM (I A vs.length cap)) w2 W:=Wrote.of_below hW;have h3:Wrote (Bk bB bM (I A vs.length cap)) W w4:=Wrote.of_grown hg (fun k hk _=>.inr (.inr hk));have h4:Wrote (Bk bB bM (I A vs.length cap)) w4 (w4.setCell ⟨bB,1,Z⟩ (I (J ⟨g',0,Z⟩) (vs.length+1) aZ)):=Wrote.of_grown (yj w4 bB 1 _) (fun k hk _=>by cases hk;exact .inl rfl);exact((h1.trans h2 (fun _ _ h=>h)).trans h3 (fun _ _ h=>h)).trans h4 (fun _ _ h=>h)
 intro k hk;have:g'=k:=by simpa[Value.ownBlock] using hk
 subst this;rcases bn with e | e
 . exact .inl e
 exact .inr (by omega)
theorem Xc(B bB bM:Nat)(n:Int)(V:Aq)(vs:List Vw)(v:Vw)(hl:vs.length<=50000)(w:Ba)(H:BdIn B bB bM n V vs w) :
  An Al 88 #[Aj (J ⟨bB,0,Z⟩),.agg v.cells] w fun e w'=>e=Ak (O U (xu vs v).2)/\∃V',BdIn B bB bM n V' (xu vs v).1 w'/\BdOn bB bM V w V' w':=by
 obtain⟨A,cap,rfl⟩:=H.own.lit;obtain⟨w1,af,d0,cj,ay⟩:=zq w v.cells 100;have H1:=H.on ay;have HI:=zH H1;have au:=zH af;have cd:=zH ay;have aX:=zH d0;have HV:=zH (show jQ vs v=if v∈vs then J (O U (qp vs v)) else Z from rfl);have ni:=zd H.hB;have dG:=zH (fun (k:Nat) (e:(I A vs.length cap).ownBlock=J k)=>(H.own.lt k e).2);have TM:bM<w.heap.size:=by obtain⟨_,hm⟩:=H.num;exact hm.lt
 have b0:=H1.hB;obtain⟨m,hm⟩:=H1.num;have HM:=zH hm;have hz:∀W:Ba,(zeroValue 3).run Al W=.ok (O U 0) W:=fun W=>by kernel_rfl
 have ht:Al.underlying 109=J (.map 100 3):=underlying109;have hbv:bB≠w.heap.size:=by omega
 clear af H1 H;go_enter func88,ntmps88;unfold Vw.cells at au ⊢;go_wp2_with fail;rw[au.out]
 by_cases hv:v∈vs
 case pos=>
  have hf:jQ vs v=J (O U (qp vs v)):=Lm hv;have na:=Yq hv;have H7:=zH na;have HF:=zH hf;have hid:=YN hv;clear na hf hv HV;refine zI [(0,Ar),(1,Ar),(2,Ar),(3,Ar),(4,Ar),(5,Ar),(6,Ar),(7,Ar),(8,Ar),(9,Ar),(10,Ar)] (fun W=>W.heap[bB]?=J (Ag #[O U n,I A vs.length cap,.map (J bM)] 111 (0,0))/\MapOf (fun v:Vw=>.agg v.cells) W bM m (jQ vs)/\W.heap[w.heap.size]?=J (Ag v.cells 100 (0,0))) (by kernel_rfl) (by kernel_rfl) ⟨b0,hm,d0⟩ ?_
  repeat
   apply zU rfl
   . rintro K' ah W ⟨y0,y1,y2⟩
     have g0:W.cell? ⟨w.heap.size,0,Z⟩=J (O U v.p):=za y2 0 rfl;have g1:W.cell? ⟨w.heap.size,1,Z⟩=J (O U v.r):=za y2 1 rfl;have g2:W.cell? ⟨w.heap.size,2,Z⟩=J (O U v.i):=za y2 2 rfl;have g3:W.cell? ⟨w.heap.size,3,Z⟩=J (O U v.h0):=za y2 3 rfl;have g4:W.cell? ⟨w.heap.size,4,Z⟩=J (O U v.h1):=za y2 4 rfl;have g5:W.cell? ⟨w.heap.size,5,Z⟩=J (O U v.h2):=za y2 5 rfl;have g6:W.cell? ⟨w.heap.size,6,Z⟩=J (O U v.h3):=za y2 6 rfl;have g7:W.cell? ⟨w.heap.size,7,Z⟩=J (O U v.h4):=za y2 7 rfl;have b0:W.cell? ⟨bB,0,Z⟩=J (O U n):=za y0 0 rfl;have b1:W.cell? ⟨bB,1,Z⟩=J (I A vs.length cap):=za y0 1 rfl;have b2:W.cell? ⟨bB,2,Z⟩=J (.map (J bM)):=za y0 2 rfl;have cy:=y1.look2 jE ht (hz W) v;rw[HF.out] at cy;simp only[Option.getD_some,Option.isSome_some,Vw.cells] at cy;clear y0 y1 y2;go_simp;exact ah
  refine yr ?_;clear b0 hm d0;go_wp2_with fail;go_ret;rw[H7.out];exact⟨rfl,_,HI.out.on (Ln _ _).drew,(BdOn.refl bB bM _ w).after (cd.out.drew)⟩
 have hf:jQ vs v=Z:=Lk hv;have na:=QR hv;have H7:=zH na;have HF:=zH hf;have Vu:Ap (v∉vs):=hv;clear na hf hv HV;refine zI [(0,Ar),(1,Ar),(2,Ar),(3,Ar),(4,Ar),(5,Ar),(6,Ar),(7,Ar),(8,Ar),(9,Ar),(10,Ar)] (fun W=>W.heap[bB]?=J (Ag #[O U n,I A vs.length cap,.map (J bM)] 111 (0,0))/\MapOf (fun v:Vw=>.agg v.cells) W bM m (jQ vs)/\W.heap[w.heap.size]?=J (Ag v.cells 100 (0,0))) (by kernel_rfl) (by kernel_rfl) ⟨b0,hm,d0⟩ ?_
 repeat
  apply zU rfl
  . rintro K' ah W ⟨y0,y1,y2⟩
    have g0:W.cell? ⟨w.heap.size,0,Z⟩=J (O U v.p):=za y2 0 rfl;have g1:W.cell? ⟨w.heap.size,1,Z⟩=J (O U v.r):=za y2 1 rfl;have g2:W.cell? ⟨w.heap.size,2,Z⟩=J (O U v.i):=za y2 2 rfl;have g3:W.cell? ⟨w.heap.size,3,Z⟩=J (O U v.h0):=za y2 3 rfl;have g4:W.cell? ⟨w.heap.size,4,Z⟩=J (O U v.h1):=za y2 4 rfl;have g5:W.cell? ⟨w.heap.size,5,Z⟩=J (O U v.h2):=za y2 5 rfl;have g6:W.cell? ⟨w.heap.size,6,Z⟩=J (O U v.h3):=za y2 6 rfl;have g7:W.cell? ⟨w.heap.size,7,Z⟩=J (O U v.h4):=za y2 7 rfl;have b0:W.cell? ⟨bB,0,Z⟩=J (O U n):=za y0 0 rfl;have b1:W.cell? ⟨bB,1,Z⟩=J (I A vs.length cap):=za y0 1 rfl;have b2:W.cell? ⟨bB,2,Z⟩=J (.map (J bM)):=za y0 2 rfl;have cy:=y1.look2 jE ht (hz W) v;rw[HF.out] at cy;simp only[Option.getD_none,Option.isSome_none,Vw.cells] at cy;clear y0 y1 y2;go_simp;exact ah
 refine yr ?_;clear hm;have b1:w1.cell? ⟨bB,1,Z⟩=J (I A vs.length cap):=za HI.out.hB 1 rfl;go_wp2_with fail;obtain⟨w2,de,fX,lj⟩:=MapOf.put (w:=w1.drew.drew) (P:=Al) (show MapOf (fun v:Vw=>.agg v.cells) w1.drew.drew bM m (jQ vs) from HM.out) jE ht v (O U vs.length);rw[numF_put Vu.out] at fX;have Ib:=zH fX;have nD:Ap (w1.grownBy w2 (J bM)):=⟨lj.os,lj.tape,lj.output,lj.size,lj.block⟩;have KQ:=HM.out.lt;have TN:=HI.out.bm;have Gb:w.heap.size≠bM:=by omega
 simp only[Vw.cells] at de;have d2:=(nD.out.block _ (zd aX.out) (fun e=>by cases e;exact Gb rfl)).trans aX.out;have b2:=(nD.out.block _ (zd HI.out.hB) (fun e=>by cases e;exact TN rfl)).trans HI.out.hB;clear fX lj;refine zI [(0,Ar),(1,Ar),(2,Ar),(3,Ar),(4,Ar),(5,Ar),(6,As)] (fun W=>W.heap[bB]?=J (Ag #[O U n,I A vs.length cap,.map (J bM)] 111 (0,0))/\W.heap[w.heap.size]?=J (Ag v.cells 100 (0,0))) (by kernel_rfl) (by kernel_rfl) ⟨HI.out.hB,d0⟩ ?_;clear b0 b1 d0
 repeat
  apply zU rfl
  . rintro K' ah W ⟨y0,y2⟩
    have g0:W.cell? ⟨w.heap.size,0,Z⟩=J (O U v.p):=za y2 0 rfl;have g1:W.cell? ⟨w.heap.size,1,Z⟩=J (O U v.r):=za y2 1 rfl;have g2:W.cell? ⟨w.heap.size,2,Z⟩=J (O U v.i):=za y2 2 rfl;have g3:W.cell? ⟨w.heap.size,3,Z⟩=J (O U v.h0):=za y2 3 rfl;have g4:W.cell? ⟨w.heap.size,4,Z⟩=J (O U v.h1):=za y2 4 rfl;have g5:W.cell? ⟨w.heap.size,5,Z⟩=J (O U v.h2):=za y2 5 rfl;have g6:W.cell? ⟨w.heap.size,6,Z⟩=J (O U v.h3):=za y2 6 rfl;have g7:W.cell? ⟨w.heap.size,7,Z⟩=J (O U v.h4):=za y2 7 rfl;have b2:W.cell? ⟨bB,2,Z⟩=J (.map (J bM)):=za y0 2 rfl;clear y0 y2;go_simp;exact ah
 refine zN rfl ?_;intro K' ah;go_simp;refine ah _ _ ⟨b2,d2⟩ ?_;refine yr ?_;clear ah K' de;go_wp2_with fail;have dk:=nD.out.size;have B9:bB<w2.heap.size:=by omega
 have t4:=zH d2;have bL:=zH b2;refine zI [(0,Ar),(1,Ar),(2,Ar),(3,Ar),(4,Ar),(5,Ar),(6,As),(7,As),(8,As),(9,As),(10,As)] (fun W=>W.heap[bB]?=J (Ag #[O U n,I A vs.length cap,.map (J bM)] 111 (0,0))/\W.heap[w.heap.size]?=J (Ag v.cells 100 (0,0))) (by kernel_rfl) (by kernel_rfl) ⟨b2,d2⟩ ?_;clear b2 d2
 repeat
  apply zU rfl
  . rintro K' ah W ⟨y0,y2⟩
    have g0:W.cell? ⟨w.heap.size,0,Z⟩=J (O U v.p):=za y2 0 rfl;have g1:W.cell? ⟨w.heap.size,1,Z⟩=J (O U v.r):=za y2 1 rfl;have g2:W.cell? ⟨w.heap.size,2,Z⟩=J (O U v.i):=za y2 2 rfl;have g3:W.cell? ⟨w.heap.size,3,Z⟩=J (O U v.h0):=za y2 3 rfl;have g4:W.cell? ⟨w.heap.size,4,Z⟩=J (O U v.h1):=za y2 4 rfl;have g5:W.cell? ⟨w.heap.size,5,Z⟩=J (O U v.h2):=za y2 5 rfl;have g6:W.cell? ⟨w.heap.size,6,Z⟩=J (O U v.h3):=za y2 6 rfl;have g7:W.cell? ⟨w.heap.size,7,Z⟩=J (O U v.h4):=za y2 7 rfl;have b1:W.cell? ⟨bB,1,Z⟩=J (I A vs.length cap):=za y0 1 rfl;clear y0 y2;go_simp;exact ah
 refine zN rfl ?_;intro K' ah;go_simp;obtain⟨W3,dV,e3,le,dZ⟩:=QW w2 v.cells 100;simp only[Vw.cells] at dV;rw[dV];clear dV;refine ah _ _ ⟨Lb dZ B9 bL.out,Lb dZ (by omega) t4.out⟩ ?_;clear ah K';refine zN rfl ?_;intro K' ah;rw[Lm (by rfl)]
 have MA:OwnR kVw W3 B (I A vs.length cap) vs.length (yo vs):=by
  have h0:OwnR kVw w1 B (I A vs.length cap) vs.length (yo vs):=HI.out.own;refine(h0.kept nD.out ?_).below dZ (Lh _);rcases hA:(I A vs.length cap).ownBlock with _ | k
  . exact .inl rfl
  exact .inr fun e=>(HI.out.ne k hA).2 (by simpa using e)
 have pB:=HI.out.lo;refine uA kVw_ok (.tmp 33) (.tmp 35) (by rfl) B (I A vs.length cap) vs.length (yo vs) (by rfl) MA w2.heap.size v.cells (by rfl) e3 rfl (vF v) (by omega) (by omega) _ rfl ?_;intro g' aZ w4 hr hg bn aa;have HP:=zH (BdIn.push HI.out nD.out Ib.out dZ hr hg bn);have z0:=(hg.block bB (by omega) (fun e=>(HI.out.ne bB e.symm).1 rfl)).trans (Lb dZ B9 bL.out);have z1:=(hg.block w.heap.size (by omega) (fun e=>by have:=dG.out _ e.symm;omega)).trans (Lb dZ (by omega) t4.out);refine ah _ _ ⟨z0,z1⟩ ?_;clear ah K' hr hg bn MA e3 dZ;refine zN rfl ?_;intro K' ah;go_simp;refine ah _ _ ⟨z0,z1⟩ ?_;clear ah K';refine zN rfl ?_;intro K' ah;go_simp;refine ah _ _ ⟨z0,z1⟩ ?_;clear ah K';have b1:w4.cell? ⟨bB,1,Z⟩=J (I A vs.length cap):=za z0 1 rfl;have f1:=zb z0 1;clear z0 z1;refine xv rfl (by kernel_rfl) ?_;intro K' ah;go_simp;refine ah (fun _=>True) _ _ trivial ?_;refine yr ?_;clear ah K' b1 f1;go_wp2_with fail;go_ret;rw[H7.out];exact⟨rfl,_,HP.out.1,(BdOn.refl bB bM _ w).after cd.out |>.trans HP.out.2⟩
def ws(k:Nat):Array Aq:=#[O U (if 0<k then -1 else 0),O U (if 1<k then -1 else 0),O U (if 2<k then -1 else 0),O U (if 3<k then -1 else 0),O U (if 4<k then -1 else 0)]
theorem JU(k:Nat)(hk:k<5):(ws k).setIfInBounds k (O U (-1))=ws (k+1):=by
 match k,hk with
 | 0,_=>rfl
 | 1,_=>rfl
 | 2,_=>rfl
 | 3,_=>rfl
 | 4,_=>rfl
theorem minus_at(k:Nat)(hk:k<5):(ws k)[k]?=J (O U 0):=by
 match k,hk with
 | 0,_=>rfl
 | 1,_=>rfl
 | 2,_=>rfl
 | 3,_=>rfl
 | 4,_=>rfl
theorem vV(w:Ba):An Al 89 #[] w fun e w'=>e=Ak (Ai #[O U (-1),O U (-1),O U (-1),O U (-1),O U (-1)])/\Am w.heap.size w w':=by
 obtain⟨w1,af,d0,d1,aW,hB⟩:=yx w (ws 0) (ws 0) 43 43;have au:=zH af;go_enter func89,ntmps89;go_wp2_with fail;rw[show((w.alloc (Ag #[O U 0,O U 0,O U 0,O U 0,O U 0] 43)).alloc (Ag #[O U 0,O U 0,O U 0,O U 0,O U 0] 43))=w1 from au.out];have H0:=zH d0;have H1:=zH d1;have HB:=zH hB
 go_loopw [3] (fun i wr=>∃k:Nat,k<=5/\i=O U (k:Int)/\Ap (wr.heap[w.heap.size]?=J (Ag (ws 0) 43 (0,0)))/\Ap (wr.heap[w.heap.size+1]?=J (Ag (ws k) 43 (0,0)))/\Ap (Am w.heap.size w wr)) (fun i _=>5-(Ao i).toNat)
 case atStart=>exact⟨0,by omega,rfl,H0.out,H1.out,HB.out⟩
 obtain⟨k,hk,rfl,H0,H1,mO⟩:=hrel
 by_cases en:k<5
 case neg=>
  obtain rfl:k=5:=by omega
  have x0:wr.cell? ⟨w.heap.size+1,0,Z⟩=J (O U (-1)):=za H1.out 0 rfl;have x1:wr.cell? ⟨w.heap.size+1,1,Z⟩=J (O U (-1)):=za H1.out 1 rfl;have x2:wr.cell? ⟨w.heap.size+1,2,Z⟩=J (O U (-1)):=za H1.out 2 rfl;have x3:wr.cell? ⟨w.heap.size+1,3,Z⟩=J (O U (-1)):=za H1.out 3 rfl;have x4:wr.cell? ⟨w.heap.size+1,4,Z⟩=J (O U (-1)):=za H1.out 4 rfl;have y0:wr.cell? ⟨w.heap.size,0,Z⟩=J (O U 0):=za H0.out 0 rfl;have y1:wr.cell? ⟨w.heap.size,1,Z⟩=J (O U 0):=za H0.out 1 rfl;have y2:wr.cell? ⟨w.heap.size,2,Z⟩=J (O U 0):=za H0.out 2 rfl;have y3:wr.cell? ⟨w.heap.size,3,Z⟩=J (O U 0):=za H0.out 3 rfl;have y4:wr.cell? ⟨w.heap.size,4,Z⟩=J (O U 0):=za H0.out 4 rfl;have f0:=zb H0.out 0;have f1:=zb H0.out 1;have f2:=zb H0.out 2;have f3:=zb H0.out 3;have f4:=zb H0.out 4;go_wp2_with fail;refine LP (v:=Ai #[O U (-1),O U (-1),O U (-1),O U (-1),O U (-1)]) (by simp[results,results89,go_sem,y0,y1,y2,y3,y4]) rfl ⟨rfl,?_⟩;exact((((mO.out.setCell (Lh _) _).setCell (Lh _) _).setCell (Lh _) _).setCell (Lh _) _).setCell (Lh _) _
 have x0:=za H1.out k (minus_at k en);have f0:=zb H1.out k;have cW:(0:Int)<=(k:Int):=by omega
 have cp:(k:Int)<5:=by omega
 go_wp2_with fail
 go_roundw
 case rel=>exact⟨k+1,by omega,by go_num,(Ld wr _ _ w.heap.size (by show w.heap.size≠w.heap.size+1;omega)).trans H0.out,by show _=_;rw[Li wr _ k _ _ _ H1.out,JU k en],mO.out.setCell (by show w.heap.size<=w.heap.size+1;omega) _⟩
 simp[Ao];omega
end
section
open Go.RowKit
theorem vt(n:Nat)(h1:1<=n)(h5:n<=8)(W:Ba):(Instr.makeSlice 49 (O U n) (O U n)).run Al W=.ok (I (J ⟨W.heap.size,0,Z⟩) n n) (W.alloc (Ag ((List.replicate n 0).map (O U)).toArray 3)):=by
 obtain rfl | rfl | rfl | rfl | rfl | rfl | rfl | rfl:n=1\/n=2\/n=3\/n=4\/n=5\/n=6\/n=7\/n=8:=by omega
 all_goals kernel_rfl
theorem splice_rep{cur:List Aq}{x:Aq}{k m n:Nat}(hl:cur.length=n)(h:cur.take k=List.replicate k x)(hk:k+m<=n):(splice cur k (List.replicate m x)).take (k+m)=List.replicate (k+m) x/\(splice cur k (List.replicate m x)).length=n:=by
 constructor
 . unfold splice
   rw[h,<-L1,NL (by simp),NE (by simp)];exact RM
 rw[length_splice _ _ _ (by simp;omega),hl]
theorem one_src{w:Ba}{b o:Nat}{x:Aq}(h:w.cell? ⟨b,o,Z⟩=J x):∀j v,[x][j]?=J v->w.cell? ((⟨b,o,Z⟩:Addr).add j)=J v:=by
 intro j v hj;have h0:j=0:=by have:=(Ll.1 hj).1;simp at this;omega
 subst h0;simp at hj;subst hj;rw[NR];exact h
theorem size_int:(Al.info? 3).map (·.size)=J 1:=by kernel_rfl
theorem Yl(n b:Nat)(h1:1<=n)(h5:n<=8)(u:Int)(w:Ba)(hb:w.heap[b]?=J (Ag #[O U u] 3 (0,0))) :
  An Al 54 #[I (J ⟨b,0,Z⟩) 1 1,O U n] w fun e w'=>∃g,e=Ak (I (J ⟨g,0,Z⟩) n n)/\w.heap.size<=g/\RowAt w' g (List.replicate n u)/\Am w.heap.size w w':=by
 have eT:=vt n h1 h5;obtain⟨ar,ns⟩:∃ar:List Aq,(List.replicate n 0).map (O U)=ar:=⟨_,rfl⟩;rw[ns] at eT;have Ce:ar.length=n:=by rw[<-ns];simp
 have hc:=za hb 0 rfl;have aD:=zd hb;have hm:=Tryz.bits_Mul 1 n (by omega) (by omega) w;have e1:(1*n / 18446744073709551616:Nat)=0:=by omega
 have e2:(1*n % 18446744073709551616:Nat)=n:=by omega
 rw[e1,e2] at hm;have Fv:¬(n:Int)<0:=by omega
 go_enter func54,ntmps54;go_wp2_with fail;refine hm.mono ?_;rintro e w1 ⟨rfl,af⟩;obtain rfl:=af;obtain⟨W0,bg,b0,bk,bh⟩:=zq w1 ar.toArray 3;have hx:W0.cell? ⟨b,0,Z⟩=J (O U u):=(bh.cell (p:=⟨b,0,Z⟩) aD).trans hc;have BB:=zH bh;have BX:=zH b0;have HX:=zH hx;go_wp2_with ((refine wpList_copy_splice rfl (.tmp 31) (.tmp 32) 49 49 rfl 3 Ni size_int (J ⟨w1.heap.size,0,Z⟩) (J ⟨b,0,Z⟩) n n 1 1 rfl rfl w1.heap.size 0 ar 3 BX.out [O U u] (by simp[Nat.min_def];omega) (fun _=>⟨rfl,_,rfl,one_src HX.out⟩) (by simp;omega) (by simp[Value.oneCell']) w1.heap.size w1 BB.out (Lh _) ?_);intro w2 iq ae);obtain⟨g,hg⟩:=Kh w1.heap.size;have s1:=splice_rep (cur:=ar) (x:=O U u) (k:=0) (m:=1) (n:=n) Ce (by simp) (by omega);have S1:=zH s1;have s':=zH hg;rw[hg] at iq ae ⊢
 go_loopw [8] (fun l wr=>∃(k:Nat) (cur:List Aq),1<=k/\k<=n/\l=O U k/\Ap (cur.length=n)/\Ap (cur.take k=List.replicate k (O U u))/\Ap (wr.heap[g]?=J (Ag cur.toArray 3 (0,0)))/\Am g w1 wr) (fun l _=>n-(Ao l).toNat)
 case atStart=>exact⟨1,splice ar 0 [O U u],by omega,h1,rfl,S1.out.2,S1.out.1,iq,ae⟩
 obtain⟨k,cur,cp,ot,rfl,bD,rX,aJ,iA⟩:=hrel
 by_cases aa:k<n
 . clear S1 iq ae
   have cW:(0:Int)<=(k:Int):=by omega
   have dz:(k:Int)<=(n:Int):=by omega
   have bj:¬n=k:=by omega
   go_upto_region 9 with fail
   obtain⟨d,hd⟩:=Kh (n-k);obtain⟨m,hm⟩:=Kh (Nat.min k d);have iO:min k d=m:=hm;have KP:1<=m:=by omega
   have fX:k+m<=n:=by omega
   have SX:m<=k:=by omega
   have ma:∀j v,(List.replicate m (O U u))[j]?=J v->wr.cell? ((⟨g,0,Z⟩:Addr).add j)=J v:=by
    intro j v hj;have FL:j<m:=by have:=(Ll.1 hj).1;simpa using this
    rw[Pp,Lm FL] at hj
    cases hj
    rw[NR,LH];refine za aJ.out j ?_;rw[List.getElem?_toArray];have h2:=congrArg (fun l=>l[j]?) rX.out;simp only[List.getElem?_take,List.getElem?_replicate] at h2;rwa[Lm (by omega),Lm (by omega)] at h2
   have SP:=zH (splice_rep (cur:=cur) (x:=O U u) (k:=k) (m:=m) (n:=n) bD.out rX.out fX);have sO:=zH ma;have HM:=zH hm;have ff:=zH iA;have aW:IntKind.i64.wrap ((k:Int)+(m:Int))=(k:Int)+(m:Int):=IntWalk.i64_in _ (by omega);have oU:=zH aW;clear ma hm iA aW
   go_region_law ((refine step_copy_splice (by rfl) (.tmp 41) (.tmp 44) 49 49 (by rfl) 3 Ni size_int (J ⟨g,k,Z⟩) (J ⟨g,0,Z⟩) d d k n (by simp[go_sem]) (by simp[go_sem]) g k cur 3 aJ.out (List.replicate m (O U u)) (by rw[Nz];exact HM.out.symm) (fun _=>⟨rfl,_,rfl,sO.out⟩) (by rw[Nz,bD.out];exact fX) (by intro v hv;rw[List.eq_of_mem_replicate hv];rfl) g w1 ff.out.drew (Lh _) ?_;intro w3 Fn ak;rw[Nz]))
   all_goals
    rw[oU.out];go_wp2_with fail
    go_frame
    go_roundw
    case rel=>
     (repeat apply Exists.intro)
     exact⟨⟨k+m,splice cur k (List.replicate m (O U u)),by omega,by omega,rfl,SP.out.2,SP.out.1,Fn,ak⟩,by first | rfl | (go_frame;rfl) | (simp[Act.put];done)⟩
    case measure=>simp[Ao];omega
 obtain rfl:k=n:=by omega
 go_wp2_with fail;go_ret;refine⟨g,rfl,by have:=s'.out;omega,?_,by have:=s'.out;rw[this];exact iA⟩;unfold RowAt;have e:=rX.out;rw[NE (by have:=bD.out;omega)] at e;rw[aJ.out,e];simp
theorem BdIn.set{B bB bM:Nat}{n:Int}{V:Aq}{vs:List Vw}{w:Ba}(h:BdIn B bB bM n V vs w){g:Nat}(h1:g≠bB)(h2:g≠bM)(h3:V.ownBlock≠J g)(o:Nat)(u:Aq):BdIn B bB bM n V vs (w.setCell ⟨g,o,Z⟩ u):=by
 obtain⟨m,hm⟩:=h.num;exact⟨(Ld w _ _ bB (fun e=>h1 e.symm)).trans h.hB,⟨m,hm.same (Ld w _ _ bM (fun e=>h2 e.symm))⟩,h.own.kept (yj w g o _) (.inr h3),h.ne,h.bm,h.lo⟩
theorem BdIn.grown{B bB bM:Nat}{n:Int}{V:Aq}{vs:List Vw}{w w':Ba}{row:Option Nat}(h:BdIn B bB bM n V vs w)(hg:w.grownBy w' row)(h1:row≠J bB)(h2:row≠J bM)(h3:∀k,V.ownBlock=J k->row≠J k):BdIn B bB bM n V vs w':=by
 obtain⟨m,hm⟩:=h.num;refine⟨(hg.block _ (zd h.hB) (fun e=>h1 e.symm)).trans h.hB,⟨m,hm.same (hg.block _ hm.lt (fun e=>h2 e.symm))⟩,h.own.kept hg ?_,h.ne,h.bm,h.lo⟩
 cases hv:V.ownBlock with
 | none=>exact .inl rfl
 | some k=>exact .inr fun e=>h3 k hv e.symm
theorem BdIn.lts{B bB bM:Nat}{n:Int}{V:Aq}{vs:List Vw}{w:Ba}(h:BdIn B bB bM n V vs w):bB<w.heap.size/\bM<w.heap.size/\∀k,V.ownBlock=J k->B<=k/\k<w.heap.size:=by
 obtain⟨m,hm⟩:=h.num;exact⟨zd h.hB,hm.lt,h.own.lt⟩
theorem BdOn.bel{B bB bM:Nat}{n:Int}{V V':Aq}{vs:List Vw}{w w':Ba}(h:BdIn B bB bM n V vs w)(k:BdOn bB bM V w V' w'):Am B w w':=by
 obtain⟨h1,h2,h3⟩:=h.lts;have h4:=h.lo;refine k.1.below (by omega) fun j hj hr=>?_
 rcases hr with e | e | e
 . omega
 . omega
 have:=(h3 j e).1;omega
theorem BdOn.set{bB bM:Nat}{V V':Aq}{w w':Ba}(k:BdOn bB bM V w V' w'){g:Nat}(hg:w.heap.size<=g)(o:Nat)(u:Aq):BdOn bB bM V w V' (w'.setCell ⟨g,o,Z⟩ u):=
 ⟨k.1.trans (Wrote.of_grown (R:=fun k=>k=g) (yj w' g o u) (fun k e _=>by cases e;rfl)) (fun k hk e=>by subst e;omega),k.2⟩
theorem BdOn.grown{bB bM:Nat}{V V':Aq}{w w' w2:Ba}{row:Option Nat}(k:BdOn bB bM V w V' w')(hg:w'.grownBy w2 row)(hr:∀j,row=J j->w.heap.size<=j):BdOn bB bM V w V' w2:=
 ⟨k.1.trans (Wrote.of_grown (R:=fun k=>row=J k) hg (fun _ e _=>e)) (fun j hj e=>by have:=hr j e;omega),k.2⟩
theorem row_set{xs:List Int}{N p:Nat}(hx:xs.length=p)(hp:p<N)(u:Int):(xs++List.replicate (N-p) 0).set p u=(xs++[u])++List.replicate (N-(p+1)) 0:=by
 subst hx;rw[List.set_append_right _ _ (Lh _),NP,show N-xs.length=(N-(xs.length+1))+1 by omega,List.replicate_succ,List.set_cons_zero];simp
structure RwIn(B bB bM N:Nat)(V0:Aq)(w0:Ba)(gN:Nat)(f:Nat->Vw)(vs:List Vw)(p:Nat)(V1:Aq)(W:Ba):Prop where
 bd:BdIn B bB bM N V1 (zT f vs p).1 W
 row:RowAt W gN ((zT f vs p).2++List.replicate (N-p) 0)
 on:BdOn bB bM V0 w0 V1 W
 ne:V1.ownBlock≠J gN
 ng:w0.heap.size<=gN
 nb:gN≠bB/\gN≠bM
theorem RwIn.on_{B bB bM N:Nat}{V0:Aq}{w0:Ba}{gN:Nat}{f:Nat->Vw}{vs:List Vw}{p:Nat}{V1:Aq}{W W':Ba}(H:RwIn B bB bM N V0 w0 gN f vs p V1 W)(hb:Am W.heap.size W W'):RwIn B bB bM N V0 w0 gN f vs p V1 W':=
 ⟨H.bd.on hb,Lb hb H.row.lt H.row,H.on.after hb,H.ne,H.ng,H.nb⟩
theorem RwIn.mid{B bB bM N:Nat}{V0:Aq}{w0:Ba}{gN:Nat}{f:Nat->Vw}{vs:List Vw}{p:Nat}{V1 V':Aq}{W W':Ba}(H:RwIn B bB bM N V0 w0 gN f vs p V1 W)(ho:BdOn bB bM V1 W V' W') :
  RowAt W' gN ((zT f vs p).2++List.replicate (N-p) 0)/\V'.ownBlock≠J gN:=by
 refine⟨(ho.1.block gN H.row.lt fun hr=>?_).trans H.row,fun e=>?_⟩
 . rcases hr with e | e | e
   . exact H.nb.1 e
   . exact H.nb.2 e
   exact H.ne e
 rcases ho.2 gN e with e | e
 . exact H.ne e
 have:=H.row.lt;omega
theorem RwIn.step{B bB bM N:Nat}{V0:Aq}{w0:Ba}{gN:Nat}{f:Nat->Vw}{vs:List Vw}{p:Nat}{V1 V':Aq}{W W':Ba}(H:RwIn B bB bM N V0 w0 gN f vs p V1 W)(hp:p<N)
  (hb:BdIn B bB bM N V' (xu (zT f vs p).1 (f p)).1 W') (ho:BdOn bB bM V1 W V' W') :
  RwIn B bB bM N V0 w0 gN f vs (p+1) V' (W'.setCell ⟨gN,p,Z⟩ (O U (xu (zT f vs p).1 (f p)).2)):=by
 obtain⟨h1,h2⟩:=H.mid ho;refine⟨hb.set H.nb.1 H.nb.2 h2 p _,?_,(H.on.trans ho).set H.ng p _,h2,H.ng,H.nb⟩;have h3:=h1.set p (xu (zT f vs p).1 (f p)).2;rw[row_set (xd f vs p) hp] at h3;exact h3
end
section
open Go.RowKit
attribute [local go_sem] Oper.semAt_some
theorem ints_raw{w:Ba}{A:Bb}{xs:List Int}(h:IAt w w.heap.size A xs):Raw w A xs.length (xs.map (O U)):=fun h0=>by
 obtain⟨b,off,e,aa,hc⟩:=h h0;refine⟨b,off,e,aa,fun j u hj=>?_⟩;obtain⟨x,hx,rfl⟩:∃x,xs[j]?=J x/\O U x=u:=by simpa using hj
 obtain⟨bf,rfl⟩:=Ll.1 hx;exact hc j bf
theorem ints_one(xs:List Int):∀u∈xs.map (O U),u.oneCell'=Ar:=fun u hu=>by obtain⟨x,_,rfl⟩:=LZ.1 hu;rfl
theorem ints_own{w:Ba}{base:Nat}{v:Aq}{xs:List Int}(h:OwnR kIn w base v xs.length (xs.map (O U))):∃A cap,v=I A xs.length cap/\xs.length<=cap/\cap<=maxLen/\IAtS (fun k=>base<=k) w A xs:=by
 have aa:=h.lt;obtain⟨A,cap,rfl,hc,hm,hr⟩:=h.form;refine⟨A,cap,rfl,hc,hm,fun h0=>?_⟩;obtain⟨g,rfl,hg,cI,bD⟩:=hr h0;refine⟨g,0,rfl,(aa g hg).1,cI,fun i hi=>?_⟩;rw[LH];exact bD i _ (by simp[hi])
theorem wO(A:Bb)(cap:Nat)(xs:List Int)(w:Ba)(hA:IAt w w.heap.size A xs)(hl:xs.length<=1000000) :
  An Al 66 #[I A xs.length cap] w fun e w'=>∃A' c,e=Ak (I A' xs.length c)/\IAtS (fun k=>w.heap.size<=k) w' A' xs/\Am w.heap.size w w':=
 (clone_kIn A xs.length cap (xs.map (O U)) w (by simp) (ints_raw hA) (ints_one xs) hl).mono fun e w' ⟨v,h1,h2,h3⟩=>by
  obtain⟨A',c,h4,_,_,h5⟩:=ints_own h2;exact⟨A',c,by rw[h1,h4],h5,h3⟩
theorem vO(A:Bb)(cap:Nat)(xss:List (List Int))(w:Ba)(hA:LAt w w.heap.size A xss)(hl:xss.length<=100000)(bq:∀v∈xss,v.length<=100000) :
  An Al 84 #[I A xss.length cap] w fun e w'=>∃v,e=Ak v/\OwnX cIs (fun k=>w.heap.size<=k) w' w.heap.size v xss/\Am w.heap.size w w':=by
 have HA:=zH hA;have iF:=zH bq;go_enter func84,ntmps84;go_wp2_with fail
 go_loopw [3,8] (fun o i wr=>∃k:Nat,k<=xss.length/\i=O U (k:Int)/\Ap (OwnX cIs (fun b=>w.heap.size<=b) wr w.heap.size o (xss.take k))/\Ap (Am w.heap.size w wr)) (fun _ i _=>xss.length-(Ao i).toNat)
 case atStart=>exact⟨0,by omega,rfl,by rw[LQ];exact OwnX.nil _ _ _ _,Ln _ _⟩
 obtain⟨k,hk,rfl,HO,HB⟩:=hrel
 by_cases cP:k<xss.length
 case neg=>
  obtain rfl:k=xss.length:=by omega
  rw[LC] at HO;go_wp2_with fail;go_ret;exact⟨_,rfl,HO.out,HB.out⟩
 obtain⟨b,off,A',c',e1,hb,c0,hI⟩:=(HA.out.keep HB.out).at_ k cP;subst e1;have dx:Ap (xss.take (k+1)=xss.take k++[xss[k]]):=Ls cP;have nh:=iF.out _ (Le cP);have bu:=HB.out.size;have cW:(0:Int)<=(k:Int):=by omega
 have cp:(k:Int)<(xss.length:Int):=by omega
 have fC:(xss.take k).length=k:=by rw[Ng];omega
 have Hk:=zH fC;obtain⟨x,hx⟩:=Kh (xss[k]);rw[hx] at c0 hI dx nh;have HC:=zH (wO A' c' x wr (hI.more bu) (by omega));go_wp2_with fail;refine HC.out.mono ?_;rintro e w2 ⟨A2,c2,rfl,iQ,ae⟩;have aN:Ap (Am wr.heap.size wr (w2.alloc (Ag #[I A2 x.length c2] 49))):=ae.alloc ae.size _;have mK:Ap (IAtS (fun b=>wr.heap.size<=b) (w2.alloc (Ag #[I A2 x.length c2] 49)) A2 x):=iQ.keep (KeepB.alloc _ _ _);have nD:=zH (ze w2 (Ag #[I A2 x.length c2] 49));have oX:=zH (HO.out.below yy aN.out (Lh _));have eQ:=ae.size;have C2:=zH HO.out.lt;go_wp2_with (at_builtin;obtain⟨aC,bD,eH,bl⟩:=oX.out;rw[Hk.out] at eH;refine yO Qe rfl (.tmp 12) (.tmp 15) rfl w.heap.size u3 k aC.flatten rfl eH w2.heap.size #[I A2 x.length c2] rfl nD.out rfl (by simp[Value.oneCell']) (by omega) (by simp;omega) _ rfl ?_;intro g' cap w7 ip eq cJ mi);have hX:cIs.lies (fun b=>(fun b=>w.heap.size<=b) b/\Value.ownBlock u3≠J b) _ [I A2 x.length c2] x:=⟨A2,c2,rfl,mK.out.mono fun b _ hb=>⟨by show w.heap.size<=b;omega,fun e=>by have:=(C2.out b e).2;omega⟩⟩;have eR:=ip;rw[<-Hk.out] at eR;have sV:=zH (OwnX.app yy bD bl hX eR eq cJ);rw[<-dx.out,Hk.out] at sV;have nH:Ap (Am w.heap.size w w7):=(HB.out.trans (aN.out.mono bu)).grown eq (by simp;omega) (fun b hb=>(C2.out b hb).1)
 go_roundw
 case rel=>exact⟨k+1,by omega,by go_num,sV,nH⟩
 simp[Ao];omega
end
section
open Go.RowKit
def f0(inp:List Int):Nat->Vw:=fun p=>yw p (inp.getD p 0)
def fk(word:List Rd)(k:Nat)(row:List Int):Nat->Vw:=fun p=>yM (word.getD k default) (k+1) p row
structure PlIn(B bB bM N:Nat)(V0:Aq)(w0:Ba)(vs:List Vw)(inp:List Int)(word:List Rd)(k:Nat)(V1 o:Aq)(gk:Nat)(W:Ba):Prop where
 bd:BdIn B bB bM N V1 (zi vs N inp word k).1 W
 on:BdOn bB bM V0 w0 V1 W
 out:OwnX cIs (fun b=>w0.heap.size<=b/\V1.ownBlock≠J b) W w0.heap.size o (zi vs N inp word k).2
 no:∀b,V1.ownBlock=J b->o.ownBlock≠J b
 row:RowAt W gk ((zi vs N inp word k).2.getD k [])
 gl:w0.heap.size<=gk
 ng:V1.ownBlock≠J gk
 og:o.ownBlock≠J gk
 lt:bB<w0.heap.size/\bM<w0.heap.size
theorem rowk_len(vs:List Vw)(N:Nat)(inp:List Int)(word:List Rd)(k:Nat):((zi vs N inp word k).2.getD k []).length=N:=by
 have hl:=ye vs N inp word k;rw[Lg,Lj (by omega)];exact qk vs N inp word k _ (Le _)
section
variable {B bB bM N:Nat} {V0:Aq} {w0:Ba} {vs:List Vw} {inp:List Int} {word:List Rd}
theorem PlIn.start{V1:Aq}{gN:Nat}{W:Ba}(_hN:N<=5)(h:RwIn B bB bM N V0 w0 gN (f0 inp) vs N V1 W)(hl:bB<w0.heap.size/\bM<w0.heap.size) :
  PlIn B bB bM N V0 w0 vs inp word 0 V1 (I (J ⟨W.heap.size,0,Z⟩) 1 1) gN (W.alloc (Ag #[I (J ⟨gN,0,Z⟩) N N] 49)):=by
 have nX:=xd (f0 inp) vs N;have cI:=h.row.lt;have hb:=zw W (Ag #[I (J ⟨gN,0,Z⟩) N N] 49);have bC:=h.row;rw[NP,List.replicate_zero,L7] at bC;refine⟨h.bd.on hb,h.on.after hb,⟨[[I (J ⟨gN,0,Z⟩) N N]],rfl,?_,fun i i1 i2=>?_⟩,fun b e e2=>?_,Lb hb cI bC,h.ng,h.ne,fun e=>?_,hl⟩
 . refine OwnR.of_block (K:=kIs) (n:=1) (ze W _) ?_ rfl (by unfold maxLen;omega)
   have:=h.on.1.size;omega
 . obtain rfl:i=0:=by simp at i1;omega
   refine⟨J ⟨gN,0,Z⟩,N,?_,?_⟩
   . show [I (J ⟨gN,0,Z⟩) N N]=[.slice (J ⟨gN,0,Z⟩) (zT (f0 inp) vs N).2.length N]
     rw[nX]
   intro _;refine⟨gN,0,rfl,⟨⟨h.ng,h.ne⟩,fun e=>?_⟩,by simp;omega,fun j hj=>?_⟩
   . have:W.heap.size=gN:=by simpa[Value.ownBlock] using e
     omega
   rw[LH];exact RowAt.cell (Lb hb cI bC) j hj
 . have h1:W.heap.size=b:=by simpa[Value.ownBlock] using e2
   have:=(h.bd.own.lt b e).2;omega
 have h1:W.heap.size=gN:=by simpa[Value.ownBlock] using e
 omega
theorem PlIn.outn{k:Nat}{V1 o:Aq}{gk:Nat}{W Wx:Ba}{gX:Nat}{f:Nat->Vw}{V3:Aq}{p:Nat}{W3:Ba}(h:PlIn B bB bM N V0 w0 vs inp word k V1 o gk W)(hx:Am W.heap.size W Wx)
  (r:RwIn B bB bM N V1 Wx gX f (zi vs N inp word k).1 p V3 W3) :
  OwnX cIs (fun b=>w0.heap.size<=b/\V3.ownBlock≠J b) W3 w0.heap.size o (zi vs N inp word k).2/\(∀b,V3.ownBlock=J b->o.ownBlock≠J b):=by
 have KA:=hx.size;have rB:=h.out.lt
 have h1:OwnX cIs (fun b=>(w0.heap.size<=b/\V1.ownBlock≠J b)/\V3.ownBlock≠J b) Wx w0.heap.size o (zi vs N inp word k).2:=
  (h.out.below yy hx (Lh _)).mono yy fun b hb hs=>⟨hs,fun e=>by
   rcases r.on.2 b e with e | e
   . exact hs.2 e
   . omega⟩
 refine⟨(h1.keep yy (r.on.1.keep fun b _ hs hr=>?_) fun b hb=>r.on.1.block b (by have:=(rB b hb).2;omega) fun hr=>?_).mono yy fun b _ hs=>⟨hs.1.1,hs.2⟩,fun b e e2=>?_⟩
 . rcases hr with e | e | e
   . have:=h.lt.1;have:=hs.1.1;omega
   . have:=h.lt.2;have:=hs.1.1;omega
   exact hs.1.2 e
 . have:=(rB b hb).1
   rcases hr with e | e | e
   . have:=h.lt.1;omega
   . have:=h.lt.2;omega
   exact h.no b e hb
 rcases r.on.2 b e with e | e
 . exact h.no b e e2
 have:=(rB b e2).2;omega
theorem PlIn.rown{k:Nat}{V1 o:Aq}{gk:Nat}{W Wx:Ba}{gX:Nat}{f:Nat->Vw}{V3:Aq}{p:Nat}{W3:Ba}(h:PlIn B bB bM N V0 w0 vs inp word k V1 o gk W)(hx:Am W.heap.size W Wx)
  (r:RwIn B bB bM N V1 Wx gX f (zi vs N inp word k).1 p V3 W3):RowAt W3 gk ((zi vs N inp word k).2.getD k []):=by
 have KA:=hx.size;have cI:=h.row.lt;refine(r.on.1.block gk (by omega) fun hr=>?_).trans (Lb hx cI h.row);have:=h.gl;rcases hr with e | e | e
 . have:=h.lt.1;omega
 . have:=h.lt.2;omega
 exact h.ng e
theorem PlIn.next{k:Nat}{V1 o:Aq}{gk:Nat}{W Wx:Ba}{gX:Nat}{V3:Aq}{W3 W4 w5:Ba}{aC:List (List Aq)}{g' cap:Nat}(h:PlIn B bB bM N V0 w0 vs inp word k V1 o gk W)(hx:Am W.heap.size W Wx)
  (r:RwIn B bB bM N V1 Wx gX (fk word k ((zi vs N inp word k).2.getD k [])) (zi vs N inp word k).1 N V3 W3) (h4:Am W3.heap.size W3 W4)
  (bD:aC.length=(zi vs N inp word k).2.length) (bl:∀(i:Nat) (h1:i<aC.length) (h2:i<(zi vs N inp word k).2.length),cIs.lies (fun b=>(w0.heap.size<=b/\V3.ownBlock≠J b)/\o.ownBlock≠J b) W4 aC[i] (zi vs N inp word k).2[i])
  (hr:OwnR kIs w5 w0.heap.size (I (J ⟨g',0,Z⟩) ((zi vs N inp word k).2.length+1) cap) ((zi vs N inp word k).2.length+1) (aC.flatten++[I (J ⟨gX,0,Z⟩) N N]))
  (hg:W4.grownBy w5 o.ownBlock) (bn:o.ownBlock=J g'\/g'=W4.heap.size) :
  PlIn B bB bM N V0 w0 vs inp word (k+1) V3 (I (J ⟨g',0,Z⟩) ((zi vs N inp word k).2.length+1) cap) gX w5:=by
 obtain⟨fj,eF⟩:=h.outn hx r;have nX:=xd (fk word k ((zi vs N inp word k).2.getD k [])) (zi vs N inp word k).1 N;have cI:=r.row.lt;have fW:=h4.size;have KA:=hx.size;have rB:=fj.lt;have hlW:=h.on.1.size;have hxg:=r.ng
 have rD:o.ownBlock≠J gX:=fun e=>by
  have:=(h.out.lt gX e).2;omega
 have bC:=r.row;rw[NP,List.replicate_zero,L7] at bC;have Bc:RowAt w5 gX (zT (fk word k ((zi vs N inp word k).2.getD k [])) (zi vs N inp word k).1 N).2:=(hg.block gX (by omega) (fun e=>rD e.symm)).trans (Lb h4 cI bC);have e1:(zi vs N inp word (k+1)).2=(zi vs N inp word k).2++[(zT (fk word k ((zi vs N inp word k).2.getD k [])) (zi vs N inp word k).1 N).2]:=rfl;have aM:=ye vs N inp word k
 have Cj:V3.ownBlock≠J g':=fun e=>by
  rcases bn with e2 | e2
  . exact eF g' e e2
  . have:=(r.bd.own.lt g' e).2;omega
 have hX:cIs.lies (fun b=>(w0.heap.size<=b/\V3.ownBlock≠J b)/\o.ownBlock≠J b) W4 [I (J ⟨gX,0,Z⟩) N N] (zT (fk word k ((zi vs N inp word k).2.getD k [])) (zi vs N inp word k).1 N).2:=by
  refine⟨J ⟨gX,0,Z⟩,N,by rw[nX],fun _=>⟨gX,0,rfl,⟨⟨by omega,r.ne⟩,rD⟩,by omega,fun j hj=>?_⟩⟩;rw[LH];exact RowAt.cell (Lb h4 cI bC) j hj
 refine⟨?_,?_,?_,?_,?_,by omega,r.ne,?_,h.lt⟩
 . refine(r.bd.on h4).grown hg (fun e=>?_) (fun e=>?_) (fun b hb e=>eF b hb e)
   . have:=(rB bB e).1;have:=h.lt.1;omega
   have:=(rB bM e).1;have:=h.lt.2;omega
 . exact((h.on.after hx).trans (r.on.after h4)).grown hg (fun j hj=>(rB j hj).1)
 . rw[e1]
   exact OwnX.app yy bD bl hX hr hg bn
 . intro b hb e
   have:g'=b:=by simpa[Value.ownBlock] using e
   subst this;exact Cj hb
 . rw[e1,Lg,LW (by omega),aM,NP]
   exact Bc
 intro e;have:g'=gX:=by simpa[Value.ownBlock] using e
 subst this;rcases bn with e2 | e2
 . exact rD e2
 omega
end
def xj(r:Rd)(p:Nat)(row:List Int)(q j:Nat):Int:=if j<q then zE r p row j else -1
def qB(r:Rd)(k p:Nat)(row:List Int)(q:Nat):Vw:=⟨p,k,0,xj r p row q 0,xj r p row q 1,xj r p row q 2,xj r p row q 3,xj r p row q 4⟩
theorem Qj(r:Rd)(p:Nat)(row:List Int)(j:Nat):xj r p row row.length j=zE r p row j:=by
 unfold xj zE
 split
 . rfl
 rename_i h;rw[Lk (fun h2=>h h2.1)]
theorem JA(r:Rd)(k p:Nat)(row:List Int):qB r k p row row.length=yM r k p row:=by
 unfold qB yM;simp only[Qj]
theorem ug(r:Rd)(p:Nat)(row:List Int)(q j:Nat)(h:j≠q):xj r p row (q+1) j=xj r p row q j:=by
 unfold xj
 by_cases h1:j<q
 . rw[Lm h1,Lm (by omega)]
 rw[Lk h1,Lk (by omega)]
theorem seenQ_no(r:Rd)(k p:Nat)(row:List Int)(q:Nat)(h:(r.h p).toNat.testBit q=As):qB r k p row (q+1)=qB r k p row q:=by
 have key:∀j,xj r p row (q+1) j=xj r p row q j:=fun j=>by
  by_cases e:j=q
  . subst e
    have h1:zE r p row j=-1:=by unfold zE;rw[Lk (fun h2=>by rw[h] at h2;cases h2.2)]
    unfold xj;rw[Lm (by omega),Lk (by omega),h1]
  . exact ug r p row q j e
 unfold qB;simp only[key]
theorem Jz(r:Rd)(k p:Nat)(row:List Int)(q:Nat)(hq:q<row.length)(h5:q<5)(h:(r.h p).toNat.testBit q=Ar):(qB r k p row q).cells.setIfInBounds (3+q) (O U row[q])=(qB r k p row (q+1)).cells:=by
 have e:xj r p row (q+1) q=row[q]:=by
  unfold xj;rw[Lm (by omega)];unfold zE;rw[Lm ⟨hq,h⟩,Lg,Lj hq];rfl
 have key:=fun j (h:j≠q)=>ug r p row q j h
 unfold qB Vw.cells
 match q,h5 with
 | 0,_=>simp only[key 1 (by decide),key 2 (by decide),key 3 (by decide),key 4 (by decide),e];rfl
 | 1,_=>simp only[key 0 (by decide),key 2 (by decide),key 3 (by decide),key 4 (by decide),e];rfl
 | 2,_=>simp only[key 1 (by decide),key 0 (by decide),key 3 (by decide),key 4 (by decide),e];rfl
 | 3,_=>simp only[key 1 (by decide),key 2 (by decide),key 0 (by decide),key 4 (by decide),e];rfl
 | 4,_=>simp only[key 1 (by decide),key 2 (by decide),key 3 (by decide),key 0 (by decide),e];rfl
theorem Rd.cells_h(r:Rd)(p:Nat)(hp:p<5):r.cells[1+p]?=J (O U (r.h p)):=by
 match p,hp with
 | 0,_=>rfl
 | 1,_=>rfl
 | 2,_=>rfl
 | 3,_=>rfl
 | 4,_=>rfl
theorem bit_test{h j:Nat}(hh:h<32)(hj:j<5):(bits BinOp.and U ((h:Int) / 2^j) 1==1)=h.testBit j:=by
 match j,hj with
 | 0,_=>exact LA (qH (p:=fun h=>decide ((bits BinOp.and U ((h:Int) / 2^0) 1==1)=h.testBit 0)) (by decide +kernel) hh)
 | 1,_=>exact LA (qH (p:=fun h=>decide ((bits BinOp.and U ((h:Int) / 2^1) 1==1)=h.testBit 1)) (by decide +kernel) hh)
 | 2,_=>exact LA (qH (p:=fun h=>decide ((bits BinOp.and U ((h:Int) / 2^2) 1==1)=h.testBit 2)) (by decide +kernel) hh)
 | 3,_=>exact LA (qH (p:=fun h=>decide ((bits BinOp.and U ((h:Int) / 2^3) 1==1)=h.testBit 3)) (by decide +kernel) hh)
 | 4,_=>exact LA (qH (p:=fun h=>decide ((bits BinOp.and U ((h:Int) / 2^4) 1==1)=h.testBit 4)) (by decide +kernel) hh)
theorem ue{r:Rd}(h:zS r=0)(p:Nat)(hp:p<5):0<=r.h p/\r.h p<32:=by
 unfold zS at h
 split at h
 . cases h
 rename_i hn
 have key:∀k,k<=5->zX r (5-k) k=0->∀q,k<=q->q<5->yB r.n q (r.h q)=0:=by
  intro k hk
  induction hm:5-k generalizing k with
  | zero=>intro _ q h1 h2;omega
  | succ m ih=>
   intro hz q h1 h2;unfold zX at hz
   split at hz
   . rename_i bj;exact absurd hz bj
   . rename_i bj
     by_cases e:q=k
     . subst e;simpa using bj
     . exact ih (k+1) (by omega) (by omega) hz q (by omega) h2
 have h1:=key 0 (by omega) h p (by omega) hp;unfold yB at h1
 split at h1
 . split at h1
   . cases h1
   rename_i h2;have:r.h p=0:=by simpa using h2
   omega
 split at h1
 . cases h1
 rename_i h2
 have h3:(2^r.n.toNat-1:Nat)<32:=by
  have:2^r.n.toNat<=2^5:=Nj (by omega) (by omega);omega
 omega
end
section
open Go.RowKit
attribute [local go_sem] Oper.semAt_some
theorem play_any(B bB bM N:Nat)(h1:1<=N)(h5:N<=5)(V:Aq)(vs:List Vw)(im:vs.length<=40000)(inp:List Int)(bP:inp.length=N)(word:List Rd)(iu:word.length<=6)(nN:∀r∈word,zJ r=0/\r.n=N)
  (A AW:Bb) (ci cw:Nat) (w:Ba) (bE:B<=w.heap.size) (H:BdIn B bB bM N V vs w) (hI:IAt w B A inp) (hW:RAt w B AW word) :
  An Al 53 #[Aj (J ⟨bB,0,Z⟩),I A inp.length ci,I AW word.length cw] w fun e w'=>∃v V',e=Ak v/\BdIn B bB bM N V' (zi vs N inp word word.length).1 w'/\BdOn bB bM V w V' w' /\
   OwnX cIs (fun b=>w.heap.size<=b/\V'.ownBlock≠J b) w' w.heap.size v (zi vs N inp word word.length).2/\∀b,V'.ownBlock=J b->v.ownBlock≠J b:=by
 have HI:=zH hI;have HW:=zH hW;have sL:=zH nN;have HH:=zH H;have eT:=vt N h1 (by omega);have HM:=zH eT;obtain⟨ar,ns⟩:=Kh (((List.replicate N 0).map (O U)).toArray);rw[ns] at eT;have OR:=zH ns;have b0:=za H.hB 0 rfl;have Ii:=zH bP;rw[bP];obtain⟨l1,l2,l3⟩:=H.lts;clear ns hI hW nN H bP l3;go_enter func53,ntmps53;go_wp2_with fail;obtain⟨w1,af,d0,aW,ay⟩:=zq w ar 3;rw[af]
 have R1:Ap (RwIn B bB bM N V w w.heap.size (f0 inp) vs 0 V w1):=
  ⟨HH.out.on ay,by show w1.heap[w.heap.size]?=_;rw[d0,<-OR.out];rfl,(BdOn.refl _ _ _ _).after ay,fun e=>by have:=(HH.out.own.lt _ e).2;omega,Lh _,by omega,by omega⟩
 go_loopw [24] (fun i wr=>∃(p:Nat) (V1:Aq),p<=N/\i=O U (p:Int)/\Ap (RwIn B bB bM N V w w.heap.size (f0 inp) vs p V1 wr)) (fun i _=>N-(Ao i).toNat)
 case atStart=>exact⟨0,V,by omega,rfl,R1.out⟩
 obtain⟨p,V1,hp,rfl,HR⟩:=hrel
 by_cases SL:p<N
 case neg=>
  obtain rfl:N=p:=by omega
  go_wp2_with fail;have P0:=zH (PlIn.start (word:=word) h5 HR.out ⟨l1,l2⟩);obtain⟨W1,cA⟩:=Kh (wr.alloc (Ag #[I (J ⟨w.heap.size,0,Z⟩) N N] 49));rw[cA] at P0 ⊢;obtain⟨g0,BO⟩:=Kh wr.heap.size;rw[BO] at P0 ⊢;obtain⟨gn,K8⟩:=Kh w.heap.size;rw[K8];have P0:Ap (PlIn B bB bM N V w vs inp word 0 V1 (I (J ⟨g0,0,Z⟩) 1 1) gn W1):=by rw[<-K8];exact P0.out
  go_loopw [7,9,44] (fun nw o i wr=>∃(k:Nat) (V1:Aq) (gk:Nat),k<=word.length/\nw=I (J ⟨gk,0,Z⟩) N N/\i=O U (k:Int)/\Ap (PlIn B bB bM N V w vs inp word k V1 o gk wr)) (fun _ _ i _=>word.length-(Ao i).toNat)
  case atStart=>exact⟨0,V1,gn,by omega,rfl,rfl,P0.out⟩
  obtain⟨k,V2,gk,hk,rfl,rfl,HP⟩:=hrel
  by_cases cP:k<word.length
  case neg=>
   obtain rfl:k=word.length:=by omega
   go_wp2_with fail;go_ret;exact⟨_,V2,rfl,HP.out.bd,HP.out.on,HP.out.out,HP.out.no⟩
  obtain⟨bw,ow,e1,cD,c0,c1,c2,c3,c4,c5,c6⟩:=(HW.out.keep (HP.out.on.bel HH.out)).row k cP;subst e1;have nZ:=sL.out _ (Le cP);have dn:word.getD k default=word[k]:=by rw[Lg,Lj cP];rfl
  obtain⟨r,hr⟩:=Kh (word[k]);rw[hr] at c0 c1 c2 c3 c4 c5 c6 nZ dn;have tZ:=zH dn;have VL:=zH (xI nZ.1).2.2.1;have cW:(0:Int)<=(k:Int):=by omega
  have cp:(k:Int)<(word.length:Int):=by omega
  have FE:IntKind.i64.wrap ((k:Int)+1)=(k:Int)+1:=by rw[Lw];omega
  have b0:wr.cell? ⟨bB,0,Z⟩=J (O U (N:Int)):=za HP.out.bd.hB 0 rfl;have TO:bB<wr.heap.size:=HP.out.bd.lts.1;have TH:bw<wr.heap.size:=by have:=HP.out.on.1.size;omega
  clear hr nZ dn;go_wp2_with fail;clear c0 c1 c2 c3 c4 c5 c6;obtain⟨W1,cA,g0,cj,Eg⟩:=zq wr r.cells 75;unfold Rd.cells at cA;rw[cA];obtain⟨W2,eZ,x0,eQ,MI⟩:=zq W1 ar 3;rw[eZ];rw[cj] at x0;have C':=zH g0;have ez:=zH Eg;obtain⟨row,bC⟩:=Kh ((zi vs N inp word k).2.getD k []);have dO:=zH bC;have Er:Ap (row.length=N):=by rw[<-bC];exact rowk_len vs N inp word k
  have th:=HP.out.on.1.size
  have R0:Ap (RwIn B bB bM N V2 W1 (wr.heap.size+1) (fk word k row) (zi vs N inp word k).1 0 V2 W2):=
   ⟨(HP.out.bd.on Eg).on MI,by show W2.heap[_]?=_;rw[x0,<-OR.out];rfl,(BdOn.refl _ _ _ _).after MI,fun e=>by have:=(HP.out.bd.own.lt _ e).2;omega,by omega,by omega,by omega⟩
  have VQ:=zH (qF vs N inp word k)
  have hNk:(k+1)*N<=35:=by
   have:=N7 (show k+1<=7 by omega) h5;omega
  obtain⟨wo,rfl⟩:∃x,x=wr:=⟨_,rfl⟩
  go_loopw [56] (fun i wx=>∃(q:Nat) (V3:Aq),q<=N/\i=O U (q:Int)/\Ap (RwIn B bB bM N V2 W1 (wo.heap.size+1) (fk word k row) (zi vs N inp word k).1 q V3 wx)) (fun i _=>N-(Ao i).toNat)
  case atStart=>exact⟨0,V2,by omega,rfl,R0.out⟩
  obtain⟨q,V3,hq,rfl,HR⟩:=hrel
  by_cases pr:q<N
  case neg=>
   obtain rfl:N=q:=by omega
   have fj:=HP.out.outn ez.out HR.out;have aM:=ye vs N inp word k;have nn:=HR.out.row.lt;have nC:=zH (ze wr (Ag #[I (J ⟨wo.heap.size+1,0,Z⟩) N N] 49));have lE:=zH (fj.1.below yy (zw wr (Ag #[I (J ⟨wo.heap.size+1,0,Z⟩) N N] 49)) (Lh _));have HL:=zH aM;have Sc:w.heap.size<=wr.heap.size:=by have:=HR.out.on.1.size;omega
   go_wp2_with (at_builtin;obtain⟨aC,bD,eH,bl⟩:=lE.out;rw[HL.out] at eH;refine yO Qe rfl (.tmp 92) (.tmp 94) rfl w.heap.size u9 (k+1) aC.flatten rfl eH wr.heap.size #[I (J ⟨wo.heap.size+1,0,Z⟩) N N] rfl nC.out rfl (by simp[Value.oneCell']) (by omega) (by simp;omega) _ rfl ?_;intro g' cap w7 ip eq cJ mi);have sQ:=HR.out;rw[<-dO.out] at sQ;have eR:=ip;rw[<-HL.out] at eR;have tU:=zH (PlIn.next HP.out ez.out sQ (zw wr _) bD bl eR eq cJ);rw[HL.out] at tU
   go_roundw
   case rel=>exact⟨k+1,V3,wo.heap.size+1,by omega,rfl,by go_num,tU⟩
   simp[Ao];omega
  go_wp2_with fail;refine(vV wr).mono ?_;rintro e w3 ⟨rfl,ak⟩;have R3:=zH (HR.out.on_ ak);go_wp2_with fail;obtain⟨W4,lN,v0,fD,fu⟩:=zq w3 (qB r (k+1) q row 0).cells 100;have Gp:w3.alloc (Ag #[O U (q:Int),O U ((k:Int)+1),O U 0,O U (-1),O U (-1),O U (-1),O U (-1),O U (-1)] 100)=W4:=by rw[<-lN];rfl
  rw[Gp];have le:=ak.size;have FW:wo.heap.size<w3.heap.size:=by have:=HR.out.on.1.size;omega
  have ta:Ap (w3.heap[wo.heap.size]?=J (Ag r.cells 75 (0,0))):=by
   refine(R3.out.on.1.block wo.heap.size (by omega) fun hr=>?_).trans C'.out;have:=HP.out.bd.lts;rcases hr with e | e | e
   . omega
   . omega
   have:=(this.2.2 _ e).2;omega
  have ra:Ap (RowAt w3 gk row):=by have:=HP.out.rown ez.out R3.out;rw[dO.out] at this;exact this
  obtain⟨wp,rfl⟩:∃x,x=wr:=⟨_,rfl⟩
  go_loopw [66] (fun i wy=>∃j:Nat,j<=N/\i=O U (j:Int)/\Ap (wy.heap[w3.heap.size]?=J (Ag (qB r (k+1) q row j).cells 100 (0,0)))/\Ap (Am w3.heap.size w3 wy)) (fun i _=>N-(Ao i).toNat)
  case atStart=>exact⟨0,by omega,rfl,v0,fu⟩
  clear v0 fu fD;obtain⟨j,hj,rfl,HV,Dh⟩:=hrel
  by_cases hjN:j<N
  case neg=>
   obtain rfl:N=j:=by omega
   have LV:fk word k row q=qB r (k+1) q row N:=by
    have:=JA r (k+1) q row;rw[Er.out] at this;rw[this];show yM (word.getD k default) (k+1) q row=_;rw[tZ.out]
   obtain⟨vw,Sh⟩:=Kh (qB r (k+1) q row N);rw[Sh] at HV LV;have x0:wr.cell? ⟨w3.heap.size,0,Z⟩=J (O U vw.p):=za HV.out 0 rfl;have x1:wr.cell? ⟨w3.heap.size,1,Z⟩=J (O U vw.r):=za HV.out 1 rfl;have x2:wr.cell? ⟨w3.heap.size,2,Z⟩=J (O U vw.i):=za HV.out 2 rfl;have x3:wr.cell? ⟨w3.heap.size,3,Z⟩=J (O U vw.h0):=za HV.out 3 rfl;have x4:wr.cell? ⟨w3.heap.size,4,Z⟩=J (O U vw.h1):=za HV.out 4 rfl;have x5:wr.cell? ⟨w3.heap.size,5,Z⟩=J (O U vw.h2):=za HV.out 5 rfl;have x6:wr.cell? ⟨w3.heap.size,6,Z⟩=J (O U vw.h3):=za HV.out 6 rfl;have x7:wr.cell? ⟨w3.heap.size,7,Z⟩=J (O U vw.h4):=za HV.out 7 rfl;have R4:=R3.out.on_ Dh.out;have hsq:=qC (fk word k row) (zi vs N inp word k).1 q;have WE:=zH (Xc B bB bM N V3 (zT (fk word k row) (zi vs N inp word k).1 q).1 vw (by have:=VQ.out;omega) wr R4.bd);have Oc:=zH R4;have OE:=zH LV;have mZ:(0:Int)<=(q:Int):=by omega
   have tn:(q:Int)<(N:Int):=by omega
   go_wp2_with fail;refine WE.out.mono ?_;rintro e w5 ⟨rfl,V5,DR,mf⟩;have DE:=Oc.out.mid mf;rw[<-OE.out] at DR;have NV:=zH (Oc.out.step pr DR mf);rw[OE.out] at NV;obtain⟨u5,c5⟩:∃u:Int,w5.cell? ⟨wo.heap.size+1,q,Z⟩=J (O U u):=⟨_,DE.1.cell q (by rw[Lp,xd,Nz];omega)⟩;have y5:=DE.1.froz q;go_wp2_with fail
   go_roundw
   case rel=>exact⟨q+1,V5,by omega,by go_num,NV⟩
   simp[Ao];omega
  have FU:=ra.out.lt;have KV:j<row.length:=by have:=Er.out;omega
  have n0:=(Dh.out.cell (p:=⟨gk,j,Z⟩) FU).trans (ra.out.cell j KV);have m0:wr.cell? ⟨wo.heap.size,1+q,Z⟩=J (O U (r.h q)):=(Dh.out.cell (p:=⟨wo.heap.size,1+q,Z⟩) FW).trans (za ta.out (1+q) (Rd.cells_h r q (by omega)));obtain⟨y,hy⟩:=Kh (row[j]);rw[hy] at n0;have di:=ue VL.out q (by omega);obtain⟨h,hh⟩:=Lq di.1;have FS:h<32:=by omega
  rw[hh] at m0;have DK:(0:Int)<=(j:Int):=by omega
  have DJ:(j:Int)<(N:Int):=by omega
  have FN:(j:Int)<5:=by omega
  have mZ:(0:Int)<=(q:Int):=by omega
  have Bj:(q:Int)<5:=by omega
  have iT:=bit_test FS (show j<5 by omega);have KE:(r.h q).toNat=h:=by rw[hh];rfl
  have Ok:=zH (seenQ_no r (k+1) q row j);have CJ:=zH (Jz r (k+1) q row j KV (by omega));rw[KE,hy] at CJ;rw[KE] at Ok;have z0:wr.cell? ⟨w3.heap.size,3+j,Z⟩=J (O U ((qB r (k+1) q row j).h j)):=za HV.out (3+j) (Vw.cells_h _ j (by omega));have zf:=zb HV.out (3+j)
  by_cases hb:h.testBit j=Ar
  case pos=>
   rw[hb] at iT;have HS:=zH (CJ.out hb);go_wp2_with fail
   go_roundw
   case rel=>exact⟨j+1,by omega,by go_num,by show _=_;rw[Li wr _ (3+j) _ _ _ HV.out,HS.out],Dh.out.setCell (Lh _) _⟩
   simp[Ao];omega
  have ae:h.testBit j=As:=by simpa using hb
  rw[ae] at iT;have HS:=zH (Ok.out ae);go_wp2_with fail
  go_roundw
  case rel=>exact⟨j+1,by omega,by go_num,by show _=_;rw[HS.out];exact HV.out,Dh.out⟩
  simp[Ao];omega
 have bP:=Ii.out;obtain⟨bi,oi,e1,hbi,i0⟩:=(HI.out.keep (HR.out.on.bel HH.out)).at_ p (by omega);subst e1;have FP:Ap ((f0 inp) p=yw p inp[p]):=by show yw p (inp.getD p 0)=_;rw[Lg,Lj (by omega)];rfl
 obtain⟨x,hx⟩:=Kh (inp[p]);rw[hx] at i0 FP;have pw:(0:Int)<=(p:Int):=by omega
 have Bo:(p:Int)<(N:Int):=by omega
 have aD:bi<wr.heap.size:=by have:=HR.out.row.lt;omega
 go_wp2_with fail;have sN:=zH (qC (f0 inp) vs p)
 refine zI [(0,Ar),(1,Ar),(2,Ar),(3,Ar),(4,Ar),(5,Ar),(6,Ar),(7,Ar),(8,As),(9,As),(10,As),(11,As),(12,As)]
  (fun W=>W.cell? ⟨bi,oi+p,Z⟩=J (O U x)) (by kernel_rfl) (by kernel_rfl) (by exact i0) ?_
 repeat
  apply zU rfl
  . rintro K' ah W y0
    go_simp;exact ah
 refine zN rfl ?_;intro K' ah;go_simp;refine(vV wr.drew).mono ?_;rintro e w3 ⟨rfl,ak⟩;have ak:Am wr.heap.size wr w3:=gx ak;have R3:=HR.out.on_ ak;have i3:=(ak.cell (p:=⟨bi,oi+p,Z⟩) aD).trans i0;refine ah _ _ i3 ?_;refine zN rfl ?_;intro K' ah;go_simp;refine ah _ _ i3 ?_;refine zN rfl ?_;intro K' ah;go_simp;refine(Xc B bB bM N V1 (zT (f0 inp) vs p).1 (yw p x) (by have:=sN.out;omega) w3 R3.bd).mono ?_;rintro e w4 ⟨rfl,V4,tB,tr⟩;have DF:=R3.mid tr;rw[<-FP.out] at tB;have iZ:=zH (R3.step SL tB tr);rw[FP.out] at iZ
 have i4:w4.cell? ⟨bi,oi+p,Z⟩=J (O U x):=by
  refine(LU (tr.1.block bi (by have:=ak.size;omega) fun hr=>?_)).trans i3;have pB:=HR.out.bd.lo;rcases hr with e | e | e
  . omega
  . omega
  have:=(R3.bd.own.lt bi e).1;omega
 refine ah _ _ i4 ?_;obtain⟨u4,c4⟩:∃u:Int,w4.cell? ⟨w.heap.size,p,Z⟩=J (O U u):=⟨_,DF.1.cell p (by rw[Lp,xd,Nz];omega)⟩;have y4:=DF.1.froz p;refine zN rfl ?_;intro K' ah;go_simp;refine ah _ _ i4 ?_;refine xv rfl (by kernel_rfl) ?_;intro K' ah;go_simp;refine ah (fun _=>True) _ _ trivial ?_;refine yr ?_;go_wp2_with fail
 go_roundw
 case rel=>exact⟨p+1,V4,by omega,by go_num,iZ⟩
 simp[Ao];omega
end
section
open Go.RowKit Go.Shelf
attribute [local go_sem] Oper.semAt_some
def zy(n:Nat):Nat->Nat->List (Nat×Nat)
 | _,0=>[]
 | i,m+1=>(List.range n).map (fun j=>(i,j))++zy n (i+1) m
def xt(n i j:Nat):List (Nat×Nat):=((List.range n).drop j).map fun j=>(i,j)
theorem ZA{n i j:Nat}(h:j<n):xt n i j=(i,j)::xt n i (j+1):=by
 unfold xt;rw[Lx (by simpa using h)];simp
theorem Yg(n i:Nat):xt n i n=[]:=by unfold xt;simp
theorem kq{n:Nat}:∀(m i:Nat) (x:Nat×Nat),x∈zy n i m->i<=x.1/\x.1<i+m/\x.2<n
 | 0,_,_,h=>by cases h
 | m+1,i,x,h=>by
  rcases LM.1 h with h | h
  . obtain⟨j,hj,rfl⟩:=LZ.1 h
    exact⟨Lh _,by show i<_;omega,by simpa using hj⟩
  . obtain⟨a,b,c⟩:=kq m (i+1) x h
    exact⟨by omega,by omega,c⟩
theorem execs_any(p:Pb)(A:Bb)(kc:Nat)(SV:Bb)(ks:Nat)(V:Bb)(nw cw:Nat)(w:Ba):An Al 51 #[.agg (p.vs A kc SV ks),I V nw cw] w fun e w'=>
  e=Ak (.func (.func 87) #[] #[Aj (J ⟨w.heap.size,0,Z⟩),Aj (J ⟨w.heap.size+1,0,Z⟩)])/\(w.alloc (Ag (p.vs A kc SV ks) 29)).alloc (Ag #[I V nw cw] 104)=w':=by
 unfold Pb.vs;go_enter func51,ntmps51;go_wp2;go_ret;exact⟨rfl,rfl⟩
def SlAt(w:Ba)(B:Nat)(AW:Bb)(nw:Nat)(sl:Nat->Aq):Prop:=∀j,j<nw->∃b off,AW=J ⟨b,off,Z⟩/\b<B/\w.cell? ⟨b,off+j,Z⟩=J (sl j)
theorem SlAt.same{w w':Ba}{B:Nat}{AW:Bb}{nw:Nat}{sl:Nat->Aq}(h:SlAt w B AW nw sl)(hk:∀k,k<B->w'.heap[k]?=w.heap[k]?):SlAt w' B AW nw sl:=fun j hj=>by
 obtain⟨b,off,e,hb,hc⟩:=h j hj;exact⟨b,off,e,hb,(LU (hk b hb)).trans hc⟩
theorem YV(C:Array Aq)(M:Nat)(hf:M<=30)(A:Bb)(kc:Nat)(hC:C[3]?=J (I A M kc))(AW:Bb)(nw cw:Nat)(hnw:nw<=5000)(sl:Nat->Aq)(B bp bw:Nat)(w:Ba)(hp:w.heap[bp]?=J (Ag C 29))(hw:w.heap[bw]?=J (Ag #[I AW nw cw] 104))
  (hS:SlAt w B AW nw sl) (hB:B<=w.heap.size) :
  Xf Al 87 #[Aj (J ⟨bp,0,Z⟩),Aj (J ⟨bw,0,Z⟩)] (fun x:Nat×Nat=>#[O U x.1,sl x.2]) (fun k=>k<B\/k=bp\/k=bw) (zy nw 0 M) w:=fun n hn l Af Jx W hW hJ Ee hY h0=>by
 have DS:bp<w.heap.size:=(Lf.1 hp).1;have cD:bw<w.heap.size:=(Lf.1 hw).1;have pw:=(hW.block bp DS).trans hp;have th:=(hW.block bw cD).trans hw;have i5:=zH (hS.same (w':=W) fun k hk=>hW.block k (by omega));have HY:=zH hY;have c3:=za pw 3 hC;have H0:=zH h0;have CW:=zH pw;have pY:=zH th;have GH:B<=W.heap.size:=LE hB hW.size;have hpW:bp<W.heap.size:=LD DS hW.size;have hwW:bw<W.heap.size:=LD cD hW.size;refine P4 func87 rfl trivial ?_ rfl;simp only[ntmps87,List.size_toArray,List.length_cons,List.length_nil,Nat.reduceAdd,Nat.reduceSub,Array.replicate_succ,Array.replicate_zero,List.push_toArray,List.append_toArray,List.nil_append,List.cons_append];gi_wp2
 gi_loopw [11] (fun q wr=>∃s:Nat,s<=M/\q=O U (s:Int)/\∃pre:List { x:Nat×Nat // x∈zy nw 0 M },Ap (pre.map (·.1)++zy nw s (M-s)=zy nw 0 M)/\Ap (Af pre wr)/\Ap (SlAt wr B AW nw sl)/\Ap (wr.heap[bp]?=J (Ag C 29))/\Ap (wr.heap[bw]?=J (Ag #[I AW nw cw] 104))/\W.heap.size<=wr.heap.size) (fun q _=>M-(Ao q).toNat)
 case atStart=>exact⟨0,by omega,rfl,[],by simp[Ap],H0,i5,CW,pY,Lh _⟩
 case round=>
  obtain⟨s,hs,rfl,pre,fi,dW,iW,Eb,Cg,bk⟩:=hrel
  by_cases aa:s<M
  · have DP : zy nw s (M - s) = xt nw s 0 ++ zy nw (s + 1) (M - (s + 1)) := by
     rw[show M-s=(M-(s+1))+1 by omega,zy];unfold xt;rw[L8]
    have HP:Ap (pre.map (·.1)++(xt nw s 0++zy nw (s+1) (M-(s+1)))=zy nw 0 M):=by rw[<-DP];exact fi.out
    have q0:=za Cg.out 0 rfl;gi_wp2_with fail
    gi_loopw [16] (fun q wr=>∃j:Nat,j<=nw/\q=O U (j:Int)/\∃pre:List { x:Nat×Nat // x∈zy nw 0 M },Ap (pre.map (·.1)++(xt nw s j++zy nw (s+1) (M-(s+1)))=zy nw 0 M)/\Ap (Af pre wr)/\Ap (SlAt wr B AW nw sl)/\Ap (wr.heap[bp]?=J (Ag C 29))/\Ap (wr.heap[bw]?=J (Ag #[I AW nw cw] 104))/\W.heap.size<=wr.heap.size) (fun q _=>nw-(Ao q).toNat)
    case atStart=>exact⟨0,by omega,rfl,pre,HP,dW,iW,Eb,Cg,bk⟩
    case round=>
     obtain⟨j,hj,rfl,pre,fi,dW,iW,Eb,Cg,bk⟩:=hrel
     by_cases bf:j<nw
     . obtain⟨b2,o2,rfl,ae,m0⟩:=iW.out j bf
       have iN:pre.map (·.1)++((s,j)::(xt nw s (j+1)++zy nw (s+1) (M-(s+1))))=zy nw 0 M:=by
        have:=fi.out;rw[ZA bf,L5] at this;exact this
       have bS:(s,j)∈zy nw 0 M:=by rw[<-iN];simp
       have aM:pre.length<(zy nw 0 M).length:=by
        have:=congrArg List.length iN;simp only[List.length_append,List.length_map,List.length_cons] at this;omega
       obtain⟨fn,tmps,assign,body,hy,hR⟩:=HY.out pre ⟨(s,j),bS⟩ _ dW.out aM;dsimp only at hy
       have re:Ap ((pre++[(⟨(s,j),bS⟩:{ x:Nat×Nat // x∈zy nw 0 M })]).map (·.1)++(xt nw s (j+1)++zy nw (s+1) (M-(s+1)))=zy nw 0 M):=by
        rw[LN,L1];exact iN
       have HR:=zH hR;gi_wp2_with fail;refine HR.out.mono ?_;rintro e W3 (⟨rfl,oK,eo⟩ | ⟨rfl,fa⟩)
       . have aW:wr.heap.size<=W3.heap.size:=eo.size
         have S3:=zH (iW.out.same (fun k hk=>eo.same k (.inl hk) (by omega)));have P3:=zH ((eo.same bp (.inr (.inl rfl)) (by omega)).trans Eb.out);have B3:=zH ((eo.same bw (.inr (.inr rfl)) (by omega)).trans Cg.out);have J3:=zH oK;have io:W.heap.size<=W3.heap.size:=by omega
         gi_wp2_with fail
         go_roundw
         case rel=>exact⟨j+1,by omega,by go_num,_,re,J3,S3,P3,B3,io⟩
         case measure=>simp[Ao];omega
       . gi_wp2_with fail
         refine LP (PE rfl _ _ _) rfl ?_;refine⟨⟨_,rfl⟩,.inr ⟨_,?_,fa⟩⟩;exact⟨_,re.out⟩
     . obtain rfl:nw=j:=by omega
       have HP:Ap (pre.map (·.1)++zy nw (s+1) (M-(s+1))=zy nw 0 M):=by have:=fi.out;rwa[Yg,L6] at this
       gi_wp2_with fail
       go_roundw
       case rel=>exact⟨s+1,by omega,by go_num,pre,HP,dW,iW,Eb,Cg,bk⟩
       case measure=>simp[Ao];omega
  . obtain rfl:M=s:=by omega
    have HP:Ap (pre.map (·.1)=zy nw 0 M):=by have:=fi.out;rwa[NP,zy,L7] at this
    gi_wp2_with fail
    go_end0
    exact⟨⟨_,rfl⟩,.inl ⟨pre,HP.out,dW.out⟩⟩
end
section
open Go.RowKit
theorem wn:∀(j:Nat) (xss:List (List Mv)) (x:Int×Mv),x∈zp j xss->∃s,j<=s/\s<j+xss.length/\x.1=(s:Int)
 | _,[],x,h=>by cases h
 | j,l::r,x,h=>by
  rw[zp] at h;rcases LM.1 h with h | h
  . obtain⟨m,_,rfl⟩:=LZ.1 h
    exact⟨j,Lh _,by simp,rfl⟩
  . obtain⟨s,h1,h2,h3⟩:=wn (j+1) r x h
    exact⟨s,by omega,by simp;omega,h3⟩
def qw(a:Ad)(k s:Nat)(xs:List (Int×Mv)):Nat:=(xs.map fun x=>if x.1=(s:Int) then zQ a k x.2.to else 0).sum
theorem Jt(a:Ad)(k s:Nat)(xs:List (Int×Mv))(x:Int×Mv):qw a k s (xs++[x])=qw a k s xs+if x.1=(s:Int) then zQ a k x.2.to else 0:=by
 unfold qw;rw[LN,R5];simp
theorem uL(a:Ad)(k s j:Nat)(h:s≠j):∀l:List Mv,qw a k s (l.map fun m=>((j:Int),m))=0
 | []=>rfl
 | m::l=>by
  have:=uL a k s j h l;unfold qw at this ⊢;rw[L9,L9,Rx,this,Lk (by intro e;apply h;omega)]
theorem gJ(a:Ad)(k s:Nat):∀l:List Mv,qw a k s (l.map fun m=>((s:Int),m))=(l.map fun m=>zQ a k m.to).sum
 | []=>rfl
 | m::l=>by
  have:=gJ a k s l;unfold qw at this ⊢;rw[L9,L9,Rx,this,Lm rfl,L9,Rx]
theorem sumF_app(a:Ad)(k s:Nat)(xs ys:List (Int×Mv)):qw a k s (xs++ys)=qw a k s xs+qw a k s ys:=by
 unfold qw;rw[LN,R5]
theorem gK(a:Ad)(k s:Nat):∀(j:Nat) (xss:List (List Mv)),qw a k s (zp j xss)=if j<=s then ((xss.getD (s-j) []).map fun m=>zQ a k m.to).sum else 0
 | j,[]=>by simp[zp,qw]
 | j,l::r=>by
  rw[zp,sumF_app,gK a k s (j+1) r]
  by_cases e:s=j
  . subst e
    rw[gJ,Lk (by omega),Lm (Lh _),NP];rfl
  . rw[uL a k s j e,LH]
    by_cases h:j<=s
    . rw[Lm (by omega),Lm h,show s-j=(s-(j+1))+1 by omega,Rt]
    . rw[Lk (by omega),Lk h]
theorem sumF_all(a:Ad)(k s:Nat):qw a k s (zp 0 a.sts)=zQ a (k+1) (s:Int):=by
 rw[gK,Lm (Nn _),Ph,zQ];unfold Ad.at_;rw[Lu]
def xT(a:Ad)(L k sl:Nat)(pre:List (Int×Mv)):List Int:=(List.range sl).map fun (j:Nat)=>((yA L (qw a k j pre):Nat):Int)
theorem JQ(a:Ad)(L k sl:Nat)(pre:List (Int×Mv)):(xT a L k sl pre).length=sl:=by unfold xT;simp
theorem JO(a:Ad)(L k sl:Nat):xT a L k sl []=List.replicate sl 0:=by
 refine Pu (by simp[xT]) fun j h1 h2=>?_
 simp[xT,qw,Yc]
theorem vo(a:Ad)(L k sl:Nat)(pre:List (Int×Mv))(j:Nat)(h:j<(xT a L k sl pre).length):(xT a L k sl pre)[j]=((yA L (qw a k j pre):Nat):Int):=by simp[xT]
theorem XW(a:Ad)(L k sl:Nat)(pre:List (Int×Mv))(x:Int×Mv)(s:Nat)(hx:x.1=(s:Int)):xT a L k sl (pre++[x])=(xT a L k sl pre).set s ((yA L (qw a k s pre+zQ a k x.2.to):Nat):Int):=by
 refine Pu (by simp[xT]) fun j h1 h2=>?_
 rw[RR,vo,Jt,hx]
 by_cases e:s=j
 . subst e;rw[Lm rfl,Lm rfl]
 rw[Lk (by omega),Lk e,Pt,vo]
theorem JR(a:Ad)(L k sl:Nat):xT a L k sl (zp 0 a.sts)=cl a L (k+1) sl:=by
 unfold xT cl;refine Rs fun j _=>?_
 rw[sumF_all]
theorem cl_first(a:Ad)(L sl:Nat):cl a L 0 sl=List.replicate sl 1:=by
 refine Pu (by simp[cl]) fun j h1 h2=>?_
 rw[wP];simp[zQ,QJ]
end
section
open Go.RowKit Go.Shelf
attribute [local go_sem] Oper.semAt_some
theorem wt{B:Nat}{ds:List Deferred}{w w':Ba}(h:Marks B ds w)(hs:∀k:Nat,w.heap[k]?=J (Obj.deferred (J []))->w'.heap[k]?=J (Obj.deferred (J []))):Marks B ds w':=by
 obtain⟨rs,e,hn,hk⟩:=h;exact⟨rs,e,hn,fun r hr=>⟨(hk r hr).1,hs r (hk r hr).2⟩⟩
structure NmIn(B:Nat)(C:Array Aq)(L:Int)(g7 g:Nat)(cs:List Int)(w W:Ba):Prop where
 below:Am B w W
 b0:W.heap[B]?=J (Ag C 27 (0,0))
 b1:W.heap[B+1]?=J (Ag #[O U L] 3 (0,0))
 b7:W.heap[g7]?=J (Ag #[I (J ⟨g,0,Z⟩) cs.length cs.length] 49 (0,0))
 row:RowAt W g cs
 h7:B+2<=g7
 hg:B+2<=g
theorem NmIn.on{B:Nat}{C:Array Aq}{L:Int}{g7 g:Nat}{cs:List Int}{w W W':Ba}(h:NmIn B C L g7 g cs w W)(hb:Am W.heap.size W W'):NmIn B C L g7 g cs w W':=
 ⟨h.below.trans (hb.mono (by have:=zd h.b0;omega)),La hb h.b0,La hb h.b1,La hb h.b7,Lb hb h.row.lt h.row,h.h7,h.hg⟩
theorem NmIn.turn{B:Nat}{C:Array Aq}{L:Int}{g7 g:Nat}{cs:List Int}{w W W':Ba}{row:Option Nat}(h:NmIn B C L g7 g cs w W)(hg:W.grownBy W' row)(hr:∀r,row=J r->B<=r/\∃o:Obj,W.heap[r]?=J o/\o.isCells=As):NmIn B C L g7 g cs w W':=
 ⟨h.below.grown hg (by have:=zd h.b0;omega) (fun k hk=>(hr k hk).1),(LI hg (fun r e=>(hr r e).2) h.b0 rfl).trans h.b0,(LI hg (fun r e=>(hr r e).2) h.b1 rfl).trans h.b1,
  (LI hg (fun r e=>(hr r e).2) h.b7 rfl).trans h.b7,(LI hg (fun r e=>(hr r e).2) h.row rfl).trans h.row,h.h7,h.hg⟩
theorem NmIn.setk{B:Nat}{C:Array Aq}{L:Int}{g7 g:Nat}{cs:List Int}{w W:Ba}(h:NmIn B C L g7 g cs w W)(n j:Nat)(v:Aq)(h7:g7<n)(hg:g<n):NmIn B C L g7 g cs w (W.setCell ⟨n,j,Z⟩ v):=by
 have h1:=h.h7
 exact⟨h.below.setCell (by show B<=n;omega) _,(Ld W ⟨n,j,Z⟩ v B (by show B≠n;omega)).trans h.b0,(Ld W ⟨n,j,Z⟩ v (B+1) (by show B+1≠n;omega)).trans h.b1,
  (Ld W ⟨n,j,Z⟩ v g7 (by show g7≠n;omega)).trans h.b7,(Ld W ⟨n,j,Z⟩ v g (by show g≠n;omega)).trans h.row,h.h7,h.hg⟩
theorem NmIn.swap{B:Nat}{C:Array Aq}{L:Int}{g7 g n:Nat}{cs lC:List Int}{w W:Ba}(h:NmIn B C L g7 g cs w W)(hr:RowAt W n lC)(hn:B+2<=n)(bj:n≠g7):NmIn B C L g7 n lC w (W.setCell ⟨g7,0,Z⟩ (I (J ⟨n,0,Z⟩) lC.length lC.length)):=by
 have h1:=h.h7;obtain⟨x1,x2,x3⟩:=va h.b7 (I (J ⟨n,0,Z⟩) lC.length lC.length);exact⟨h.below.setCell (by show B<=g7;omega) _,(x3 B (by omega)).trans h.b0,(x3 (B+1) (by omega)).trans h.b1,x1,(x3 n bj).trans hr,h.h7,hn⟩
theorem Qc{D:Nat}{W:Ba}{n:Nat}{xs:List Int}(h:RowAt W n xs)(j:Nat)(v:Aq):KeepsFrom D W (W.setCell ⟨n,j,Z⟩ v):=
 ⟨(yj W n j v).size,fun k o _ hk ho=>(Ld W ⟨n,j,Z⟩ v k (by rintro rfl;rw[h] at hk;cases hk;cases ho)).trans hk⟩
theorem rep_arr(n:Nat):((List.replicate n (0:Int)).map (O U)).toArray=Array.replicate n (O U 0):=by simp
theorem XU(a:Ad)(hf:FewA a)(hz:zk a a.sts=0)(h1:1<=a.sts.length)(K L:Nat)(hK:K<=6)(hL:L<=1048576)(SV:Bb)(ks:Nat)(w:Ba)(hS:SAt w w.heap.size SV a.sts) :
  An Al 79 #[Ai #[O U a.n,I SV a.sts.length ks],O U K,O U L] w fun e w'=>e=Ak (O U ((yA L (zQ a K 0):Nat):Int))/\Am w.heap.size w w':=by
 have dA:=hf.1;have HI:=zH (fun (bx:Nat) (w':Ba) (hb:w'.heap[bx]?=J (Ag #[O U a.n,I SV a.sts.length ks] 27)) (h:SAt w' w.heap.size SV a.sts) (hB:w.heap.size<=w'.heap.size)=>kp a hf SV ks w.heap.size bx w' hb h hB);have HZ:=zH (@yS a hz);have HS:=zH hS;clear hS hz hf;refine yb func79 rfl ?_;simp only[ntmps79,List.size_toArray,List.length_cons,List.length_nil,Nat.reduceAdd,Nat.reduceSub,Array.replicate_succ,Array.replicate_zero,List.push_toArray,List.append_toArray,List.nil_append,List.cons_append];go_wp2_with fail;obtain⟨w2,ch,b0,b1,bk,hB⟩:=yx w #[O U a.n,I SV a.sts.length ks] #[O U (L:Int)] 27 3;have cB:w2.heap.size=w.heap.size+2:=by rw[<-ch];simp
 rw[ch];obtain⟨w3,Ku,b2,hz3,dZ⟩:=zq w2 #[O U 1] 3;rw[Ku];clear ch Ku;rw[show w2.heap.size=w.heap.size+1+1 by omega] at b2;refine(Yl a.sts.length (w.heap.size+1+1) h1 dA 1 w3 b2).mono ?_;rintro e w4 ⟨g,rfl,nm,bC,fu⟩
 have H4:Ap (NmIn w.heap.size #[O U a.n,I SV a.sts.length ks] L w4.heap.size g (cl a L 0 a.sts.length) w (w4.alloc (Ag #[I (J ⟨g,0,Z⟩) a.sts.length a.sts.length] 49))):=by
  have c0:=Lb fu (by omega) (Lb dZ (by omega) b0);have c1:=Lb fu (by omega) (Lb dZ (by omega) b1);have fW:=fu.size;refine⟨(hB.trans (dZ.mono (by omega))).trans ((fu.mono (by omega)).trans ((Ln _ _).alloc (by omega) _)),zC c0 _,zC c1 _,?_,?_,by omega,by omega⟩
  . rw[qX];exact ze _ _
  rw[cl_first];exact zC bC _
 go_wp2_with fail;obtain⟨w5,Sg⟩:=Kh (w4.alloc (Ag #[I (J ⟨g,0,Z⟩) a.sts.length a.sts.length] 49));rw[Sg] at H4 ⊢;obtain⟨g7,eq⟩:=Kh w4.heap.size;rw[eq] at H4 ⊢;obtain⟨g0,BO⟩:∃g0,g0=g:=⟨_,rfl⟩;have H5:Ap (NmIn w.heap.size #[O U a.n,I SV a.sts.length ks] L g7 g (cl a L 0 a.sts.length) w w5):=H4.out;refine wp_loop_ghost (fun (m:Nat) (a':Act) (w':Ba)=>∃(ds:List Deferred) (k h:Nat) (u8 AA Az Ay Ax Aw Av Au Aa:Aq),(m=K-k/\k<=K/\Ap (NmIn w.heap.size #[O U a.n,I SV a.sts.length ks] L g7 h (cl a L k a.sts.length) w w')/\Ap (Marks w.heap.size ds w'))/\a'={ tmps:=#[Ai #[O U a.n,I SV a.sts.length ks],O U (K:Int),O U (L:Int),Aj (J ⟨w.heap.size,0,Z⟩),undef,Aj (J ⟨w.heap.size+1,0,Z⟩),O U 0,Aj (J ⟨g7,0,Z⟩),u8,undef,undef,I (J ⟨w.heap.size+1+1,0,Z⟩) 1 1,Aj (J ⟨w.heap.size,1,Z⟩),I SV a.sts.length ks,O U (a.sts.length:Int),I (J ⟨g0,0,Z⟩) a.sts.length a.sts.length,O U (K:Int),O U (k:Int),AA,Az,Ay,Ax,Aw,Av,undef,undef,undef,undef,undef,undef,undef,undef,undef,undef,undef,undef,undef,undef,undef,undef,undef,undef,Au,Aa,undef,undef,undef],defers:=ds }) K ?_ ?_
 . exact⟨[],0,g,_,_,_,_,_,_,_,_,_,⟨by omega,by omega,H5.out,Marks.nil _ _⟩,by rw[BO];rfl⟩
 clear H5 BO;rintro m a' wr ⟨ds,k,h,u8,AA,Az,Ay,Ax,Aw,Av,Au,Aa,⟨hm,hk,HN,MK⟩,rfl⟩;have nh:=qX a L k a.sts.length;have q7:=za HN.out.b7 0 rfl;rw[nh] at q7
 by_cases rL:k<K
 case neg=>
  obtain rfl:k=K:=by omega
  have c0:=HN.out.row.cell 0 (by omega);rw[wP] at c0;clear HI HZ;go_wp2_with fail;refine yd MK.out (v:=O U ((yA L (zQ a k 0):Nat):Int)) (fun W=>by kernel_rfl) ?_;intro W hX;exact⟨rfl,HN.out.below.trans hX.below⟩
 case pos=>
 have eT:=vt a.sts.length h1 dA;obtain⟨q0,q1,_⟩:=Ka HN.out.b0;go_upto_region 5 with fail
 obtain⟨W1,cA,d0,d1,aW,ay⟩:=yx wr (Array.replicate a.sts.length (O U 0)) #[I (J ⟨wr.heap.size,0,Z⟩) a.sts.length a.sts.length] 3 49;rw[cA];have bC:RowAt W1 wr.heap.size (xT a L k a.sts.length []):=by rw[JO];unfold RowAt;rw[rep_arr];exact d0
 have C0:=HN.out.on ay;obtain⟨hn,BK⟩:=Kh wr.heap.size;have Tw:g7<hn:=by rw[<-BK];exact zd HN.out.b7
 have hhg:h<hn:=by rw[<-BK];exact HN.out.row.lt
 have hBn:w.heap.size+1<hn:=by rw[<-BK];exact zd HN.out.b1
 have M6:Ap (Marks w.heap.size ds W1):=wt (w:=wr) MK.out fun x hx=>(ay.block x (Lf.1 hx).1).trans hx
 rw[BK] at bC d1 aW ⊢;obtain⟨q0,q1,_⟩:=Ka C0.b0;have ec:=zH C0;have sR:=zH bC;have bH:=zH d1;clear cA d0 d1 ay bC C0 eT BK q7;go_wp2_with fail;refine(vp a.n (I SV a.sts.length ks) W1).mono ?_;rintro e W2 ⟨rfl,eZ⟩;have bb:=ze W1 (Ag #[O U a.n,I SV a.sts.length ks] 27);have bG:Am W1.heap.size W1 W2:=by rw[<-eZ];exact zw _ _
 have dk:W2.heap.size=W1.heap.size+1:=by rw[<-eZ];simp
 rw[eZ] at bb;obtain⟨bx,aI⟩:=Kh W1.heap.size;have rg:=zH (ec.out.on bG);have co:Ap (RowAt W2 hn (xT a L k a.sts.length [])):=Lb bG sR.out.lt sR.out;have fd:=zH (La bG bH.out);have M5:Ap (Marks w.heap.size ds W2):=wt (w:=W1) M6.out fun x hx=>(bG.block x (Lf.1 hx).1).trans hx
 rw[aI] at bb dk aW ⊢;have ib:=zH (HI.out bx W2 bb (HS.out.keep rg.out.below) (by omega));clear eZ bb bG aI ec sR bH M6 q0 q1;go_wp2_with fail
 refine gG rfl (Pg RG (by kernel_rfl) rfl) ib.out (by rintro x (h | rfl)<;>omega) (fun _=>rfl)
  (fun (pre:List { x:Int×Mv // x∈zp 0 a.sts }) (X:Ba)=>NmIn w.heap.size #[O U a.n,I SV a.sts.length ks] L g7 h (cl a L k a.sts.length) w X/\X.heap[hn+1]?=J (Ag #[I (J ⟨hn,0,Z⟩) a.sts.length a.sts.length] 49 (0,0))/\RowAt X hn (xT a L k a.sts.length (pre.map (·.1)))/\W2.heap.size<=X.heap.size/\(∀y:Nat,W2.heap[y]?=J (Obj.deferred (J []))->X.heap[y]?=J (Obj.deferred (J []))))
  (fun _ _ _=>False)
  ?hI (fun _ _ _ _ _ h _ _=>h)
  ⟨rg.out,fd.out,co.out,Lh _,fun _ h=>h⟩ (fun x=>x.2.cells) 121 ?a1 ?assign ?body ?done ?stop (fun _ _ h=>h.2.2.2.1)
 case hI=>
  intro s X X' row hX hg hr;refine⟨hX.1.turn hg (fun r e=>⟨by have:=(hr r e).1;omega,(hr r e).2⟩),(LI hg (fun r e=>(hr r e).2) hX.2.1 rfl).trans hX.2.1,(LI hg (fun r e=>(hr r e).2) hX.2.2.1 rfl).trans hX.2.2.1,LE hX.2.2.2.1 hg.size,fun y hy=>?_⟩;have E3:=hX.2.2.2.2 y hy;have fT:=(Lf.1 hy).1;exact(hg.block y (by have:=hX.2.2.2.1;omega) (fun e=>by have:=(hr y e.symm).1;omega)).trans E3
 case assign=>
  intro l pre x X K' hI hK;obtain⟨g',oA⟩:∃g',g'=X.heap.size:=⟨_,rfl⟩;have HK:=zH (hK g' oA ⟨hI.1.on (zw X _),zC hI.2.1 _,zC hI.2.2.1 _,by have:=hI.2.2.2.1;simp;omega,fun y hy=>(NJ X _ y (Lf.1 (hI.2.2.2.2 y hy)).1).trans (hI.2.2.2.2 y hy)⟩);have HG:=zH oA;unfold Mv.cells at HK ⊢;dsimp only at HK ⊢;clear hK oA hI;gi_wp2;rw[<-HG.out];exact HK.out
 case body=>
  intro l pre x g W3 hg ep hI aa;obtain⟨dY,oL,dX,MH,pR⟩:=hI;obtain⟨s,_,lI,lW⟩:=wn 0 a.sts x.1 x.2;obtain⟨_,_,z3,z4⟩:=HZ.out x.1.2 (ZI x.2);have cU:=XW a L k a.sts.length (pre.map (·.1)) x.1 s lW;obtain⟨t,et⟩:=Lq z3;have fC:t<a.sts.length:=by omega
  have lI:s<a.sts.length:=by omega
  have c8:=za oL 0 rfl;have rS:=dX.cell s (by rw[JQ];omega);rw[vo] at rS;have fS:=dX.froz s;have q7:=za dY.b7 0 rfl;rw[qX] at q7;have cT:=dY.row.cell t (by rw[qX];omega);rw[wP] at cT;have u7:=za ep 7 (u:=O U x.1.2.to) rfl;rw[et] at u7;have q1:=za dY.b1 0 rfl;rw[et] at cU;have nW:=QL L (qw a k s (pre.map (·.1))) (zQ a k (t:Int));have y1:=vc L (qw a k s (pre.map (·.1)));have y2:=vc L (zQ a k (t:Int));rw[<-nW] at cU;obtain⟨n1,dT⟩:=Kh (yA L (qw a k s (pre.map (·.1))));obtain⟨n2,ol⟩:=Kh (yA L (zQ a k (t:Int)));rw[dT] at rS cU y1;rw[ol] at cT cU y2;have hl3:=dX.lt;have mL:=zH dY;have mK:=zH oL;have C8:=zH dX;have pd:=zH pR;have dr:=zH cU;clear dY oL dX pR cU z3 z4 et dT ol nW ep aa MK M5 fd co rg ib HI HS
  try dsimp only
  rw[lW];clear lW HZ;gi_wp2_with fail;refine jl 16 (by kernel_rfl) (by kernel_rfl) (by kernel_rfl) (by rintro⟨_,_,h⟩;exact h) ?_;simp only[List.take_succ_cons,List.take_zero,List.drop_succ_cons,List.drop_zero]
  repeat still_step
  try refine wpStill_nil ?_
  change wpList _ _ _ _ _ W3.drew;go_wp2_with fail;have hv:min ((n1:Int)+(n2:Int)) ((L:Int)+1)=((min (n1+n2) (L+1):Nat):Int):=by omega
  rw[hv];have cr:=C8.out.set s ((min (n1+n2) (L+1):Nat):Int);rw[<-dr.out] at cr;obtain⟨V,hV⟩:∃V:Aq,O U ((min (n1+n2) (L+1):Nat):Int)=V:=⟨_,rfl⟩;rw[hV] at cr ⊢;have SR:¬(hn<w.heap.size\/hn=bx):=by omega
  refine⟨(Qc C8.out s V).trans (xX (Ln _ _).drew),?_,(mL.out.setk hn s V (by omega) (by omega)).on (Ln _ _).drew,?_,?_,?_,?_⟩
  . have cp:=KeepB.setCell (W:=W3) (K:=fun k=>k<w.heap.size\/k=bx) (a:=⟨hn,s,Z⟩) SR V
    exact cp.trans (KeepB.drew _ _)
  . exact(Ld W3 ⟨hn,s,Z⟩ V (hn+1) (by show hn+1≠hn;omega)).trans mK.out
  . show RowAt (W3.setCell ⟨hn,s,Z⟩ V) hn (xT a L k a.sts.length ((pre++[x]).map (·.1)))
    rw[LN];exact cr
  . show W2.heap.size<=(W3.setCell ⟨hn,s,Z⟩ V).heap.size
    exact LE MH (yj W3 hn s V).size
  intro y hy;exact(Ld W3 ⟨hn,s,Z⟩ V y (by rintro rfl;have h5:=pd.out _ hy;rw[C8.out] at h5;cases h5)).trans (pd.out y hy)
 case done=>
  intro D ys W3 hD dv hI dD;obtain⟨dY,oL,dX,MH,pR⟩:=hI;rw[dv,JR] at dX;have c8:=za oL 0 rfl;have q7:=za dY.b7 0 rfl;have f7:=zb dY.b7 0;have KS:=zd dY.b7;have mL:=zH dY;have C8:=zH dX;have pd:=zH pR;have EB:=zH dD;clear dY oL dX pR dD dv HI ib fd co rg HZ HS
  try dsimp only
  go_wp2_with fail;have Dz:=NmIn.swap mL.out C8.out (by omega) (by omega);rw[qX] at Dz;refine⟨K-(k+1),by omega,_,k+1,hn,_,_,_,_,_,_,_,_,_,⟨rfl,by omega,Dz,?_⟩,rfl⟩;refine Marks.cons M5.out (fun y hy=>?_) (by omega) hD ?_
  . exact(Ld W3 ⟨g7,0,Z⟩ _ y (by rintro rfl;have:=pd.out _ hy;rw[mL.out.b7] at this;cases this)).trans (pd.out y hy)
  exact(Ld W3 ⟨g7,0,Z⟩ _ D (by rintro rfl;have:=EB.out;rw[mL.out.b7] at this;cases this)).trans EB.out
 intro D c pre W _ _ h;exact h.elim
end
section
open Go.RowKit
attribute [local go_sem] Oper.semAt_some
theorem yD{a:Ad}(hf:FewA a)(h:xO a=0):zk a a.sts=0/\1<=a.sts.length/\yC a=Ar/\1<=a.n/\a.n<=5:=by
 by_cases h1:a.n<1\/5<a.n
 . rw[jB h1] at h;cases h
 by_cases h2:a.sts.length<1
 . rw[vI h1 h2] at h;cases h
 by_cases h3:zk a a.sts=0
 . rw[jC h1 (by omega) hf h3] at h
   by_cases h4:yC a=Ar
   . exact⟨h3,by omega,h4,by omega,by omega⟩
   rw[Lk h4] at h;cases h
 rw[jA h1 (by omega) hf h3] at h;exact absurd h h3
def kS(L T:Nat):Int×Int:=if L<T then (0,17) else ((T:Int),0)
theorem jX(a:Ad)(hf:FewA a)(h:xO a=0)(K L:Nat)(hK:K<=6)(hL:L<=1048576)(SV:Bb)(ks:Nat)(w:Ba)(hS:SAt w w.heap.size SV a.sts) :
  An Al 44 #[Ai #[O U a.n,I SV a.sts.length ks],O U K,O U L] w fun e w'=>e=Ak (.tuple #[O U (kS L (zQ a K 0)).1,O U (kS L (zQ a K 0)).2])/\Am w.heap.size w w':=by
 obtain⟨z1,z2,_⟩:=yD hf h;have HC:=zH (fun (w':Ba) (h':SAt w' w'.heap.size SV a.sts)=>wY a hf SV ks w' h');rw[h] at HC;have HN:=zH (fun (w':Ba) (h':SAt w' w'.heap.size SV a.sts)=>XU a hf z1 z2 K L hK hL SV ks w' h');have DM:=sat_gt L (zQ a K 0);have Dc:=zH (@sat_eq L (zQ a K 0));have dJ:=vc L (zQ a K 0);obtain⟨T,hT⟩:=Kh (zQ a K 0);rw[hT] at HN Dc DM dJ ⊢;obtain⟨r,hr⟩:=Kh (yA L T);rw[hr] at HN Dc DM dJ;obtain⟨w1,af⟩:=Kh (w.alloc (Ag #[O U a.n,I SV a.sts.length ks] 27));have aL:=ze w (Ag #[O U a.n,I SV a.sts.length ks] 27);have an:Am w.heap.size w w1:=by rw[<-af];exact zw w _
 have cj:w1.heap.size=w.heap.size+1:=by rw[<-af];simp
 rw[af] at aL;have bL:=zH aL;have aV:=zH an;have HS:=zH ((hS.keep an).more (by omega:w.heap.size<=w1.heap.size));have au:=zH af;clear hS af an aL;go_enter func44,ntmps44;go_wp2_with fail;rw[au.out];go_wp2_with fail;refine(HC.out w1 HS.out).mono ?_;rintro e w2 ⟨rfl,ae⟩;have aN:=zH (aV.out.trans (ae.mono (by omega)));have d':=zH ((HS.out.keep ae).more ae.size);have aQ:=La ae bL.out;obtain⟨q0,q1,_⟩:=Ka aQ;have dk:=ae.size;clear ae aQ HC au;go_wp2_with fail
 all_goals first | (exfalso;omega) | skip
 refine(HN.out w2 d'.out).mono ?_;rintro e w3 ⟨rfl,ak⟩;have cx:=zH (aN.out.trans (ak.mono (by omega)))
 by_cases hg:L<T
 . have ix:L<r:=DM.2 hg
   have hR:Ap (kS L T=(0,17)):=Lm hg;go_wp2_with fail
   all_goals first | (exfalso;omega) | skip
   go_ret2
   rw[hR.out];exact⟨rfl,cx.out⟩
 have ix:¬L<r:=fun h=>hg (DM.1 h)
 have hr:r=T:=(Dc.out (by omega)).symm▸rfl;have hR:Ap (kS L T=((T:Int),0)):=Lk hg;subst hr;go_wp2_with fail
 all_goals first | (exfalso;omega) | skip
 go_ret2
 rw[hR.out];exact⟨rfl,cx.out⟩
theorem Xe(a:Ad)(hf:FewA a)(h:xO a=0)(K:Nat)(hK:K<=6)(SV:Bb)(ks:Nat)(w:Ba)(hS:SAt w w.heap.size SV a.sts) :
  An Al 16 #[Ai #[O U a.n,I SV a.sts.length ks],O U K] w fun e w'=>e=Ak (.tuple #[O U (kS 1048576 (zQ a K 0)).1,O U (kS 1048576 (zQ a K 0)).2])/\Am w.heap.size w w':=by
 have HN:=zH (fun (w':Ba) (h':SAt w' w'.heap.size SV a.sts)=>jX a hf h K 1048576 hK (Lh _) SV ks w' h');obtain⟨r,hr⟩:=Kh (kS 1048576 (zQ a K 0));rw[hr] at HN ⊢;have an:=zw w (Ag #[O U a.n,I SV a.sts.length ks] 27);have aV:=zH an;have HS:=zH ((hS.keep an).more an.size);go_enter func16,ntmps16;go_wp2_with fail;refine(HN.out _ HS.out).mono ?_;rintro e w2 ⟨rfl,ae⟩;have aN:=zH (aV.out.trans (ae.mono (by simp)));go_wp2_with fail
 go_ret2
 exact⟨rfl,aN.out⟩
theorem Jk(a:Ad)(hf:FewA a)(h:xO a=0)(K:Nat)(hK:K<=6)(hT:zQ a K 0<=4096)(SV:Bb)(ks:Nat)(w:Ba)(hS:SAt w w.heap.size SV a.sts) :
  An Al 49 #[Ai #[O U a.n,I SV a.sts.length ks],O U K] w fun e w'=>∃A c,e=Ak (.tuple #[.slice A (zn a K 0).length c,O U 0])/\WAt w' w'.heap.size A (zn a K 0)/\Am w.heap.size w w':=by
 obtain⟨z1,z2,_⟩:=yD hf h;have HC:=zH (fun (w':Ba) (h':SAt w' w'.heap.size SV a.sts)=>jX a hf h K 4096 hK (by omega) SV ks w' h');have hcut:kS 4096 (zQ a K 0)=(((zQ a K 0:Nat):Int),0):=Lk (by omega);rw[hcut] at HC;have HL:=zH (yu a K 0);obtain⟨T,mz⟩:=Kh (zQ a K 0);rw[mz] at HC HL hT;have HF:=zH (YS a K hK SV ks z1 hf K);obtain⟨w1,af,d0,d1,aW,bE⟩:=yx w #[O U a.n,I SV a.sts.length ks] #[O U (K:Int)] 27 3;have HS:=zH ((hS.keep bE).more bE.size);have i5:=zH hS;have aT:=zH bE;have aX:=zH d0;have bH:=zH d1;have au:=zH af;clear af d0 d1 bE hS;go_enter func49,ntmps49;go_wp2_with fail;rw[au.out];go_wp2_with fail;refine(HC.out w1 HS.out).mono ?_;rintro e w2 ⟨rfl,ae⟩;have aN:=zH ae;have D0:=zH (La ae aX.out);have D1:=zH (La ae bH.out);have eQ:=ae.size;obtain⟨i0,hi,cG,bQ,cB⟩:=yT Qd;obtain⟨w3,eT,r1,r2⟩:=run_make_own (P:=Al) w2 w2.heap.size 104 39 i0 kWd.z 1 underlying104 hi cG bQ U U T (by rw[cB];show 24*T<=_;omega) (by unfold maxLen;omega) (Lh _);have R1:=zH r1;have R2:=zH r2;go_wp2_with fail;have mu:=R2.out;have cC:=R2.out.size;obtain⟨w4,nO,e0,e1,fW,fu⟩:=yx w3 #[I (J ⟨w2.heap.size,0,Z⟩) 0 T] #[.func (.func 82) #[] #[Aj (J ⟨w.heap.size+1,0,Z⟩),Aj (J ⟨w3.heap.size,0,Z⟩),Aj (J ⟨w.heap.size,0,Z⟩),Aj (J ⟨w3.heap.size+1,0,Z⟩)]] 104 160;rw[nO]
 have B3:Am w2.heap.size w2 w3:=⟨mu.os,mu.tape,mu.output,mu.size,fun k hk=>mu.block k hk (by simp)⟩;have B4:Am w2.heap.size w2 w4:=B3.trans (fu.mono cC);have mR:=La B4 D0.out;have EJ:=La B4 D1.out;have oq:=zd D1.out;obtain⟨i1,hi,cG,bQ,cB⟩:=yT ZO;obtain⟨w5,eT,r1,r2⟩:=run_make_own (P:=Al) w4.drew w4.drew.heap.size 39 75 i1 kRd.z 7 PU hi cG bQ U U K (by rw[cB];show 56*K<=_;omega) (by unfold maxLen;omega) (Lh _);have B5:Am w4.heap.size w4 w5:=gx ⟨r2.os,r2.tape,r2.output,r2.size,fun k hk=>r2.block k hk (by simp)⟩;have O9:OwnR kRd w5 w4.heap.size (I (J ⟨w4.heap.size,0,Z⟩) 0 K) 0 []:=r1;have hl4:w3.heap.size+1<w4.heap.size:=by omega
 have ed:Ap (Am w.heap.size w w5):=(aT.out.trans ((aN.out.trans (B4.mono eQ)).mono aT.out.size)).trans (B5.mono (by omega))
 have Wo:Ap (FromIn a K SV ks w.heap.size (w.heap.size+1) w3.heap.size w.heap.size (w3.heap.size+1) w4.heap.size (I (J ⟨w2.heap.size,0,Z⟩) 0 T) [] [] w w5):=by
  refine⟨Lb B5 (by omega) EJ,Lb B5 (by omega) e0,Lb B5 (by omega) mR,Lb B5 (by omega) e1,?_,?_,?_,ed.out⟩
  . refine⟨[],rfl,?_,fun i h1 _=>absurd h1 (by simp)⟩
    have h3:OwnR kWd w3 w2.heap.size (I (J ⟨w2.heap.size,0,Z⟩) 0 T) 0 []:=R1.out;exact((h3.below fu (Lh _)).below B5 (Lh _)).low (by omega)
  . intro k hk
    have:w2.heap.size=k:=by simpa[Value.ownBlock] using hk
    have FA:w2.heap.size<w3.heap.size:=(R1.out.lt w2.heap.size rfl).2;exact⟨by omega,by omega,by omega,by omega,by omega⟩
  exact O9.low (by omega)
 have f4:w4.cell? ⟨w3.heap.size+1,0,Z⟩=J (.func (.func 82) #[] #[Aj (J ⟨w.heap.size+1,0,Z⟩),Aj (J ⟨w3.heap.size,0,Z⟩),Aj (J ⟨w.heap.size,0,Z⟩),Aj (J ⟨w3.heap.size+1,0,Z⟩)]):=za e1 0 rfl;have k4:w4.cell? ⟨w.heap.size+1,0,Z⟩=J (O U K):=za EJ 0 rfl;have f5:=(B5.cell (p:=⟨w3.heap.size+1,0,Z⟩) (by show w3.heap.size+1<_;omega)).trans f4;have k5:=(B5.cell (p:=⟨w.heap.size+1,0,Z⟩) (by show w.heap.size+1<_;omega)).trans k4
 have mP:Ap (FromB w.heap.size (w.heap.size+1) w3.heap.size w.heap.size (w3.heap.size+1) w4.heap.size):=
  ⟨by omega,by omega,by omega,by omega,by omega,by omega,by omega,by omega,by omega,by omega,by omega,by omega⟩
 refine zI [(0,Ar),(1,Ar),(2,As),(3,As)]
  (fun W=>W.cell? ⟨w3.heap.size+1,0,Z⟩=J (.func (.func 82) #[] #[Aj (J ⟨w.heap.size+1,0,Z⟩),Aj (J ⟨w3.heap.size,0,Z⟩),Aj (J ⟨w.heap.size,0,Z⟩),Aj (J ⟨w3.heap.size+1,0,Z⟩)])/\W.cell? ⟨w.heap.size+1,0,Z⟩=J (O U K))
  (by kernel_rfl) (by kernel_rfl) ⟨f4,k4⟩ ?_
 repeat
  apply zU rfl
  . rintro K' ah W ⟨y0,y1⟩
    go_simp;exact ah
 refine zN rfl ?_;intro K' ah;go_simp;refine ah _ _ ⟨f5,k5⟩ ?_;refine xv rfl (by kernel_rfl) ?_;intro K' ah;go_simp;have ED:=HF.out 0 [] [] (I (J ⟨w2.heap.size,0,Z⟩) 0 T) w.heap.size (w.heap.size+1) w3.heap.size w.heap.size (w3.heap.size+1) w4.heap.size w w5 (by simp) (.inr ⟨by omega,by omega⟩) (by have:=HL.out;simp;omega) mP.out i5.out Wo.out;refine ED.mono ?_;rintro e w6 ⟨⟨v6,rfl⟩,V6,H6⟩;rw[L6,show yJ [] (zn a K 0)=zn a K 0 by simp[yJ]] at H6;refine ah (fun _=>True) _ _ trivial ?_;refine yr ?_;obtain⟨A6,c6,rfl,_,_,pN⟩:=wV H6.out;have o6:=za H6.hO 0 rfl;have lF:=zH H6.bel;have pX:=zH pN;go_wp2_with fail
 go_ret2
 exact⟨A6,c6,rfl,pX.out,lF.out⟩
end
section
open Go.RowKit
def RawL(B:Nat)(w:Ba)(A:Bb)(n:Nat)(cs:List Aq):Prop:=0<n->∃b off,A=J ⟨b,off,Z⟩/\b<B/\∀(j:Nat) (u:Aq),cs[j]?=J u->w.cell? ⟨b,off+j,Z⟩=J u
theorem RawL.raw{B:Nat}{w:Ba}{A:Bb}{n:Nat}{cs:List Aq}(h:RawL B w A n cs)(hB:B<=w.heap.size):Raw w A n cs:=fun h0=>by
 obtain⟨b,off,e,hb,hc⟩:=h h0;exact⟨b,off,e,by omega,hc⟩
theorem RawL.keep{B:Nat}{w w':Ba}{A:Bb}{n:Nat}{cs:List Aq}(h:RawL B w A n cs)(hb:Am B w w'):RawL B w' A n cs:=fun h0=>by
 obtain⟨b,off,e,aa,hc⟩:=h h0;exact⟨b,off,e,aa,fun j u hu=>(hb.cell (p:=⟨b,_,Z⟩) aa).trans (hc j u hu)⟩
def CAtL(L0 B0:Nat)(w:Ba)(A:Bb)(xs:List Cs):Prop:=∃cs:List Aq,cs.length=xs.length*3/\RawL B0 w A xs.length cs/\(∀u∈cs,u.oneCell'=Ar) /\
  ∀(i:Nat) (hi:i<xs.length),∃d,cCs.lies (fun k=>L0<=k/\k<B0) w d xs[i]/\∀j u,d[j]?=J u->cs[i*3+j]?=J u
def SAtL(L0 B0:Nat)(w:Ba)(A:Bb)(xs:List (List Mv)):Prop:=∃cs:List Aq,cs.length=xs.length*1/\RawL B0 w A xs.length cs/\(∀u∈cs,u.oneCell'=Ar) /\
  ∀(i:Nat) (hi:i<xs.length),∃d,cMl.lies (fun k=>L0<=k/\k<B0) w d xs[i]/\∀j u,d[j]?=J u->cs[i*1+j]?=J u
section
variable {L0 B0:Nat} {w w':Ba} {A:Bb}
theorem CAtL.keep{xs:List Cs}(h:CAtL L0 B0 w A xs)(hb:Am B0 w w'):CAtL L0 B0 w' A xs:=by
 obtain⟨cs,h1,h2,h3,h4⟩:=h;refine⟨cs,h1,h2.keep hb,h3,fun i hi=>?_⟩;obtain⟨d,h5,h6⟩:=h4 i hi;exact⟨d,xz.keep h5 ⟨hb.size,fun k hk _=>hb.block k hk.2⟩,h6⟩
theorem SAtL.keep{xs:List (List Mv)}(h:SAtL L0 B0 w A xs)(hb:Am B0 w w'):SAtL L0 B0 w' A xs:=by
 obtain⟨cs,h1,h2,h3,h4⟩:=h;refine⟨cs,h1,h2.keep hb,h3,fun i hi=>?_⟩;obtain⟨d,h5,h6⟩:=h4 i hi;exact⟨d,qm.keep h5 ⟨hb.size,fun k hk _=>hb.block k hk.2⟩,h6⟩
theorem CAtL.raw{xs:List Cs}(h:CAtL L0 B0 w A xs)(hB:B0<=w.heap.size):∃cs:List Aq,cs.length=xs.length*3/\Raw w A xs.length cs/\(∀u∈cs,u.oneCell'=Ar) /\
  ∀(i:Nat) (hi:i<xs.length),∃d,cCs.lies (fun k=>L0<=k/\k<B0) w d xs[i]/\∀j u,d[j]?=J u->cs[i*3+j]?=J u:=by
 obtain⟨cs,h1,h2,h3,h4⟩:=h;exact⟨cs,h1,h2.raw hB,h3,h4⟩
theorem SAtL.raw{xs:List (List Mv)}(h:SAtL L0 B0 w A xs)(hB:B0<=w.heap.size):∃cs:List Aq,cs.length=xs.length*1/\Raw w A xs.length cs/\(∀u∈cs,u.oneCell'=Ar) /\
  ∀(i:Nat) (hi:i<xs.length),∃d,cMl.lies (fun k=>L0<=k/\k<B0) w d xs[i]/\∀j u,d[j]?=J u->cs[i*1+j]?=J u:=by
 obtain⟨cs,h1,h2,h3,h4⟩:=h;exact⟨cs,h1,h2.raw hB,h3,h4⟩
theorem CAtL.of{xs:List Cs}(h:CAt w B0 A xs)(hB:B0<=w.heap.size):CAtL 0 B0 w A xs:=by
 obtain⟨cs,h1,h2,h3,h4⟩:=h.raw hB;refine⟨cs,h1,fun h0=>?_,h3,fun i hi=>?_⟩
 . obtain⟨b,off,e,_,hc⟩:=h2 h0
   obtain⟨b',lU,e',cz,_⟩:=h h0;rw[e] at e';simp only[Option.some.injEq,Addr.mk.injEq,and_true] at e';exact⟨b,off,e,by omega,hc⟩
 obtain⟨d,h5,h6⟩:=h4 i hi;exact⟨d,xz.mono h5 fun k _ hk=>⟨Nn _,hk⟩,h6⟩
theorem SAtL.of{xs:List (List Mv)}(h:SAt w B0 A xs)(hB:B0<=w.heap.size):SAtL 0 B0 w A xs:=by
 obtain⟨cs,h1,h2,h3,h4⟩:=h.raw hB;refine⟨cs,h1,fun h0=>?_,h3,fun i hi=>?_⟩
 . obtain⟨b,off,e,_,hc⟩:=h2 h0
   obtain⟨b',lU,e',cz,_⟩:=h h0;rw[e] at e';simp only[Option.some.injEq,Addr.mk.injEq,and_true] at e';exact⟨b,off,e,by omega,hc⟩
 obtain⟨d,h5,h6⟩:=h4 i hi;exact⟨d,qm.mono h5 fun k _ hk=>⟨Nn _,hk⟩,h6⟩
end
end
section
open Go.RowKit
attribute [local go_sem] Oper.semAt_some
structure CpIn(B:Nat)(p:Pb)(A:Bb)(kc:Nat)(SV:Bb)(ks:Nat)(Ae:Array Aq)(w W:Ba):Prop where
 bel:Am B w W
 b0:W.heap[B]?=J (Ag (p.vs A kc SV ks) 29 (0,0))
 b1:W.heap[B+1]?=J (Ag Ae 29 (0,0))
def Nbx(L0 B0 B k:Nat):Prop:=k≠B/\k≠B+1/\((L0<=k/\k<B0)\/B<=k)
theorem CpIn.on{B:Nat}{p:Pb}{A:Bb}{kc:Nat}{SV:Bb}{ks:Nat}{Ae:Array Aq}{w W W':Ba}(h:CpIn B p A kc SV ks Ae w W)(hb:Am W.heap.size W W'):CpIn B p A kc SV ks Ae w W':=by
 have:=zd h.b1;exact⟨h.bel.trans (hb.mono (by omega)),Lb hb (by omega) h.b0,Lb hb (by omega) h.b1⟩
theorem CpIn.set{B:Nat}{p:Pb}{A:Bb}{kc:Nat}{SV:Bb}{ks:Nat}{Ae:Array Aq}{w W:Ba}(h:CpIn B p A kc SV ks Ae w W){g:Nat}(hg:B+1<g)(o:Nat)(v:Aq):CpIn B p A kc SV ks Ae w (W.setCell ⟨g,o,Z⟩ v):=
 ⟨h.bel.setCell (by show B<=g;omega) _,(Ld W _ v B (by show B≠g;omega)).trans h.b0,(Ld W _ v (B+1) (by show B+1≠g;omega)).trans h.b1⟩
theorem Qv(p:Pb)(hf:Z0 p)(nr:1<=p.t.cases.length)(aW:1<=p.a.sts.length)(A:Bb)(kc:Nat)(SV:Bb)(ks:Nat)(w:Ba)(L0 B0:Nat)(bh:B0<=w.heap.size)(hA:CAtL L0 B0 w A p.t.cases)(hS:SAtL L0 B0 w SV p.a.sts) :
  An Al 50 #[.agg (p.vs A kc SV ks)] w fun e w'=>∃g Rg gm P',e=Ak (.agg (p.vs (J ⟨g,0,Z⟩) Rg (J ⟨gm,0,Z⟩) P'))/\RowX cCs (fun b=>(L0<=b/\b<B0)\/w.heap.size<=b) w' g p.t.cases/\RowX cMl (fun b=>(L0<=b/\b<B0)\/w.heap.size<=b) w' gm p.a.sts/\w.heap.size<=g/\w.heap.size<=gm/\Am w.heap.size w w':=by
 have hfc:=hf.1.1;have DN:=hf.2.1;obtain⟨w1,af,d0,d1,bk,bE⟩:=yx w (p.vs A kc SV ks) #[O U 0,O U 0,O U 0,I Z 0 0,O U 0,I Z 0 0,O U 0] 29 29;have sA:=bE.mono bh;have HS:=zH (hS.keep sA);have Fd:B0<=w1.heap.size:=by have:=bE.size;omega
 obtain⟨GQ,GS,GR,GU,GT⟩:=(hA.keep sA).raw Fd;have HC:=zH (clone_kCs A p.t.cases.length kc GQ w1 GS GR GU (by omega));have aT:=zH bE;have aX:=zH d0;have bH:=zH d1;have EC:=zH GT;have Wn:=zH hf.1;have In:=zH hf.2;unfold Pb.vs at af d0;have p3:=za d0 3 rfl;have f3:=zb d0 3;have au:=zH af;clear af d0 d1 bE sA;unfold Pb.vs;go_enter func50,ntmps50;go_wp2_with fail;rw[au.out];refine HC.out.mono ?_;rintro e w2 ⟨v2,rfl,bW,ae⟩;obtain⟨A2,c2,rfl,iR,fX,ix⟩:=bW.form;obtain⟨g,rfl,_,cI,_⟩:=ix (by omega);have oz:w1.heap.size<=g:=(bW.lt g rfl).1;have eQ:=ae.size;have ep:w.heap.size+1<g:=by omega
 have R2:RowX cCs (Nbx L0 B0 w.heap.size) w2 g p.t.cases:=RowX.of_own xz bW rfl rfl (fun i hi=>by
  obtain⟨d,h1,h2⟩:=EC.out i hi
  refine⟨d,xz.mono (xz.keep h1 ⟨ae.size,fun k hk _=>ae.block k (by omega)⟩) fun k _ hk=>⟨⟨by omega,by omega⟩,by omega⟩,h2⟩)
 have D0:=La ae aX.out;have D1:=La ae bH.out;have p3:=za D0 3 rfl;have f3:=zb D0 3;obtain⟨W3,dV⟩:=Kh (w2.setCell ⟨w.heap.size,3,Z⟩ (I (J ⟨g,0,Z⟩) p.t.cases.length c2))
 have H3:Ap (CpIn w.heap.size p (J ⟨g,0,Z⟩) c2 SV ks #[O U 0,O U 0,O U 0,I Z 0 0,O U 0,I Z 0 0,O U 0] w W3):=by
  rw[<-dV];refine⟨(aT.out.trans (ae.mono (by omega))).setCell (Lh _) _,?_,(Ld w2 _ _ (w.heap.size+1) (by show w.heap.size+1≠w.heap.size;omega)).trans D1⟩;rw[Li w2 w.heap.size 3 _ _ _ D0]
  rfl
 have R3:Ap (RowX cCs (Nbx L0 B0 w.heap.size) W3 g p.t.cases):=by rw[<-dV];exact R2.other xz 3 _ (by omega) (fun h=>h.1 rfl)
 have nA:Ap (SAtL L0 B0 W3 SV p.a.sts):=HS.out.keep (by
  rw[<-dV]
  exact((Below.mono ae (show w.heap.size<=w1.heap.size by omega)).setCell (Lh _) _).mono bh)
 have q3:W3.cell? ⟨w.heap.size,3,Z⟩=J (I (J ⟨g,0,Z⟩) p.t.cases.length c2):=za H3.out.b0 3 rfl;clear R2 D0 D1 bW ae iR fX HC EC;go_wp2_with fail;clear p3 f3 dV q3
 go_loopw [17] (fun i wr=>∃k:Nat,k<=p.t.cases.length/\i=O U (k:Int)/\Ap (CpIn w.heap.size p (J ⟨g,0,Z⟩) c2 SV ks #[O U 0,O U 0,O U 0,I Z 0 0,O U 0,I Z 0 0,O U 0] w wr)/\Ap (RowX cCs (Nbx L0 B0 w.heap.size) wr g p.t.cases)/\Ap (SAtL L0 B0 wr SV p.a.sts)) (fun i _=>p.t.cases.length-(Ao i).toNat)
 case atStart=>exact⟨0,by omega,rfl,H3.out,R3.out,nA.out⟩
 obtain⟨k,hk,rfl,HI,HR,NT⟩:=hrel
 by_cases cP:k<p.t.cases.length
 case neg=>
  obtain rfl:k=p.t.cases.length:=by omega
  have b0:=HI.out.b0;have q5:wr.cell? ⟨w.heap.size,5,Z⟩=J (I SV p.a.sts.length ks):=za b0 5 rfl;have mY:=HI.out.bel.size;obtain⟨GQ,GS,GR,GU,GT⟩:=NT.out.raw (by omega);have HC:=zH (clone_kMl SV p.a.sts.length ks GQ wr GS GR GU (by omega));have EC:=zH GT;have aI:=zd HI.out.b1;go_wp2_with fail;refine HC.out.mono ?_;rintro e tf ⟨v2,rfl,bW,ae⟩;obtain⟨A2,c3,rfl,_,_,ix⟩:=bW.form;obtain⟨gm,rfl,_,Tq,_⟩:=ix (by omega);have Tv:wr.heap.size<=gm:=(bW.lt gm rfl).1;have nm:g<wr.heap.size:=HR.out.lt
  have R2:RowX cMl (fun b=>Nbx L0 B0 w.heap.size b/\b≠g) tf gm p.a.sts:=RowX.of_own qm bW rfl rfl (fun i hi=>by
   obtain⟨d,h1,h2⟩:=EC.out i hi
   exact⟨d,qm.mono (qm.keep h1 ⟨ae.size,fun k hk _=>ae.block k (by omega)⟩) fun k _ hk=>⟨⟨⟨by omega,by omega⟩,by omega⟩,by omega⟩,h2⟩)
  have I2:=HI.out.on ae;have EN:tf.cell? ⟨w.heap.size,5,Z⟩=J (I SV p.a.sts.length ks):=za I2.b0 5 rfl;have f5':=zb I2.b0 5;have RC:RowX cCs (fun b=>Nbx L0 B0 w.heap.size b/\b≠gm) tf g p.t.cases:=(HR.out.mono xz fun b hb hs=>⟨hs,by omega⟩).below xz ae (Lh _);obtain⟨W3,dV⟩:=Kh (tf.setCell ⟨w.heap.size,5,Z⟩ (I (J ⟨gm,0,Z⟩) p.a.sts.length c3))
  have H3:Ap (CpIn w.heap.size p (J ⟨g,0,Z⟩) c2 (J ⟨gm,0,Z⟩) c3 #[O U 0,O U 0,O U 0,I Z 0 0,O U 0,I Z 0 0,O U 0] w W3):=by
   rw[<-dV];refine⟨I2.bel.setCell (Lh _) _,?_,(Ld tf _ _ (w.heap.size+1) (by show w.heap.size+1≠w.heap.size;omega)).trans I2.b1⟩;rw[Li tf w.heap.size 5 _ _ _ I2.b0]
   rfl
  have R3:Ap (RowX cMl (fun b=>Nbx L0 B0 w.heap.size b/\b≠g) W3 gm p.a.sts):=by rw[<-dV];exact R2.other qm 5 _ (by omega) (fun h=>h.1.1 rfl)
  have Vg:Ap (RowX cCs (fun b=>Nbx L0 B0 w.heap.size b/\b≠gm) W3 g p.t.cases):=by rw[<-dV];exact RC.other xz 5 _ (by omega) (fun h=>h.1.1 rfl)
  have q6:W3.cell? ⟨w.heap.size,5,Z⟩=J (I (J ⟨gm,0,Z⟩) p.a.sts.length c3):=za H3.out.b0 5 rfl;go_wp2_with fail
  go_loopw [48] (fun i wx=>∃k:Nat,k<=p.a.sts.length/\i=O U (k:Int)/\Ap (CpIn w.heap.size p (J ⟨g,0,Z⟩) c2 (J ⟨gm,0,Z⟩) c3 #[O U 0,O U 0,O U 0,I Z 0 0,O U 0,I Z 0 0,O U 0] w wx)/\Ap (RowX cMl (fun b=>Nbx L0 B0 w.heap.size b/\b≠g) wx gm p.a.sts)/\Ap (RowX cCs (fun b=>Nbx L0 B0 w.heap.size b/\b≠gm) wx g p.t.cases)) (fun i _=>p.a.sts.length-(Ao i).toNat)
  case atStart=>exact⟨0,by omega,rfl,H3.out,R3.out,Vg.out⟩
  obtain⟨k,hk,rfl,HI,HR,CR⟩:=hrel
  by_cases cP:k<p.a.sts.length
  case neg=>
   obtain rfl:k=p.a.sts.length:=by omega
   have b0:=HI.out.b0;have b1:=HI.out.b1;have c0:wr.cell? ⟨w.heap.size,0,Z⟩=J (O U p.t.n):=za b0 0 rfl;have c1:wr.cell? ⟨w.heap.size,1,Z⟩=J (O U p.t.ins):=za b0 1 rfl;have MY:wr.cell? ⟨w.heap.size,2,Z⟩=J (O U p.t.outs):=za b0 2 rfl;have Ve:wr.cell? ⟨w.heap.size,3,Z⟩=J (I (J ⟨g,0,Z⟩) p.t.cases.length c2):=za b0 3 rfl;have c4:wr.cell? ⟨w.heap.size,4,Z⟩=J (O U p.a.n):=za b0 4 rfl;have c5:wr.cell? ⟨w.heap.size,5,Z⟩=J (I (J ⟨gm,0,Z⟩) p.a.sts.length c3):=za b0 5 rfl;have c6:wr.cell? ⟨w.heap.size,6,Z⟩=J (O U p.k):=za b0 6 rfl;obtain⟨e0,e1,e2,e3,e4,e5,e6,_⟩:=Kf b1;have z0:=zb b1 0;have z1:=zb b1 1;have z2:=zb b1 2;have z3:=zb b1 3;have z4:=zb b1 4;have z5:=zb b1 5;have z6:=zb b1 6;clear b0 b1;have EI:=zH HI.out.bel;have Ww:=zH CR.out;have dr:=zH HR.out;have Tu:=CR.out.lt;have Tt:=HR.out.lt;have Ts:w.heap.size+1<gm:=by omega
   have sW:=zH (fun (o:Nat) (v:Aq) (W:Ba) (h:RowX cCs (fun b=>Nbx L0 B0 w.heap.size b/\b≠gm) W g p.t.cases)=>h.other xz o v (show w.heap.size+1≠g by omega) (fun h=>h.1.2.1 rfl));have oX:=zH (fun (o:Nat) (v:Aq) (W:Ba) (h:RowX cMl (fun b=>Nbx L0 B0 w.heap.size b/\b≠g) W gm p.a.sts)=>h.other qm o v (show w.heap.size+1≠gm by omega) (fun h=>h.1.2.1 rfl));clear HI HR CR;go_wp2_with fail;refine LP (v:=.agg (p.vs (J ⟨g,0,Z⟩) c2 (J ⟨gm,0,Z⟩) c3)) (by simp[results,results50,go_sem,e0,e1,e2,e3,e4,e5,e6,Pb.vs]) rfl ?_;refine⟨g,c2,gm,c3,rfl,?_,?_,by omega,by omega,?_⟩
   . refine RowX.mono (S:=fun b=>Nbx L0 B0 w.heap.size b/\b≠gm) xz ?_ (fun b _ hs=>hs.1.2.2)
     exact sW.out _ _ _ (sW.out _ _ _ (sW.out _ _ _ (sW.out _ _ _ (sW.out _ _ _ (sW.out _ _ _ (sW.out _ _ _ (Ww.out)))))))
   . refine RowX.mono (S:=fun b=>Nbx L0 B0 w.heap.size b/\b≠g) qm ?_ (fun b _ hs=>hs.1.2.2)
     exact oX.out _ _ _ (oX.out _ _ _ (oX.out _ _ _ (oX.out _ _ _ (oX.out _ _ _ (oX.out _ _ _ (oX.out _ _ _ (dr.out)))))))
   have rK:w.heap.size<=w.heap.size+1:=by omega
   exact(((((((EI.out).setCell rK _).setCell rK _).setCell rK _).setCell rK _).setCell rK _).setCell rK _).setCell rK _
  obtain⟨cZ,dp,eJ⟩:=HR.out;obtain⟨cs,⟨A0,k0,rfl,i0⟩,bl⟩:=eJ k cP
  have x0:wr.cell? ⟨gm,k,Z⟩=J (I A0 p.a.sts[k].length k0):=by
   have:=bl 0 _ rfl;change cZ[k*1+0]?=_ at this;exact za dp _ (by rw[<-this];congr 1;omega)
  have cW:(0:Int)<=(k:Int):=by omega
  have cp:(k:Int)<(p.a.sts.length:Int):=by omega
  have nk:gm<wr.heap.size:=zd dp;have Eg:=zd HI.out.b1;have mh:=In.out.each (Le cP);obtain⟨x,hx⟩:=Kh (p.a.sts[k]);have Hc:=zH hx;rw[hx] at x0 i0 mh;have HC:=zH (clone_kMv A0 x.length k0 (qx x) wr.drew (jf x) (X4 (w:=wr.drew) i0.mat) (X7 x) (by omega));have q5:wr.cell? ⟨w.heap.size,5,Z⟩=J (I (J ⟨gm,0,Z⟩) p.a.sts.length c3):=za HI.out.b0 5 rfl;go_wp2_with fail
  refine zI [(0,Ar),(1,Ar),(2,Ar),(3,Ar),(4,Ar),(5,As),(6,As),(7,As)]
   (fun W=>W.cell? ⟨w.heap.size,5,Z⟩=J (I (J ⟨gm,0,Z⟩) p.a.sts.length c3)) (by kernel_rfl) (by kernel_rfl) (by exact q5) ?_
  repeat
   apply zU rfl
   . rintro K' ah W y0
     go_simp;exact ah
  refine zN rfl ?_;intro K' ah;go_simp;refine HC.out.mono ?_;rintro e w5 ⟨v5,rfl,mf,bJ⟩;have bJ:Am wr.heap.size wr w5:=gx bJ;have mf:OwnR kMv w5 wr.heap.size v5 x.length (qx x):=mf;obtain⟨A5,c5,rfl,_,_,fl⟩:=X5 mf;have I5:=HI.out.on bJ;have EN:w5.cell? ⟨w.heap.size,5,Z⟩=J (I (J ⟨gm,0,Z⟩) p.a.sts.length c3):=za I5.b0 5 rfl;refine ah _ _ EN ?_;refine zN rfl ?_;intro K' ah;go_simp;refine ah _ _ EN ?_;clear ah K';have Et:=HR.out.below qm bJ (Lh _);obtain⟨cZ,dp,eJ⟩:=Et;obtain⟨cs,⟨Q0,n0,rfl,_⟩,bl⟩:=eJ k cP
  have x1:w5.cell? ⟨gm,k,Z⟩=J (I Q0 p.a.sts[k].length n0):=by
   have:=bl 0 _ rfl;change cZ[k*1+0]?=_ at this;exact za dp _ (by rw[<-this];congr 1;omega)
  have y1:=zb dp k
  have hX:cMl.lies (fun b=>(fun b=>Nbx L0 B0 w.heap.size b/\b≠g) b/\b≠gm) w5 [I A5 x.length c5] p.a.sts[k]:=by
   rw[Hc.out];have cI:=CR.out.lt;exact⟨A5,c5,rfl,fl.mono fun b _ hb=>⟨⟨⟨by omega,by omega⟩,by omega⟩,by omega⟩⟩
  have Ht:=zH (RowX.set1 qm rfl (HR.out.below qm bJ (Lh _)) cP hX);have Cp:w.heap.size+1<gm:=by omega
  have Ig:=zH (I5.set Cp k (I A5 x.length c5));have FT:gm≠g:=by omega
  have Hw:=zH ((CR.out.below xz bJ (Lh _)).other xz k (I A5 x.length c5) FT (fun h=>h.2 rfl));refine xv rfl (by kernel_rfl) ?_;intro K' ah;go_simp;refine ah (fun _=>True) _ _ trivial ?_;refine yr ?_;go_wp2_with fail
  go_roundw
  case rel=>exact⟨k+1,by omega,by go_num,Ig,Ht,Hw⟩
  simp[Ao];omega
 obtain⟨cZ,dp,eJ⟩:=HR.out;obtain⟨cs,⟨A0,k0,A1,k1,A2,k2,rfl,i0,l1,l2⟩,bl⟩:=eJ k cP;have x0:wr.cell? ⟨g,k*3,Z⟩=J (I A0 p.t.cases[k].inp.length k0):=za dp _ (bl 0 _ rfl);have x1:wr.cell? ⟨g,k*3+1,Z⟩=J (I A1 p.t.cases[k].out.length k1):=za dp _ (bl 1 _ rfl);have x2:wr.cell? ⟨g,k*3+2,Z⟩=J (I A2 p.t.cases[k].calm.length k2):=za dp _ (bl 2 _ rfl);have cW:(0:Int)<=(k:Int):=by omega
 have cp:(k:Int)<(p.t.cases.length:Int):=by omega
 have nk:g<wr.heap.size:=zd dp;have Eg:=zd HI.out.b1;have tW:=Wn.out.2 p.t.cases[k] (Le cP);obtain⟨x,hx⟩:=Kh (p.t.cases[k]);have Hc:=zH hx;rw[hx] at x0 x1 x2 i0 l1 l2 tW;go_wp2_with fail;obtain⟨W4,lN,g0,fD,fu⟩:=zq wr #[I A0 x.inp.length k0,I A1 x.out.length k1,I A2 x.calm.length k2] 118;rw[lN];have H4:=HI.out.on fu;have p4:W4.cell? ⟨w.heap.size,3,Z⟩=J (I (J ⟨g,0,Z⟩) p.t.cases.length c2):=za H4.b0 3 rfl;have Ik:=zH i0.iat;have pb:=zH l1.lat;have tY:=zH l2.lat;have eB:=zH fu;have nC:=zH g0;have hN0:w.heap.size<W4.heap.size:=by omega
 clear i0 l1 l2 fu H4
 refine zI [(0,Ar),(1,Ar),(2,Ar),(3,Ar),(4,Ar),(5,Ar),(7,Ar),(8,Ar),(10,Ar),(11,Ar),(6,As),(9,As),(12,As),(13,As),(14,As),(15,As)]
  (fun W=>W.cell? ⟨w.heap.size,3,Z⟩=J (I (J ⟨g,0,Z⟩) p.t.cases.length c2)/\W.heap[wr.heap.size]?=J (Ag #[I A0 x.inp.length k0,I A1 x.out.length k1,I A2 x.calm.length k2] 118 (0,0)))
  (by kernel_rfl) (by kernel_rfl) ⟨p4,g0⟩ ?_
 repeat
  apply zU rfl
  . rintro K' ah W ⟨y0,y1⟩
    have z0:W.cell? ⟨wr.heap.size,0,Z⟩=J (I A0 x.inp.length k0):=za y1 0 rfl;have z1:W.cell? ⟨wr.heap.size,1,Z⟩=J (I A1 x.out.length k1):=za y1 1 rfl;have z2:W.cell? ⟨wr.heap.size,2,Z⟩=J (I A2 x.calm.length k2):=za y1 2 rfl;clear y1;go_simp;exact ah
 clear p4 g0;have Fc:=eB.out.size
 -- the inputs
 refine zN rfl ?_;intro K' ah;go_simp;refine(wO A0 k0 x.inp W4.drew (((Ik.out.keep eB.out).more Fc)) (by have:=tW.1;omega)).mono ?_;rintro e w5 ⟨A5,c5,rfl,DL,bJ⟩;have bJ:Am W4.heap.size W4 w5:=gx bJ;have ed:=zH bJ;have DL:IAtS (fun b=>W4.heap.size<=b) w5 A5 x.inp:=DL;have pd:=zH DL;have R8:=bJ.size;have E5:Am wr.heap.size wr w5:=eB.out.trans (bJ.mono (by omega));refine ah _ _ ⟨za (HI.out.on E5).b0 3 rfl,Lb bJ (by omega) nC.out⟩ ?_
 -- the outputs
 refine zN rfl ?_;intro K' ah;go_simp;refine(vO A1 k1 x.out w5 ((pb.out.keep E5).more E5.size) (by have:=tW.2.1.1;omega) (fun v hv=>by have:=tW.2.1.2 v hv;omega)).mono ?_;rintro e w6 ⟨v6,rfl,rF,iU⟩;obtain⟨A6,c6,rfl,_,_,DG⟩:=Y6 rF;have lF:=zH iU;have tX:=zH DG;have Fb:=iU.size;have E6:Am wr.heap.size wr w6:=Lc E5 iU;refine ah _ _ ⟨za (HI.out.on E6).b0 3 rfl,Lb iU (by omega) (Lb ed.out (by omega) nC.out)⟩ ?_
 -- the calm ones
 refine zN rfl ?_;intro K' ah;go_simp;refine(vO A2 k2 x.calm w6 ((tY.out.keep E6).more E6.size) (by have:=tW.2.2.1;omega) (fun v hv=>by have:=tW.2.2.2 v hv;omega)).mono ?_;rintro e w7 ⟨v7,rfl,tq,fZ⟩;obtain⟨A7,c7,rfl,_,_,KS⟩:=Y6 tq;have nH:=zH fZ;have Wb:=zH KS;have E7:Am wr.heap.size wr w7:=Lc E6 fZ;have OH:=zH E7;refine ah _ _ ⟨za (HI.out.on E7).b0 3 rfl,Lb fZ (by omega) (Lb lF.out (by omega) (Lb ed.out (by omega) nC.out))⟩ ?_;have Ob:=zH (HR.out.below xz E7 (Lh _));obtain⟨cZ,dp,eJ⟩:=Ob.out;obtain⟨cs,⟨Q0,n0,B1,n1,B2,n2,rfl,_,_,_⟩,bl⟩:=eJ k cP;have x0:w7.cell? ⟨g,k*3,Z⟩=J (I Q0 p.t.cases[k].inp.length n0):=za dp _ (bl 0 _ rfl);have x1:w7.cell? ⟨g,k*3+1,Z⟩=J (I B1 p.t.cases[k].out.length n1):=za dp _ (bl 1 _ rfl);have x2:w7.cell? ⟨g,k*3+2,Z⟩=J (I B2 p.t.cases[k].calm.length n2):=za dp _ (bl 2 _ rfl);have y0:=zb dp (k*3);have y1:=zb dp (k*3+1);have y2:=zb dp (k*3+2);have q3:w7.cell? ⟨w.heap.size,3,Z⟩=J (I (J ⟨g,0,Z⟩) p.t.cases.length c2):=za (HI.out.on E7).b0 3 rfl;have Ou:=zH ((fZ.block wr.heap.size (by omega)).trans (Lb lF.out (by omega) (Lb ed.out (by omega) nC.out)));refine zN rfl ?_;intro K' ah;go_simp;refine ah _ _ ⟨q3,Ou.out⟩ ?_;refine zN rfl ?_;intro K' ah;go_simp;refine ah _ _ ⟨q3,Ou.out⟩ ?_;refine xv rfl (by kernel_rfl) ?_;intro K' ah;go_simp
 refine ah (fun _=>True) _ _ trivial ?_;refine yr ?_
 have hX:cCs.lies (fun b=>Nbx L0 B0 w.heap.size b/\b≠g) w7 [I A5 x.inp.length c5,I A6 x.out.length c6,I A7 x.calm.length c7] p.t.cases[k]:=by
  rw[Hc.out];refine⟨A5,c5,A6,c6,A7,c7,rfl,?_,?_,?_⟩
  . exact(pd.out.on (lF.out.trans (nH.out.mono Fb))).mono fun b _ hb=>⟨⟨by omega,by omega⟩,by omega⟩
  . exact(tX.out.on nH.out).mono fun b _ hb=>⟨⟨by omega,by omega⟩,by omega⟩
  exact Wb.out.mono fun b _ hb=>⟨⟨by omega,by omega⟩,by omega⟩
 have Ht:=zH (Ob.out.set3 cP hX);have Cp:w.heap.size+1<g:=ep;have Ig:=zH ((((HI.out.on OH.out).set Cp (k*3) (I A5 x.inp.length c5)).set Cp (k*3+1) (I A6 x.out.length c6)).set Cp (k*3+2) (I A7 x.calm.length c7))
 have Eq:Ap (SAtL L0 B0 (((w7.setCell ⟨g,k*3,Z⟩ (I A5 x.inp.length c5)).setCell ⟨g,k*3+1,Z⟩ (I A6 x.out.length c6)).setCell ⟨g,k*3+2,Z⟩ (I A7 x.calm.length c7)) SV p.a.sts):=
  NT.out.keep (((((OH.out.mono (by omega:w.heap.size<=wr.heap.size)).setCell (by show w.heap.size<=g;omega) _).setCell (by show w.heap.size<=g;omega) _).setCell (by show w.heap.size<=g;omega) _).mono bh)
 go_wp2_with fail
 go_roundw
 case rel=>exact⟨k+1,by omega,by go_num,Ig,Ht,Eq⟩
 simp[Ao];omega
theorem zM{p:Pb}(h:zD p=0):yz p.t=0/\xO p.a=0/\p.t.n=p.a.n/\0<=p.k/\p.k<=6:=by
 by_cases h1:yz p.t=0
 case neg=>rw[jq h1] at h;exact absurd h h1
 by_cases h2:xO p.a=0
 case neg=>rw[vi h1 h2] at h;exact absurd h h2
 by_cases h3:p.t.n=p.a.n
 case neg=>rw[ZC h1 h2 h3] at h;cases h
 by_cases h4:p.k<0\/6<p.k
 . rw[ZD h1 h2 h3 h4] at h;cases h
 exact⟨h1,h2,h3,by omega,by omega⟩
theorem yG{t:Tk}(h:yz t=0):1<=t.cases.length/\1<=t.n/\t.n<=5:=by
 unfold yz at h
 split at h
 . cases h
 split at h
 . cases h
 omega
def zP(p:Pb):Nat:=zQ p.a p.k.toNat 0*p.t.cases.length
def jy(p:Pb):Int×Int:=if zD p≠0 then (0,zD p) else kS 1048576 (zP p)
theorem Qu(p:Pb)(hf:Z0 p)(A:Bb)(kc:Nat)(SV:Bb)(ks:Nat)(w:Ba)(hA:CAt w w.heap.size A p.t.cases)(hS:SAt w w.heap.size SV p.a.sts) :
  An Al 15 #[.agg (p.vs A kc SV ks)] w fun e w'=>e=Ak (.tuple #[O U (jy p).1,O U (jy p).2])/\Am w.heap.size w w':=by
 have HP:=zH (fun (w':Ba) (h:CAt w' w'.heap.size A p.t.cases) (h2:SAt w' w'.heap.size SV p.a.sts)=>XP p hf A kc SV ks w' h h2);have HF:=zH (@zM p);have lp:=hf.1.1;have t6:=zH (fun (h:xO p.a=0) (K:Nat) (hK:K<=6) (w':Ba) (h':SAt w' w'.heap.size SV p.a.sts)=>Xe p.a hf.2 h K hK SV ks w' h');have aA:Ap (zD p≠0->jy p=(0,zD p)):=fun h=>Lm h
 have al:Ap (zD p=0->jy p=kS 1048576 (zP p)):=fun h=>Lk (by simpa using h)
 obtain⟨E,hE⟩:=Kh (jy p);rw[hE] at aA al ⊢;obtain⟨pe,eS⟩:=Kh (zD p);rw[eS] at aA al HF HP;obtain⟨w1,af⟩:=Kh (w.alloc (Ag (p.vs A kc SV ks) 29));have aL:=ze w (Ag (p.vs A kc SV ks) 29);have an:Am w.heap.size w w1:=by rw[<-af];exact zw w _
 have cj:w1.heap.size=w.heap.size+1:=by rw[<-af];simp
 rw[af] at aL;unfold Pb.vs at af aL HP ⊢;have bL:=zH aL;have aV:=zH an;have HA:=zH ((hA.keep an).more (by omega:w.heap.size<=w1.heap.size));have HS:=zH ((hS.keep an).more (by omega:w.heap.size<=w1.heap.size));have au:=zH af;have q3:=za aL 3 rfl;have q5:=za aL 5 rfl;have q6:=za aL 6 rfl;clear hA hS af an aL;go_enter func15,ntmps15;go_wp2_with fail;rw[au.out];go_wp2_with fail;refine(HP.out w1 HA.out HS.out).mono ?_;rintro e w2 ⟨rfl,ae⟩;have B2:=zH (aV.out.trans (ae.mono (by omega)));have d':=zH ((HS.out.keep ae).more ae.size);have aQ:=La ae bL.out;have aN:=zH aQ;have dk:=ae.size;clear ae HP au q3 q5 q6;have q4:=za aQ 4 rfl;have q5:=za aQ 5 rfl;have q6:=za aQ 6 rfl;clear aQ
 by_cases h1:pe=0
 case neg=>
  have hR:=zH (aA.out h1);have e0:(pe != 0)=Ar:=by simpa using h1
  clear aA al h1 HF t6;go_wp2_with fail
  go_ret2
  rw[hR.out];exact⟨rfl,B2.out⟩
 case pos=>
 have hR:=zH (al.out h1);obtain⟨f1,f2,f3,f4,f5⟩:=HF.out h1;obtain⟨K,hk⟩:=Lq f4;have HN:=zH (t6.out f2 K (by omega));obtain⟨c1,_⟩:=yG f1;rw[hk] at q6;have hx:zP p=zQ p.a K 0*p.t.cases.length:=by unfold zP;rw[hk];rfl
 rw[hx] at hR;subst h1;obtain⟨T,hT⟩:=Kh (zQ p.a K 0);rw[hT] at HN hR;clear aA al HF t6 f1 f2 f3 f4 hx hT;go_wp2_with fail;refine(HN.out w2 d'.out).mono ?_;rintro e w3 ⟨rfl,ak⟩;have B3:=zH (B2.out.trans (ak.mono (by omega)));have aQ:=La ak aN.out;have q3:=za aQ 3 rfl;obtain⟨cn,sc⟩:=Kh p.t.cases.length;rw[sc] at q3 c1 lp hR
 by_cases hg:1048576<T
 . have hm:1048576<T*cn:=LD hg (P8 T c1)
   have ly:Ap (E=(0,17)):=hR.out.trans (Lm hm);have hC:kS 1048576 T=(0,17):=Lm hg;rw[hC];go_wp2_with fail
   go_ret2
   rw[ly.out];exact⟨rfl,B3.out⟩
 have hC:kS 1048576 T=((T:Int),0):=Lk hg;rw[hC];have rI:T*cn<=1048576*30:=N7 (by omega) lp;have hw:IntKind.i64.wrap ((T:Int)*(cn:Int))=((T*cn:Nat):Int):=by rw[Lw,<-Int.natCast_mul];omega
 obtain⟨m,hm⟩:=Kh (T*cn);rw[hm] at hR rI hw
 by_cases hg:1048576<m
 . have ly:Ap (E=(0,17)):=hR.out.trans (Lm hg)
   go_wp2_with fail
   all_goals first | (exfalso;omega) | skip
   go_ret2
   rw[ly.out];exact⟨rfl,B3.out⟩
 have ly:Ap (E=((m:Int),0)):=hR.out.trans (Lk hg);go_wp2_with fail
 all_goals first | (exfalso;omega) | skip
 go_ret2
 rw[ly.out];exact⟨by first | rfl | rw[hw],B3.out⟩
end
section
open Go.RowKit Go.Shelf
def wZ(p:Pb):Prop:=Z0 p/\(zD p=0->zP p<=60\/4096<zP p)
def zK(p:Pb):Sy×Int:=if zD p≠0 then (xC,zD p) else if 4096<zP p then (xC,17) else (zA p,0)
theorem xN{p:Pb}(h:zD p≠0):zK p=(xC,zD p):=Lm h
theorem xr{p:Pb}(h:zD p=0)(h2:4096<zP p):zK p=(xC,17):=by unfold zK;rw[Lk (by simpa using h),Lm h2]
theorem qh{p:Pb}(h:zD p=0)(h2:zP p<=4096):zK p=(zA p,0):=by unfold zK;rw[Lk (by simpa using h),Lk (by omega)]
def kR(ab:List (List Rd))(l:List (Nat×Nat)):List (Nat×List Rd):=l.map fun x=>(x.1,ab.getD x.2 [])
theorem JI(ab:List (List Rd))(l:List (Nat×Nat))(x:Nat×Nat):kR ab (l++[x])=kR ab l++[(x.1,ab.getD x.2 [])]:=by simp[kR]
theorem prsW_row(ab:List (List Rd))(i:Nat):kR ab ((List.range ab.length).map fun j=>(i,j))=ab.map fun w=>(i,w):=by
 unfold kR;rw[Rf];refine Pu (by simp) fun j h1 h2=>?_
 simp at h1;simp[h1]
theorem Ys(ab:List (List Rd)):∀(m i:Nat),kR ab (zy ab.length i m)=(List.range m).flatMap fun d=>ab.map fun w=>(i+d,w)
 | 0,_=>rfl
 | m+1,i=>by
  rw[zy,kR,LN];have h1:=prsW_row ab i;have h2:=Ys ab m (i+1);unfold kR at h1 h2;rw[h1,h2,List.range_succ_eq_map,Ny,List.flatMap_map]
  have e:(fun d=>ab.map fun w=>(i+1+d,w))=(fun d=>ab.map fun w=>(i+(d+1),w)):=by
   funext d;rw[show i+1+d=i+(d+1) by omega]
  rw[e];rfl
theorem gV(p:Pb)(K:Nat)(hK:p.k=(K:Int)):kR (zn p.a K 0) (zy (zn p.a K 0).length 0 p.t.cases.length)=zj p:=by
 rw[Ys];unfold zj;rw[hK]
 have e:(fun d=>(zn p.a K 0).map fun w=>(0+d,w))=(fun d=>(zn p.a ((K:Int).toNat) 0).map fun w=>(d,w)):=by
  funext d;rw[LH];rfl
 rw[e]
theorem kn(n:Nat):∀(m i:Nat),(zy n i m).length=m*n
 | 0,_=>by simp[zy]
 | m+1,i=>by rw[zy,Lp,kn n m (i+1)];simp;rw[PY];omega
theorem xR(p:Pb)(l:List (Nat×List Rd)):(zl p l).2.length=l.length:=by
 have key:∀n,n<=l.length->(zl p (l.take n)).2.length=n:=by
  intro n
  induction n with
  | zero=>intro _;rfl
  | succ n ih=>
   intro hl;rw[Ls (by omega),xH,Lp,ih (by omega)];rfl
 have:=key l.length (Lh _);rwa[LC] at this
theorem uS(p:Pb)(hn:p.t.n.toNat<=5)(l:List (Nat×List Rd))(h:∀x∈l,x.2.length<=6):(zl p l).1.length<=l.length*35:=by
 have key:∀n,n<=l.length->(zl p (l.take n)).1.length<=n*35:=by
  intro n
  induction n with
  | zero=>intro _;simp[kj]
  | succ n ih=>
   intro hl;rw[Ls (by omega),xH];have h1:=ih (by omega);obtain⟨x,hx⟩:=Kh (l[n]);have h3:=h l[n] (Le _);rw[hx] at h3 ⊢;have h2:=qF (zl p (l.take n)).1 p.t.n.toNat (yf p x.1) x.2 x.2.length;have h4:(x.2.length+1)*p.t.n.toNat<=7*5:=N7 (by omega) hn;dsimp only;omega
 have:=key l.length (Lh _);rwa[LC] at this
end
end Go.Proofs.YtkledihebeidlaaGreatDoor
