/- Merged. -/
import Derived.Test.YtjjcgpfljidbhaaGreatYb
import Derived.SizedLaws
import Derived.OwnWalk
import Derived.Maps.AppendAt
import Derived.Lib.Walk
import Derived.Lib.SliceRun
import Derived.Maps.Own
import Derived.Maps.OwnIn
import Derived.OrdersIn
open Go.Proofs.Tryz
open Go.Value renaming int->O,slice->I,bool->Ah,agg->Ai,pointer->Aj
open Go.IntKind renaming i64->U
open Option renaming none->Z,some->J
open Go.Obj renaming cells->Ag
open Go.Ending renaming returned->Ak
open Go.Proofs.Tryz renaming prog->Al,underlying63->PO,underlying22->PT,underlying71->PN,underlying25->PS,underlying29->PR,underlying34->PQ
open Go.RowKit renaming Below->Am,intOf->Ao,Hid->Ap
open Go renaming Calls->An,Value->Aq,run_equalIn_int->Nt,info_parts->P4,getD_replicate_false->Ra,mem_ready->RD
open Bool renaming true->Ar,false->As
open Go.DataW renaming trod_int->Nd
open Go.World renaming ownsRow_nil->PK,news_of_block->Rh,ownsRow_made->Pg
open Go.World.ownsRow renaming kept->N2,alloc->Pd,lt->PZ
open Go.World.grownBy renaming refl->Rn
open Go.Lib renaming run_eql_slice_nil->N6
open List renaming pairwise_iff_getElem->PH
namespace Go.Proofs.YtjjcgpfljidbhaaGreat
abbrev Rc:=@Nat.mul_le_mul_right
abbrev Nw:=@Nat.zero_le
abbrev Lp:=@List.getElem?_eq_some_iff
abbrev NT:=@List.getElem_map
abbrev Ns:=@Go.Proofs.Tryz.underlying30
abbrev LG:=@List.getElem_of_mem
abbrev NO:=@Go.DataW.trod_struct
abbrev LM:=@Nat.zero_add
abbrev L3:=@Nat.mul_le_mul
abbrev LU:=@Go.wpList_plain
abbrev LX:=@Nat.eq_zero_or_pos
abbrev LA:=@List.eq_nil_of_length_eq_zero
abbrev RG:=@List.take_append_of_le_length
abbrev Pz:=@Nat.min_eq_left
abbrev PU:=@Nat.add_mul
abbrev LN:=@List.getElem?_append_left
abbrev LK:=@List.getElem?_append_right
abbrev PY:=@List.getElem_append_left
abbrev PI:=@List.getElem_append_right
abbrev NX:=@Go.wpList_append_own
abbrev PP:=@Go.Proofs.Tryz.underlying46
abbrev N3:=@Go.Addr.add_lit
abbrev N8:=@Go.Lib.cell?_alloc_some
abbrev Na:=@List.flatMap_cons
abbrev Ny:=@List.mem_flatMap
abbrev RJ:=@or_false
abbrev Re:=@List.mem_of_getElem?
abbrev RF:=@List.getElem_set
abbrev LY:=@Array.getElem?_setIfInBounds_ne
abbrev NS:=@List.length_take
abbrev Py:=@Option.some.inj
abbrev PD:=@Ne.symm
abbrev RI:=@List.range_succ
abbrev RH:=@List.sum_append
abbrev Pe:=@List.map_congr_left
abbrev PV:=@List.foldl_append
abbrev Rq:=@List.getElem?_take
abbrev Lk:=@Go.heap_setCell_same
abbrev NI:=@Array.getElem?_setIfInBounds_self_of_lt
abbrev NA:=@Nat.sub_self
abbrev PX:=@List.sum_cons
abbrev PB:=@List.flatMap_append
abbrev P8:=@List.length_singleton
set_option maxRecDepth 100000
set_option maxHeartbeats 4000000
section
open Go.ChangeShapes Go.WideShapes Go.ChangeAt Go.RowKit Go.Deep
section
variable {H:Type} {enc:TypeId×Aq->H} {P:Program} {W:Ba} {base:Nat} {spare:Nat->Bool} {aS:Bool}
def xZ(P:Program)(t:TypeId)(d:DataW H):Prop:=(d.weights P t).all (·<=reachBytes)=Ar
theorem xg{fs:Array Field}{t:TypeId}{sQ:List (DataW H)}(ht:P.underlying t=J (.struct fs))(h:xZ P t (.agg sQ)){j:Nat}{f:Field}{d:DataW H}(hf:fs[j]?=J f)(hd:sQ[j]?=J d):xZ P f.type d:=by
 unfold xZ at h ⊢;refine LP.2 fun n hn=>LP.1 h n ?_
 simp only[DataW.weights,ht];exact DataW.weights_mem_each (j:=j) (by simp[hf]) hd n hn
theorem kn{e:TypeId}:∀ {ds:List (DataW H)} {d:DataW H},d∈ds->∀n∈d.weights P e,n∈DataW.weightsAll P e ds
 | d0::ds,d,hd,n,hn=>by
  simp only[DataW.weightsAll,List.mem_append];rcases L9.1 hd with rfl | hd
  . exact Or.inl hn
  . exact Or.inr (kn hd n hn)
theorem Qr{t e:TypeId}{el sp:List (DataW H)}(ht:P.underlying t=J (.slice e))(h:xZ P t (.slice el sp)):el.length*P.bytesOf e<=reachBytes/\∀d∈el,xZ P e d:=by
 unfold xZ at h;have h1:=LP.1 h;simp only[DataW.weights,ht] at h1;constructor
 . have h2:=h1 _ (Ro ..)
   have h3:(el.length+sp.length)*P.bytesOf e<=reachBytes:=by simpa using h2
   exact LE (Rc _ (Nat.le_add_right _ _)) h3
 intro d hd;exact LP.2 fun n hn=>h1 n (Rf _ (Rg _ (kn hd n hn)))
theorem qO{α:Type}[Inhabited α]{t e:TypeId}{fuel:Nat}{cs:List Aq}{x:DataW H×List MemPlace}{s:Nat}(L:List Aq->α->Prop)(ht:P.underlying t=J (.slice e))(hs:P.cellsOf e=s)(h1:0<s)
  (rd:∀(m:Nat) (cs:List Aq) (y:DataW H×List MemPlace),DataW.trod enc P W base spare aS m e cs=J y->xZ P e y.1->∃a,L cs a)
  (h:DataW.trod enc P W base spare aS fuel t cs=J x) (hw:xZ P t x.1) :
  ∃(A:Bb) (mU:List α) (cap:Nat),cs=[I A mU.length cap]/\mU.length<=cap/\cap<=maxLen/\mU.length*P.bytesOf e<=reachBytes /\
   (0<mU.length->∃b off,A=J ⟨b,off,Z⟩/\b<W.heap.size/\∀(i:Nat) (hi:i<mU.length),∃cs,L cs mU[i]/\∀(k:Nat) (y:Aq),cs[k]?=J y->W.cell? ⟨b,off+i*s+k,Z⟩=J y):=by
 rcases open_slice ht h with ⟨rfl,_⟩ | ⟨a,len,cap,m,n',D,Pl,rfl,_,Vy,mL,hm,oo,hi⟩
 . exact⟨Z,[],0,rfl,Lh _,Nw _,by simp,fun h=>absurd h (by simp)⟩
 have RW:len<=m:=by rw[hm];split<;>omega
 rw[oo] at hw;obtain⟨hb,aT⟩:=Qr ht hw
 have mK:∀i,i<len->∃(a':α) (cs:List Aq),cs.length=s/\L cs a'/\∀(k:Nat) (y:Aq),cs[k]?=J y->W.cell? (a.add (i*s+k))=J y:=fun i aa=>by
  obtain⟨nn,hc,UX⟩:=hi i (by omega);rw[hs] at hc;obtain⟨_,aw,bK⟩:=World.cells?_some hc;obtain⟨u,hu⟩:=rd _ _ _ UX (aT _ (LO.2 ⟨i,Pm.2 aa,rfl⟩));refine⟨u,nn,aw,hu,fun k y hk=>?_⟩;have dw:k<s:=by rw[<-aw];exact(Lp.1 hk).1
  rw[<-Go.Deep.add_add,bK k dw,hk]
 obtain⟨mU,C2,has⟩:∃mU:List α,mU.length=len/\∀i (hi:i<mU.length),∃cs:List Aq,cs.length=s/\L cs mU[i]/\∀(k:Nat) (y:Aq),cs[k]?=J y->W.cell? (a.add (i*s+k))=J y:=by
  refine⟨(List.range len).map fun i=>if h:i<len then Classical.choose (mK i h) else default,by simp,fun i hi=>?_⟩;have fj:i<len:=by simpa using hi
  simp only[List.getElem_map,List.getElem_range,fj,dite_true];exact Classical.choose_spec (mK i fj)
 subst C2;have dn:mU.length*P.bytesOf e<=reachBytes:=by simpa using hb
 refine⟨J a,mU,cap,rfl,Vy,mL,dn,fun h0=>?_⟩;obtain⟨c0,pO,_,EV⟩:=has 0 h0;have TA:=EV 0 _ (Lf (by omega));obtain⟨b,off,Il⟩:=a;have DW:Il=Z:=by simpa[Addr.add] using World.cell?_spot TA
 subst DW;refine⟨b,off,rfl,?_,fun i hi=>?_⟩
 . have:=World.block_lt_of_cell? W _ TA
   simpa[Addr.add] using this
 obtain⟨c1,_,hL,hc1⟩:=has i hi;refine⟨c1,hL,fun k y hk=>?_⟩;have:=hc1 k y hk;rw[add_plain] at this;rw[<-Pu] at this;exact this
end
section
variable {H:Type} {enc:TypeId×Aq->H} {W:Ba} {base:Nat} {spare:Nat->Bool} {aS:Bool}
theorem Z4:Al.cellsOf 30=1:=by kernel_rfl
theorem Xj:Al.cellsOf 47=1:=by kernel_rfl
theorem Ja:Al.cellsOf 63=3:=by kernel_rfl
theorem cellsCss:Al.cellsOf 22=1:=by kernel_rfl
theorem cellsTk:Al.cellsOf 24=4:=by kernel_rfl
theorem cellsGr:Al.cellsOf 66=6:=by kernel_rfl
theorem Q7:Al.cellsOf 68=7:=by kernel_rfl
theorem Q8:Al.cellsOf 70=8:=by kernel_rfl
theorem cellsMl:Al.cellsOf 71=1:=by kernel_rfl
theorem cellsMls:Al.cellsOf 25=1:=by kernel_rfl
theorem cellsAd:Al.cellsOf 27=2:=by kernel_rfl
theorem cellsPb:Al.cellsOf 29=7:=by kernel_rfl
theorem bytesI8:Al.bytesOf 3=8:=by kernel_rfl
theorem bytesIs:Al.bytesOf 30=24:=by kernel_rfl
theorem bytesCs:Al.bytesOf 63=72:=by kernel_rfl
theorem bytesMv:Al.bytesOf 70=64:=by kernel_rfl
theorem bytesMl:Al.bytesOf 71=24:=by kernel_rfl
/-- A slice of integers. -/
theorem ZI{m:Nat}{cs:List Aq}{y:DataW H×List MemPlace}(h:DataW.trod enc Al W base spare aS m 30 cs=J y)(hw:xZ Al 30 y.1) :
  ∃(A:Bb) (xs:List Int) (c:Nat),cs=[I A xs.length c]/\xs.length<=17592186044416/\IAt W W.heap.size A xs:=by
 obtain⟨A,xs,c,e,_,_,hb,hA⟩:=qO (α:=Int) (fun cs i=>cs=[O U i]) Ns xt (by decide) (fun m cs y h _=>by obtain⟨i,e,_⟩:=Nd LB h;exact⟨i,e⟩) h hw;refine⟨A,xs,c,e,?_,fun h0=>?_⟩
 . rw[bytesI8] at hb;unfold reachBytes at hb;omega
 obtain⟨b,off,e,aa,hc⟩:=hA h0;refine⟨b,off,e,aa,fun i hi=>?_⟩;obtain⟨cs,rfl,h2⟩:=hc i hi;simpa using h2 0 _ rfl
/-- A slice of slices of integers. -/
theorem YC{m:Nat}{cs:List Aq}{y:DataW H×List MemPlace}(h:DataW.trod enc Al W base spare aS m 47 cs=J y)(hw:xZ Al 47 y.1) :
  ∃(A:Bb) (xs:List (List Int)) (c:Nat),cs=[I A xs.length c]/\xs.length<=17592186044416/\(∀v∈xs,v.length<=17592186044416)/\LAt W W.heap.size A xs:=by
 obtain⟨A,xs,c,e,_,_,hb,hA⟩:=qO (α:=List Int) (fun cs v=>∃A c,cs=[I A v.length c]/\v.length<=17592186044416/\IAt W W.heap.size A v) underlying47 Z4 (by decide)
  (fun m cs y h hw=>by obtain⟨A,xs,c,e,h1,h2⟩:=ZI h hw;exact⟨xs,A,c,e,h1,h2⟩) h hw
 refine⟨A,xs,c,e,?_,?_,fun h0=>?_⟩
 . rw[bytesIs] at hb;unfold reachBytes at hb;omega
 . intro v hv
   obtain⟨i,hi,rfl⟩:=LG hv;obtain⟨b,off,_,_,hc⟩:=hA (by omega);obtain⟨cs,⟨A,c,_,h1,_⟩,_⟩:=hc i hi;exact h1
 obtain⟨b,off,e,aa,hc⟩:=hA h0;refine⟨b,off,e,aa,fun i hi=>?_⟩;obtain⟨cs,⟨A,c,rfl,_,h3⟩,h2⟩:=hc i hi;exact⟨A,c,by simpa using h2 0 _ rfl,h3⟩
/-- A case. -/
theorem rd_case{m:Nat}{cs:List Aq}{y:DataW H×List MemPlace}(h:DataW.trod enc Al W base spare aS m 63 cs=J y)(hw:xZ Al 63 y.1) :
  ∃x:Cs,LowC x/\∃v0 v1 v2,cs=[v0,v1,v2]/\CsV W W.heap.size v0 v1 v2 x:=by
 obtain⟨xs,n,rfl,rfl,hl,dG,hf⟩:=NO PO h;rw[Ja] at hl;have lE:xs.length=3:=dG
 match cs,hl with
 | [c0,c1,c2],_=>
  have f0:=hf 0 _ rfl;have f1:=hf 1 _ rfl;have f2:=hf 2 _ rfl
  match xs,lE with
  | [x0,x1,x2],_=>
   have g0:DataW.trod enc Al W base spare aS n 30 [c0]=J x0:=by simpa[Z4] using f0
   have g1:DataW.trod enc Al W base spare aS n 47 [c1]=J x1:=by simpa[Xj] using f1
   have g2:DataW.trod enc Al W base spare aS n 47 [c2]=J x2:=by simpa[Xj] using f2
   have w0:xZ Al 30 x0.1:=xg PO hw (j:=0) rfl rfl;have w1:xZ Al 47 x1.1:=xg PO hw (j:=1) rfl rfl;have w2:xZ Al 47 x2.1:=xg PO hw (j:=2) rfl rfl;obtain⟨A0,y0,k0,e0,l0,r0⟩:=ZI g0 w0;obtain⟨A1,y1,k1,e1,l1,m1,r1⟩:=YC g1 w1;obtain⟨A2,y2,k2,e2,l2,m2,r2⟩:=YC g2 w2
   cases e0;cases e1;cases e2
   exact⟨⟨y0,y1,y2⟩,⟨l0,l1,l2,m1,m2⟩,_,_,_,rfl,⟨A0,k0,rfl,r0⟩,⟨A1,k1,rfl,r1⟩,⟨A2,k2,rfl,r2⟩⟩
/-- A slice of cases. -/
theorem rd_cases{m:Nat}{cs:List Aq}{y:DataW H×List MemPlace}(h:DataW.trod enc Al W base spare aS m 22 cs=J y)(hw:xZ Al 22 y.1) :
  ∃(A:Bb) (xs:List Cs) (c:Nat),cs=[I A xs.length c]/\xs.length<=17592186044416/\(∀v∈xs,LowC v)/\CAt W W.heap.size A xs:=by
 obtain⟨A,xs,c,e,_,_,hb,hA⟩:=qO (α:=Cs) (fun cs x=>LowC x/\∃v0 v1 v2,cs=[v0,v1,v2]/\CsV W W.heap.size v0 v1 v2 x) PT Ja (by decide)
  (fun m cs y h hw=>rd_case h hw) h hw
 refine⟨A,xs,c,e,?_,?_,fun h0=>?_⟩
 . rw[bytesCs] at hb;unfold reachBytes at hb;omega
 . intro v hv
   obtain⟨i,hi,rfl⟩:=LG hv;obtain⟨b,off,_,_,hc⟩:=hA (by omega);obtain⟨cs,⟨h1,_⟩,_⟩:=hc i hi;exact h1
 obtain⟨b,off,e,aa,hc⟩:=hA h0;refine⟨b,off,e,aa,fun i hi=>?_⟩;obtain⟨cs,⟨_,v0,v1,v2,rfl,h3⟩,h2⟩:=hc i hi;exact⟨v0,v1,v2,h2 0 _ rfl,h2 1 _ rfl,h2 2 _ rfl,h3⟩
/-- A round. -/
theorem rd_round{m:Nat}{cs:List Aq}{y:DataW H×List MemPlace}(h:DataW.trod enc Al W base spare aS m 68 cs=J y):∃x:Rd,cs=x.cells.toList:=by
 obtain⟨xs,n,rfl,rfl,hl,dG,hf⟩:=NO underlying68 h;rw[Q7] at hl;have lE:xs.length=2:=dG
 match cs,hl with
 | [c0,c1,c2,c3,c4,c5,c6],_=>
  have f0:=hf 0 _ rfl;have f1:=hf 1 _ rfl
  match xs,lE with
  | [x0,x1],_=>
   have g0:DataW.trod enc Al W base spare aS n 66 [c0,c1,c2,c3,c4,c5]=J x0:=by simpa[cellsGr] using f0
   have g1:DataW.trod enc Al W base spare aS n 3 [c6]=J x1:=by simpa[xt] using f1
   obtain⟨i6,e6,_,_⟩:=Nd LB g1;obtain⟨ys,k,rfl,rfl,_,ig,hg⟩:=NO underlying66 g0;have Iy:ys.length=2:=ig;have q0:=hg 0 _ rfl;have q1:=hg 1 _ rfl
   match ys,Iy with
   | [y0,y1],_=>
    have r0:DataW.trod enc Al W base spare aS k 3 [c0]=J y0:=by simpa[xt] using q0
    have r1:DataW.trod enc Al W base spare aS k 64 [c1,c2,c3,c4,c5]=J y1:=by simpa[cells5] using q1
    obtain⟨i0,e0,_,_⟩:=Nd LB r0;obtain⟨zs,m,rfl,_,_,Iu,hi⟩:=DataW.trod_array Rt r1;have k0:=hi 0 (by decide);have k1:=hi 1 (by decide);have k2:=hi 2 (by decide);have k3:=hi 3 (by decide);have k4:=hi 4 (by decide)
    match zs,Iu with
    | [z0,z1,z2,z3,z4],_=>
     have j0:DataW.trod enc Al W base spare aS m 3 [c1]=J z0:=by simpa[xt] using k0
     have j1:DataW.trod enc Al W base spare aS m 3 [c2]=J z1:=by simpa[xt] using k1
     have j2:DataW.trod enc Al W base spare aS m 3 [c3]=J z2:=by simpa[xt] using k2
     have j3:DataW.trod enc Al W base spare aS m 3 [c4]=J z3:=by simpa[xt] using k3
     have j4:DataW.trod enc Al W base spare aS m 3 [c5]=J z4:=by simpa[xt] using k4
     obtain⟨a0,b0,_,_⟩:=Nd LB j0;obtain⟨a1,b1,_,_⟩:=Nd LB j1;obtain⟨a2,b2,_,_⟩:=Nd LB j2;obtain⟨a3,b3,_,_⟩:=Nd LB j3;obtain⟨a4,b4,_,_⟩:=Nd LB j4
     cases e0;cases e6;cases b0;cases b1;cases b2;cases b3;cases b4
     exact⟨⟨i0,a0,a1,a2,a3,a4,i6⟩,rfl⟩
/-- A move. -/
theorem rd_move{m:Nat}{cs:List Aq}{y:DataW H×List MemPlace}(h:DataW.trod enc Al W base spare aS m 70 cs=J y):∃x:Mv,cs=x.cells.toList:=by
 obtain⟨xs,n,rfl,rfl,hl,dG,hf⟩:=NO underlying70 h;rw[Q8] at hl;have lE:xs.length=2:=dG
 match cs,hl with
 | [c0,c1,c2,c3,c4,c5,c6,c7],_=>
  have f0:=hf 0 _ rfl;have f1:=hf 1 _ rfl
  match xs,lE with
  | [x0,x1],_=>
   have g0:DataW.trod enc Al W base spare aS n 68 [c0,c1,c2,c3,c4,c5,c6]=J x0:=by simpa[Q7] using f0
   have g1:DataW.trod enc Al W base spare aS n 3 [c7]=J x1:=by simpa[xt] using f1
   obtain⟨r,e0⟩:=rd_round g0;obtain⟨i7,e7,_,_⟩:=Nd LB g1
   cases e7
   refine⟨⟨r,i7⟩,?_⟩;simp only[Rd.cells,List.cons.injEq] at e0;obtain⟨rfl,rfl,rfl,rfl,rfl,rfl,rfl,_⟩:=e0
   rfl
/-- A slice of moves. -/
theorem rd_moves{m:Nat}{cs:List Aq}{y:DataW H×List MemPlace}(h:DataW.trod enc Al W base spare aS m 71 cs=J y)(hw:xZ Al 71 y.1) :
  ∃(A:Bb) (xs:List Mv) (c:Nat),cs=[I A xs.length c]/\xs.length<=17592186044416/\MAt W W.heap.size A xs:=by
 obtain⟨A,xs,c,e,_,_,hb,hA⟩:=qO (α:=Mv) (fun cs x=>cs=x.cells.toList) PN Q8 (by decide) (fun m cs y h _=>rd_move h) h hw;refine⟨A,xs,c,e,?_,fun h0=>?_⟩
 . rw[bytesMv] at hb;unfold reachBytes at hb;omega
 obtain⟨b,off,e,aa,hc⟩:=hA h0;refine⟨b,off,e,aa,fun i hi k u hk=>?_⟩;obtain⟨cs,rfl,h2⟩:=hc i hi;exact h2 k u (by simpa using hk)
/-- A slice of slices of moves. -/
theorem JF{m:Nat}{cs:List Aq}{y:DataW H×List MemPlace}(h:DataW.trod enc Al W base spare aS m 25 cs=J y)(hw:xZ Al 25 y.1) :
  ∃(A:Bb) (xs:List (List Mv)) (c:Nat),cs=[I A xs.length c]/\xs.length<=17592186044416/\(∀v∈xs,v.length<=17592186044416)/\SAt W W.heap.size A xs:=by
 obtain⟨A,xs,c,e,_,_,hb,hA⟩:=qO (α:=List Mv) (fun cs v=>∃A c,cs=[I A v.length c]/\v.length<=17592186044416/\MAt W W.heap.size A v) PS cellsMl (by decide)
  (fun m cs y h hw=>by obtain⟨A,xs,c,e,h1,h2⟩:=rd_moves h hw;exact⟨xs,A,c,e,h1,h2⟩) h hw
 refine⟨A,xs,c,e,?_,?_,fun h0=>?_⟩
 . rw[bytesMl] at hb;unfold reachBytes at hb;omega
 . intro v hv
   obtain⟨i,hi,rfl⟩:=LG hv;obtain⟨b,off,_,_,hc⟩:=hA (by omega);obtain⟨cs,⟨A,c,_,h1,_⟩,_⟩:=hc i hi;exact h1
 obtain⟨b,off,e,aa,hc⟩:=hA h0;refine⟨b,off,e,aa,fun i hi=>?_⟩;obtain⟨cs,⟨A,c,rfl,_,h3⟩,h2⟩:=hc i hi;exact⟨A,c,by simpa using h2 0 _ rfl,h3⟩
/-- A problem. -/
theorem rd_prob{m:Nat}{cs:List Aq}{y:DataW H×List MemPlace}(h:DataW.trod enc Al W base spare aS m 29 cs=J y)(hw:xZ Al 29 y.1) :
  ∃(p:Pb) (A:Bb) (kc:Nat) (SV:Bb) (ks:Nat),cs=(p.vs A kc SV ks).toList/\gu p/\CAt W W.heap.size A p.t.cases/\SAt W W.heap.size SV p.a.sts:=by
 obtain⟨xs,n,rfl,rfl,hl,dG,hf⟩:=NO PR h;rw[cellsPb] at hl;have lE:xs.length=3:=dG
 match cs,hl with
 | [c0,c1,c2,c3,c4,c5,c6],_=>
  have f0:=hf 0 _ rfl;have f1:=hf 1 _ rfl;have f2:=hf 2 _ rfl
  match xs,lE with
  | [x0,x1,x2],_=>
   have g0:DataW.trod enc Al W base spare aS n 24 [c0,c1,c2,c3]=J x0:=by simpa[cellsTk] using f0
   have g1:DataW.trod enc Al W base spare aS n 27 [c4,c5]=J x1:=by simpa[cellsAd] using f1
   have g2:DataW.trod enc Al W base spare aS n 3 [c6]=J x2:=by simpa[xt] using f2
   have w0:xZ Al 24 x0.1:=xg PR hw (j:=0) rfl rfl;have w1:xZ Al 27 x1.1:=xg PR hw (j:=1) rfl rfl;obtain⟨i6,e6,_,_⟩:=Nd LB g2;obtain⟨ys,k,rfl,ot,_,ig,hg⟩:=NO underlying24 g0;rw[ot] at w0;have Iw:ys.length=4:=ig;have q0:=hg 0 _ rfl;have q1:=hg 1 _ rfl;have q2:=hg 2 _ rfl;have q3:=hg 3 _ rfl
   match ys,Iw with
   | [y0,y1,y2,y3],_=>
    have r0:DataW.trod enc Al W base spare aS k 3 [c0]=J y0:=by simpa[xt] using q0
    have r1:DataW.trod enc Al W base spare aS k 3 [c1]=J y1:=by simpa[xt] using q1
    have r2:DataW.trod enc Al W base spare aS k 3 [c2]=J y2:=by simpa[xt] using q2
    have r3:DataW.trod enc Al W base spare aS k 22 [c3]=J y3:=by simpa[cellsCss] using q3
    have v3:xZ Al 22 y3.1:=xg underlying24 w0 (j:=3) rfl rfl;obtain⟨i0,e0,_,_⟩:=Nd LB r0;obtain⟨i1,e1,_,_⟩:=Nd LB r1;obtain⟨i2,e2,_,_⟩:=Nd LB r2;obtain⟨A,us,kc,e3,lu,hu,hA⟩:=rd_cases r3 v3;obtain⟨zs,k',dw,oo,_,Iu,pS⟩:=NO underlying27 g1;rw[oo] at w1;have Is:zs.length=2:=Iu;have s0:=pS 0 _ rfl;have s1:=pS 1 _ rfl
    match zs,Is with
    | [z0,z1],_=>
     have t0:DataW.trod enc Al W base spare aS k' 3 [c4]=J z0:=by simpa[xt] using s0
     have t1:DataW.trod enc Al W base spare aS k' 25 [c5]=J z1:=by simpa[cellsMls] using s1
     have u1:xZ Al 25 z1.1:=xg underlying27 w1 (j:=1) rfl rfl;obtain⟨i4,e4,_,_⟩:=Nd LB t0;obtain⟨SV,ss,ks,e5,ls,hs,hS⟩:=JF t1 u1
     cases e0;cases e1;cases e2;cases e3;cases e4;cases e5;cases e6
     exact⟨⟨⟨i0,i1,i2,us⟩,⟨i4,ss⟩,i6⟩,A,kc,SV,ks,rfl,⟨⟨lu,hu⟩,ls,hs⟩,hA,hS⟩
/-- A problem that is handed over by value. -/
theorem ZQ{b0:Nat}{v:Aq}{d:DataW H}{ps:List MemPlace}(hv:Value.okWide Al W .any b0 29 v)(h:DataW.Trod enc Al W base spare aS 29 v d ps)(hw:xZ Al 29 d) :
  ∃(p:Pb) (A:Bb) (kc:Nat) (SV:Bb) (ks:Nat),v=.agg (p.vs A kc SV ks)/\gu p/\CAt W W.heap.size A p.t.cases/\SAt W W.heap.size SV p.a.sts:=by
 obtain⟨cs,rfl,_⟩:=okWide_struct PR hv;obtain⟨fuel,hf⟩:=h;obtain⟨p,A,kc,SV,ks,e,h1,h2,h3⟩:=rd_prob hf hw;refine⟨p,A,kc,SV,ks,?_,h1,h2,h3⟩;have e':cs.toList=(p.vs A kc SV ks).toList:=e;rw[Array.toList_inj.1 e']
end
end
section
open Go.RowKit
structure Kd where
 e:TypeId
 s:TypeId
 size:Nat
 bytes:Nat
 z:Aq
structure KdOk(P:Program)(K:Kd):Prop where
 under:P.underlying K.s=J (.slice K.e)
 info:(P.info? K.e).map (fun i=>(i.zero,i.size,i.bytes))=J (J K.z,K.size,K.bytes)
 zs:K.z.cells.size=K.size
 pos:0<K.size
 small:K.bytes<=1024
def Raw(w:Ba)(A:Bb)(n:Nat)(cs:List Aq):Prop:=0<n->∃b off,A=J ⟨b,off,Z⟩/\b<w.heap.size/\∀(j:Nat) (u:Aq),cs[j]?=J u->w.cell? ⟨b,off+j,Z⟩=J u
def OwnR(K:Kd)(w:Ba)(base:Nat)(v:Aq)(n:Nat)(cs:List Aq):Prop:=w.ownsRow base K.e K.size v n cs
section
variable {P:Program} {K:Kd} {w w':Ba} {base:Nat} {v:Aq} {n:Nat} {cs:List Aq}
theorem OwnR.nil(K:Kd)(w:Ba)(base:Nat):OwnR K w base (I Z 0 0) 0 []:=PK w base _ _
theorem OwnR.kept{row:Option Nat}(h:OwnR K w base v n cs)(hg:w.grownBy w' row)(aO:v.ownBlock=Z\/v.ownBlock≠row):OwnR K w' base v n cs:=N2 h hg aO
theorem OwnR.alloc(h:OwnR K w base v n cs)(o:Obj):OwnR K (w.alloc o) base v n cs:=Pd h o
theorem OwnR.lt(h:OwnR K w base v n cs):∀k,v.ownBlock=J k->base<=k/\k<w.heap.size:=PZ h
theorem OwnR.below{B:Nat}(h:OwnR K w base v n cs)(hb:Am B w w')(hB:w.heap.size<=B):OwnR K w' base v n cs:=
 N2 (row:=Z) h ⟨hb.os,hb.tape,hb.output,hb.size,fun k hk _=>hb.block k (by omega)⟩ (by cases v.ownBlock<;>simp)
theorem OwnR.low{cS:Nat}(h:OwnR K w base v n cs)(hb:cS<=base):OwnR K w cS v n cs:=by
 refine⟨h.1,?_⟩;rcases h.2 with h2 | ⟨g,cap,cur,hv,hg,r⟩
 . exact Or.inl h2
 exact Or.inr ⟨g,cap,cur,hv,by omega,r⟩
theorem OwnR.form(h:OwnR K w base v n cs):∃A cap,v=I A n cap/\n<=cap/\cap<=maxLen/\(0<n->∃g,A=J ⟨g,0,Z⟩/\v.ownBlock=J g/\g<w.heap.size/\∀j u,cs[j]?=J u->w.cell? ⟨g,j,Z⟩=J u):=by
 rcases h.2 with ⟨rfl,h0⟩ | ⟨g,cap,cur,rfl,_,hg,dQ,mL,_⟩
 . exact⟨Z,0,by rw[h0],by omega,by omega,fun hn=>by omega⟩
 refine⟨_,_,rfl,dQ,mL,fun _=>⟨g,rfl,rfl,(Lq.1 hg).1,fun j u hu=>?_⟩⟩;have:=World.ownsRow.cells h (g:=g) rfl j u hu;rwa[show(⟨g,0,Z⟩:Addr).add j=⟨g,j,Z⟩ from by unfold Addr.add;split<;>simp_all] at this
theorem OwnR.ne{b:Nat}(h:OwnR K w base v n cs)(hb:b<base):v.ownBlock≠J b:=fun e=>by
 have:=(h.lt b e).1;omega
theorem OwnR.raw(h:OwnR K w base v n cs):∃A cap,v=I A n cap/\n<=cap/\cap<=maxLen/\Raw w A n cs:=by
 obtain⟨A,cap,e,h1,h2,h3⟩:=h.form;refine⟨A,cap,e,h1,h2,fun h0=>?_⟩;obtain⟨g,hA,_,hg,hc⟩:=h3 h0;exact⟨g,0,hA,hg,fun j u hu=>by rw[LM];exact hc j u hu⟩
theorem yu(ok:KdOk P K):∃i:TypeInfo,P.info? K.e=J i/\i.zero=J K.z/\i.size=K.size/\i.bytes=K.bytes:=by
 have h:=ok.info
 cases hi:P.info? K.e with
 | none=>rw[hi] at h;cases h
 | some i=>
  rw[hi] at h;simp only[Option.map_some,Option.some.injEq,Prod.mk.injEq] at h;exact⟨i,rfl,h.1,h.2.1,h.2.2⟩
theorem jP(ok:KdOk P K){o:Oper}{a:Act}{KK:Act->Ba->Prop}{Q:Exit->Act->Ba->Prop}{W:Ba}(s x:Operand)
  (ho:o.op=.call { callee:=.builtin .append,args:=#[s,x],argTypes:=#[K.s,K.s] }) (base:Nat) (V:Aq) (n:Nat) (cs:List Aq) (hs:a.eval s=V) (aJ:OwnR K W base V n cs)
  (g:Nat) (new:Array Aq) (hx:a.eval x=I (J ⟨g,0,Z⟩) 1 1) (hg:W.heap[g]?=J (Ag new K.e (0,0))) (hn:new.size=K.size) (h1:∀u∈new.toList,u.oneCell'=Ar) (hl:n<=1000000000) (hb:base<=W.heap.size) (H:Nat) (hH:W.heap.size=H)
  (h:∀g' cap w1,OwnR K w1 base (I (J ⟨g',0,Z⟩) (n+1) cap) (n+1) (cs++new.toList)->W.grownBy w1 V.ownBlock->(V.ownBlock=J g'\/g'=H)->g'<w1.heap.size->KK (a.put o.dst (I (J ⟨g',0,Z⟩) (n+1) cap)) w1):o.wp P a W KK Q:=by
 obtain⟨i0,hi,cU,bN,cK⟩:=yu ok
 refine wp_append_lies W s x K.s ho base K.e i0 K.z K.size K.bytes ok.under hi cU bN cK ok.zs ok.pos V n cs hs aJ ⟨g,0,Z⟩ 1 1 new.toList hx (by simp[hn])
  (Rh hg) h1 (by omega) (by unfold maxLen;omega) ?_ hb H hH h
 have:=L3 (show n+1<=1000000001 by omega) ok.small;omega
theorem yJ(ok:KdOk P K){ak:Array Oper}{rest:List Oper}{o:Oper}{a:Act}{Q:Exit->Act->Ba->Prop}{W:Ba}(ew:o.guard=Z)(s x:Operand)
  (ho:o.op=.call { callee:=.builtin .append,args:=#[s,x],argTypes:=#[K.s,K.s] }) (base:Nat) (V:Aq) (n:Nat) (cs:List Aq) (hs:a.eval s=V) (aJ:OwnR K W base V n cs)
  (g:Nat) (new:Array Aq) (hx:a.eval x=I (J ⟨g,0,Z⟩) 1 1) (hg:W.heap[g]?=J (Ag new K.e (0,0))) (hn:new.size=K.size) (h1:∀u∈new.toList,u.oneCell'=Ar) (hl:n<=1000000000) (hb:base<=W.heap.size) (H:Nat) (hH:W.heap.size=H)
  (h:∀g' cap w1,OwnR K w1 base (I (J ⟨g',0,Z⟩) (n+1) cap) (n+1) (cs++new.toList)->W.grownBy w1 V.ownBlock->(V.ownBlock=J g'\/g'=H)->g'<w1.heap.size->wpList P ak Q rest (a.put o.dst (I (J ⟨g',0,Z⟩) (n+1) cap)) w1):wpList P ak Q (o::rest) a W:=
 LU ew fun _ hK=>jP ok s x ho base V n cs hs aJ g new hx hg hn h1 hl hb H hH fun g' cap w1 h1 h2 h3 h4=>hK _ _ (h g' cap w1 h1 h2 h3 h4)
theorem Jr(ok:KdOk P K){ak:Array Oper}{o:Oper}{a:Act}{KK:Act->Ba->Prop}{Q:Exit->Act->Ba->Prop}{E:Prop}{W:Ba}(ew:o.guard=Z)(s x:Operand)
  (ho:o.op=.call { callee:=.builtin .append,args:=#[s,x],argTypes:=#[K.s,K.s] }) (base:Nat) (V:Aq) (n:Nat) (cs:List Aq) (hs:a.eval s=V) (aJ:OwnR K W base V n cs)
  (g:Nat) (new:Array Aq) (hx:a.eval x=I (J ⟨g,0,Z⟩) 1 1) (hg:W.heap[g]?=J (Ag new K.e (0,0))) (hn:new.size=K.size) (h1:∀u∈new.toList,u.oneCell'=Ar) (hl:n<=1000000000) (hb:base<=W.heap.size) (H:Nat) (hH:W.heap.size=H)
  (h:∀g' cap w1,OwnR K w1 base (I (J ⟨g',0,Z⟩) (n+1) cap) (n+1) (cs++new.toList)->W.grownBy w1 V.ownBlock->(V.ownBlock=J g'\/g'=H)->g'<w1.heap.size->KK (a.put o.dst (I (J ⟨g',0,Z⟩) (n+1) cap)) w1) :
  if Region.wanted o (yielded ak a.tmps)=Ar then Oper.wp P o a W KK Q else E:=by
 have hw:Region.wanted o (yielded ak a.tmps)=Ar:=by simp[Region.wanted,ew]
 rw[Lo hw];exact jP ok s x ho base V n cs hs aJ g new hx hg hn h1 hl hb H hH h
theorem wp_fitR(ok:KdOk P K){o:Oper}{a:Act}{KK:Act->Ba->Prop}{Q:Exit->Act->Ba->Prop}{W:Ba}(s x:Operand)
  (ho:o.op=.call { callee:=.builtin .append,args:=#[s,x],argTypes:=#[K.s,K.s] }) (base g n cap:Nat) (cs:List Aq) (hs:a.eval s=I (J ⟨g,0,Z⟩) n cap) (aJ:OwnR K W base (I (J ⟨g,0,Z⟩) n cap) n cs)
  (h:Nat) (new:Array Aq) (hx:a.eval x=I (J ⟨h,0,Z⟩) 1 1) (hg:W.heap[h]?=J (Ag new K.e (0,0))) (hn:new.size=K.size) (h1:∀u∈new.toList,u.oneCell'=Ar) (dQ:n+1<=cap)
  (hK:∀w1,OwnR K w1 base (I (J ⟨g,0,Z⟩) (n+1) cap) (n+1) (cs++new.toList)->W.grownBy w1 (J g)->KK (a.put o.dst (I (J ⟨g,0,Z⟩) (n+1) cap)) w1):o.wp P a W KK Q:=by
 obtain⟨i0,hi,cU,bN,cK⟩:=yu ok;obtain⟨w',dP,r1,r2⟩:=run_append_fits (P:=P) W base K.s o.type K.e i0 K.size ok.under hi bN g n cap cs aJ ⟨h,0,Z⟩ 1 1 new.toList (by simp[hn]) (Rh hg) h1 dQ;unfold Oper.wp execOp;simp only[ho,resolve,invoke,builtin,Sem.run_bind,Sem.run_pure,Result.andThen_ok,List.map_toArray,List.map_cons,List.map_nil,hs,hx,dP];exact hK w' r1 r2
theorem vg(ok:KdOk P K)(A:Bb)(n cap c:Nat)(ty:TypeId)(W:Ba)(hn:n<=cap):(Builtin.append_ #[K.s,K.s] ty #[I A n cap,I Z 0 c]).run P W=.ok (I A n cap) W:=by
 obtain⟨i0,hi,cU,bN,cK⟩:=yu ok
 cases A with
 | none=>simp[Builtin.append_,run_underlying ok.under,sizeOf,typeInfo,hi,Builtin.lenOf,Builtin.firstCells,hn,Result.andThen]
 | some ad=>simp[Builtin.append_,run_underlying ok.under,sizeOf,typeInfo,hi,Builtin.lenOf,Builtin.firstCells,hn,Result.andThen,storeCells]
theorem run_appN(ok:KdOk P K)(W:Ba)(ty:TypeId)(base:Nat)(v:Aq)(n:Nat)(cs:List Aq)(aJ:OwnR K W base v n cs)(A:Bb)(m c:Nat)(news:List Aq)(hl:news.length=m*K.size)(hA:Raw W A m news)
  (h1:∀u∈news,u.oneCell'=Ar) (hm:n+m<=1000000000) (hb:base<=W.heap.size) :
  ∃v' w',(Builtin.append_ #[K.s,K.s] ty #[v,I A m c]).run P W=.ok v' w'/\OwnR K w' base v' (n+m) (cs++news)/\W.grownBy w' v.ownBlock/\(v'.ownBlock=v.ownBlock\/v'.ownBlock=J W.heap.size):=by
 obtain⟨i0,hi,cU,bN,cK⟩:=yu ok
 cases A with
 | none=>
  have iY:m=0:=by
   rcases LX m with h | h
   . exact h
   . obtain⟨b,off,e,_⟩:=hA h;cases e
  subst iY;have Km:news=[]:=LA (by omega);subst Km;obtain⟨A,cap,rfl,hc,_⟩:=aJ.form;exact⟨_,W,vg ok A n cap c ty W hc,by simpa using aJ,Rn _ _,.inl rfl⟩
 | some ad=>
  have aM:=L3 hm ok.small
  obtain⟨v',w',hr,r1,r2,_,r4⟩:=run_append_own_at (P:=P) W base K.s ty K.e i0 K.z K.size K.bytes ok.under hi cU bN cK ok.zs ok.pos v n cs aJ ad m c news hl (fun j u hj=>by
    have bQ:j<m*K.size:=by rw[<-hl];exact(Lp.1 hj).1
    have iY:0<m:=by rcases LX m with h | h;(· subst h;omega);(· exact h)
    obtain⟨b,off,e,_,hc⟩:=hA iY
    cases e
    rw[show(⟨b,off,Z⟩:Addr).add j=⟨b,off+j,Z⟩ from by unfold Addr.add;split<;>simp_all]
    exact hc j u hj) h1 (by unfold maxLen;omega) (by omega) hb
  exact⟨v',w',hr,r1,r2,r4⟩
theorem wp_appN(ok:KdOk P K){o:Oper}{a:Act}{KK:Act->Ba->Prop}{Q:Exit->Act->Ba->Prop}{W:Ba}(s x:Operand)
  (ho:o.op=.call { callee:=.builtin .append,args:=#[s,x],argTypes:=#[K.s,K.s] }) (base:Nat) (v:Aq) (n:Nat) (cs:List Aq) (hs:a.eval s=v) (aJ:OwnR K W base v n cs) (A:Bb) (m c:Nat) (news:List Aq) (hx:a.eval x=I A m c)
  (hl:news.length=m*K.size) (hA:Raw W A m news) (h1:∀u∈news,u.oneCell'=Ar) (hm:n+m<=1000000000) (hb:base<=W.heap.size)
  (h:∀v' w1,OwnR K w1 base v' (n+m) (cs++news)->W.grownBy w1 v.ownBlock->(v'.ownBlock=v.ownBlock\/v'.ownBlock=J W.heap.size)->KK (a.put o.dst v') w1):o.wp P a W KK Q:=by
 obtain⟨v',w',dP,r1,r2,r3⟩:=run_appN ok W o.type base v n cs aJ A m c news hl hA h1 hm hb;unfold Oper.wp execOp;simp only[ho,resolve,invoke,builtin,Sem.run_bind,Sem.run_pure,Result.andThen_ok,List.map_toArray,List.map_cons,List.map_nil,hs,hx,dP];exact h v' w' r1 r2 r3
theorem Yf(ok:KdOk P K){ak:Array Oper}{rest:List Oper}{o:Oper}{a:Act}{Q:Exit->Act->Ba->Prop}{W:Ba}(ew:o.guard=Z)(s x:Operand)
  (ho:o.op=.call { callee:=.builtin .append,args:=#[s,x],argTypes:=#[K.s,K.s] }) (base:Nat) (v:Aq) (n:Nat) (cs:List Aq) (hs:a.eval s=v) (aJ:OwnR K W base v n cs) (A:Bb) (m c:Nat) (news:List Aq) (hx:a.eval x=I A m c)
  (hl:news.length=m*K.size) (hA:Raw W A m news) (h1:∀u∈news,u.oneCell'=Ar) (hm:n+m<=1000000000) (hb:base<=W.heap.size)
  (h:∀v' w1,OwnR K w1 base v' (n+m) (cs++news)->W.grownBy w1 v.ownBlock->(v'.ownBlock=v.ownBlock\/v'.ownBlock=J W.heap.size)->wpList P ak Q rest (a.put o.dst v') w1):wpList P ak Q (o::rest) a W:=
 LU ew fun _ hK=>wp_appN ok s x ho base v n cs hs aJ A m c news hx hl hA h1 hm hb fun v' w1 h1 h2 h3=>hK _ _ (h v' w1 h1 h2 h3)
theorem OwnR.of_block{g:Nat}{cur:Array Aq}(h:w.heap[g]?=J (Ag cur K.e (0,0)))(hb:base<=g)(hc:cur.size=n*K.size)(hn:n<=maxLen):OwnR K w base (I (J ⟨g,0,Z⟩) n n) n cur.toList:=
 ⟨by simpa using hc,.inr ⟨g,n,cur,rfl,hb,h,Lh _,hn,hc,by rw[NB (by simp[hc])]⟩⟩
theorem OwnR.pop{g m cap:Nat}{nn:List Aq}(h:OwnR K w base (I (J ⟨g,0,Z⟩) (n+m) cap) (n+m) (cs++nn))(hl:cs.length=n*K.size):OwnR K w base (I (J ⟨g,0,Z⟩) n cap) n cs:=by
 refine⟨hl,.inr ?_⟩;rcases h.2 with ⟨e,_⟩ | ⟨g',cap',cur,e,hb,hg,dQ,hm,hs,ht⟩
 . cases e
 injection e with e1 e2 e3
 injection e1 with e1
 injection e1 with e1
 subst e1;subst e3;refine⟨g,cap,cur,rfl,hb,hg,by omega,hm,hs,?_⟩;have h2:=congrArg (List.take (n*K.size)) ht;rw[List.take_take,RG (by omega),<-hl,LC,Pz (by rw[hl,PU];omega)] at h2;rw[<-hl];exact h2
end
section
variable {S S':Nat->Prop} {w w':Ba} {A:Bb}
theorem qe{b o:Nat}{u:Aq}(h:KeepB S w w')(hb:S b)(hc:w.cell? ⟨b,o,Z⟩=J u):w'.cell? ⟨b,o,Z⟩=J u:=by
 obtain⟨ob,ho,_⟩:=Rj hc;rw[LR (h.same b hb (Lq.1 ho).1)];exact hc
structure KeepC(S:Nat->Prop)(w w':Ba):Prop where
 size:w.heap.size<=w'.heap.size
 cell:∀k o v,S k->w.cell? ⟨k,o,Z⟩=J v->w'.cell? ⟨k,o,Z⟩=J v
theorem KeepC.of_cells(S:Nat->Prop)(hs:w.heap.size<=w'.heap.size)(h:∀(k:Nat) (o:Obj),w.heap[k]?=J o->o.isCells=Ar->w'.heap[k]?=J o):KeepC S w w':=
 ⟨hs,fun k o v _ hc=>by
  obtain⟨ob,ho,dR⟩:=Rj hc;rw[LR ((h k ob ho dR).trans ho.symm)]
  exact hc⟩
def IAtS(S:Nat->Prop)(w:Ba)(A:Bb)(xs:List Int):Prop:=
 0<xs.length->∃b off,A=J ⟨b,off,Z⟩/\S b/\b<w.heap.size/\∀(i:Nat) (hi:i<xs.length),w.cell? ⟨b,off+i,Z⟩=J (O U xs[i])
theorem IAtS.keep{xs:List Int}(h:IAtS S w A xs)(hk:KeepB S w w'):IAtS S w' A xs:=fun h0=>by
 obtain⟨b,off,e,hs,hb,hc⟩:=h h0;exact⟨b,off,e,hs,Lx hb hk.size,fun i hi=>qe hk hs (hc i hi)⟩
theorem IAtS.keepC{xs:List Int}(h:IAtS S w A xs)(hk:KeepC S w w'):IAtS S w' A xs:=fun h0=>by
 obtain⟨b,off,e,hs,hb,hc⟩:=h h0;exact⟨b,off,e,hs,Lx hb hk.size,fun i hi=>hk.cell _ _ _ hs (hc i hi)⟩
theorem IAtS.mono{xs:List Int}(h:IAtS S w A xs)(hm:∀k,k<w.heap.size->S k->S' k):IAtS S' w A xs:=fun h0=>by
 obtain⟨b,off,e,hs,hb,hc⟩:=h h0;exact⟨b,off,e,hm b hb hs,hb,hc⟩
theorem IAtS.on{xs:List Int}(h:IAtS S w A xs)(hb:Am w.heap.size w w'):IAtS S w' A xs:=
 ((h.mono (S':=fun k=>S k/\k<w.heap.size) fun _ hk hs=>⟨hs,hk⟩).keep ⟨hb.size,fun k hk _=>hb.block k hk.2⟩).mono fun _ _ hs=>hs.1
theorem IAtS.iat{xs:List Int}(h:IAtS S w A xs):IAt w w.heap.size A xs:=fun h0=>by
 obtain⟨b,off,e,hs,hb,hc⟩:=h h0;exact⟨b,off,e,hb,hc⟩
theorem IAtS.of_iat{xs:List Int}{B:Nat}(h:IAt w B A xs)(hB:B<=w.heap.size)(hS:∀k,k<B->S k):IAtS S w A xs:=fun h0=>by
 obtain⟨b,off,e,hb,hc⟩:=h h0;exact⟨b,off,e,hS b hb,by omega,hc⟩
def RAtS(S:Nat->Prop)(w:Ba)(A:Bb)(rs:List Rd):Prop:=
 0<rs.length->∃b off,A=J ⟨b,off,Z⟩/\S b/\b<w.heap.size/\∀(i:Nat) (hi:i<rs.length) (k:Nat) (u:Aq),rs[i].cells[k]?=J u->w.cell? ⟨b,off+i*7+k,Z⟩=J u
theorem RAtS.keep{xs:List Rd}(h:RAtS S w A xs)(hk:KeepB S w w'):RAtS S w' A xs:=fun h0=>by
 obtain⟨b,off,e,hs,hb,hc⟩:=h h0;exact⟨b,off,e,hs,Lx hb hk.size,fun i hi k u hu=>qe hk hs (hc i hi k u hu)⟩
theorem RAtS.keepC{xs:List Rd}(h:RAtS S w A xs)(hk:KeepC S w w'):RAtS S w' A xs:=fun h0=>by
 obtain⟨b,off,e,hs,hb,hc⟩:=h h0;exact⟨b,off,e,hs,Lx hb hk.size,fun i hi k u hu=>hk.cell _ _ _ hs (hc i hi k u hu)⟩
theorem RAtS.mono{xs:List Rd}(h:RAtS S w A xs)(hm:∀k,k<w.heap.size->S k->S' k):RAtS S' w A xs:=fun h0=>by
 obtain⟨b,off,e,hs,hb,hc⟩:=h h0;exact⟨b,off,e,hm b hb hs,hb,hc⟩
theorem RAtS.on{xs:List Rd}(h:RAtS S w A xs)(hb:Am w.heap.size w w'):RAtS S w' A xs:=
 ((h.mono (S':=fun k=>S k/\k<w.heap.size) fun _ hk hs=>⟨hs,hk⟩).keep ⟨hb.size,fun k hk _=>hb.block k hk.2⟩).mono fun _ _ hs=>hs.1
theorem RAtS.rat{xs:List Rd}(h:RAtS S w A xs):RAt w w.heap.size A xs:=fun h0=>by
 obtain⟨b,off,e,hs,hb,hc⟩:=h h0;exact⟨b,off,e,hb,hc⟩
theorem RAtS.nil(S:Nat->Prop)(w:Ba)(A:Bb):RAtS S w A []:=fun h=>absurd h (by simp)
def LAtS(S:Nat->Prop)(w:Ba)(A:Bb)(xss:List (List Int)):Prop:=
 0<xss.length->∃b off,A=J ⟨b,off,Z⟩/\S b/\b<w.heap.size/\∀(i:Nat) (hi:i<xss.length),∃A' c,w.cell? ⟨b,off+i,Z⟩=J (I A' xss[i].length c)/\IAtS S w A' xss[i]
theorem LAtS.keep{xs:List (List Int)}(h:LAtS S w A xs)(hk:KeepB S w w'):LAtS S w' A xs:=fun h0=>by
 obtain⟨b,off,e,hs,hb,hc⟩:=h h0;refine⟨b,off,e,hs,Lx hb hk.size,fun i hi=>?_⟩;obtain⟨A',c,h1,h2⟩:=hc i hi;exact⟨A',c,qe hk hs h1,h2.keep hk⟩
theorem LAtS.keepC{xs:List (List Int)}(h:LAtS S w A xs)(hk:KeepC S w w'):LAtS S w' A xs:=fun h0=>by
 obtain⟨b,off,e,hs,hb,hc⟩:=h h0;refine⟨b,off,e,hs,Lx hb hk.size,fun i hi=>?_⟩;obtain⟨A',c,h1,h2⟩:=hc i hi;exact⟨A',c,hk.cell _ _ _ hs h1,h2.keepC hk⟩
theorem LAtS.mono{xs:List (List Int)}(h:LAtS S w A xs)(hm:∀k,k<w.heap.size->S k->S' k):LAtS S' w A xs:=fun h0=>by
 obtain⟨b,off,e,hs,hb,hc⟩:=h h0;refine⟨b,off,e,hm b hb hs,hb,fun i hi=>?_⟩;obtain⟨A',c,h1,h2⟩:=hc i hi;exact⟨A',c,h1,h2.mono hm⟩
theorem LAtS.on{xs:List (List Int)}(h:LAtS S w A xs)(hb:Am w.heap.size w w'):LAtS S w' A xs:=
 ((h.mono (S':=fun k=>S k/\k<w.heap.size) fun _ hk hs=>⟨hs,hk⟩).keep ⟨hb.size,fun k hk _=>hb.block k hk.2⟩).mono fun _ _ hs=>hs.1
theorem LAtS.lat{xs:List (List Int)}(h:LAtS S w A xs):LAt w w.heap.size A xs:=fun h0=>by
 obtain⟨b,off,e,hs,hb,hc⟩:=h h0;refine⟨b,off,e,hb,fun i hi=>?_⟩;obtain⟨A',c,h1,h2⟩:=hc i hi;exact⟨A',c,h1,h2.iat⟩
theorem LAtS.of_lat{xs:List (List Int)}{B:Nat}(h:LAt w B A xs)(hB:B<=w.heap.size)(hS:∀k,k<B->S k):LAtS S w A xs:=fun h0=>by
 obtain⟨b,off,e,hb,hc⟩:=h h0;refine⟨b,off,e,hS b hb,by omega,fun i hi=>?_⟩;obtain⟨A',c,h1,h2⟩:=hc i hi;exact⟨A',c,h1,IAtS.of_iat h2 hB hS⟩
def MAtS(S:Nat->Prop)(w:Ba)(A:Bb)(ms:List Mv):Prop:=
 0<ms.length->∃b off,A=J ⟨b,off,Z⟩/\S b/\b<w.heap.size/\∀(i:Nat) (hi:i<ms.length) (k:Nat) (u:Aq),ms[i].cells[k]?=J u->w.cell? ⟨b,off+i*8+k,Z⟩=J u
theorem MAtS.keep{xs:List Mv}(h:MAtS S w A xs)(hk:KeepB S w w'):MAtS S w' A xs:=fun h0=>by
 obtain⟨b,off,e,hs,hb,hc⟩:=h h0;exact⟨b,off,e,hs,Lx hb hk.size,fun i hi k u hu=>qe hk hs (hc i hi k u hu)⟩
theorem MAtS.keepC{xs:List Mv}(h:MAtS S w A xs)(hk:KeepC S w w'):MAtS S w' A xs:=fun h0=>by
 obtain⟨b,off,e,hs,hb,hc⟩:=h h0;exact⟨b,off,e,hs,Lx hb hk.size,fun i hi k u hu=>hk.cell _ _ _ hs (hc i hi k u hu)⟩
theorem MAtS.mono{xs:List Mv}(h:MAtS S w A xs)(hm:∀k,k<w.heap.size->S k->S' k):MAtS S' w A xs:=fun h0=>by
 obtain⟨b,off,e,hs,hb,hc⟩:=h h0;exact⟨b,off,e,hm b hb hs,hb,hc⟩
theorem MAtS.mat{xs:List Mv}(h:MAtS S w A xs):MAt w w.heap.size A xs:=fun h0=>by
 obtain⟨b,off,e,hs,hb,hc⟩:=h h0;exact⟨b,off,e,hb,hc⟩
theorem MAtS.of_mat{xs:List Mv}{B:Nat}(h:MAt w B A xs)(hB:B<=w.heap.size)(hS:∀k,k<B->S k):MAtS S w A xs:=fun h0=>by
 obtain⟨b,off,e,hb,hc⟩:=h h0;exact⟨b,off,e,hS b hb,by omega,hc⟩
end
structure Ct(α:Type) where
 K:Kd
 lies:(Nat->Prop)->Ba->List Aq->α->Prop
structure CtOk{α:Type}(C:Ct α):Prop where
 len:∀ {S w cs x},C.lies S w cs x->cs.length=C.K.size
 one:∀ {S w cs x},C.lies S w cs x->∀u∈cs,u.oneCell'=Ar
 keep:∀ {S w w' cs x},C.lies S w cs x->KeepB S w w'->C.lies S w' cs x
 keepC:∀ {S w w' cs x},C.lies S w cs x->KeepC S w w'->C.lies S w' cs x
 mono:∀ {S S' w cs x},C.lies S w cs x->(∀k,k<w.heap.size->S k->S' k)->C.lies S' w cs x
def OwnX{α:Type}(C:Ct α)(S:Nat->Prop)(w:Ba)(base:Nat)(v:Aq)(xs:List α):Prop:=
 ∃aI:List (List Aq),aI.length=xs.length/\OwnR C.K w base v xs.length aI.flatten/\∀(i:Nat) (h1:i<aI.length) (h2:i<xs.length),C.lies (fun k=>S k/\v.ownBlock≠J k) w aI[i] xs[i]
theorem uC{s:Nat}:∀(aI:List (List Aq)) (_:∀c∈aI,c.length=s) (i:Nat) (hi:i<aI.length) (k:Nat),k<s->aI.flatten[i*s+k]?=aI[i][k]?
 | c::aI,h,0,hi,k,hk=>by
  have:=h c (by simp);rw[PW,LN (by omega)];simp
 | c::aI,h,i+1,hi,k,hk=>by
  have hc:=h c (by simp);have:=uC aI (fun d hd=>h d (by simp[hd])) i (by simpa using hi) k hk;rw[PW,LK (by rw[hc,PU];omega),hc,show(i+1)*s+k-s=i*s+k by rw[PU];omega,this]
  rfl
section
variable {α:Type} {C:Ct α} {S S':Nat->Prop} {w w':Ba} {base:Nat} {v:Aq} {xs:List α}
theorem OwnX.nil(C:Ct α)(S:Nat->Prop)(w:Ba)(base:Nat):OwnX C S w base (I Z 0 0) []:=⟨[],rfl,OwnR.nil _ _ _,fun i h1 _=>absurd h1 (by simp)⟩
theorem OwnX.lt(h:OwnX C S w base v xs):∀k,v.ownBlock=J k->base<=k/\k<w.heap.size:=by
 obtain⟨aI,_,h2,_⟩:=h;exact h2.lt
theorem OwnX.ne{b:Nat}(h:OwnX C S w base v xs)(hb:b<base):v.ownBlock≠J b:=fun e=>by
 have:=(h.lt b e).1;omega
theorem OwnX.kept(ok:CtOk C){row:Option Nat}(h:OwnX C S w base v xs)(hg:w.grownBy w' row)(aO:v.ownBlock=Z\/v.ownBlock≠row)(hS:∀k,row=J k->¬S k\/v.ownBlock=J k):OwnX C S w' base v xs:=by
 obtain⟨aI,hl,h2,h3⟩:=h;refine⟨aI,hl,h2.kept hg aO,fun i i1 i2=>ok.keep (h3 i i1 i2) (KeepB.of_grown hg fun k hk hs=>?_)⟩;rcases hS k hk with h | h
 . exact h hs.1
 exact hs.2 h
theorem OwnX.keep(ok:CtOk C)(h:OwnX C S w base v xs)(hk:KeepB S w w')(hv:∀k,v.ownBlock=J k->w'.heap[k]?=w.heap[k]?):OwnX C S w' base v xs:=by
 obtain⟨aI,hl,h2,h3⟩:=h;refine⟨aI,hl,?_,fun i i1 i2=>ok.keep (h3 i i1 i2) (hk.mono fun k hk=>hk.1)⟩;refine⟨h2.1,?_⟩;rcases h2.2 with hn | ⟨g,cap,cur,pI,hb,hg,rest⟩
 . exact .inl hn
 exact .inr ⟨g,cap,cur,pI,hb,(hv g (by rw[pI];rfl)).trans hg,rest⟩
theorem OwnX.turn(ok:CtOk C)(h:OwnX C S w base v xs)(hs:w.heap.size<=w'.heap.size)(hc:∀(k:Nat) (o:Obj),w.heap[k]?=J o->o.isCells=Ar->w'.heap[k]?=J o):OwnX C S w' base v xs:=by
 obtain⟨aI,hl,h2,h3⟩:=h;refine⟨aI,hl,?_,fun i i1 i2=>ok.keepC (h3 i i1 i2) (KeepC.of_cells _ hs hc)⟩;refine⟨h2.1,?_⟩;rcases h2.2 with hn | ⟨g,cap,cur,pI,hb,hg,rest⟩
 . exact .inl hn
 exact .inr ⟨g,cap,cur,pI,hb,hc g _ hg rfl,rest⟩
theorem OwnX.below(ok:CtOk C){B:Nat}(h:OwnX C S w base v xs)(hb:Am B w w')(hB:w.heap.size<=B):OwnX C S w' base v xs:=
 h.keep ok ⟨hb.size,fun k _ hk=>hb.block k (by omega)⟩ (fun k hk=>hb.block k (by have:=(h.lt k hk).2;omega))
theorem OwnX.mono(ok:CtOk C)(h:OwnX C S w base v xs)(hm:∀k,k<w.heap.size->S k->S' k):OwnX C S' w base v xs:=by
 obtain⟨aI,hl,h2,h3⟩:=h;exact⟨aI,hl,h2,fun i i1 i2=>ok.mono (h3 i i1 i2) fun k hk hs=>⟨hm k hk hs.1,hs.2⟩⟩
theorem OwnX.low{cS:Nat}(h:OwnX C S w base v xs)(hb:cS<=base):OwnX C S w cS v xs:=by
 obtain⟨aI,hl,h2,h3⟩:=h;exact⟨aI,hl,h2.low hb,h3⟩
theorem OwnX.app(ok:CtOk C){g' cap:Nat}{aI:List (List Aq)}{x:α}{cs:List Aq}(hl:aI.length=xs.length)(h3:∀(i:Nat) (h1:i<aI.length) (h2:i<xs.length),C.lies (fun k=>S k/\v.ownBlock≠J k) w aI[i] xs[i])
  (hx:C.lies (fun k=>S k/\v.ownBlock≠J k) w cs x) (hr:OwnR C.K w' base (I (J ⟨g',0,Z⟩) (xs.length+1) cap) (xs.length+1) (aI.flatten++cs)) (hg:w.grownBy w' v.ownBlock) (bK:v.ownBlock=J g'\/g'=w.heap.size) :
  OwnX C S w' base (I (J ⟨g',0,Z⟩) (xs.length+1) cap) (xs++[x]):=by
 have go:∀ {cs x},C.lies (fun k=>S k/\v.ownBlock≠J k) w cs x->C.lies (fun k=>S k/\(I (J ⟨g',0,Z⟩) (xs.length+1) cap).ownBlock≠J k) w' cs x:=fun h=>by
  have h1:=ok.mono (S':=fun k=>S k/\v.ownBlock≠J k/\g'≠k) h fun k hk hs=>⟨hs.1,hs.2,by
   rcases bK with e | e
   . rintro rfl;exact hs.2 e
   . omega⟩
  have h2:=ok.keep h1 (KeepB.of_grown hg fun k hk hs=>hs.2.1 hk);exact ok.mono h2 fun k _ hs=>⟨hs.1,fun e=>hs.2.2 (by simpa[Value.ownBlock] using e)⟩
 refine⟨aI++[cs],by simp[hl],by simpa using hr,fun i i1 i2=>?_⟩
 by_cases hi:i<aI.length
 . have h2:i<xs.length:=by omega
   rw[PY hi,PY h2];exact go (h3 i hi h2)
 have e1:i=aI.length:=by simp at i1;omega
 subst e1;rw[PI (Lh _),PI (by omega)];simpa[hl] using go hx
theorem OwnX.form(ok:CtOk C)(h:OwnX C S w base v xs):∃A cap,v=I A xs.length cap/\xs.length<=cap/\cap<=maxLen/\(0<xs.length->∃g,A=J ⟨g,0,Z⟩/\base<=g/\g<w.heap.size /\
  ∀(i:Nat) (h2:i<xs.length),∃cs,C.lies (fun k=>S k/\k≠g) w cs xs[i]/\∀j u,cs[j]?=J u->w.cell? ⟨g,i*C.K.size+j,Z⟩=J u):=by
 obtain⟨aI,hl,h2,h3⟩:=h;have aa:=h2.lt;obtain⟨A,cap,rfl,hc,hm,hr⟩:=h2.form;refine⟨A,cap,rfl,hc,hm,fun h0=>?_⟩;obtain⟨g,rfl,hg,dx,aw⟩:=hr h0;refine⟨g,rfl,(aa g hg).1,dx,fun i hi=>?_⟩;have KF:i<aI.length:=by omega
 refine⟨aI[i],ok.mono (h3 i KF hi) fun k _ hs=>⟨hs.1,fun e=>hs.2 (by rw[hg,e])⟩,fun j u hu=>?_⟩
 have bJ:∀c∈aI,c.length=C.K.size:=fun c hc=>by
  obtain⟨m,hm,rfl⟩:=LG hc;exact ok.len (h3 m hm (by omega))
 have bQ:j<C.K.size:=by
  have:=(Lp.1 hu).1;rw[bJ _ (Ld KF)] at this;exact this
 exact aw _ u (by rw[uC aI bJ i KF j bQ];exact hu)
end
end
section
open Go.RowKit
def Own(w:Ba)(base:Nat)(v:Aq)(xs:List Int):Prop:=w.ownsRow base 3 1 v xs.length (xs.map (O U))
theorem Own.nil(w:Ba)(base:Nat):Own w base (I Z 0 0) []:=PK w base _ 1
theorem Own.drewN{w:Ba}{base:Nat}{v:Aq}{xs:List Int}(h:Own w base v xs)(n:Nat):Own (w.drewN n) base v xs:=h
theorem Own.kept{w w':Ba}{base:Nat}{v:Aq}{xs:List Int}{row:Option Nat}(h:Own w base v xs)(hg:w.grownBy w' row)(aO:v.ownBlock=Z\/v.ownBlock≠row):Own w' base v xs:=N2 h hg aO
theorem Own.below{w w':Ba}{base B:Nat}{v:Aq}{xs:List Int}(h:Own w base v xs)(hb:Am B w w')(hB:w.heap.size<=B):Own w' base v xs:=
 N2 (row:=Z) h ⟨hb.os,hb.tape,hb.output,hb.size,fun k hk _=>hb.block k (by omega)⟩ (by cases v.ownBlock<;>simp)
theorem Own.shut{w w':Ba}{base B:Nat}{v:Aq}{xs:List Int}(h:Own w base v xs)(hs:Shut B w w'):Own w' base v xs:=hs.own h
theorem Own.form{w:Ba}{base:Nat}{v:Aq}{xs:List Int}(h:Own w base v xs):∃A cap,v=I A xs.length cap/\xs.length<=cap/\cap<=maxLen/\IAt w w.heap.size A xs:=by
 rcases h.2 with ⟨rfl,h0⟩ | ⟨g,cap,cur,rfl,_,_,dQ,mL,_⟩
 . have:xs=[]:=LA h0
   subst this;exact⟨Z,0,rfl,Lh _,Nw _,IAt.nil _ _ _⟩
 exact⟨_,_,rfl,dQ,mL,IAt.of_own h⟩
theorem Own.low{w:Ba}{base cS:Nat}{v:Aq}{xs:List Int}(h:Own w base v xs)(hb:cS<=base):Own w cS v xs:=by
 refine⟨h.1,?_⟩;rcases h.2 with h2 | ⟨g,cap,cur,hv,hg,r⟩
 . exact Or.inl h2
 exact Or.inr ⟨g,cap,cur,hv,by omega,r⟩
theorem Own.lt{w:Ba}{base:Nat}{v:Aq}{xs:List Int}(h:Own w base v xs):∀k,v.ownBlock=J k->base<=k/\k<w.heap.size:=PZ h
theorem wJ:(Al.info? 3).map (fun i=>(i.zero,i.size,i.bytes))=J (J (O U 0),1,8):=by kernel_rfl
theorem yz{w w':Ba}{o:Obj}{row:Option Nat}(h:(w.alloc o).grownBy w' row):w.grownBy w' row:=
 ⟨h.os,h.tape,h.output,LE (by simp) h.size,fun k hk aO=>(h.block k (by simp;omega) aO).trans (N1 w o k hk)⟩
theorem qu{ak:Array Oper}{rest:List Oper}{o:Oper}{a:Act}{Q:Exit->Act->Ba->Prop}{W:Ba}(ew:o.guard=Z)(s x:Operand)
  (bW:o.op=.call { callee:=.builtin .append,args:=#[s,x],argTypes:=#[30,30] }) (base:Nat) (v:Aq) (xs:List Int) (u:Int) (hs:a.eval s=v) (aJ:Own W base v xs)
  (hx:a.eval x=I (J ⟨W.heap.size,0,Z⟩) 1 1) (an:xs.length<8796093022208) (hb:base<=W.heap.size)
  (h:∀v' w1,Own w1 base v' (xs++[u])->W.grownBy w1 v.ownBlock->Am base W w1->wpList Al ak Q rest (a.put o.dst v') w1) :
  wpList Al ak Q (o::rest) a (W.alloc (Ag #[O U u] 3)):=by
 obtain⟨i0,hi,cU,bN,cK⟩:=P4 wJ
 refine NX _ ew s x 30 bW base 3 i0 (O U 0) 1 8 Ns hi cU bN cK rfl (by decide) v xs.length _ hs (Pd aJ _) ⟨W.heap.size,0,Z⟩ 1 1 [O U u] hx rfl (cell_one_new _ _ _)
  (by simp[Value.oneCell']) (by unfold maxLen;omega) (by omega) (by simp;omega) ?_
 intro v' w1 bG aR _;have hg:=yz aR;refine h v' w1 ?_ hg ((Ll base W).grown hg hb fun k hk=>(aJ.lt k hk).1);unfold Own;rw[Lu,LF];exact bG
theorem XC{ak:Array Oper}{o:Oper}{a:Act}{K:Act->Ba->Prop}{Q:Exit->Act->Ba->Prop}{E:Prop}{W:Ba}(ew:o.guard=Z)(s x:Operand)
  (bW:o.op=.call { callee:=.builtin .append,args:=#[s,x],argTypes:=#[30,30] }) (base:Nat) (v:Aq) (xs:List Int) (u:Int) (hs:a.eval s=v) (aJ:Own W base v xs)
  (hx:a.eval x=I (J ⟨W.heap.size,0,Z⟩) 1 1) (an:xs.length<8796093022208) (hb:base<=W.heap.size)
  (h:∀v' w1,Own w1 base v' (xs++[u])->W.grownBy w1 v.ownBlock->Am base W w1->K (a.put o.dst v') w1) :
  if Region.wanted o (yielded ak a.tmps)=Ar then Oper.wp Al o a (W.alloc (Ag #[O U u] 3)) K Q else E:=by
 have hw:Region.wanted o (yielded ak a.tmps)=Ar:=by simp[Region.wanted,ew]
 rw[Lo hw];obtain⟨i0,hi,cU,bN,cK⟩:=P4 wJ
 refine wp_append_own _ s x 30 bW base 3 i0 (O U 0) 1 8 Ns hi cU bN cK rfl (by decide) v xs.length _ hs (Pd aJ _) ⟨W.heap.size,0,Z⟩ 1 1 [O U u] hx rfl (cell_one_new _ _ _)
  (by simp[Value.oneCell']) (by unfold maxLen;omega) (by omega) (by simp;omega) ?_
 intro v' w1 bG aR _;have hg:=yz aR;refine h v' w1 ?_ hg ((Ll base W).grown hg hb fun k hk=>(aJ.lt k hk).1);unfold Own;rw[Lu,LF];exact bG
theorem jh{F:Fence}{n:Nat}{ak:Array Oper}{rest:List Oper}{o:Oper}{a:Act}{Q:Exit->Act->Ba->Prop}{W:Ba}(ew:o.guard=Z)(s x:Operand)
  (bW:o.op=.call { callee:=.builtin .append,args:=#[s,x],argTypes:=#[30,30] }) (base:Nat) (v:Aq) (xs:List Int) (u:Int) (hs:a.eval s=v) (aJ:Own W base v xs)
  (hx:a.eval x=I (J ⟨W.heap.size,0,Z⟩) 1 1) (an:xs.length<8796093022208) (hb:base<=W.heap.size)
  (h:∀v' w1,Own w1 base v' (xs++[u])->W.grownBy w1 v.ownBlock->Am base W w1->wpListIn F n Al ak Q rest (a.put o.dst v') w1) :
  wpListIn F n Al ak Q (o::rest) a (W.alloc (Ag #[O U u] 3)):=by
 obtain⟨i0,hi,cU,bN,cK⟩:=P4 wJ
 refine wpListIn_append_own _ ew s x 30 bW base 3 i0 (O U 0) 1 8 Ns hi cU bN cK rfl (by decide) v xs.length _ hs (Pd aJ _) ⟨W.heap.size,0,Z⟩ 1 1 [O U u] hx rfl (cell_one_new _ _ _)
  (by simp[Value.oneCell']) (by unfold maxLen;omega) (by omega) (by simp;omega) ?_
 intro v' w1 bG aR _;have hg:=yz aR;refine h v' w1 ?_ hg ((Ll base W).grown hg hb fun k hk=>(aJ.lt k hk).1);unfold Own;rw[Lu,LF];exact bG
def RowAt(w:Ba)(g:Nat)(xs:List Int):Prop:=w.heap[g]?=J (Ag (xs.map (O U)).toArray 3 (0,0))
theorem RowAt.cell{w:Ba}{g:Nat}{xs:List Int}(h:RowAt w g xs)(k:Nat)(hk:k<xs.length):w.cell? ⟨g,k,Z⟩=J (O U xs[k]):=za h k (by simp[hk])
theorem RowAt.froz{w:Ba}{g:Nat}{xs:List Int}(h:RowAt w g xs)(k:Nat):w.frozen? ⟨g,k,Z⟩=As:=zb h k
theorem RowAt.lt{w:Ba}{g:Nat}{xs:List Int}(h:RowAt w g xs):g<w.heap.size:=zc h
theorem RowAt.set{w:Ba}{g:Nat}{xs:List Int}(h:RowAt w g xs)(k:Nat)(u:Int):RowAt (w.setCell ⟨g,k,Z⟩ (O U u)) g (xs.set k u):=by
 unfold RowAt at *;rw[World.setCell,P9,Lo rfl,h];simp[List.map_set]
theorem zh(w:Ba)(c1:Array Aq)(t1:TypeId):∃W0,w.alloc (Ag c1 t1)=W0/\W0.heap[w.heap.size]?=J (Ag c1 t1 (0,0))/\W0.heap.size=w.heap.size+1/\Am w.heap.size w W0:=
 ⟨_,rfl,zj _ _,by simp,zN w _⟩
theorem zR(w:Ba)(g k:Nat)(v':Aq):w.grownBy (w.setCell ⟨g,k,Z⟩ v') (J g):=
 ⟨rfl,rfl,rfl,by simp[World.setCell],fun j _ hj=>Lg w ⟨g,k,Z⟩ v' j (fun e=>hj (by rw[e]))⟩
def kRd:Kd:=⟨68,46,7,56,Ai #[O U 0,O U 0,O U 0,O U 0,O U 0,O U 0,O U 0]⟩
theorem ZZ:KdOk Al kRd:=⟨PP,by kernel_rfl,by rfl,by decide,by decide⟩
def kMv:Kd:=⟨70,71,8,64,Ai #[O U 0,O U 0,O U 0,O U 0,O U 0,O U 0,O U 0,O U 0]⟩
theorem kMv_ok:KdOk Al kMv:=⟨PN,by kernel_rfl,by rfl,by decide,by decide⟩
def kWd:Kd:=⟨46,109,1,24,I Z 0 0⟩
theorem Qd:KdOk Al kWd:=⟨underlying109,by kernel_rfl,by rfl,by decide,by decide⟩
def kIs:Kd:=⟨30,47,1,24,I Z 0 0⟩
theorem Z0:KdOk Al kIs:=⟨underlying47,by kernel_rfl,by rfl,by decide,by decide⟩
def kMl:Kd:=⟨71,25,1,24,I Z 0 0⟩
theorem kMl_ok:KdOk Al kMl:=⟨PS,by kernel_rfl,by rfl,by decide,by decide⟩
def kCs:Kd:=⟨63,22,3,72,Ai #[I Z 0 0,I Z 0 0,I Z 0 0]⟩
theorem kCs_ok:KdOk Al kCs:=⟨PT,by kernel_rfl,by rfl,by decide,by decide⟩
def kXn:Kd:=⟨49,37,3,56,Ai #[O U 0,I Z 0 0,I Z 0 0]⟩
theorem kXn_ok:KdOk Al kXn:=⟨underlying37,by kernel_rfl,by rfl,by decide,by decide⟩
def kIn:Kd:=⟨3,30,1,8,O U 0⟩
theorem Qg:KdOk Al kIn:=⟨Ns,by kernel_rfl,by rfl,by decide,by decide⟩
def kVw:Kd:=⟨144,34,8,64,Ai #[O U 0,O U 0,O U 0,O U 0,O U 0,O U 0,O U 0,O U 0]⟩
theorem kVw_ok:KdOk Al kVw:=⟨PQ,by kernel_rfl,by rfl,by decide,by decide⟩
def RetR(K:Kd)(n:Nat)(cs:List Aq)(w:Ba)(e:Ending)(w':Ba):Prop:=∃v,e=Ak v/\OwnR K w' w.heap.size v n cs/\Am w.heap.size w w'
theorem Zr(A:Bb)(n cap:Nat)(cs:List Aq)(w:Ba)(hl:cs.length=n*7)(hA:Raw w A n cs)(h1:∀u∈cs,u.oneCell'=Ar)(hn:n<=1000000) :
  An Al 46 #[I A n cap] w (RetR kRd n cs w):=by
 have HT:=zH hA;have H1:=zH h1;have HL:=zH hl;have q:∀(w:Ba) (a:Bb) (n c n' c':Nat),(binOp .eql 46 (I a n c) (I Z n' c')).run Al w=.ok (Ah a.isNone) w:=fun w a n c n' c'=>N6 w _ _ a n c n' c' PP
 obtain⟨i0,hi,cU,bN,cK⟩:=yu ZZ
 cases A with
 | none=>
  have lK:n=0:=by
   rcases LX n with h | h
   . exact h
   . obtain⟨b,off,e,_⟩:=HT.out h;cases e
  subst lK;have bJ:cs=[]:=LA (by have:=HL.out;omega);subst bJ;go_enter func46,ntmps46;go_wp2;go_ret;exact⟨_,rfl,OwnR.nil _ _ _,Ll _ _⟩
 | some ad=>
  have HC:Ap (∀(j:Nat) (u:Aq),cs[j]?=J u->(w.alloc (Ag #[] 68)).cell? (ad.add j)=J u):=fun j u hj=>by
   have bQ:j<n*7:=by rw[<-HL.out];exact(Lp.1 hj).1
   obtain⟨b,off,e,aa,hc⟩:=HT.out (by omega)
   cases e
   rw[N3];exact N8 _ (hc j u hj)
  go_enter func46,ntmps46;go_wp2_with (at_builtin;refine NX _ rfl _ _ 46 rfl w.heap.size 68 i0 _ 7 56 PP hi cU bN cK rfl (by decide) _ _ _ rfl (Pg w #[] 0 (Lh _) (Nw _) rfl) ad n cap cs rfl HL.out HC.out H1.out ?qc4 ?qc5 ?qc6 ?_)
  case qc4=>unfold maxLen;omega
  case qc5=>omega
  case qc6=>simp
  intro v' w1 aJ aR rR;go_wp2;go_ret;refine⟨v',rfl,aJ,?_⟩;exact((Ll _ w).alloc (Lh _) _).grown aR (by simp) (by intro k hk;simp[Value.ownBlock] at hk;omega)
theorem clone_kCs(A:Bb)(n cap:Nat)(cs:List Aq)(w:Ba)(hl:cs.length=n*3)(hA:Raw w A n cs)(h1:∀u∈cs,u.oneCell'=Ar)(hn:n<=1000000) :
  An Al 80 #[I A n cap] w (RetR kCs n cs w):=by
 have HT:=zH hA;have H1:=zH h1;have HL:=zH hl;have q:∀(w:Ba) (a:Bb) (n c n' c':Nat),(binOp .eql 22 (I a n c) (I Z n' c')).run Al w=.ok (Ah a.isNone) w:=fun w a n c n' c'=>N6 w _ _ a n c n' c' PT
 obtain⟨i0,hi,cU,bN,cK⟩:=yu kCs_ok
 cases A with
 | none=>
  have lK:n=0:=by
   rcases LX n with h | h
   . exact h
   . obtain⟨b,off,e,_⟩:=HT.out h;cases e
  subst lK;have bJ:cs=[]:=LA (by have:=HL.out;omega);subst bJ;go_enter func80,ntmps80;go_wp2;go_ret;exact⟨_,rfl,OwnR.nil _ _ _,Ll _ _⟩
 | some ad=>
  have HC:Ap (∀(j:Nat) (u:Aq),cs[j]?=J u->(w.alloc (Ag #[] 63)).cell? (ad.add j)=J u):=fun j u hj=>by
   have bQ:j<n*3:=by rw[<-HL.out];exact(Lp.1 hj).1
   obtain⟨b,off,e,aa,hc⟩:=HT.out (by omega)
   cases e
   rw[N3];exact N8 _ (hc j u hj)
  go_enter func80,ntmps80;go_wp2_with (at_builtin;refine NX _ rfl _ _ 22 rfl w.heap.size 63 i0 _ 3 72 PT hi cU bN cK rfl (by decide) _ _ _ rfl (Pg w #[] 0 (Lh _) (Nw _) rfl) ad n cap cs rfl HL.out HC.out H1.out ?qc4 ?qc5 ?qc6 ?_)
  case qc4=>unfold maxLen;omega
  case qc5=>omega
  case qc6=>simp
  intro v' w1 aJ aR rR;go_wp2;go_ret;refine⟨v',rfl,aJ,?_⟩;exact((Ll _ w).alloc (Lh _) _).grown aR (by simp) (by intro k hk;simp[Value.ownBlock] at hk;omega)
theorem clone_kMv(A:Bb)(n cap:Nat)(cs:List Aq)(w:Ba)(hl:cs.length=n*8)(hA:Raw w A n cs)(h1:∀u∈cs,u.oneCell'=Ar)(hn:n<=1000000) :
  An Al 84 #[I A n cap] w (RetR kMv n cs w):=by
 have HT:=zH hA;have H1:=zH h1;have HL:=zH hl;have q:∀(w:Ba) (a:Bb) (n c n' c':Nat),(binOp .eql 71 (I a n c) (I Z n' c')).run Al w=.ok (Ah a.isNone) w:=fun w a n c n' c'=>N6 w _ _ a n c n' c' PN
 obtain⟨i0,hi,cU,bN,cK⟩:=yu kMv_ok
 cases A with
 | none=>
  have lK:n=0:=by
   rcases LX n with h | h
   . exact h
   . obtain⟨b,off,e,_⟩:=HT.out h;cases e
  subst lK;have bJ:cs=[]:=LA (by have:=HL.out;omega);subst bJ;go_enter func84,ntmps84;go_wp2;go_ret;exact⟨_,rfl,OwnR.nil _ _ _,Ll _ _⟩
 | some ad=>
  have HC:Ap (∀(j:Nat) (u:Aq),cs[j]?=J u->(w.alloc (Ag #[] 70)).cell? (ad.add j)=J u):=fun j u hj=>by
   have bQ:j<n*8:=by rw[<-HL.out];exact(Lp.1 hj).1
   obtain⟨b,off,e,aa,hc⟩:=HT.out (by omega)
   cases e
   rw[N3];exact N8 _ (hc j u hj)
  go_enter func84,ntmps84;go_wp2_with (at_builtin;refine NX _ rfl _ _ 71 rfl w.heap.size 70 i0 _ 8 64 PN hi cU bN cK rfl (by decide) _ _ _ rfl (Pg w #[] 0 (Lh _) (Nw _) rfl) ad n cap cs rfl HL.out HC.out H1.out ?qc4 ?qc5 ?qc6 ?_)
  case qc4=>unfold maxLen;omega
  case qc5=>omega
  case qc6=>simp
  intro v' w1 aJ aR rR;go_wp2;go_ret;refine⟨v',rfl,aJ,?_⟩;exact((Ll _ w).alloc (Lh _) _).grown aR (by simp) (by intro k hk;simp[Value.ownBlock] at hk;omega)
theorem clone_kMl(A:Bb)(n cap:Nat)(cs:List Aq)(w:Ba)(hl:cs.length=n*1)(hA:Raw w A n cs)(h1:∀u∈cs,u.oneCell'=Ar)(hn:n<=1000000) :
  An Al 83 #[I A n cap] w (RetR kMl n cs w):=by
 have HT:=zH hA;have H1:=zH h1;have HL:=zH hl;have q:∀(w:Ba) (a:Bb) (n c n' c':Nat),(binOp .eql 25 (I a n c) (I Z n' c')).run Al w=.ok (Ah a.isNone) w:=fun w a n c n' c'=>N6 w _ _ a n c n' c' PS
 obtain⟨i0,hi,cU,bN,cK⟩:=yu kMl_ok
 cases A with
 | none=>
  have lK:n=0:=by
   rcases LX n with h | h
   . exact h
   . obtain⟨b,off,e,_⟩:=HT.out h;cases e
  subst lK;have bJ:cs=[]:=LA (by have:=HL.out;omega);subst bJ;go_enter func83,ntmps83;go_wp2;go_ret;exact⟨_,rfl,OwnR.nil _ _ _,Ll _ _⟩
 | some ad=>
  have HC:Ap (∀(j:Nat) (u:Aq),cs[j]?=J u->(w.alloc (Ag #[] 71)).cell? (ad.add j)=J u):=fun j u hj=>by
   have bQ:j<n*1:=by rw[<-HL.out];exact(Lp.1 hj).1
   obtain⟨b,off,e,aa,hc⟩:=HT.out (by omega)
   cases e
   rw[N3];exact N8 _ (hc j u hj)
  go_enter func83,ntmps83;go_wp2_with (at_builtin;refine NX _ rfl _ _ 25 rfl w.heap.size 71 i0 _ 1 24 PS hi cU bN cK rfl (by decide) _ _ _ rfl (Pg w #[] 0 (Lh _) (Nw _) rfl) ad n cap cs rfl HL.out HC.out H1.out ?qc4 ?qc5 ?qc6 ?_)
  case qc4=>unfold maxLen;omega
  case qc5=>omega
  case qc6=>simp
  intro v' w1 aJ aR rR;go_wp2;go_ret;refine⟨v',rfl,aJ,?_⟩;exact((Ll _ w).alloc (Lh _) _).grown aR (by simp) (by intro k hk;simp[Value.ownBlock] at hk;omega)
theorem clone_kIn(A:Bb)(n cap:Nat)(cs:List Aq)(w:Ba)(hl:cs.length=n*1)(hA:Raw w A n cs)(h1:∀u∈cs,u.oneCell'=Ar)(hn:n<=1000000) :
  An Al 81 #[I A n cap] w (RetR kIn n cs w):=by
 have HT:=zH hA;have H1:=zH h1;have HL:=zH hl;have q:∀(w:Ba) (a:Bb) (n c n' c':Nat),(binOp .eql 30 (I a n c) (I Z n' c')).run Al w=.ok (Ah a.isNone) w:=fun w a n c n' c'=>N6 w _ _ a n c n' c' Ns
 obtain⟨i0,hi,cU,bN,cK⟩:=yu Qg
 cases A with
 | none=>
  have lK:n=0:=by
   rcases LX n with h | h
   . exact h
   . obtain⟨b,off,e,_⟩:=HT.out h;cases e
  subst lK;have bJ:cs=[]:=LA (by have:=HL.out;omega);subst bJ;go_enter func81,ntmps81;go_wp2;go_ret;exact⟨_,rfl,OwnR.nil _ _ _,Ll _ _⟩
 | some ad=>
  have HC:Ap (∀(j:Nat) (u:Aq),cs[j]?=J u->(w.alloc (Ag #[] 3)).cell? (ad.add j)=J u):=fun j u hj=>by
   have bQ:j<n*1:=by rw[<-HL.out];exact(Lp.1 hj).1
   obtain⟨b,off,e,aa,hc⟩:=HT.out (by omega)
   cases e
   rw[N3];exact N8 _ (hc j u hj)
  go_enter func81,ntmps81;go_wp2_with (at_builtin;refine NX _ rfl _ _ 30 rfl w.heap.size 3 i0 _ 1 8 Ns hi cU bN cK rfl (by decide) _ _ _ rfl (Pg w #[] 0 (Lh _) (Nw _) rfl) ad n cap cs rfl HL.out HC.out H1.out ?qc4 ?qc5 ?qc6 ?_)
  case qc4=>unfold maxLen;omega
  case qc5=>omega
  case qc6=>simp
  intro v' w1 aJ aR rR;go_wp2;go_ret;refine⟨v',rfl,aJ,?_⟩;exact((Ll _ w).alloc (Lh _) _).grown aR (by simp) (by intro k hk;simp[Value.ownBlock] at hk;omega)
end
section
open Go.RowKit
def yq(vs:List Rd):List Aq:=vs.flatMap fun x=>x.cells.toList
theorem jq(vs us:List Rd):yq (vs++us)=yq vs++yq us:=by simp[yq]
theorem yX(vs:List Rd):(yq vs).length=vs.length*7:=by
 induction vs with
 | nil=>rfl
 | cons v vs ih=>simp only[yq,List.flatMap_cons,List.length_append,List.length_cons] at *;rw[ih];simp[Rd.cells];omega
theorem vh:∀(vs:List Rd) (i:Nat) (hi:i<vs.length) (k:Nat),k<7->(yq vs)[i*7+k]?=vs[i].cells[k]?
 | v::vs,0,hi,k,hk=>by
  simp only[yq,List.flatMap_cons,List.getElem_cons_zero,Nat.zero_mul,Nat.zero_add];rw[LN (by simp[Rd.cells];omega)];simp
 | v::vs,i+1,hi,k,hk=>by
  have:=vh vs i (by simpa using hi) k hk;simp only[yq,List.flatMap_cons,List.getElem_cons_succ] at *;rw[LK (by simp[Rd.cells];omega),<-this]
  congr 1
  simp[Rd.cells];omega
theorem jB(vs:List Rd):∀u∈yq vs,u.oneCell'=Ar:=by
 intro u hu;obtain⟨v,_,hv⟩:=Ny.1 hu;simp only[Rd.cells,List.mem_cons,List.not_mem_nil,or_false] at hv;rcases hv with rfl | rfl | rfl | rfl | rfl | rfl | rfl<;>rfl
theorem wk{w:Ba}{A:Bb}{vs:List Rd}(h:RAt w w.heap.size A vs):Raw w A vs.length (yq vs):=fun h0=>by
 obtain⟨b,off,e,aa,hc⟩:=h h0;refine⟨b,off,e,aa,fun j u hj=>?_⟩;have Sc:j<vs.length*7:=by have:=(Lp.1 hj).1;rwa[yX] at this
 have fj:j / 7<vs.length:=by omega
 have h8:j / 7*7+j % 7=j:=by omega
 rw[<-h8,vh vs (j / 7) fj (j % 7) (by omega)] at hj;have:=hc (j / 7) fj (j % 7) u hj;rwa[Pu,h8] at this
theorem jA{w:Ba}{base:Nat}{v:Aq}{vs:List Rd}(h:OwnR kRd w base v vs.length (yq vs)):∃A cap,v=I A vs.length cap/\vs.length<=cap/\cap<=maxLen/\RAtS (fun k=>base<=k) w A vs:=by
 have aa:=h.lt;obtain⟨A,cap,rfl,hc,hm,hr⟩:=h.form;refine⟨A,cap,rfl,hc,hm,fun h0=>?_⟩;obtain⟨g,rfl,hg,dx,aw⟩:=hr h0;refine⟨g,0,rfl,(aa g hg).1,dx,fun i hi k u hu=>?_⟩;have hk:k<7:=by have:=(Lq.1 hu).1;simpa[Rd.cells] using this
 rw[LM];exact aw _ u (by rw[vh vs i hi k hk];exact hu)
def qG(vs:List Mv):List Aq:=vs.flatMap fun x=>x.cells.toList
theorem jt(vs:List Mv):(qG vs).length=vs.length*8:=by
 induction vs with
 | nil=>rfl
 | cons v vs ih=>simp only[qG,List.flatMap_cons,List.length_append,List.length_cons] at *;rw[ih];simp[Mv.cells];omega
theorem vx:∀(vs:List Mv) (i:Nat) (hi:i<vs.length) (k:Nat),k<8->(qG vs)[i*8+k]?=vs[i].cells[k]?
 | v::vs,0,hi,k,hk=>by
  simp only[qG,List.flatMap_cons,List.getElem_cons_zero,Nat.zero_mul,Nat.zero_add];rw[LN (by simp[Mv.cells];omega)];simp
 | v::vs,i+1,hi,k,hk=>by
  have:=vx vs i (by simpa using hi) k hk;simp only[qG,List.flatMap_cons,List.getElem_cons_succ] at *;rw[LK (by simp[Mv.cells];omega),<-this]
  congr 1
  simp[Mv.cells];omega
theorem X6(vs:List Mv):∀u∈qG vs,u.oneCell'=Ar:=by
 intro u hu;obtain⟨v,_,hv⟩:=Ny.1 hu;simp only[Mv.cells,List.mem_cons,List.not_mem_nil,or_false] at hv;rcases hv with rfl | rfl | rfl | rfl | rfl | rfl | rfl | rfl<;>rfl
theorem X4{w:Ba}{A:Bb}{vs:List Mv}(h:MAt w w.heap.size A vs):Raw w A vs.length (qG vs):=fun h0=>by
 obtain⟨b,off,e,aa,hc⟩:=h h0;refine⟨b,off,e,aa,fun j u hj=>?_⟩;have Sc:j<vs.length*8:=by have:=(Lp.1 hj).1;rwa[jt] at this
 have fj:j / 8<vs.length:=by omega
 have h8:j / 8*8+j % 8=j:=by omega
 rw[<-h8,vx vs (j / 8) fj (j % 8) (by omega)] at hj;have:=hc (j / 8) fj (j % 8) u hj;rwa[Pu,h8] at this
theorem X5{w:Ba}{base:Nat}{v:Aq}{vs:List Mv}(h:OwnR kMv w base v vs.length (qG vs)):∃A cap,v=I A vs.length cap/\vs.length<=cap/\cap<=maxLen/\MAtS (fun k=>base<=k) w A vs:=by
 have aa:=h.lt;obtain⟨A,cap,rfl,hc,hm,hr⟩:=h.form;refine⟨A,cap,rfl,hc,hm,fun h0=>?_⟩;obtain⟨g,rfl,hg,dx,aw⟩:=hr h0;refine⟨g,0,rfl,(aa g hg).1,dx,fun i hi k u hu=>?_⟩;have hk:k<8:=by have:=(Lq.1 hu).1;simpa[Mv.cells] using this
 rw[LM];exact aw _ u (by rw[vx vs i hi k hk];exact hu)
def cIs:Ct (List Int):=⟨kIs,fun S w cs xs=>∃A c,cs=[I A xs.length c]/\IAtS S w A xs⟩
theorem yw:CtOk cIs where
 len:=fun ⟨A,c,e,_⟩=>by rw[e];rfl
 one:=fun ⟨A,c,e,_⟩ u hu=>by rw[e] at hu;simp at hu;subst hu;rfl
 keep:=fun ⟨A,c,e,h⟩ hk=>⟨A,c,e,h.keep hk⟩
 keepC:=fun ⟨A,c,e,h⟩ hk=>⟨A,c,e,h.keepC hk⟩
 mono:=fun ⟨A,c,e,h⟩ hm=>⟨A,c,e,h.mono hm⟩
def cWd:Ct (List Rd):=⟨kWd,fun S w cs xs=>∃A c,cs=[I A xs.length c]/\RAtS S w A xs/\xs.length<=c⟩
theorem xL:CtOk cWd where
 len:=fun ⟨A,c,e,_⟩=>by rw[e];rfl
 one:=fun ⟨A,c,e,_⟩ u hu=>by rw[e] at hu;simp at hu;subst hu;rfl
 keep:=fun ⟨A,c,e,h,hc⟩ hk=>⟨A,c,e,h.keep hk,hc⟩
 keepC:=fun ⟨A,c,e,h,hc⟩ hk=>⟨A,c,e,h.keepC hk,hc⟩
 mono:=fun ⟨A,c,e,h,hc⟩ hm=>⟨A,c,e,h.mono hm,hc⟩
def cMl:Ct (List Mv):=⟨kMl,fun S w cs xs=>∃A c,cs=[I A xs.length c]/\MAtS S w A xs⟩
theorem qo:CtOk cMl where
 len:=fun ⟨A,c,e,_⟩=>by rw[e];rfl
 one:=fun ⟨A,c,e,_⟩ u hu=>by rw[e] at hu;simp at hu;subst hu;rfl
 keep:=fun ⟨A,c,e,h⟩ hk=>⟨A,c,e,h.keep hk⟩
 keepC:=fun ⟨A,c,e,h⟩ hk=>⟨A,c,e,h.keepC hk⟩
 mono:=fun ⟨A,c,e,h⟩ hm=>⟨A,c,e,h.mono hm⟩
def cCs:Ct Cs:=⟨kCs,fun S w cs x=>∃A0 c0 A1 c1 A2 c2,cs=[I A0 x.inp.length c0,I A1 x.out.length c1,I A2 x.calm.length c2]/\IAtS S w A0 x.inp/\LAtS S w A1 x.out/\LAtS S w A2 x.calm⟩
theorem xu:CtOk cCs where
 len:=fun ⟨A0,c0,A1,c1,A2,c2,e,_⟩=>by rw[e];rfl
 one:=fun ⟨A0,c0,A1,c1,A2,c2,e,_⟩ u hu=>by rw[e] at hu;simp at hu;rcases hu with rfl | rfl | rfl<;>rfl
 keep:=fun ⟨A0,c0,A1,c1,A2,c2,e,h0,h1,h2⟩ hk=>⟨A0,c0,A1,c1,A2,c2,e,h0.keep hk,h1.keep hk,h2.keep hk⟩
 keepC:=fun ⟨A0,c0,A1,c1,A2,c2,e,h0,h1,h2⟩ hk=>⟨A0,c0,A1,c1,A2,c2,e,h0.keepC hk,h1.keepC hk,h2.keepC hk⟩
 mono:=fun ⟨A0,c0,A1,c1,A2,c2,e,h0,h1,h2⟩ hm=>⟨A0,c0,A1,c1,A2,c2,e,h0.mono hm,h1.mono hm,h2.mono hm⟩
section
variable {S:Nat->Prop} {w:Ba} {base:Nat} {v:Aq}
theorem gd{xs:List (List Rd)}(h:OwnX cWd S w base v xs):∃A cap,v=I A xs.length cap/\xs.length<=cap/\cap<=maxLen/\WAt w w.heap.size A xs:=by
 obtain⟨A,cap,e,h1,h2,h3⟩:=h.form xL;refine⟨A,cap,e,h1,h2,fun h0=>?_⟩;obtain⟨g,rfl,_,hg,hc⟩:=h3 h0;refine⟨g,0,rfl,hg,fun i hi=>?_⟩;obtain⟨cs,⟨A',c',rfl,hl,_⟩,ay⟩:=hc i hi;refine⟨A',c',?_,hl.rat⟩;have:=ay 0 _ rfl;rw[LM];rwa[show i*cWd.K.size+0=i by show i*1+0=i;omega] at this
theorem Xk{xs:List (List Int)}(h:OwnX cIs S w base v xs):∃A cap,v=I A xs.length cap/\xs.length<=cap/\cap<=maxLen/\LAtS (fun k=>S k\/base<=k) w A xs:=by
 obtain⟨A,cap,e,h1,h2,h3⟩:=h.form yw;refine⟨A,cap,e,h1,h2,fun h0=>?_⟩;obtain⟨g,rfl,hb,hg,hc⟩:=h3 h0;refine⟨g,0,rfl,.inr hb,hg,fun i hi=>?_⟩;obtain⟨cs,⟨A',c',rfl,hl⟩,ay⟩:=hc i hi;refine⟨A',c',?_,hl.mono fun k _ hs=>.inl hs.1⟩;have:=ay 0 _ rfl;rw[LM];rwa[show i*cIs.K.size+0=i by show i*1+0=i;omega] at this
theorem Zv{xs:List (List Int)}(h:OwnX cIs S w base v xs):∃A cap,v=I A xs.length cap/\xs.length<=cap/\cap<=maxLen/\LAtS (fun k=>S k\/v.ownBlock=J k) w A xs:=by
 obtain⟨A,cap,e,h1,h2,h3⟩:=h.form yw;refine⟨A,cap,e,h1,h2,fun h0=>?_⟩;obtain⟨g,rfl,hb,hg,hc⟩:=h3 h0;refine⟨g,0,rfl,.inr (by rw[e];rfl),hg,fun i hi=>?_⟩;obtain⟨cs,⟨A',c',rfl,hl⟩,ay⟩:=hc i hi;refine⟨A',c',?_,hl.mono fun k _ hs=>.inl hs.1⟩;have:=ay 0 _ rfl;rw[LM];rwa[show i*cIs.K.size+0=i by show i*1+0=i;omega] at this
end
end
section
open Go.RowKit
def Z6:Ct Exn:=⟨kXn,fun S w cs x=>∃A c A2 c2,cs=[O U x.c,I A x.word.length c,I A2 x.views.length c2]/\RAtS S w A x.word/\LAtS S w A2 x.views/\x.word.length<=c⟩
theorem zJ:CtOk Z6 where
 len:=fun ⟨A,c,A2,c2,e,_⟩=>by rw[e];rfl
 one:=fun ⟨A,c,A2,c2,e,_⟩ u hu=>by rw[e] at hu;simp at hu;rcases hu with rfl | rfl | rfl<;>rfl
 keep:=fun ⟨A,c,A2,c2,e,h1,h2,h3⟩ hk=>⟨A,c,A2,c2,e,h1.keep hk,h2.keep hk,h3⟩
 keepC:=fun ⟨A,c,A2,c2,e,h1,h2,h3⟩ hk=>⟨A,c,A2,c2,e,h1.keepC hk,h2.keepC hk,h3⟩
 mono:=fun ⟨A,c,A2,c2,e,h1,h2,h3⟩ hm=>⟨A,c,A2,c2,e,h1.mono hm,h2.mono hm,h3⟩
def XCap(w:Ba)(A:Bb)(xs:List Exn):Prop:=∀b o q,A=J ⟨b,o,q⟩->∀(i:Nat) (_:i<xs.length) (B:Bb) (n c:Nat),w.cell? ⟨b,o+i*3+1,Z⟩=J (I B n c)->n<=c
section
variable {S:Nat->Prop} {w:Ba} {base:Nat} {v:Aq}
theorem kZ{xs:List Exn}(h:OwnX Z6 S w base v xs):∃A cap,v=I A xs.length cap/\xs.length<=cap/\cap<=maxLen/\XAt w w.heap.size A xs/\XCap w A xs:=by
 obtain⟨A,cap,e,h1,h2,h3⟩:=h.form zJ
 have key:∀g,A=J ⟨g,0,Z⟩->∀(i:Nat) (hi:i<xs.length),∃A' c' A2 c2,w.cell? ⟨g,i*3,Z⟩=J (O U xs[i].c)/\w.cell? ⟨g,i*3+1,Z⟩=J (I A' xs[i].word.length c')/\w.cell? ⟨g,i*3+2,Z⟩=J (I A2 xs[i].views.length c2)/\RAt w w.heap.size A' xs[i].word/\LAt w w.heap.size A2 xs[i].views/\xs[i].word.length<=c':=by
  intro g eg i hi;obtain⟨g',TD,_,hg,hc⟩:=h3 (by omega);rw[eg] at TD
  cases TD
  obtain⟨cs,⟨A',c',A2,c2,rfl,hr,hl,hw⟩,ay⟩:=hc i hi;have h0:=ay 0 _ rfl;have h1:=ay 1 _ rfl;have h2:=ay 2 _ rfl;change w.cell? ⟨g,i*3+0,Z⟩=_ at h0;change w.cell? ⟨g,i*3+1,Z⟩=_ at h1;change w.cell? ⟨g,i*3+2,Z⟩=_ at h2;exact⟨A',c',A2,c2,by simpa using h0,by simpa using h1,by simpa using h2,hr.rat,hl.lat,hw⟩
 refine⟨A,cap,e,h1,h2,fun h0=>?_,fun b o q eA i hi B n c ay=>?_⟩
 . obtain⟨g,rfl,_,hg,_⟩:=h3 h0
   refine⟨g,0,rfl,hg,fun i hi=>?_⟩;obtain⟨A',c',A2,c2,k0,k1,k2,hr,hl,_⟩:=key g rfl i hi;refine⟨_,_,_,?_,?_,?_,rfl,⟨A',c',rfl,hr⟩,⟨A2,c2,rfl,hl⟩⟩
   . simpa using k0
   . simpa using k1
   simpa using k2
 obtain⟨g,eg,_,hg,_⟩:=h3 (by omega);have eg2:=eg;rw[eA] at eg
 cases eg
 obtain⟨A',c',A2,c2,k0,k1,k2,hr,hl,hw⟩:=key _ eg2 i hi;rw[LM] at ay;rw[k1] at ay
 cases ay
 exact hw
end
end
section
open Go.RowKit
structure KeyOk{κ:Type}(P:Program)(kt:TypeId)(enc:κ->Aq):Prop where
 inj:∀a b,enc a=enc b->a=b
 check:∀(w:Ba) (em:Bool) (a:κ),(Instr.checkKey em 10000 kt (enc a)).run P w=.ok () w
 equal:∀(w:Ba) (a b:κ),(Op.equal kt (enc a) (enc b)).run P w=.ok (@decide (enc a=enc b) (Classical.propDecidable _)) w
 now:∀(d:TypeDesc),P.underlying kt=J d->(∀a b:κ,Instr.sameNow d (enc a) (enc b)=J (@decide (enc a=enc b) (Classical.propDecidable _)))\/(∀a b:κ,Instr.sameNow d (enc a) (enc b)=Z)
 stays:∀a:κ,Instr.sameBits 10000 (enc a) (enc a)=Ar
 kind:∃d,P.underlying kt=J d
section
variable {κ:Type} {P:Program} {kt:TypeId} {enc:κ->Aq}
open Classical
theorem uj{d:TypeDesc}(h:∀a b:κ,Instr.sameNow d (enc a) (enc b)=J (decide (enc a=enc b)))(x:κ):∀(es:List MapEntry) (i:Nat),(∀e∈es,∃k,e.key=enc k) ->
  (Instr.findNow d (enc x) es i=J Z/\∀e∈es,e.key≠enc x)\/∃j e,Instr.findNow d (enc x) es i=J (J (i+j,e.val))/\es[j]?=J e/\e.key=enc x
 | [],i,_=>.inl ⟨rfl,fun _ h=>by cases h⟩
 | e::es,i,hk=>by
  obtain⟨k,lX⟩:=hk e (by simp)
  by_cases he:enc x=enc k
  . refine .inr ⟨0,e,?_,rfl,by rw[lX,he]⟩
    simp[Instr.findNow,lX,h,he]
  . rcases uj h x es (i+1) (fun e he=>hk e (by simp[he])) with ⟨h1,h2⟩ | ⟨j,e',h1,h2,h3⟩
    . refine .inl ⟨by simp[Instr.findNow,lX,h,he,h1],fun e' rY=>?_⟩
      rcases L9.1 rY with rfl | rY
      . rw[lX];exact fun e2=>he e2.symm
      . exact h2 e' rY
    . exact .inr ⟨j+1,e',by simp[Instr.findNow,lX,h,he,h1];omega,by simpa using h2,h3⟩
theorem kJ(K:KeyOk P kt enc)(w:Ba)(x:κ):∀(es:List MapEntry) (i:Nat),(∀e∈es,∃k,e.key=enc k) ->
  ((Instr.findAsking kt (enc x) es i).run P w=.ok Z w/\∀e∈es,e.key≠enc x)\/∃j e,(Instr.findAsking kt (enc x) es i).run P w=.ok (J (i+j,e.val)) w/\es[j]?=J e/\e.key=enc x
 | [],i,_=>.inl ⟨rfl,fun _ h=>by cases h⟩
 | e::es,i,hk=>by
  obtain⟨k,lX⟩:=hk e (by simp)
  by_cases he:enc x=enc k
  . refine .inr ⟨0,e,?_,rfl,by rw[lX,he]⟩
    simp[Instr.findAsking,lX,K.equal,he,Result.andThen]
  . rcases kJ K w x es (i+1) (fun e he=>hk e (by simp[he])) with ⟨h1,h2⟩ | ⟨j,e',h1,h2,h3⟩
    . refine .inl ⟨by simp[Instr.findAsking,lX,K.equal,he,h1,Result.andThen],fun e' rY=>?_⟩
      rcases L9.1 rY with rfl | rY
      . rw[lX];exact fun e2=>he e2.symm
      . exact h2 e' rY
    . exact .inr ⟨j+1,e',by simp[Instr.findAsking,lX,K.equal,he,h1,Result.andThen];omega,by simpa using h2,h3⟩
theorem wU{d:TypeDesc}(h:∀a b:κ,Instr.sameNow d (enc a) (enc b)=Z)(x:κ)(es:List MapEntry)(hk:∀e∈es,∃k,e.key=enc k) :
  es=[]\/Instr.findNow d (enc x) es 0=Z:=by
 cases es with
 | nil=>exact .inl rfl
 | cons e es=>
  obtain⟨k,lX⟩:=hk e (by simp);exact .inr (by simp[Instr.findNow,lX,h])
theorem wT(K:KeyOk P kt enc)(w:Ba)(x:κ)(es:List MapEntry)(hk:∀e∈es,∃k,e.key=enc k) :
  ((Instr.findKey kt (enc x) es).run P w=.ok Z w/\∀e∈es,e.key≠enc x)\/∃j e,(Instr.findKey kt (enc x) es).run P w=.ok (J (j,e.val)) w/\es[j]?=J e/\e.key=enc x:=by
 obtain⟨d,hd⟩:=K.kind;rcases K.now d hd with h | h
 . rcases uj h x es 0 hk with ⟨h1,h2⟩ | ⟨j,e,h1,h2,h3⟩
   . exact .inl ⟨by simp[Instr.findKey,run_underlying hd,h1],h2⟩
   exact .inr ⟨j,e,by simp[Instr.findKey,run_underlying hd,h1],h2,h3⟩
 rcases wU h x es hk with rfl | hn
 . exact .inl ⟨by simp[Instr.findKey,run_underlying hd,Instr.findNow],fun _ h=>by cases h⟩
 rcases kJ K w x es 0 hk with ⟨h1,h2⟩ | ⟨j,e,h1,h2,h3⟩
 . exact .inl ⟨by simp[Instr.findKey,run_underlying hd,hn,h1],h2⟩
 exact .inr ⟨j,e,by simp[Instr.findKey,run_underlying hd,hn,h1],h2,h3⟩
def MapOf(enc:κ->Aq)(w:Ba)(b n:Nat)(f:κ->Option Aq):Prop:=
 ∃es bY,w.heap[b]?=J (.map es bY)/\es.size<=n/\(es.toList.Pairwise fun x y=>x.key≠y.key)/\(∀e∈es.toList,∃k,e.key=enc k/\f k=J e.val)/\(∀k v,f k=J v->∃e∈es.toList,e.key=enc k/\e.val=v)
theorem MapOf.made(w:Ba):MapOf enc (w.alloc (.map #[] 0)) w.heap.size 0 (fun _=>Z):=
 ⟨#[],0,heap_alloc_new w _,Lh _,List.Pairwise.nil,fun e h=>by simp at h,fun k v h=>by cases h⟩
theorem MapOf.same{w w':Ba}{b n:Nat}{f:κ->Option Aq}(h:MapOf enc w b n f)(hs:w'.heap[b]?=w.heap[b]?):MapOf enc w' b n f:=by
 obtain⟨es,bY,hb,r⟩:=h;exact⟨es,bY,hs.trans hb,r⟩
theorem MapOf.lt{w:Ba}{b n:Nat}{f:κ->Option Aq}(h:MapOf enc w b n f):b<w.heap.size:=by
 obtain⟨es,bY,hb,r⟩:=h;exact(Lq.1 hb).1
theorem MapOf.look{w:Ba}{b n:Nat}{f:κ->Option Aq}{t e:TypeId}{z:Aq}(h:MapOf enc w b n f)(K:KeyOk P kt enc)(ht:P.underlying t=J (.map kt e))(hz:(zeroValue e).run P w=.ok z w)(k:κ) :
  (Instr.lookup t (.map (J b)) (enc k) As).run P w=.ok ((f k).getD z) w:=by
 obtain⟨es,bY,hb,_,_,h1,h2⟩:=h;rcases wT K w k es.toList (fun e he=>by obtain⟨k,hk,_⟩:=h1 e he;exact⟨k,hk⟩) with ⟨r1,r2⟩ | ⟨j,e0,r1,r2,r3⟩
 · have hf : f k = Z := by
    cases hf:f k with
    | none=>rfl
    | some v=>obtain⟨e,he,hk,_⟩:=h2 k v hf;exact absurd hk (r2 e he)
   simp[Instr.lookup,run_underlying ht,MapKept.run_getObj_map hb,K.check w _ k,r1,hz,Result.andThen,hf]
 obtain⟨k',dw,hf⟩:=h1 e0 (Re r2);have:k=k':=K.inj _ _ (r3.symm.trans dw);subst this;simp[Instr.lookup,run_underlying ht,MapKept.run_getObj_map hb,K.check w _ k,r1,Result.andThen,hf]
theorem MapOf.look2{w:Ba}{b n:Nat}{f:κ->Option Aq}{t e:TypeId}{z:Aq}(h:MapOf enc w b n f)(K:KeyOk P kt enc)(ht:P.underlying t=J (.map kt e))(hz:(zeroValue e).run P w=.ok z w)(k:κ) :
  (Instr.lookup t (.map (J b)) (enc k) Ar).run P w=.ok (.tuple #[(f k).getD z,Ah (f k).isSome]) w:=by
 obtain⟨es,bY,hb,_,_,h1,h2⟩:=h;rcases wT K w k es.toList (fun e he=>by obtain⟨k,hk,_⟩:=h1 e he;exact⟨k,hk⟩) with ⟨r1,r2⟩ | ⟨j,e0,r1,r2,r3⟩
 · have hf : f k = Z := by
    cases hf:f k with
    | none=>rfl
    | some v=>obtain⟨e,he,hk,_⟩:=h2 k v hf;exact absurd hk (r2 e he)
   simp[Instr.lookup,run_underlying ht,MapKept.run_getObj_map hb,K.check w _ k,r1,hz,Result.andThen,hf]
 obtain⟨k',dw,hf⟩:=h1 e0 (Re r2);have:k=k':=K.inj _ _ (r3.symm.trans dw);subst this;simp[Instr.lookup,run_underlying ht,MapKept.run_getObj_map hb,K.check w _ k,r1,Result.andThen,hf]
def qB[DecidableEq κ](f:κ->Option Aq)(k:κ)(v:Aq):κ->Option Aq:=fun x=>if x=k then J v else f x
theorem kq{P:Program}{w:Ba}{b:Nat}{es TC:Array MapEntry}{c c':Nat}(hb:w.heap[b]?=J (.map es c)) :
  (setObj b (.map TC c')).run P w=.ok () { w with heap:=w.heap.setIfInBounds b (.map TC c') }:=by
 simp[setObj,Sem.run,hb]
theorem pw_key{l:List MapEntry}(h:l.Pairwise fun x y=>x.key≠y.key){i j:Nat}{a b:MapEntry}(hi:l[i]?=J a)(hj:l[j]?=J b)(he:a.key=b.key):i=j:=by
 obtain⟨ln,rfl⟩:=Lp.1 hi;obtain⟨bQ,rfl⟩:=Lp.1 hj;rcases Nat.lt_trichotomy i j with aa | h' | aa
 . exact absurd he (PH.1 h i j ln bQ aa)
 . exact h'
 exact absurd he.symm (PH.1 h j i bQ ln aa)
theorem pw_set{l:List MapEntry}(h:l.Pairwise fun x y=>x.key≠y.key){j:Nat}{a a':MapEntry}(hj:l[j]?=J a)(he:a.key=a'.key):(l.set j a').Pairwise fun x y=>x.key≠y.key:=by
 obtain⟨bQ,rfl⟩:=Lp.1 hj;rw[PH] at h ⊢;intro i k hi hk KE;simp only[List.length_set] at hi hk;simp only[List.getElem_set]
 split
 . rename_i h1;subst h1
   split
   . omega
   rw[<-he];exact h _ _ hi hk KE
 split
 . rename_i h1;subst h1
   rw[<-he];exact h _ _ hi hk KE
 exact h _ _ hi hk KE
theorem MapOf.put[DecidableEq κ]{w:Ba}{b n:Nat}{f:κ->Option Aq}{t e:TypeId}(h:MapOf enc w b n f)(K:KeyOk P kt enc)(ht:P.underlying t=J (.map kt e))(k:κ)(v:Aq) :
  ∃w',(Instr.mapUpdate t (.map (J b)) (enc k) v).run P w=.ok () w'/\MapOf enc w' b (n+1) (qB f k v)/\w.grownBy w' (J b):=by
 obtain⟨es,bY,hb,hn,rQ,h1,h2⟩:=h;have az:=(Lq.1 hb).1
 have grown:∀o,w.grownBy { w with heap:=w.heap.setIfInBounds b o } (J b):=fun o=>
  ⟨rfl,rfl,rfl,by simp,fun i _ hi=>by simp only;rw[LY (fun e=>hi (by rw[e]))]⟩
 have at_:∀o,({ w with heap:=w.heap.setIfInBounds b o }:Ba).heap[b]?=J o:=fun o=>by simp[az]
 rcases wT K w k es.toList (fun e he=>by obtain⟨k,hk,_⟩:=h1 e he;exact⟨k,hk⟩) with ⟨r1,r2⟩ | ⟨j,e0,r1,r2,r3⟩
 . refine⟨_,?_,⟨es.push { key:=enc k,val:=v,born:=bY },bY+1,at_ _,by simp;omega,?_,?_,?_⟩,grown _⟩
   . simp[Instr.mapUpdate,run_underlying ht,MapKept.run_getObj_map hb,K.check w As k,r1,kq hb,Result.andThen]
   . rw[Array.toList_push]
     exact List.pairwise_append.2 ⟨rQ,List.pairwise_singleton _ _,fun a ha c hc=>by simp only[List.mem_singleton] at hc;subst hc;exact r2 a ha⟩
   . intro e he
     simp only[Array.toList_push,List.mem_append,List.mem_singleton] at he;rcases he with he | rfl
     . obtain⟨k',dw,hf⟩:=h1 e he
       refine⟨k',dw,?_⟩;have:k'≠k:=fun e2=>r2 e he (by rw[dw,e2])
       simp[qB,this,hf]
     exact⟨k,rfl,by simp[qB]⟩
   intro k' v' hf;unfold qB at hf
   split at hf
   . rename_i hk;subst hk
     cases hf
     exact⟨_,by simp;exact .inr rfl,rfl,rfl⟩
   obtain⟨e,he,hk,hv⟩:=h2 k' v' hf;exact⟨e,by simp;exact .inl (by simpa using he),hk,hv⟩
 have VH:es[j]?=J e0:=by simpa using r2
 have hs:(Instr.keyThatStays e0.key (enc k)).run P w=.ok (enc k) w:=by simp[Instr.keyThatStays,r3,K.stays]
 have bQ:j<es.toList.length:=(Lp.1 r2).1
 have mG:(es.modify j (fun e'=>{ e' with key:=enc k,val:=v })).toList=es.toList.set j { e0 with key:=enc k,val:=v }:=by
  rw[Array.toList_modify,ChangeMaps.modify_eq_set _ _ _ _ r2]
 refine⟨_,?_,⟨es.modify j (fun e'=>{ e' with key:=enc k,val:=v }),bY,at_ _,by simp;omega,?_,?_,?_⟩,grown _⟩
 . simp[Instr.mapUpdate,run_underlying ht,MapKept.run_getObj_map hb,K.check w As k,r1,VH,hs,kq hb,Result.andThen]
 . rw[mG]
   exact pw_set rQ r2 (by simpa using r3)
 . intro e he
   rw[mG] at he;obtain⟨i,hi,rfl⟩:=LG he;rw[RF]
   split
   . exact⟨k,rfl,by simp[qB]⟩
   rename_i aO;have fj:i<es.toList.length:=by simpa using hi
   obtain⟨k',dw,hf⟩:=h1 _ (Ld fj);refine⟨k',dw,?_⟩
   by_cases e2:k'=k
   . exact absurd (dw.trans ((congrArg enc e2).trans r3.symm)) (fun e3=>aO (pw_key rQ r2 (Lf fj) e3.symm))
   simp[qB,e2,hf]
 intro k' v' hf;unfold qB at hf
 split at hf
 . rename_i hk;subst hk
   cases hf
   refine⟨{ e0 with key:=enc k',val:=v },?_,rfl,rfl⟩;rw[mG];exact NL.2 ⟨j,by simpa using bQ,by simp⟩
 rename_i hk;obtain⟨e,he,R6,hv⟩:=h2 k' v' hf;refine⟨e,?_,R6,hv⟩;rw[mG];obtain⟨i,hi,rfl⟩:=LG he
 have GI:j≠i:=by
  rintro rfl;rw[Lf bQ] at r2
  cases r2
  exact hk (K.inj _ _ (R6.symm.trans r3))
 exact NL.2 ⟨i,by simpa using hi,by simp[GI]⟩
end
end
section
open Go.RowKit
open Classical in
theorem yI:KeyOk Al 3 (O U) where
 inj:=fun a b h=>by injection h
 check:=fun w em a=>by
  have hi:Al.underlying 3=J (.int U):=LB;unfold Instr.checkKey;simp[run_underlying hi,Result.andThen]
 equal:=fun w a b=>by
  have hi:Al.underlying 3=J (.int U):=LB;unfold Op.equal Op.maxDepth;rw[Nt w _ 3 _ _ _ _ hi]
  by_cases h:a=b<;>simp[h]
 now:=fun d hd=>.inl fun a b=>by
  have hi:Al.underlying 3=J (.int U):=LB;rw[hi] at hd
  cases hd
  by_cases h:a=b<;>simp[Instr.sameNow,h]
 stays:=fun a=>by simp[Instr.sameBits]
 kind:=⟨_,LB⟩
theorem Yg(a b:Vw)(h:Ai a.cells=.agg b.cells):a=b:=by
 injection h with h
 obtain⟨a0,a1,a2,a3,a4,a5,a6,a7⟩:=a;obtain⟨b0,b1,b2,b3,b4,b5,b6,b7⟩:=b;simpa[Vw.cells] using h
theorem Zs(w:Ba)(em:Bool)(n:Nat)(a:Int):(Instr.checkKey em (n+1) 3 (O U a)).run Al w=.ok () w:=by
 have hi:Al.underlying 3=J (.int U):=LB;unfold Instr.checkKey;simp[run_underlying hi,Result.andThen]
theorem check_arr(w:Ba)(em:Bool)(n:Nat)(a b c d e:Int):(Instr.checkKey em (n+2) 64 (Ai #[O U a,O U b,O U c,O U d,O U e])).run Al w=.ok () w:=by
 have hu:Al.underlying 64=J (.array 5 3):=Rt;have hs:(sizeOf 3).run Al w=.ok 1 w:=by kernel_rfl
 have p0:=fun x0 x1 x2 x3 x4=>zZ #[x0,x1,x2,x3,x4] 0 x0 rfl w
 have p1:=fun x0 x1 x2 x3 x4=>zZ #[x0,x1,x2,x3,x4] 1 x1 rfl w
 have p2:=fun x0 x1 x2 x3 x4=>zZ #[x0,x1,x2,x3,x4] 2 x2 rfl w
 have p3:=fun x0 x1 x2 x3 x4=>zZ #[x0,x1,x2,x3,x4] 3 x3 rfl w
 have p4:=fun x0 x1 x2 x3 x4=>zZ #[x0,x1,x2,x3,x4] 4 x4 rfl w
 unfold Instr.checkKey;simp only[Sem.run_bind,run_underlying hu,Result.andThen_ok,hs,Std.Legacy.Range.forIn_eq_forIn_range',Std.Legacy.Range.size,Nat.sub_zero,Nat.add_sub_cancel,Nat.div_one,show List.range' 0 5 1=[0,1,2,3,4] from rfl,List.forIn_cons,List.forIn_nil,p0,p1,p2,p3,p4,Nat.mul_one,Zs,Sem.run_pure]
open Classical in
theorem uF:KeyOk Al 144 (fun v:Vw=>.agg v.cells) where
 inj:=Yg
 check:=fun w em v=>by
  have hu:Al.underlying 144=J (.struct (Al.fieldsOf 144)):=by kernel_rfl
  have hf : (Al.fieldsOf 144).toList.map (fun f => (f.name, f.type, f.offset)) = [("Proc", 3, 0), ("Round", 3, 1), ("Input", 3, 2), ("Heard", 64, 3)] := by kernel_rfl
  have p0:∀x:Vw,(part 3 x.cells 0).run Al w=.ok (O U x.p) w:=fun x=>zZ _ 0 _ rfl w
  have p1:∀x:Vw,(part 3 x.cells 1).run Al w=.ok (O U x.r) w:=fun x=>zZ _ 1 _ rfl w
  have p2:∀x:Vw,(part 3 x.cells 2).run Al w=.ok (O U x.i) w:=fun x=>zZ _ 2 _ rfl w
  have p3:∀x:Vw,(part 64 x.cells 3).run Al w=.ok (Ai #[O U x.h0,O U x.h1,O U x.h2,O U x.h3,O U x.h4]) w:=fun x=>by unfold Vw.cells;kernel_rfl
  unfold Instr.checkKey;simp only[Sem.run_bind,run_underlying hu,Result.andThen_ok];rw[<-Array.forIn_toList]
  generalize (Al.fieldsOf 144).toList=fs at hf
  obtain⟨f0,f1,f2,f3,rfl⟩:∃f0 f1 f2 f3,fs=[f0,f1,f2,f3]:=by
   have hl:fs.length=4:=by simpa using congrArg List.length hf
   rcases fs with _ | ⟨f0,_ | ⟨f1,_ | ⟨f2,_ | ⟨f3,_ | ⟨f4,r⟩⟩⟩⟩⟩<;>simp at hl
   exact⟨_,_,_,_,rfl⟩
  simp only[List.map_cons,List.map_nil,List.cons.injEq,Prod.mk.injEq,and_true] at hf;obtain⟨⟨n0,t0,o0⟩,⟨n1,t1,o1⟩,⟨n2,t2,o2⟩,⟨n3,t3,o3⟩⟩:=hf;simp only[List.forIn_cons,List.forIn_nil,n0,n1,n2,n3,t0,t1,t2,t3,o0,o1,o2,o3,p0,p1,p2,p3,Sem.run_bind,Result.andThen_ok,Zs,check_arr,ne_eq,String.reduceEq,not_false_eq_true,if_true,Sem.run_pure]
 equal:=fun w a b=>by
  unfold Op.equal Op.maxDepth;rw[jI 9997 a b w]
  by_cases h:a=b
  . simp[h]
  . have:¬(Ai a.cells=.agg b.cells):=fun e=>h (Yg a b e)
    rw[Ln h,Ln this]
 now:=fun d hd=>.inr fun a b=>by
  have hu:Al.underlying 144=J (.struct (Al.fieldsOf 144)):=by kernel_rfl
  rw[hu] at hd
  cases hd
  simp[Instr.sameNow]
 stays:=fun a=>by simp[Instr.sameBits,Vw.cells]
 kind := ⟨_, by have hu : Al.underlying 144 = J (.struct (Al.fieldsOf 144)) := by kernel_rfl
                exact hu⟩
end
section
open Go.RowKit
structure TArg(w:Ba)(A:Bb)(cap:Nat)(vs:List Vw):Prop where
 rows:VAt w w.heap.size A vs
 lec:vs.length<=cap
 lem:cap<=maxLen
 few:vs.length<=100000
theorem TArg.keep{w w':Ba}{A:Bb}{cap:Nat}{vs:List Vw}(h:TArg w A cap vs)(hb:Am w.heap.size w w'):TArg w' A cap vs:=
 ⟨(h.rows.keep hb).more hb.size,h.lec,h.lem,h.few⟩
def yp(vs:List Vw):List Aq:=vs.flatMap fun x=>x.cells.toList
theorem jl(vs us:List Vw):yp (vs++us)=yp vs++yp us:=by simp[yp]
theorem jk(vs:List Vw):(yp vs).length=vs.length*8:=by
 induction vs with
 | nil=>rfl
 | cons v vs ih=>simp only[yp,List.flatMap_cons,List.length_append,List.length_cons] at *;rw[ih];simp[Vw.cells];omega
theorem vc:∀(vs:List Vw) (i:Nat) (hi:i<vs.length) (k:Nat),k<8->(yp vs)[i*8+k]?=vs[i].cells[k]?
 | v::vs,0,hi,k,hk=>by
  simp only[yp,List.flatMap_cons,List.getElem_cons_zero,Nat.zero_mul,Nat.zero_add];rw[LN (by simp[Vw.cells];omega)];simp
 | v::vs,i+1,hi,k,hk=>by
  have:=vc vs i (by simpa using hi) k hk;simp only[yp,List.flatMap_cons,List.getElem_cons_succ] at *;rw[LK (by simp[Vw.cells];omega),<-this]
  congr 1
  simp[Vw.cells];omega
def OwnV(w:Ba)(base:Nat)(v:Aq)(vs:List Vw):Prop:=w.ownsRow base 144 8 v vs.length (yp vs)
theorem OwnV.nil(w:Ba)(base:Nat):OwnV w base (I Z 0 0) []:=PK w base _ 8
theorem OwnV.form{w:Ba}{base:Nat}{v:Aq}{vs:List Vw}(h:OwnV w base v vs)(hf:vs.length<=100000):∃A cap,v=I A vs.length cap/\TArg w A cap vs:=by
 rcases h.2 with ⟨rfl,h0⟩ | ⟨g,cap,cur,rfl,_,hg,dQ,mL,_⟩
 . have:vs=[]:=LA h0
   subst this;exact⟨Z,0,rfl,fun h=>absurd h (by simp),Lh _,Nw _,hf⟩
 refine⟨_,_,rfl,fun _=>⟨g,0,rfl,(Lq.1 hg).1,fun i hi k u hk=>?_⟩,dQ,mL,hf⟩;have R9:k<8:=by have:=(Lq.1 hk).1;simpa[Vw.cells] using this
 have:=h.cells (g:=g) rfl (i*8+k) u (by rw[vc vs i hi k R9];exact hk);rw[show(⟨g,0,Z⟩:Addr).add (i*8+k)=⟨g,0+i*8+k,Z⟩ from by unfold Addr.add;split<;>simp_all] at this;exact this
theorem OwnV.low{w:Ba}{base cS:Nat}{v:Aq}{xs:List Vw}(h:OwnV w base v xs)(hb:cS<=base):OwnV w cS v xs:=by
 refine⟨h.1,?_⟩;rcases h.2 with h2 | ⟨g,cap,cur,hv,hg,r⟩
 . exact Or.inl h2
 exact Or.inr ⟨g,cap,cur,hv,by omega,r⟩
theorem OwnV.lt{w:Ba}{base:Nat}{v:Aq}{xs:List Vw}(h:OwnV w base v xs):∀k,v.ownBlock=J k->base<=k/\k<w.heap.size:=PZ h
theorem vA:(Al.info? 144).map (fun i=>(i.zero,i.size,i.bytes))=J (J (.agg (⟨0,0,0,0,0,0,0,0⟩:Vw).cells),8,64):=by kernel_rfl
theorem vJ(v:Vw):∀u∈v.cells.toList,u.oneCell'=Ar:=by
 intro u hu;simp only[Vw.cells,List.mem_cons,List.not_mem_nil,or_false] at hu;rcases hu with rfl | rfl | rfl | rfl | rfl | rfl | rfl | rfl<;>rfl
theorem Xy(vs:List Vw):∀u∈yp vs,u.oneCell'=Ar:=by
 intro u hu;obtain⟨v,_,hv⟩:=Ny.1 hu;exact vJ v u hv
theorem gA(c:Nat)(ty:TypeId)(W:Ba):(Builtin.append_ #[34,34] ty #[I Z 0 0,I Z 0 c]).run Al W=.ok (I Z 0 0) W:=by
 obtain⟨i0,hi,_⟩:=P4 vA;simp[Builtin.append_,run_underlying underlying34,sizeOf,typeInfo,hi,Builtin.lenOf,Builtin.firstCells]
theorem TArg.news{w:Ba}{ad:Addr}{cap:Nat}{vs:List Vw}(h:TArg w (J ad) cap vs):∀j u,(yp vs)[j]?=J u->w.cell? (ad.add j)=J u:=by
 intro j u hj;have Sc:j<vs.length*8:=by have:=(Lp.1 hj).1;rwa[jk] at this
 obtain⟨b,off,e,aa,hc⟩:=h.rows (by omega)
 cases e
 rw[N3];have fj:j / 8<vs.length:=by omega
 have h8:j / 8*8+j % 8=j:=by omega
 rw[<-h8,vc vs (j / 8) fj (j % 8) (by omega)] at hj;have:=hc (j / 8) fj (j % 8) u hj;rwa[Pu,h8] at this
theorem OwnV.lit{w:Ba}{base:Nat}{v:Aq}{vs:List Vw}(h:OwnV w base v vs):∃A cap,v=I A vs.length cap:=by
 rcases h.2 with ⟨rfl,h0⟩ | ⟨g,cap,cur,rfl,_⟩
 . exact⟨Z,0,by rw[h0]⟩
 exact⟨_,_,rfl⟩
theorem wp_appv0{o:Oper}{a:Act}{K:Act->Ba->Prop}{Q:Exit->Act->Ba->Prop}{W:Ba}(s x:Operand)
  (ho:o.op=.call { callee:=.builtin .append,args:=#[s,x],argTypes:=#[34,34] }) (base:Nat) (hs:a.eval s=I Z 0 0) (A:Bb) (cap:Nat) (vs:List Vw)
  (hx:a.eval x=I A vs.length cap) (hT:TArg W A cap vs) (hb:base<=W.heap.size)
  (h:∀A' cap' w1,OwnV w1 base (I A' vs.length cap') vs->W.grownBy w1 Z->K (a.put o.dst (I A' vs.length cap')) w1):o.wp Al a W K Q:=by
 obtain⟨i0,hi,cU,bN,cK⟩:=P4 vA
 cases A with
 | none=>
  have lK:vs=[]:=by
   rcases LX vs.length with h | h
   . exact LA h
   . obtain⟨b,off,e,_⟩:=hT.rows h;cases e
  subst lK;have dP:=gA cap o.type W;unfold Oper.wp execOp;simp only[ho,resolve,invoke,builtin,Sem.run_bind,Sem.run_pure,Result.andThen_ok,List.map_toArray,List.map_cons,List.map_nil,hs,hx,List.length_nil,dP];exact h Z 0 W (OwnV.nil _ _) (Rn _ _)
 | some ad=>
  refine wp_append_own W s x 34 ho base 144 i0 _ 8 64 PQ hi cU bN cK rfl (by decide) _ 0 [] hs (PK W base _ 8) ad vs.length cap (yp vs) hx (jk vs) hT.news (Xy vs) (by have:=hT.few;unfold maxLen;omega) (by have:=hT.few;omega) hb ?_;intro v' w1 aJ aR _;have mD:OwnV w1 base v' vs:=by unfold OwnV;simpa using aJ
  obtain⟨A',cap',rfl⟩:=mD.lit;exact h A' cap' w1 mD aR
theorem wp_appv1{o:Oper}{a:Act}{K:Act->Ba->Prop}{Q:Exit->Act->Ba->Prop}{W:Ba}(s x:Operand)
  (ho:o.op=.call { callee:=.builtin .append,args:=#[s,x],argTypes:=#[34,34] }) (base:Nat) (V:Aq) (vs:List Vw) (v:Vw) (hs:a.eval s=V) (aJ:OwnV W base V vs) (hf:vs.length<=100000)
  (g:Nat) (hx:a.eval x=I (J ⟨g,0,Z⟩) 1 1) (hg:W.heap[g]?=J (Ag v.cells 144 (0,0))) (hb:base<=W.heap.size)
  (h:∀A' cap' w1,OwnV w1 base (I A' (vs.length+1) cap') (vs++[v])->W.grownBy w1 V.ownBlock->K (a.put o.dst (I A' (vs.length+1) cap')) w1):o.wp Al a W K Q:=by
 obtain⟨i0,hi,cU,bN,cK⟩:=P4 vA
 refine wp_append_lies W s x 34 ho base 144 i0 _ 8 64 PQ hi cU bN cK rfl (by decide) V vs.length (yp vs) hs aJ ⟨g,0,Z⟩ 1 1 v.cells.toList hx (by simp[Vw.cells])
  (Rh hg) (vJ v) (by omega) (by unfold maxLen;omega) (by omega) hb _ rfl ?_
 intro g' cap w1 mD aR _ _;refine h _ cap w1 ?_ aR;unfold OwnV;rw[Lu,jl];simpa[yp] using mD
theorem XB{ak:Array Oper}{o:Oper}{a:Act}{K:Act->Ba->Prop}{Q:Exit->Act->Ba->Prop}{E:Prop}{W:Ba}(ew:o.guard=Z)(s x:Operand)
  (ho:o.op=.call { callee:=.builtin .append,args:=#[s,x],argTypes:=#[34,34] }) (base:Nat) (hs:a.eval s=I Z 0 0) (A:Bb) (cap:Nat) (vs:List Vw)
  (hx:a.eval x=I A vs.length cap) (hT:TArg W A cap vs) (hb:base<=W.heap.size)
  (h:∀A' cap' w1,OwnV w1 base (I A' vs.length cap') vs->W.grownBy w1 Z->K (a.put o.dst (I A' vs.length cap')) w1) :
  if Region.wanted o (yielded ak a.tmps)=Ar then Oper.wp Al o a W K Q else E:=by
 have hw:Region.wanted o (yielded ak a.tmps)=Ar:=by simp[Region.wanted,ew]
 rw[Lo hw];exact wp_appv0 s x ho base hs A cap vs hx hT hb h
theorem uO{ak:Array Oper}{o:Oper}{a:Act}{K:Act->Ba->Prop}{Q:Exit->Act->Ba->Prop}{E:Prop}{W:Ba}(ew:o.guard=Z)(s x:Operand)
  (ho:o.op=.call { callee:=.builtin .append,args:=#[s,x],argTypes:=#[34,34] }) (base:Nat) (V:Aq) (vs:List Vw) (v:Vw) (hs:a.eval s=V) (aJ:OwnV W base V vs) (hf:vs.length<=100000)
  (g:Nat) (hx:a.eval x=I (J ⟨g,0,Z⟩) 1 1) (hg:W.heap[g]?=J (Ag v.cells 144 (0,0))) (hb:base<=W.heap.size)
  (h:∀A' cap' w1,OwnV w1 base (I A' (vs.length+1) cap') (vs++[v])->W.grownBy w1 V.ownBlock->K (a.put o.dst (I A' (vs.length+1) cap')) w1) :
  if Region.wanted o (yielded ak a.tmps)=Ar then Oper.wp Al o a W K Q else E:=by
 have hw:Region.wanted o (yielded ak a.tmps)=Ar:=by simp[Region.wanted,ew]
 rw[Lo hw];exact wp_appv1 s x ho base V vs v hs aJ hf g hx hg hb h
theorem zW{W w1:Ba}{row:Option Nat}{b o:Nat}{u:Aq}(hg:W.grownBy w1 row)(h:W.cell? ⟨b,o,Z⟩=J u)(aO:row≠J b):w1.cell? ⟨b,o,Z⟩=J u:=by
 obtain⟨ob,ho,_⟩:=Rj h;rw[LR ((hg.block b (Lq.1 ho).1 (fun e=>aO e.symm)))];exact h
theorem jF(w:Ba)(g k:Nat)(v':Aq):w.grownBy (w.setCell ⟨g,k,Z⟩ v') (J g):=
 ⟨rfl,rfl,rfl,by simp[World.setCell],fun j _ hj=>Lg w ⟨g,k,Z⟩ v' j (fun e=>hj (by rw[e]))⟩
theorem Ql{W w1:Ba}{row:Option Nat}{b:Nat}{o:Obj}(hg:W.grownBy w1 row)(h:W.heap[b]?=J o)(aO:row≠J b):w1.heap[b]?=J o:=
 (hg.block b (Lq.1 h).1 (fun e=>aO e.symm)).trans h
theorem OwnV.kept{w w':Ba}{base:Nat}{v:Aq}{vs:List Vw}{row:Option Nat}(h:OwnV w base v vs)(hg:w.grownBy w' row)(aO:v.ownBlock=Z\/v.ownBlock≠row):OwnV w' base v vs:=N2 h hg aO
theorem OwnV.alloc{w:Ba}{base:Nat}{v:Aq}{vs:List Vw}(h:OwnV w base v vs)(o:Obj):OwnV (w.alloc o) base v vs:=Pd h o
theorem OwnV.drew{w:Ba}{base:Nat}{v:Aq}{vs:List Vw}(h:OwnV w base v vs):OwnV w.drew base v vs:=h
theorem OwnV.below{w w':Ba}{base B:Nat}{v:Aq}{xs:List Vw}(h:OwnV w base v xs)(hb:Am B w w')(hB:w.heap.size<=B):OwnV w' base v xs:=
 N2 (row:=Z) h ⟨hb.os,hb.tape,hb.output,hb.size,fun k hk _=>hb.block k (by omega)⟩ (by cases v.ownBlock<;>simp)
theorem jG{W w1:Ba}{row:Option Nat}{b o:Nat}(hg:W.grownBy w1 row)(h:W.frozen? ⟨b,o,Z⟩=As)(aa:b<W.heap.size)(aO:row≠J b):w1.frozen? ⟨b,o,Z⟩=As:=
 (World.grownBy.frozen_far hg ⟨b,o,Z⟩ aa (fun e=>aO e.symm)).trans h
theorem OwnV.ne{w:Ba}{base b:Nat}{v:Aq}{xs:List Vw}(h:OwnV w base v xs)(hb:b<base):v.ownBlock≠J b:=fun e=>by
 have:=(h.lt b e).1;omega
def RetPut(n:Int)(A:Bb)(cap:Nat)(vs:List Vw)(v:Vw)(w:Ba)(e:Ending)(w':Ba):Prop:=
 Am w.heap.size w w'/\(v∈vs->e=Ak (.tuple #[Ai #[O U n,I A vs.length cap],O U (qr vs v)])) /\
  (v∉vs->∃A3 eZ,e=Ak (.tuple #[Ai #[O U n,I A3 (vs.length+1) eZ],O U vs.length])/\OwnV w' w.heap.size (I A3 (vs.length+1) eZ) (vs++[v]))
end
section
open Go.RowKit
section
variable {P:Program} {md:Region.Mode} {ak:Array Oper} {Q:Exit->Act->Ba->Prop} {l n:Nat}
theorem op_round{o:Oper}{a:Act}{w:Ba}{K:Act->Ba->Prop}(hd:∀c,o.op≠.defer c)(h:o.wp P a w K Q):o.wpIn (Fence.wide.inRound l) n P a w K Q:=by
 refine⟨fun _ _=>trivial,?_⟩;show o.uponIn (Fence.wide.inRound l) n P a K Q ((o.semAt (J l) a.eval).run P w);rw[Oper.semAt_some l a.eval o hd];unfold Oper.wp at h
 revert h
 cases (execOp a.eval o).run P w with
 | ok x w'=>
  cases x with
  | value v=>exact fun h=>h
  | skip=>exact fun h=>h
  | defer d=>exact fun h=>h
  | enter f args=>exact fun h=>⟨(fun h'=>Bool.noConfusion (show As=Ar from h')),CallsIn.inRound l (callsIn_wide.2 h)⟩
  | row r args=>exact fun h=>⟨(fun h'=>Bool.noConfusion (show As=Ar from h')),fun b cs _=>by obtain⟨v,DD,hR,hs⟩:=h b cs;exact⟨v,DD,hR,stepsIn_wide.2 hs⟩⟩
  | _=>exact fun h=>h.elim
 | halt s w'=>
  cases s with
  | panic v=>exact fun h=>h
  | _=>exact fun h=>h.elim
def uz(ak:Array Oper):Bool:=ak.toList.all fun o=>match o.op with | .defer _=>As | _=>Ar
theorem XZ(h:uz ak=Ar){i:Nat}{o:Oper}(ho:ak[i]?=J o):∀c,o.op≠.defer c:=by
 intro c e;have hm:o∈ak.toList:=by rw[Array.mem_toList_iff];exact Array.mem_of_getElem? ho
 have:=LP.1 h o hm;rw[e] at this
 cases this
theorem qW(hd:uz ak=Ar)(cD:¬LetsOut Q):∀(fuel:Nat) (ag:Array Bool) (a:Act) (w:Ba),wpAny P md ak Q fuel ag a w->wpAnyIn (Fence.wide.inRound l) n P md ak Q fuel ag a w
 | 0,_,_,_,h=>h
 | fuel+1,ag,a,w,h=>by
  refine⟨h.1,fun i hi=>?_⟩;have h2:=h.2 i hi;unfold wpOp at h2;unfold wpOpIn
  cases ho:ak[i]? with
  | none=>rw[ho] at h2;exact qW hd cD fuel _ _ _ h2
  | some o=>
   rw[ho] at h2;dsimp only at h2 ⊢
   by_cases hw:Region.wanted o (yielded ak a.tmps)=Ar
   . rw[Lo hw] at h2 ⊢
     rcases h2 with h2 | h2
     . exact op_round (XZ hd ho) (Oper.wp_mono (fun a' w' hk=>qW hd cD fuel _ _ _ hk) h2)
     . exact absurd h2.2 cD
   . rw[Li hw] at h2 ⊢
     exact⟨fun _ _=>trivial,qW hd cD fuel _ _ _ h2⟩
theorem any_still{n:Nat}{w:Ba}{a:Act}{xs:List Oper}(hB:Region.lexTailB .any xs.toArray n=Ar)
  (h:wpStill P xs.toArray w (fun a'=>wpList P xs.toArray Q (xs.drop n) a' w) (xs.take n) a):wpAny P .any xs.toArray Q xs.toArray.size (Array.replicate xs.toArray.size As) a w:=by
 unfold Region.lexTailB at hB;simp only[Bool.and_eq_true,decide_eq_true_eq] at hB;have hn:n<xs.length:=by simpa using hB.1.1.1.2
 have e1:(xs.take n).length=n:=by rw[NS];omega
 have e2:(xs.drop n).length=xs.toArray.size-n:=by rw[List.length_drop];rfl
 have hI:HeadInv .any xs.toArray n (Array.replicate xs.toArray.size As):=
  ⟨by simp,fun _ _ _ hl=>(by rw[Ra] at hl;exact Bool.noConfusion hl),fun _ _ ht=>getD_in (by simpa using ht) (Ra _ _)⟩
 have H:=wpAnyL_lex (md:=.any) (g:=xs.toArray.size-n) hB.1.1.1.1 hB.1.1.2 hB.1.2 hB.1.1.1.2 (xs.take n) 0 _ a
  (fun j hj=>by
   rw[e1] at hj
   simp[hj]) (by simpa using e1) hI (by rw[e1];exact hB.2) h
 have R:=wpAny_of_head (Q':=Q) (g:=xs.toArray.size-n) (fun ag a' hL=>by
  have T:=wpAny_of_seq (md:=.any) (Q':=Q) (xs.drop n) n ag a' w (fun j=>by simp[List.getElem?_drop]) (by rw[e2];exact hL.1) hL.2
  rwa[e2] at T) _ _ _ H
 rw[e1] at R;have e3:n+(xs.toArray.size-n)=xs.toArray.size:=by have:xs.toArray.size=xs.length:=rfl;omega
 rwa[e3] at R
theorem jz{id k:Nat}{a:Act}{w:Ba}{xs:List Oper}(n:Nat)(hm:P.follows .mixedOrders=Ar)(hd:uz xs.toArray=Ar)(hB:Region.lexTailB .any xs.toArray n=Ar)(cD:¬LetsOut Q)
  (h:wpStill P xs.toArray w.drew (fun a'=>wpList P xs.toArray Q (xs.drop n) a' w.drew) (xs.take n) a):(Code.region id xs.toArray Ar).wpIn (Fence.wide.inRound l) k P Q a w:=
 wpIn_region_any hm (qW hd cD _ _ _ _ (any_still hB h))
end
end
section
open Go.RowKit
section
variable {P:Program} {ak:Array Oper} {md:Region.Mode}
def Qf:Exit->Act->Ba->Prop:=fun _ _ _=>False
theorem QQ:¬LetsOut Qf:=fun ⟨_,_,h⟩=>h
theorem wp_of_qf{o:Oper}{a:Act}{w:Ba}{K:Act->Ba->Prop}{Q:Exit->Act->Ba->Prop}(hh:o.wp P a w K Qf):o.wp P a w K Q:=by
 unfold Oper.wp at *
 generalize (execOp a.eval o).run P w=r at *
 cases r with
 | ok n w'=>
  cases n<;>simp only[Oper.upon] at hh⊢<;>
   first
    | exact hh
    | exact Calls.mono hh (fun e DD he=>by
      cases e with
      | returned v=>exact he
      | panicked c=>exact False.elim he
      | outgrown=>exact absurd he QQ)
 | halt x w'=>cases x<;>simp only[Oper.upon] at hh ⊢<;>exact False.elim hh
def Qa(P:Program)(ak:Array Oper)(i:Nat)(K:Act->Ba->Prop)(a:Act)(w:Ba):Prop:=
 ∃o,ak[i]?=J o/\if Region.wanted o (yielded ak a.tmps)=Ar then o.wp P a w K Qf else K (a.put o.dst undef) w
theorem Zh{i:Nat}{K K':Act->Ba->Prop}{a:Act}{w:Ba}(h:∀a w,K a w->K' a w)(hh:Qa P ak i K a w):Qa P ak i K' a w:=by
 obtain⟨o,ho,hh⟩:=hh;refine⟨o,ho,?_⟩
 split at hh
 . rename_i hw;rw[Lo hw];exact Oper.wp_mono h hh
 rename_i hw;rw[Li hw];exact h _ _ hh
def QI(md:Region.Mode)(ak:Array Oper):Nat->Nat->Nat->Bool
 | 0,_,_=>As
 | f+1,j,i=>match ak[j]? with
  | some o=>o.after.any fun e=>Region.binds md e&&(e.on==i||QI md ak f e.on i)
  | none=>As
def Yq(md:Region.Mode)(ak:Array Oper)(F:List Nat)(j:Nat):Bool:=F.all fun i=>QI md ak ak.size j i
def Closed(md:Region.Mode)(ak:Array Oper)(ag:Array Bool):Prop:=∀(j:Nat) (oj:Oper),ak[j]?=J oj->ag.getD j As=Ar->∀e∈oj.after,Region.binds md e=Ar->ag.getD e.on As=Ar
theorem Closed.set{ag:Array Bool}(h:Closed md ak ag){i:Nat}(hi:i∈Region.ready md ak ag):Closed md ak (ag.setIfInBounds i Ar):=by
 obtain⟨_,oi,Vd,aT⟩:=RD.1 hi;intro j oj hj hl e he hb
 by_cases GI:i=j
 . subst GI
   have:oj=oi:=Py (hj.symm.trans Vd);subst this;exact getD_set_true (aT e he hb)
 rw[getD_set_ne As GI] at hl;exact getD_set_true (h j oj hj hl e he hb)
theorem vP{ag:Array Bool}(h:Closed md ak ag):∀(f j i:Nat),(∀oj,ak[j]?=J oj->∀e∈oj.after,Region.binds md e=Ar->ag.getD e.on As=Ar)->QI md ak f j i=Ar->ag.getD i As=Ar
 | 0,_,_,_,hr=>by cases hr
 | f+1,j,i,hj,hr=>by
  unfold QI at hr
  cases ho:ak[j]? with
  | none=>rw[ho] at hr;cases hr
  | some o=>
   rw[ho] at hr;obtain⟨e,he,hb⟩:=Array.any_eq_true'.1 hr;simp only[Bool.and_eq_true,Bool.or_eq_true,beq_iff_eq] at hb;have hl:=hj o ho e he hb.1;rcases hb.2 with h1 | h1
   . rw[<-h1];exact hl
   . exact vP h f e.on i (fun oj Az e' rY dn=>h e.on oj Az hl e' rY dn) h1
theorem Yp{ag:Array Bool}(h:Closed md ak ag){F:List Nat}{j i:Nat}(hj:j∈Region.ready md ak ag)(hs:Yq md ak F j=Ar)(hi:i∈F):ag.getD i As=Ar:=by
 obtain⟨_,oj,Az,aT⟩:=RD.1 hj;refine vP h ak.size j i (fun o ho e he hb=>?_) (LP.1 hs i hi);have:oj=o:=Py (Az.symm.trans ho);subst this;exact aT e he hb
def uE(P:Program)(md:Region.Mode)(ak:Array Oper)(F:List Nat)(Q:Act->Ba->Prop):Nat->Array Bool->(Ba->Prop)->Act->Ba->Prop
 | 0,ag,_,a,w=>Region.ready md ak ag=[]/\Q a w
 | fuel+1,ag,Kp,a,w=>(Region.ready md ak ag=[]->Q a w) /\
   ∀i∈Region.ready md ak ag,Qa P ak i (fun a' w'=>∃ey:Ba->Prop,((∀W,ey W->Kp W)\/Yq md ak F i=Ar)/\ey w'/\uE P md ak F Q fuel (ag.setIfInBounds i Ar) ey a' w') a w
theorem jv{F:List Nat}{Q:Exit->Act->Ba->Prop}{Qn:Act->Ba->Prop}(hQ:∀a w,Qn a w->Q .normal a w):∀(fuel:Nat) (ag:Array Bool) (Kp:Ba->Prop) (a:Act) (w:Ba),
  uE P md ak F Qn fuel ag Kp a w->wpAny P md ak Q fuel ag a w
 | 0,_,_,_,_,h=>⟨h.1,hQ _ _ h.2⟩
 | fuel+1,ag,Kp,a,w,h=>by
  refine⟨fun h0=>hQ _ _ (h.1 h0),fun i hi=>?_⟩;obtain⟨o,ho,h2⟩:=h.2 i hi;unfold wpOp;rw[ho];dsimp only
  split at h2
  . rename_i hw
    rw[Lo hw];exact .inl (Oper.wp_mono (fun a' w' ⟨ey,_,_,h3⟩=>jv hQ fuel _ ey a' w' h3) (wp_of_qf h2))
  . rename_i hw
    rw[Li hw];obtain⟨ey,_,_,h3⟩:=h2;exact jv hQ fuel _ ey _ _ h3
def FloatTo(P:Program)(ak:Array Oper)(Kp:Ba->Prop)(o:Oper)(a a1:Act):Prop:=∀W,Kp W->∃v,YieldsAt P ak W o v a/\a.put o.dst v=a1
theorem FloatTo.less{Kp ey:Ba->Prop}{o:Oper}{a a1:Act}(h:FloatTo P ak Kp o a a1)(hs:∀W,ey W->Kp W):FloatTo P ak ey o a a1:=fun W hW=>h W (hs W hW)
theorem vi(a:Act)(d:Option Tmp)(v:Aq)(x:Deferred):({ a.put d v with defers:=x::(a.put d v).defers }:Act)=({ a with defers:=x::a.defers }:Act).put d v:=by
 cases d<;>rfl
theorem kpOp_put{j:Nat}{oi oj:Oper}{Kp:Ba->Prop}(hj:ak[j]?=J oj)(Ws:oi.apart ak oj=Ar)
  (U2:∀cs b,oi.op≠.select cs b) (U1:∀cs b,oj.op≠.select cs b) {K:Act->Ba->Prop} {a a1:Act} {w:Ba}
  (hy:FloatTo P ak Kp oi a a1) (hk:Kp w) (h:Qa P ak j K a1 w) :
  Qa P ak j (fun a' w'=>∃Hg,FloatTo P ak Kp oi a' Hg/\K Hg w') a w:=by
 obtain⟨h1,h2,h3⟩:=Oper.apart_spec Ws;obtain⟨v,hv,rfl⟩:=hy w hk
 have keep:∀u,FloatTo P ak Kp oi (a.put oj.dst u) ((a.put oi.dst v).put oj.dst u):=fun u W hW=>by
  obtain⟨v',ID,e⟩:=hy W hW;exact⟨v',ID.of_same (execOp_put oi U2 a oj.dst u h3) (wanted_put oi a oj.dst u h3),by rw[<-Act.put_comm a v' u h2,e]⟩
 have DG:∀(x:Deferred) u,FloatTo P ak Kp oi (({ a with defers:=x::a.defers }:Act).put oj.dst u) ((({ a.put oi.dst v with defers:=x::(a.put oi.dst v).defers }:Act)).put oj.dst u):=fun x u W hW=>by
  obtain⟨v',ID,e⟩:=keep u W hW;rw[<-vi a oj.dst u x,<-vi (a.put oi.dst v) oj.dst u x];refine⟨v',ID.of_same rfl rfl,?_⟩;rw[<-vi,e]
 obtain⟨o,ho,h⟩:=h;have:oj=o:=Py (hj.symm.trans ho);subst this;refine⟨oj,hj,?_⟩;rw[wanted_put oj a oi.dst v h1] at h
 split
 . rename_i hw
   rw[Lo hw] at h;unfold Oper.wp at *;rw[execOp_put oj U1 a oi.dst v h1] at h
   generalize (execOp a.eval oj).run P w=r at *
   cases r with
   | ok n w'=>
    cases n<;>simp only[Oper.upon] at h ⊢
    case value u=>exact⟨_,keep u,h⟩
    case skip=>exact⟨_,keep undef,h⟩
    case defer d=>exact⟨_,DG d undef,h⟩
    case enter f args=>
     exact Calls.mono h (fun e DD he=>by
       cases e with
       | returned u=>exact⟨_,keep u,he⟩
       | panicked c=>exact False.elim he
       | outgrown=>exact absurd he QQ)
    case row row args=>exact Rows.mono h (fun u DD he=>⟨_,keep u,he⟩)
   | halt x w'=>cases x<;>simp only[Oper.upon] at h ⊢<;>exact h
 rename_i hw;rw[Li hw] at h;exact⟨_,keep undef,h⟩
theorem vM{i:Nat}{o:Oper}{v:Aq}{a:Act}{w:Ba}(hi:ak[i]?=J o)(hy:YieldsAt P ak w o v a){K:Act->Ba->Prop}(h:K (a.put o.dst v) w):Qa P ak i K a w:=by
 refine⟨o,hi,?_⟩;rcases hy with ⟨hw,hv | ⟨hv,rfl⟩ | ⟨f,args,hv,hc⟩⟩ | ⟨hw,rfl⟩
 . rw[Lo hw];unfold Oper.wp;rw[hv];exact h
 . rw[Lo hw];unfold Oper.wp;rw[hv];exact h
 . rw[Lo hw];unfold Oper.wp;rw[hv]
   exact hc.mono fun e DD ⟨he,cd⟩=>by subst he;subst cd;exact h
 rw[Li (by rw[hw];decide)];exact h
theorem ZA{F:List Nat}{Q:Act->Ba->Prop}{i:Nat}{oi:Oper}(hF:i∈F)(hi:ak[i]?=J oi)(DX:∀(j:Nat) (o:Oper) cs b,ak[j]?=J o->o.op≠.select cs b) :
  ∀(fuel:Nat) (ag:Array Bool) (Kp:Ba->Prop) (a a1:Act) (w:Ba),
   (∀j oj,ak[j]?=J oj->j≠i->ag.getD j Ar=As->(∀e∈oj.after,Region.binds md e=Ar->e.on≠i)->oi.apart ak oj=Ar) ->
   Closed md ak ag->i∈Region.ready md ak ag->FloatTo P ak Kp oi a a1->Kp w ->
   uE P md ak F Q fuel (ag.setIfInBounds i Ar) Kp a1 w->uE P md ak F Q (fuel+1) ag Kp a w:=by
 intro fuel
 induction fuel with
 | zero=>
  intro ag Kp a a1 w _ _ hr hy hk H;refine⟨fun h=>(by rw[h] at hr;cases hr),fun j hj=>?_⟩
  by_cases pR:j=i
  . subst pR
    obtain⟨v,hv,rfl⟩:=hy w hk;exact vM hi hv ⟨Kp,.inl fun _ h=>h,hk,H⟩
  . have:=ready_mono hj pR
    rw[H.1] at this
    cases this
 | succ fuel ih=>
  intro ag Kp a a1 w tc aw hr hy hk H;refine⟨fun h=>(by rw[h] at hr;cases hr),fun j hj=>?_⟩
  by_cases pR:j=i
  . subst pR
    obtain⟨v,hv,rfl⟩:=hy w hk;exact vM hi hv ⟨Kp,.inl fun _ h=>h,hk,H⟩
  . have h1:=H.2 j (ready_mono hj pR)
    obtain⟨EF,oj,Az,aT⟩:=RD.1 hj
    have J':∀e∈oj.after,Region.binds md e=Ar->e.on≠i:=fun e he hb iZ=>by
     have h1:=aT e he hb;have h0:=(RD.1 hr).1;rw[iZ] at h1;rcases Nat.lt_or_ge i ag.size with h' | h'
     . simp[h'] at h0 h1;rw[h0] at h1;cases h1
     . simp[Array.getElem?_eq_none h'] at h1
    have h2:=kpOp_put Az (tc j oj Az pR EF J') (fun cs b=>DX i oi cs b hi) (fun cs b=>DX j oj cs b Az) hy hk h1
    have AU:∀k ok,ak[k]?=J ok->k≠i->(ag.setIfInBounds j Ar).getD k Ar=As ->
      (∀e∈ok.after,Region.binds md e=Ar->e.on≠i)->oi.apart ak ok=Ar:=fun k ok hk CT Gu cD=>by
     refine tc k ok hk CT ?_ cD
     by_cases CU:j=k
     . subst CU;exact EF
     . rw[getD_set_ne Ar CU] at Gu;exact Gu
    have Vf:Yq md ak F j=Ar->False:=fun Gw=>by
     have h1:=Yp aw hj Gw hF;have h0:=(RD.1 hr).1;rcases Nat.lt_or_ge i ag.size with h' | h'
     . simp[h'] at h0 h1;rw[h0] at h1;cases h1
     . simp[Array.getElem?_eq_none h'] at h1
    refine Zh (fun a' w' ⟨Hg,hf,ey,fz,dw,h3⟩=>⟨ey,fz,dw,ih (ag.setIfInBounds j Ar) ey a' Hg w' AU (aw.set hj) (ready_mono hr (PD pR)) (hf.less (fz.resolve_right Vf)) dw ?_⟩) h2;rw[Array.setIfInBounds_comm _ _ pR];exact h3
def qI(P:Program)(md:Region.Mode)(ak:Array Oper)(F:List Nat)(Q:Act->Ba->Prop):List (Nat×Bool)->(Ba->Prop)->Act->Ba->Prop
 | [],_,a,w=>Q a w
 | (i,Ar)::r,Kp,a,w=>∃o a1,ak[i]?=J o/\FloatTo P ak Kp o a a1/\qI P md ak F Q r Kp a1 w
 | (i,As)::r,Kp,a,w=>Qa P ak i (fun a' w'=>∃ey:Ba->Prop,((∀W,ey W->Kp W)\/Yq md ak F i=Ar)/\ey w'/\qI P md ak F Q r ey a' w') a w
def X3(md:Region.Mode)(ak:Array Oper)(F:List Nat):List (Nat×Bool)->Array Bool->Bool
 | [],ag=>(Region.ready md ak ag).isEmpty
 | (i,Ar)::r,ag=>F.contains i&&(Region.ready md ak ag).contains i&&Region.free md ak ag i&&X3 md ak F r (ag.setIfInBounds i Ar)
 | (i,As)::r,ag=>decide (Region.ready md ak ag=[i])&&X3 md ak F r (ag.setIfInBounds i Ar)
theorem jw{F:List Nat}{Q:Act->Ba->Prop}(hs:Region.noSelect ak=Ar):∀(l:List (Nat×Bool)) (ag:Array Bool) (Kp:Ba->Prop) (a:Act) (w:Ba),
  X3 md ak F l ag=Ar->Closed md ak ag->Kp w->qI P md ak F Q l Kp a w->uE P md ak F Q l.length ag Kp a w
 | [],_,_,_,_,hB,_,_,h=>⟨by simpa[X3] using hB,h⟩
 | (i,Ar)::l,ag,Kp,a,w,hB,aw,hk,h=>by
  simp only[X3,Bool.and_eq_true] at hB;obtain⟨o,a1,ho,hf,h⟩:=h;have hr:i∈Region.ready md ak ag:=by simpa using hB.1.1.2
  exact ZA (by simpa using hB.1.1.1) ho (Region.noSelect_spec hs) l.length ag Kp a a1 w (Region.free_spec ho hB.1.2) aw hr hf hk (jw hs l _ Kp a1 w hB.2 (aw.set hr) hk h)
 | (i,As)::l,ag,Kp,a,w,hB,aw,hk,h=>by
  simp only[X3,Bool.and_eq_true,decide_eq_true_eq] at hB;refine⟨fun h1=>(by rw[hB.1] at h1;cases h1),fun j hj=>?_⟩;rw[hB.1] at hj;have pR:j=i:=by simpa using hj
  subst pR;exact Zh (fun a' w' ⟨ey,fz,dw,h3⟩=>⟨ey,fz,dw,jw hs l _ ey a' w' hB.2 (aw.set (by rw[hB.1];simp)) dw h3⟩) h
def j5(l:List (Nat×Bool)):List Nat:=l.filterMap fun x=>if x.2 then J x.1 else Z
theorem Xh:Closed md ak (Array.replicate ak.size As):=fun j _ _ h=>by rw[Ra] at h;cases h
def ZX(md:Region.Mode)(ak:Array Oper)(l:List (Nat×Bool)):Bool:=Region.noSelect ak&&X3 md ak (j5 l) l (Array.replicate ak.size As)&&l.length==ak.size
theorem Je{Q:Exit->Act->Ba->Prop}{a:Act}{w:Ba}{xs:List Oper}(l:List (Nat×Bool))(Kp:Ba->Prop)(hB:ZX .any xs.toArray l=Ar)
  (h0:Kp w) (h:qI P .any xs.toArray (j5 l) (fun a' w'=>Q .normal a' w') l Kp a w):wpAny P .any xs.toArray Q xs.toArray.size (Array.replicate xs.toArray.size As) a w:=by
 unfold ZX at hB;simp only[Bool.and_eq_true,beq_iff_eq] at hB;have:=jw (md:=.any) hB.1.1 l _ Kp a w hB.1.2 Xh h0 h;rw[hB.2] at this;exact jv (fun _ _ h=>h) _ _ _ _ _ this
theorem zk{id:Nat}{Q:Exit->Act->Ba->Prop}{a:Act}{w:Ba}{xs:List Oper}(l:List (Nat×Bool))(Kp:Ba->Prop)(hm:P.follows .mixedOrders=Ar)(hB:ZX .any xs.toArray l=Ar)
  (h0:Kp w.drew) (h:qI P .any xs.toArray (j5 l) (fun a' w'=>Q .normal a' w') l Kp a w.drew):(Code.region id xs.toArray Ar).wp P Q a w:=
 wp_region_any hm (Je l Kp hB h0 h)
theorem qM{id k l0:Nat}{Q:Exit->Act->Ba->Prop}{a:Act}{w:Ba}{xs:List Oper}(l:List (Nat×Bool))(Kp:Ba->Prop)(hm:P.follows .mixedOrders=Ar)(hd:uz xs.toArray=Ar)(hB:ZX .any xs.toArray l=Ar)(cD:¬LetsOut Q)
  (h0:Kp w.drew) (h:qI P .any xs.toArray (j5 l) (fun a' w'=>Q .normal a' w') l Kp a w.drew):(Code.region id xs.toArray Ar).wpIn (Fence.wide.inRound l0) k P Q a w:=
 wpIn_region_any hm (qW hd cD _ _ _ _ (Je l Kp hB h0 h))
theorem zy{F:List Nat}{Q:Act->Ba->Prop}{i:Nat}{r:List (Nat×Bool)}{Kp:Ba->Prop}{a a1:Act}{w:Ba}{o:Oper}(ho:ak[i]?=J o)
  (h:∀(K:Act->Prop),K a1->∀W,Kp W->if Region.wanted o (yielded ak a.tmps)=Ar then o.still P a W K else K (a.put o.dst undef))
  (k:qI P md ak F Q r Kp a1 w):qI P md ak F Q ((i,Ar)::r) Kp a w:=by
 refine⟨o,a1,ho,fun W hW=>?_,k⟩;have h2:=h (fun x=>x=a1) rfl W hW;have h3:stOp P ak W i (fun x=>x=a1) a:=by unfold stOp;simp only[ho];exact h2
 obtain⟨v,hv,he⟩:=yieldsAt_of_stOp ho h3;exact⟨v,hv,he⟩
theorem zt{F:List Nat}{Q:Act->Ba->Prop}{i:Nat}{r:List (Nat×Bool)}{Kp:Ba->Prop}{a:Act}{w:Ba}{o:Oper}(ho:ak[i]?=J o)
  (h:∀K:Act->Ba->Prop,(∀a' w',Kp w'->qI P md ak F Q r Kp a' w'->K a' w')->if Region.wanted o (yielded ak a.tmps)=Ar then o.wp P a w K Qf else K (a.put o.dst undef) w):qI P md ak F Q ((i,As)::r) Kp a w:=
 ⟨o,ho,h _ fun _ _ hk h3=>⟨Kp,.inl fun _ h=>h,hk,h3⟩⟩
theorem zE{F:List Nat}{Q:Act->Ba->Prop}{Kp:Ba->Prop}{a:Act}{w:Ba}(h:Q a w):qI P md ak F Q [] Kp a w:=h
theorem yN{F:List Nat}{Q:Act->Ba->Prop}{i:Nat}{r:List (Nat×Bool)}{Kp:Ba->Prop}{a:Act}{w:Ba}{o:Oper}(ho:ak[i]?=J o)(hs:Yq md ak F i=Ar)
  (h:∀K:Act->Ba->Prop,(∀(ey:Ba->Prop) a' w',ey w'->qI P md ak F Q r ey a' w'->K a' w')->if Region.wanted o (yielded ak a.tmps)=Ar then o.wp P a w K Qf else K (a.put o.dst undef) w):qI P md ak F Q ((i,As)::r) Kp a w:=
 ⟨o,ho,h _ fun ey _ _ hk h2=>⟨ey,.inr hs,hk,h2⟩⟩
end
end
section
open Go.RowKit
def zU(a:Ad):Nat->Int->Nat
 | 0,_=>1
 | k+1,s=>((a.at_ s).map fun m=>zU a k m.to).sum
def yy(L x:Nat):Nat:=min x (L+1)
def cl(a:Ad)(L k s:Nat):List Int:=(List.range s).map fun (j:Nat)=>((yy L (zU a k (j:Int)):Nat):Int)
theorem kj(a:Ad)(L k s:Nat):(cl a L k s).length=s:=by unfold cl;simp
theorem Q5(a:Ad)(L k s:Nat):cl a L k (s+1)=cl a L k s++[((yy L (zU a k (s:Int)):Nat):Int)]:=by
 unfold cl;rw[RI,LF];rfl
theorem wY(a:Ad)(L k s j:Nat)(h:j<(cl a L k s).length):(cl a L k s)[j]=((yy L (zU a k (j:Int)):Nat):Int):=by
 simp[cl]
def qJ(a:Ad)(k:Nat)(M:List Mv)(j:Nat):Nat:=((M.take j).map fun m=>zU a k m.to).sum
theorem Xz(a:Ad)(k:Nat)(M:List Mv):qJ a k M 0=0:=by unfold qJ;rw[LI];rfl
theorem XA(a:Ad)(k:Nat)(M:List Mv){j:Nat}(h:j<M.length):qJ a k M (j+1)=qJ a k M j+zU a k M[j].to:=by
 unfold qJ;rw[Ls h,LF,RH];simp
theorem Jp(a:Ad)(k:Nat){s:Nat}(h:s<a.sts.length):qJ a k a.sts[s] (a.sts[s].length)=zU a (k+1) (s:Int):=by
 unfold qJ;rw[zU,LC,show a.at_ (s:Int)=a.sts[s] by unfold Ad.at_;rw[Lj,Le,Lf h];rfl]
theorem vf(L x:Nat):yy L x<=L+1:=Nat.min_le_right _ _
theorem QN(L x y:Nat):min (yy L x+yy L y) (L+1)=yy L (x+y):=by unfold yy;omega
theorem Yr(L:Nat):yy L 0=0:=by unfold yy;omega
theorem QL(L:Nat):yy L 1=1:=by unfold yy;omega
theorem sat_gt(L x:Nat):(L<yy L x)↔L<x:=by unfold yy;omega
theorem sat_eq{L x:Nat}(h:x<=L):yy L x=x:=by unfold yy;omega
theorem QM(L c x:Nat)(hc:1<=c):(L<c*yy L x)↔L<c*x:=by
 unfold yy
 by_cases h:x<=L+1
 . rw[Pz h]
 rw[Nat.min_eq_right (by omega)];have h1:1*(L+1)<=c*(L+1):=Rc _ hc;have h2:c*(L+1)<=c*x:=Nat.mul_le_mul_left _ (by omega);constructor<;>intro _<;>omega
def zC(a:Ad):Nat->Int->List (List Rd)
 | 0,_=>[[]]
 | k+1,s=>(a.at_ s).flatMap fun m=>(zC a k m.to).map (m.r::·)
theorem yj(a:Ad):∀(k:Nat) (s:Int),(zC a k s).length=zU a k s
 | 0,_=>rfl
 | k+1,s=>by
  rw[zC,zU,List.length_flatMap]
  congr 1
  exact Pe fun m _=>by rw[LJ,yj a k m.to]
theorem yK(a:Ad):∀(k:Nat) (s:Int),∀w∈zC a k s,w.length=k
 | 0,_,w,h=>by simp[zC] at h;subst h;rfl
 | k+1,s,w,h=>by
  rw[zC] at h;obtain⟨m,_,hm⟩:=Ny.1 h;obtain⟨w',hw,rfl⟩:=LO.1 hm;rw[LD,yK a k m.to w' hw]
theorem at_mem{a:Ad}{s:Int}{m:Mv}(h:m∈a.at_ s):m∈a.mvs:=by
 unfold Ad.at_ at h;unfold Ad.mvs;rw[Le] at h
 cases hc:a.sts[s.toNat]? with
 | none=>rw[hc] at h;cases h
 | some l=>rw[hc] at h;exact Nq.2 ⟨l,Re hc,h⟩
theorem qY(a:Ad):∀(k:Nat) (s:Int),∀w∈zC a k s,∀r∈w,∃m∈a.mvs,m.r=r
 | 0,_,w,h,r,hr=>by simp[zC] at h;subst h;cases hr
 | k+1,s,w,h,r,hr=>by
  rw[zC] at h;obtain⟨m,Vn,hm⟩:=Ny.1 h;obtain⟨w',hw,rfl⟩:=LO.1 hm;rcases L9.1 hr with rfl | hr
  . exact⟨m,at_mem Vn,rfl⟩
  . exact qY a k m.to w' hw r hr
def zQ(r:Rd)(p:Nat)(now:List Int)(q:Nat):Int:=if q<now.length/\(r.h p).toNat.testBit q=Ar then now.getD q 0 else -1
def xk(r:Rd)(k p:Nat)(now:List Int):Vw:=⟨p,k,0,zQ r p now 0,zQ r p now 1,zQ r p now 2,zQ r p now 3,zQ r p now 4⟩
def yi(p:Nat)(i:Int):Vw:=⟨p,0,i,-1,-1,-1,-1,-1⟩
def xn(vs:List Vw)(v:Vw):List Vw×Int:=if v∈vs then (vs,qr vs v) else (vs++[v],vs.length)
theorem YG{vs:List Vw}{v:Vw}(h:v∈vs):xn vs v=(vs,qr vs v):=Lo h
theorem QR{vs:List Vw}{v:Vw}(h:v∉vs):xn vs v=(vs++[v],(vs.length:Int)):=Li h
theorem putW_len(vs:List Vw)(v:Vw):(xn vs v).1.length<=vs.length+1:=by
 unfold xn;split<;>simp
def zY(f:Nat->Vw)(vs:List Vw):Nat->List Vw×List Int
 | 0=>(vs,[])
 | p+1=>((xn (zY f vs p).1 (f p)).1,(zY f vs p).2++[(xn (zY f vs p).1 (f p)).2])
theorem yW(f:Nat->Vw)(vs:List Vw):∀p,(zY f vs p).2.length=p
 | 0=>rfl
 | p+1=>by rw[zY,Lu,yW f vs p];rfl
theorem qL(f:Nat->Vw)(vs:List Vw):∀p,(zY f vs p).1.length<=vs.length+p
 | 0=>by simp[zY]
 | p+1=>by
  have h:=qL f vs p;have h2:=putW_len (zY f vs p).1 (f p);rw[zY];dsimp only;omega
def zr(vs:List Vw)(n:Nat)(inp:List Int)(word:List Rd):Nat->List Vw×List (List Int)
 | 0=>((zY (fun p=>yi p (inp.getD p 0)) vs n).1,[(zY (fun p=>yi p (inp.getD p 0)) vs n).2])
 | j+1=>((zY (fun p=>xk (word.getD j default) (j+1) p ((zr vs n inp word j).2.getD j [])) (zr vs n inp word j).1 n).1,
   (zr vs n inp word j).2++[(zY (fun p=>xk (word.getD j default) (j+1) p ((zr vs n inp word j).2.getD j [])) (zr vs n inp word j).1 n).2])
theorem yg(vs:List Vw)(n:Nat)(inp:List Int)(word:List Rd):∀j,(zr vs n inp word j).2.length=j+1
 | 0=>rfl
 | j+1=>by rw[zr,Lu,yg vs n inp word j];rfl
theorem qN(vs:List Vw)(n:Nat)(inp:List Int)(word:List Rd):∀j,(zr vs n inp word j).1.length<=vs.length+(j+1)*n
 | 0=>by rw[zr];have:=qL (fun p=>yi p (inp.getD p 0)) vs n;simpa using this
 | j+1=>by
  have h:=qN vs n inp word j;have h2:=qL (fun p=>xk (word.getD j default) (j+1) p ((zr vs n inp word j).2.getD j [])) (zr vs n inp word j).1 n;rw[zr,PU (j+1) 1 n];dsimp only;omega
theorem qh(vs:List Vw)(n:Nat)(inp:List Int)(word:List Rd):∀j,∀l∈(zr vs n inp word j).2,l.length=n
 | 0,l,h=>by rw[zr] at h;simp at h;subst h;exact yW _ _ _
 | j+1,l,h=>by
  rw[zr] at h;rcases L8.1 h with h | h
  . exact qh vs n inp word j l h
  . simp at h;subst h;exact yW _ _ _
def zu(p:Pb):List (Nat×List Rd):=(List.range p.t.cases.length).flatMap fun i=>(zC p.a p.k.toNat 0).map fun w=>(i,w)
def yc(p:Pb)(i:Nat):List Int:=(p.t.cases.getD i default).inp
def zx(p:Pb)(l:List (Nat×List Rd)):List Vw×List Exn:=
 l.foldl (fun s x=>((zr s.1 p.t.n.toNat (yc p x.1) x.2 x.2.length).1,s.2++[⟨x.1,x.2,(zr s.1 p.t.n.toNat (yc p x.1) x.2 x.2.length).2⟩])) ([],[])
theorem kC(p:Pb):zx p []=([],[]):=rfl
theorem xH(p:Pb)(l:List (Nat×List Rd))(x:Nat×List Rd):zx p (l++[x]) =
  ((zr (zx p l).1 p.t.n.toNat (yc p x.1) x.2 x.2.length).1,(zx p l).2++[⟨x.1,x.2,(zr (zx p l).1 p.t.n.toNat (yc p x.1) x.2 x.2.length).2⟩]):=by
 unfold zx;rw[PV];rfl
def xC:Sy:=⟨⟨⟨0,0,0,[]⟩,⟨0,[]⟩,0⟩,0,[],[]⟩
def zz(p:Pb):Sy:=⟨p,p.t.n,(zx p (zu p)).1,(zx p (zu p)).2⟩
end
section
open Go.RowKit
def RowX{α:Type}(C:Ct α)(S:Nat->Prop)(w:Ba)(g:Nat)(xs:List α):Prop:=
 ∃dM,w.heap[g]?=J (Ag dM C.K.e (0,0))/\∀(i:Nat) (hi:i<xs.length),∃cs,C.lies (fun k=>S k/\k≠g) w cs xs[i]/\∀j u,cs[j]?=J u->dM[i*C.K.size+j]?=J u
section
variable {α:Type} {C:Ct α} {S S':Nat->Prop} {w w':Ba} {g:Nat} {xs:List α}
theorem RowX.keep(ok:CtOk C)(h:RowX C S w g xs)(hk:KeepB (fun k=>S k/\k≠g) w w')(hg:w'.heap[g]?=w.heap[g]?):RowX C S w' g xs:=by
 obtain⟨dM,h1,h2⟩:=h;refine⟨dM,hg.trans h1,fun i hi=>?_⟩;obtain⟨cs,h3,h4⟩:=h2 i hi;exact⟨cs,ok.keep h3 hk,h4⟩
theorem RowX.below(ok:CtOk C){B:Nat}(h:RowX C S w g xs)(hb:Am B w w')(hB:w.heap.size<=B):RowX C S w' g xs:=
 h.keep ok ⟨hb.size,fun k _ hk=>hb.block k (by omega)⟩ (hb.block g (by obtain⟨dM,h1,_⟩:=h;have:=zc h1;omega))
theorem RowX.mono(ok:CtOk C)(h:RowX C S w g xs)(hm:∀k,k<w.heap.size->S k->S' k):RowX C S' w g xs:=by
 obtain⟨dM,h1,h2⟩:=h;refine⟨dM,h1,fun i hi=>?_⟩;obtain⟨cs,h3,h4⟩:=h2 i hi;exact⟨cs,ok.mono h3 fun k hk hs=>⟨hm k hk hs.1,hs.2⟩,h4⟩
theorem RowX.lt(h:RowX C S w g xs):g<w.heap.size:=by obtain⟨dM,h1,_⟩:=h;exact zc h1
theorem RowX.other(ok:CtOk C)(h:RowX C S w g xs){b:Nat}(o:Nat)(v:Aq)(hb:b≠g)(hS:¬S b):RowX C S (w.setCell ⟨b,o,Z⟩ v) g xs:=
 h.keep ok (KeepB.setCell (fun h=>hS h.1) v) (Lg w ⟨b,o,Z⟩ v g (fun e=>hb e.symm))
theorem RowX.of_own(ok:CtOk C){base n cap:Nat}{v:Aq}{cs:List Aq}(h:OwnR C.K w base v n cs)(hv:v=I (J ⟨g,0,Z⟩) n cap)(_hn:xs.length=n)
  (hc:∀(i:Nat) (hi:i<xs.length),∃d,C.lies (fun k=>S k/\k≠g) w d xs[i]/\∀j u,d[j]?=J u->cs[i*C.K.size+j]?=J u):RowX C S w g xs:=by
 have:=ok;subst hv;rcases h.2 with ⟨e,_⟩ | ⟨g',cap',cur,e,_,hg,_,_,_,ht⟩
 . cases e
 cases e
 refine⟨cur,hg,fun i hi=>?_⟩;obtain⟨d,h1,h2⟩:=hc i hi;refine⟨d,h1,fun j u hu=>?_⟩;have h3:=h2 j u hu;rw[<-ht,Rq] at h3
 split at h3
 . simpa using h3
 cases h3
end
theorem RowX.set3{S:Nat->Prop}{w:Ba}{g:Nat}{xs:List Cs}(h:RowX cCs S w g xs){i:Nat}(hi:i<xs.length){v0 v1 v2:Aq}(hl:cCs.lies (fun k=>S k/\k≠g) w [v0,v1,v2] xs[i]) :
  RowX cCs S (((w.setCell ⟨g,i*3,Z⟩ v0).setCell ⟨g,i*3+1,Z⟩ v1).setCell ⟨g,i*3+2,Z⟩ v2) g xs:=by
 obtain⟨dM,h1,h2⟩:=h;have k1:=Lk w g (i*3) dM _ v0 h1;have k2:=Lk _ g (i*3+1) _ _ v1 k1;have k3:=Lk _ g (i*3+2) _ _ v2 k2
 have hk:KeepB (fun k=>S k/\k≠g) w (((w.setCell ⟨g,i*3,Z⟩ v0).setCell ⟨g,i*3+1,Z⟩ v1).setCell ⟨g,i*3+2,Z⟩ v2):=
  ((KeepB.setCell (a:=⟨g,i*3,Z⟩) (fun h=>h.2 rfl) v0).trans (KeepB.setCell (a:=⟨g,i*3+1,Z⟩) (fun h=>h.2 rfl) v1)).trans (KeepB.setCell (a:=⟨g,i*3+2,Z⟩) (fun h=>h.2 rfl) v2)
 refine⟨_,k3,fun i' fj=>?_⟩
 by_cases e:i'=i
 . subst e
   obtain⟨cs,h3,h4⟩:=h2 i' fj;have an:=xu.len h3
   have hb:i'*3+2<dM.size:=by
    have hc2:2<cs.length:=by rw[an];show 2<3;omega
    have:=h4 2 cs[2] (Lf hc2);exact(Lq.1 this).1
   refine⟨[v0,v1,v2],xu.keep hl hk,fun j u hu=>?_⟩;change (((dM.setIfInBounds (i'*3) v0).setIfInBounds (i'*3+1) v1).setIfInBounds (i'*3+2) v2)[i'*3+j]?=J u
   match j,hu with
   | 0,hu=>cases hu;rw[LY (by omega),LY (by omega),Pc,NI (by omega)]
   | 1,hu=>cases hu;rw[LY (by omega),NI (by simp;omega)]
   | 2,hu=>cases hu;rw[NI (by simp;omega)]
 obtain⟨cs,h3,h4⟩:=h2 i' fj;refine⟨cs,xu.keep h3 hk,fun j u hu=>?_⟩;have hj:j<3:=by have:=(Lp.1 hu).1;rw[xu.len h3] at this;exact this
 have h5:=h4 j u hu;change dM[i'*3+j]?=J u at h5;change (((dM.setIfInBounds (i*3) v0).setIfInBounds (i*3+1) v1).setIfInBounds (i*3+2) v2)[i'*3+j]?=J u;rw[LY (by omega),LY (by omega),LY (by omega)];exact h5
theorem RowX.set1{α:Type}{C:Ct α}(ok:CtOk C)(G':C.K.size=1){S:Nat->Prop}{w:Ba}{g:Nat}{xs:List α}(h:RowX C S w g xs){i:Nat}(hi:i<xs.length){v0:Aq}(hl:C.lies (fun k=>S k/\k≠g) w [v0] xs[i]) :
  RowX C S (w.setCell ⟨g,i,Z⟩ v0) g xs:=by
 obtain⟨dM,h1,h2⟩:=h;have k1:=Lk w g i dM _ v0 h1;have hk:KeepB (fun k=>S k/\k≠g) w (w.setCell ⟨g,i,Z⟩ v0):=KeepB.setCell (a:=⟨g,i,Z⟩) (fun h=>h.2 rfl) v0;refine⟨_,k1,fun i' fj=>?_⟩;obtain⟨cs,h3,h4⟩:=h2 i' fj;have an:=ok.len h3;rw[G'] at an
 by_cases e:i'=i
 . subst e
   have hb:i'<dM.size:=by
    have:=h4 0 cs[0] (Lf (by omega));rw[G'] at this;have:=(Lq.1 this).1;omega
   refine⟨[v0],ok.keep hl hk,fun j u hu=>?_⟩;have hj:j=0:=by have:=(Lp.1 hu).1;simp at this;omega
   subst hj
   cases hu
   rw[G',NR,Pc,NI hb]
 refine⟨cs,ok.keep h3 hk,fun j u hu=>?_⟩;have hj:j=0:=by have:=(Lp.1 hu).1;omega
 subst hj;have h5:=h4 0 u hu;rw[G',NR,Pc] at h5 ⊢;rw[LY (by omega)];exact h5
theorem RowX.cat{S:Nat->Prop}{w:Ba}{g:Nat}{xs:List Cs}(h:RowX cCs S w g xs):CAt w w.heap.size (J ⟨g,0,Z⟩) xs:=fun _=>by
 obtain⟨dM,h1,h2⟩:=h;refine⟨g,0,rfl,zc h1,fun i hi=>?_⟩;obtain⟨cs,⟨A0,c0,A1,c1,A2,c2,rfl,ta,iu,fC⟩,h4⟩:=h2 i hi;refine⟨_,_,_,?_,?_,?_,⟨A0,c0,rfl,ta.iat⟩,⟨A1,c1,rfl,iu.lat⟩,⟨A2,c2,rfl,fC.lat⟩⟩
 . rw[LM];exact za h1 _ (h4 0 _ rfl)
 . rw[LM];exact za h1 _ (h4 1 _ rfl)
 . rw[LM];exact za h1 _ (h4 2 _ rfl)
theorem RowX.sat{S:Nat->Prop}{w:Ba}{g:Nat}{xs:List (List Mv)}(h:RowX cMl S w g xs):SAt w w.heap.size (J ⟨g,0,Z⟩) xs:=fun _=>by
 obtain⟨dM,h1,h2⟩:=h;refine⟨g,0,rfl,zc h1,fun i hi=>?_⟩;obtain⟨cs,⟨A0,c0,rfl,ta⟩,h4⟩:=h2 i hi;refine⟨A0,c0,?_,ta.mat⟩;have:=h4 0 _ rfl;change dM[i*1+0]?=_ at this;rw[LM];exact za h1 _ (by rw[<-this];congr 1;omega)
theorem CAt.raw{w:Ba}{B:Nat}{A:Bb}{xs:List Cs}(h:CAt w B A xs)(hB:B<=w.heap.size):∃cs:List Aq,cs.length=xs.length*3/\Raw w A xs.length cs/\(∀u∈cs,u.oneCell'=Ar) /\
  ∀(i:Nat) (hi:i<xs.length),∃d,cCs.lies (fun k=>k<B) w d xs[i]/\∀j u,d[j]?=J u->cs[i*3+j]?=J u:=by
 have key:∀n,n<=xs.length->∃aI:List (List Aq),aI.length=n/\(∀c∈aI,c.length=3/\∀u∈c,u.oneCell'=Ar)/\∀(i:Nat) (hi:i<n) (hx:i<xs.length),∃d,aI[i]?=J d/\cCs.lies (fun k=>k<B) w d xs[i] /\
   ∀b off,A=J ⟨b,off,Z⟩->∀j u,d[j]?=J u->w.cell? ⟨b,off+(i*3+j),Z⟩=J u:=by
  intro n
  induction n with
  | zero=>exact fun _=>⟨[],rfl,by simp,fun i hi=>absurd hi (by omega)⟩
  | succ n ih=>
   intro hn;obtain⟨aI,c1,c2,c3⟩:=ih (by omega);obtain⟨b,off,A0,k0,A1,k1,A2,k2,e,hb,x0,x1,x2,i0,l1,l2⟩:=h.row n (by omega);refine⟨aI++[[I A0 xs[n].inp.length k0,I A1 xs[n].out.length k1,I A2 xs[n].calm.length k2]],by simp[c1],?_,fun i hi hx=>?_⟩
   . intro c hc
     rcases L8.1 hc with hc | hc
     . exact c2 c hc
     . simp at hc;subst hc
       exact⟨rfl,fun u hu=>by simp at hu;rcases hu with rfl | rfl | rfl<;>rfl⟩
   . by_cases ei:i<n
     . obtain⟨d,d1,d2⟩:=c3 i ei hx
       exact⟨d,by rw[LN (by omega)];exact d1,d2⟩
     . obtain rfl:i=n:=by omega
       refine⟨_,by rw[LK (by omega),c1,NA];rfl,⟨A0,k0,A1,k1,A2,k2,rfl,IAtS.of_iat i0 hB (fun _ h=>h),LAtS.of_lat l1 hB (fun _ h=>h),LAtS.of_lat l2 hB (fun _ h=>h)⟩,fun b' ie e' j u hu=>?_⟩;rw[e] at e';cases e'
       match j,hu with
       | 0,hu=>cases hu;exact x0
       | 1,hu=>cases hu;exact x1
       | 2,hu=>cases hu;exact x2
 obtain⟨aI,c1,c2,c3⟩:=key xs.length (Lh _);have bJ:∀c∈aI,c.length=3:=fun c hc=>(c2 c hc).1
 have td:aI.flatten.length=xs.length*3:=by
  rw[List.length_flatten,<-c1];clear c3 c1
  induction aI with
  | nil=>rfl
  | cons c aI ih=>simp only[List.map_cons,List.sum_cons,List.length_cons];rw[ih (fun d hd=>c2 d (by simp[hd])) (fun d hd=>bJ d (by simp[hd])),bJ c (by simp)];omega
 refine⟨aI.flatten,td,fun h0=>?_,fun u hu=>?_,fun i hi=>?_⟩
 . obtain⟨b,off,e,hb,_⟩:=h h0
   refine⟨b,off,e,by omega,fun j u hj=>?_⟩;have bQ:j<xs.length*3:=by rw[<-td];exact(Lp.1 hj).1
   have fj:j / 3<xs.length:=by omega
   obtain⟨d,d1,_,d3⟩:=c3 (j / 3) fj fj;have h8:j / 3*3+j % 3=j:=by omega
   have h9:=uC aI bJ (j / 3) (by omega) (j % 3) (by omega);rw[h8,hj] at h9;obtain⟨_,d4⟩:=Lp.1 d1;rw[d4] at h9;have:=d3 b off e (j % 3) u h9.symm;rwa[h8] at this
 . obtain⟨c,hc,hu⟩:=Nq.1 hu
   exact(c2 c hc).2 u hu
 obtain⟨d,d1,d2,_⟩:=c3 i hi hi;refine⟨d,d2,fun j u hu=>?_⟩;have hj:j<3:=by have:=(Lp.1 hu).1;rw[xu.len d2] at this;exact this
 obtain⟨d5,d4⟩:=Lp.1 d1;rw[uC aI bJ i d5 j hj,d4];exact hu
theorem SAt.raw{w:Ba}{B:Nat}{A:Bb}{xs:List (List Mv)}(h:SAt w B A xs)(hB:B<=w.heap.size):∃cs:List Aq,cs.length=xs.length*1/\Raw w A xs.length cs/\(∀u∈cs,u.oneCell'=Ar) /\
  ∀(i:Nat) (hi:i<xs.length),∃d,cMl.lies (fun k=>k<B) w d xs[i]/\∀j u,d[j]?=J u->cs[i*1+j]?=J u:=by
 have key:∀n,n<=xs.length->∃cs:List Aq,cs.length=n/\(∀u∈cs,u.oneCell'=Ar)/\∀(i:Nat) (hi:i<n) (hx:i<xs.length),∃A' c,cs[i]?=J (I A' xs[i].length c)/\MAtS (fun k=>k<B) w A' xs[i] /\
   ∀b off,A=J ⟨b,off,Z⟩->w.cell? ⟨b,off+i,Z⟩=J (I A' xs[i].length c):=by
  intro n
  induction n with
  | zero=>exact fun _=>⟨[],rfl,by simp,fun i hi=>absurd hi (by omega)⟩
  | succ n ih=>
   intro hn;obtain⟨cs,c1,c2,c3⟩:=ih (by omega);obtain⟨b,off,A',c,e,hb,x0,m0⟩:=h.at_ n (by omega);refine⟨cs++[I A' xs[n].length c],by simp[c1],?_,fun i hi hx=>?_⟩
   . intro u hu
     rcases L8.1 hu with hu | hu
     . exact c2 u hu
     . simp at hu;subst hu;rfl
   . by_cases ei:i<n
     . obtain⟨A2,k2,d1,d2⟩:=c3 i ei hx
       exact⟨A2,k2,by rw[LN (by omega)];exact d1,d2⟩
     . obtain rfl:i=n:=by omega
       refine⟨A',c,by rw[LK (by omega),c1,NA];rfl,MAtS.of_mat m0 hB (fun _ h=>h),fun b' ie e'=>?_⟩;rw[e] at e';cases e';exact x0
 obtain⟨cs,c1,c2,c3⟩:=key xs.length (Lh _);refine⟨cs,by omega,fun h0=>?_,c2,fun i hi=>?_⟩
 . obtain⟨b,off,e,hb,_⟩:=h h0
   refine⟨b,off,e,by omega,fun j u hj=>?_⟩;have bQ:j<xs.length:=by rw[<-c1];exact(Lp.1 hj).1
   obtain⟨A',c,d1,_,d3⟩:=c3 j bQ bQ;rw[hj] at d1;cases d1;exact d3 b off e
 obtain⟨A',c,d1,d2,_⟩:=c3 i hi hi;refine⟨[I A' xs[i].length c],⟨A',c,rfl,d2⟩,fun j u hu=>?_⟩;have hj:j=0:=by have:=(Lp.1 hu).1;simp at this;omega
 subst hj
 cases hu
 rw[NR,Pc];exact d1
end
section
open Go.RowKit
attribute [local go_sem] Oper.semAt_some
theorem QT(w:Ba)(c1:Array Aq)(t1:TypeId):∃W0,(w.alloc (Ag c1 t1)).drew=W0/\W0.heap[w.heap.size]?=J (Ag c1 t1 (0,0))/\W0.heap.size=w.heap.size+1/\Am w.heap.size w W0:=
 ⟨_,rfl,zj w _,by show(w.alloc _).heap.size=_;simp,(zN w _).drew⟩
def yB(pre:List Rd)(l:List (List Rd)):List (List Rd):=l.map (pre++·)
theorem QC(pre:List Rd):yB pre [[]]=[pre]:=by simp[yB]
theorem Xn(pre:List Rd)(r:Rd)(l:List (List Rd)):yB pre (l.map (r::·))=yB (pre++[r]) l:=by simp[yB]
def yd(a:Ad)(k:Nat)(M:List Mv)(j:Nat):List (List Rd):=(M.take j).flatMap fun m=>(zC a k m.to).map (m.r::·)
theorem jR(a:Ad)(k:Nat)(M:List Mv):yd a k M 0=[]:=by simp[yd]
theorem qb(a:Ad)(k:Nat)(M:List Mv){j:Nat}(h:j<M.length):yd a k M (j+1)=yd a k M j++(zC a k M[j].to).map (M[j].r::·):=by
 unfold yd;rw[Ls h,PB];simp
theorem vO(a:Ad)(k:Nat){s:Nat}(h:s<a.sts.length):yd a k a.sts[s] a.sts[s].length=zC a (k+1) (s:Int):=by
 unfold yd;rw[zC,LC,show a.at_ (s:Int)=a.sts[s] by unfold Ad.at_;rw[Lj,Le,Lf h];rfl]
theorem vN(a:Ad)(k:Nat)(M:List Mv)(j:Nat):(yd a k M j).length<=(yd a k M M.length).length:=by
 unfold yd;rw[LC]
 conv=>rhs;rw[<-Pp j M,PB,Lu]
 omega
def Fx(bR bO bA bF g k:Nat):Prop:=k≠bR/\k≠bO/\k≠bA/\k≠bF/\k≠g
structure FromIn(a:Ad)(K:Nat)(SV:Bb)(ks B bR bO bA bF g:Nat)(V:Aq)(pre:List Rd)(outs:List (List Rd))(w0 w:Ba):Prop where
 hR:w.heap[bR]?=J (Ag #[O U K] 3 (0,0))
 hO:w.heap[bO]?=J (Ag #[V] 109 (0,0))
 hA:w.heap[bA]?=J (Ag #[O U a.n,I SV a.sts.length ks] 27 (0,0))
 hF:w.heap[bF]?=J (Ag #[.func (.func 79) #[] #[Aj (J ⟨bR,0,Z⟩),Aj (J ⟨bO,0,Z⟩),Aj (J ⟨bA,0,Z⟩),Aj (J ⟨bF,0,Z⟩)]] 153 (0,0))
 out:OwnX cWd (Fx bR bO bA bF g) w B V outs
 ne:∀k,V.ownBlock=J k->Fx bR bO bA bF g k
 buf:OwnR kRd w B (I (J ⟨g,0,Z⟩) pre.length K) pre.length (yq pre)
 bel:Am B w0 w
theorem FromIn.fresh{a:Ad}{K:Nat}{SV:Bb}{ks B bR bO bA bF g:Nat}{V:Aq}{pre:List Rd}{outs:List (List Rd)}{w0 w:Ba}(H:FromIn a K SV ks B bR bO bA bF g V pre outs w0 w){k:Nat}(hk:w.heap.size<=k):Fx bR bO bA bF g k:=by
 have h1:=zc H.hR;have h2:=zc H.hO;have h3:=zc H.hA;have h4:=zc H.hF;have h5:=(H.buf.lt g rfl).2;exact⟨by omega,by omega,by omega,by omega,by omega⟩
structure FromB(B bR bO bA bF g:Nat):Prop where
 r:B<=bR
 o:B<=bO
 a:B<=bA
 f:B<=bF
 ro:bR≠bO
 ao:bA≠bO
 fo:bF≠bO
 gr:g≠bR
 go:g≠bO
 ga:g≠bA
 gf:g≠bF
 g:B<=g
def vb(a:Ad)(K:Nat)(SV:Bb)(ks k:Nat):Prop:=∀(s:Int) (pre:List Rd) (outs:List (List Rd)) (V:Aq) (B bR bO bA bF g:Nat) (w0 w:Ba),
 pre.length+k=K->(k=0\/(0<=s/\s<a.sts.length))->outs.length+(zC a k s).length<=5000->FromB B bR bO bA bF g->SAt w0 B SV a.sts->FromIn a K SV ks B bR bO bA bF g V pre outs w0 w ->
 An Al 79 #[O U s,I (J ⟨g,0,Z⟩) pre.length K,Aj (J ⟨bR,0,Z⟩),Aj (J ⟨bO,0,Z⟩),Aj (J ⟨bA,0,Z⟩),Aj (J ⟨bF,0,Z⟩)] w
  fun e w'=>(∃v,e=Ak v)/\∃V',FromIn a K SV ks B bR bO bA bF g V' pre (outs++yB pre (zC a k s)) w0 w'
theorem FromIn.push{a:Ad}{K:Nat}{SV:Bb}{ks B bR bO bA bF g:Nat}{V:Aq}{pre:List Rd}{outs:List (List Rd)}{w0 w W w3:Ba}{x:List Rd}{aI:List (List Aq)}{A2:Bb}{c2 g' cap:Nat}
  (H:FromIn a K SV ks B bR bO bA bF g V pre outs w0 w) (hB:FromB B bR bO bA bF g) (hw:Am w.heap.size w W) (hl:aI.length=outs.length)
  (h3:∀(i:Nat) (h1:i<aI.length) (h2:i<outs.length),cWd.lies (fun k=>Fx bR bO bA bF g k/\V.ownBlock≠J k) W aI[i] outs[i])
  (hx:RAtS (fun k=>w.heap.size<=k) W A2 x) (UR:x.length<=c2) (hr:OwnR kWd w3 B (I (J ⟨g',0,Z⟩) (outs.length+1) cap) (outs.length+1) (aI.flatten++[I A2 x.length c2]))
  (hg:W.grownBy w3 V.ownBlock) (bK:V.ownBlock=J g'\/g'=W.heap.size) :
  FromIn a K SV ks B bR bO bA bF g (I (J ⟨g',0,Z⟩) (outs.length+1) cap) pre (outs++[x]) w0 (w3.setCell ⟨bO,0,Z⟩ (I (J ⟨g',0,Z⟩) (outs.length+1) cap)):=by
 have aa:=H.out.lt;have oS:g<w.heap.size:=(H.buf.lt g rfl).2;have IG:=hw.size;have k1:=zc H.hR;have k2:=zc H.hO;have k3:=zc H.hA;have k4:=zc H.hF
 have hk:∀b,b<w.heap.size->V.ownBlock≠J b->b≠bO->(w3.setCell ⟨bO,0,Z⟩ (I (J ⟨g',0,Z⟩) (outs.length+1) cap)).heap[b]?=w.heap[b]?:=fun b h1 h0 h2=>
  (Lg _ _ _ b h2).trans ((hg.block b (by omega) (fun e=>h0 e.symm)).trans (hw.block b h1))
 have pJ:w3.heap[bO]?=J (Ag #[V] 109 (0,0)):=(hg.block bO (by omega) (fun e=>(H.ne bO e.symm).2.1 rfl)).trans ((hw.block bO (by omega)).trans H.hO);obtain⟨x1,x2,x3⟩:=qD pJ (I (J ⟨g',0,Z⟩) (outs.length+1) cap);have hX:cWd.lies (fun k=>Fx bR bO bA bF g k/\V.ownBlock≠J k) W [I A2 x.length c2] x:=⟨A2,c2,rfl,hx.mono fun k _ hk=>⟨H.fresh hk,fun e=>by have:=(aa k e).2;omega⟩,UR⟩;have hO:=OwnX.app xL hl h3 hX hr hg bK;have GK:B<=g'/\g'<w3.heap.size:=hr.lt g' rfl
 have fU:Fx bR bO bA bF g g':=by
  rcases bK with e | e
  . exact H.ne g' e
  exact H.fresh (by omega)
 have IL:V.ownBlock≠J g:=fun e=>(H.ne g e).2.2.2.2 rfl
 refine⟨(hk _ k1 (fun e=>(H.ne _ e).1 rfl) hB.ro).trans H.hR,x1,(hk _ k3 (fun e=>(H.ne _ e).2.2.1 rfl) hB.ao).trans H.hA,(hk _ k4 (fun e=>(H.ne _ e).2.2.2.1 rfl) hB.fo).trans H.hF,?_,?_,?_,?_⟩
 . refine hO.kept xL (zR w3 bO 0 _) (.inr (fun e=>?_)) (fun k e=>.inl fun hs=>?_)
   . have e2:g'=bO:=by simpa[Value.ownBlock] using e
     exact fU.2.1 e2
   cases e
   exact hs.2.1 rfl
 . intro k e
   have e2:g'=k:=by simpa[Value.ownBlock] using e
   subst e2;exact fU
 . refine((H.buf.below hw (Lh _)).kept hg (.inr (fun e=>IL e.symm))).kept (zR w3 bO 0 _) (.inr (fun e=>?_))
   have e2:g=bO:=by simpa[Value.ownBlock] using e
   exact hB.go e2
 have h1:=hB.o;have h2:=hB.g;exact((H.bel.trans (hw.mono (by omega))).grown hg (by omega) (fun k hk=>(aa k hk).1)).setCell (by show B<=bO;omega) _
theorem J9(a:Ad)(K:Nat)(hK:K<=6)(SV:Bb)(ks:Nat):vb a K SV ks 0:=by
 intro s pre outs V B bR bO bA bF g w0 w sV _ an hB hS H;obtain rfl:K=pre.length:=by omega
 have an:outs.length<=5000:=by omega
 have HI:=zH H;have bE:=zH hB;have r0:=za H.hR 0 rfl;have o0:=za H.hO 0 rfl
 have z':Raw w.drew (J ⟨g,0,Z⟩) pre.length (yq pre):=by
  obtain⟨A,cap,e,_,_,h⟩:=H.buf.raw
  cases e;exact h
 have HC:=zH (Zr (J ⟨g,0,Z⟩) pre.length pre.length (yq pre) w.drew (yX pre) z' (jB pre) (by omega));go_enter func79,ntmps79;go_wp2_with fail;refine zk [(0,Ar),(1,Ar),(2,As),(3,As),(4,As),(5,As)] (fun W=>W.cell? ⟨bO,0,Z⟩=J V) (by kernel_rfl) (by kernel_rfl) (by exact o0) ?_
 repeat
  apply zy rfl
  . intro K' ae W hW
    go_simp;exact ae
 refine zt rfl ?_;intro K' ae;go_simp;refine HC.out.mono ?_;rintro e w2 ⟨v2,rfl,iX,af⟩;obtain⟨A2,c2,rfl,hc2,fT,fC⟩:=jA iX;have af:Am w.heap.size w w2:=Xm af;have fC:RAtS (fun k=>w.heap.size<=k) w2 A2 pre:=fC;have Cd:=HI.out.hO;have o2:w2.cell? ⟨bO,0,Z⟩=J V:=(af.cell (p:=⟨bO,0,Z⟩) (zc Cd)).trans o0;refine ae _ _ o2 ?_;refine zt rfl ?_;intro K' ae;go_simp;have K8:bO<w2.heap.size:=by have:=zc Cd;have:=af.size;omega
 refine ae _ _ ((World.cell?_alloc_lt _ _ _ K8).trans o2) ?_;refine zt rfl ?_;intro K' ae;obtain⟨W2,dT⟩:=Kh (w2.alloc (Ag #[I A2 pre.length c2] 46));have lq:=zj w2 (Ag #[I A2 pre.length c2] 46);have bP:Am w.heap.size w W2:=by rw[<-dT];exact af.alloc af.size _
 have eH:RAtS (fun k=>w.heap.size<=k) W2 A2 pre:=by rw[<-dT];exact fC.keep (KeepB.alloc _ _ _)
 rw[dT] at lq ⊢;obtain⟨aI,aw,fW,bJ⟩:=HI.out.out.below xL bP (Lh _);have bh:B<=W2.heap.size:=by have:=bE.out.g;have:=(HI.out.buf.lt g rfl).2;have:=bP.size;omega
 refine Jr Qd (by rfl) (.tmp 14) (.tmp 17) (by rfl) B V outs.length aI.flatten (by rfl) fW w2.heap.size #[I A2 pre.length c2] (by rfl) lq rfl (by simp[Value.oneCell']) (by omega) bh _ rfl ?_;intro g' cap w3 hr aR bK Kt
 have o3:w3.cell? ⟨bO,0,Z⟩=J V:=by
  refine(LR (aR.block bO (by have:=zc Cd;have:=bP.size;omega) (fun e=>?_))).trans ((bP.cell (p:=⟨bO,0,Z⟩) (zc Cd)).trans o0);exact(HI.out.ne bO e.symm).2.1 rfl
 have f3:w3.frozen? ⟨bO,0,Z⟩=As:=by
  refine zb (cs:=#[V]) (t:=109) ((aR.block bO (by have:=zc Cd;have:=bP.size;omega) (fun e=>?_)).trans ((bP.block bO (zc Cd)).trans Cd)) 0;exact(HI.out.ne bO e.symm).2.1 rfl
 have HP:=zH (HI.out.push bE.out bP aw bJ eH hc2 hr aR bK);refine ae _ _ o3 ?_;refine yN rfl (by kernel_rfl) ?_;intro K' ae;go_simp;refine ae (fun _=>True) _ _ trivial ?_;refine zE ?_;go_simp;go_wp2_with fail;refine L6 (Rs rfl _ _ _) rfl ?_;refine⟨⟨.tuple #[],rfl⟩,I (J ⟨g',0,Z⟩) (outs.length+1) cap,?_⟩;rw[show zC a 0 s=[[]] from rfl,QC];exact HP.out
theorem FromIn.ext{a:Ad}{K:Nat}{SV:Bb}{ks B bR bO bA bF g:Nat}{V:Aq}{pre:List Rd}{outs:List (List Rd)}{w0 w W w4:Ba}{r:Rd}
  (H:FromIn a K SV ks B bR bO bA bF g V pre outs w0 w) (hB:FromB B bR bO bA bF g) (hw:Am w.heap.size w W)
  (hr:OwnR kRd w4 B (I (J ⟨g,0,Z⟩) (pre.length+1) K) (pre.length+1) (yq pre++r.cells.toList)) (hg:W.grownBy w4 (J g)) :
  FromIn a K SV ks B bR bO bA bF g V (pre++[r]) outs w0 w4:=by
 have oS:g<w.heap.size:=(H.buf.lt g rfl).2;have IG:=hw.size;have k1:=zc H.hR;have k2:=zc H.hO;have k3:=zc H.hA;have k4:=zc H.hF;have hk:∀b,b<w.heap.size->g≠b->w4.heap[b]?=w.heap[b]?:=fun b h1 h2=>(hg.block b (by omega) (fun e=>by cases e;exact h2 rfl)).trans (hw.block b h1)
 have IL:V.ownBlock≠J g:=fun e=>(H.ne g e).2.2.2.2 rfl
 refine⟨(hk _ k1 hB.gr).trans H.hR,(hk _ k2 hB.go).trans H.hO,(hk _ k3 hB.ga).trans H.hA,(hk _ k4 hB.gf).trans H.hF,?_,H.ne,?_,?_⟩
 . exact(H.out.below xL hw (Lh _)).kept xL hg (.inr IL) (fun k e=>.inl fun hs=>hs.2.2.2.2 (by cases e;rfl))
 . rw[Lu,jq];exact hr
 have:=hB.g;exact(H.bel.trans (hw.mono (by omega))).grown hg (by omega) (fun k hk=>by cases hk;omega)
theorem FromIn.cut{a:Ad}{K:Nat}{SV:Bb}{ks B bR bO bA bF g:Nat}{V:Aq}{pre:List Rd}{outs:List (List Rd)}{w0 w:Ba}{r:Rd}
  (H:FromIn a K SV ks B bR bO bA bF g V (pre++[r]) outs w0 w):FromIn a K SV ks B bR bO bA bF g V pre outs w0 w:=by
 refine⟨H.hR,H.hO,H.hA,H.hF,H.out,H.ne,?_,H.bel⟩;have h:=H.buf;rw[jq,Lu] at h;exact h.pop (yX pre)
theorem QD(pre:List Rd)(l:List (List Rd)):(yB pre l).length=l.length:=by simp[yB]
theorem gL(pre:List Rd)(l m:List (List Rd)):yB pre (l++m)=yB pre l++yB pre m:=by simp[yB]
theorem from_succ(a:Ad)(K:Nat)(SV:Bb)(ks k:Nat)(hz:zB a a.sts=0)(hf:FewA a)(ih:vb a K SV ks k):vb a K SV ks (k+1):=by
 intro s pre outs V B bR bO bA bF g w0 w sV oD an hB hS H;have hs:0<=s/\s<a.sts.length:=oD.resolve_left (by omega);obtain⟨S,rfl⟩:=Lr hs.1;have ma:S<a.sts.length:=by omega
 have HI:=zH H;have bE:=zH hB;have Ou:=zH ih;have cN:=zH hS;have HZ:=zH (@yY a hz);have oN:=hf.each (Ld ma);have j':=zH (vO a k ma);have sB:=zH an;have Cm:=zH (fun (m:Mv) (hm:m∈a.sts[S])=>(Nq.2 ⟨_,Ld ma,hm⟩:m∈a.mvs));have r0:=za H.hR 0 rfl;have a1:=za H.hA 1 rfl;obtain⟨bs,os,A',nn,C',bh,s0,BA⟩:=(hS.keep H.bel).at_ S ma;have DU:SV.map (fun x=>x)=J ⟨bs,os,Z⟩:=by rw[C'];rfl
 have sx:Ap (∀W,Am B w0 W->MAt W B A' a.sts[S]):=by
  intro W hW;obtain⟨bs2,os2,A2,cs2,Fj,_,s2,tp⟩:=(hS.keep hW).at_ S ma;rw[C'] at Fj
  cases Fj
  have e1:=(hS.keep H.bel).at_ S ma;obtain⟨bs3,os3,A3,cs3,Fi,EY,s3,WD⟩:=hS.at_ S ma;rw[C'] at Fi
  cases Fi
  have x1:=(H.bel.cell (p:=⟨bs,os+S,Z⟩) EY).trans s3;have x2:=(hW.cell (p:=⟨bs,os+S,Z⟩) EY).trans s3;rw[x1] at s0
  cases s0
  exact WD.keep hW
 clear DU BA hS;subst C';obtain⟨M,hM⟩:=Kh (a.sts[S]);rw[hM] at s0 sx j' Cm oN;have e0:((pre.length:Int)==(K:Int))=As:=by simp;omega
 have aA:(S:Int)<(a.sts.length:Int):=by omega
 have ef:(0:Int)<=(S:Int):=by omega
 clear H hB hM hz hf ih hs oD;go_enter func79,ntmps79;go_wp2_with fail;clear r0 a1 s0 e0
 go_loopw [25] (fun i wr=>∃(j:Nat) (V':Aq),j<=M.length/\i=O U (j:Int)/\Ap (FromIn a K (J ⟨bs,os,Z⟩) ks B bR bO bA bF g V' pre (outs++yB pre (yd a k M j)) w0 wr)) (fun i _=>M.length-(Ao i).toNat)
 case atStart=>exact⟨0,V,by omega,rfl,by rw[jR,show yB pre []=[] from rfl,L5];exact HI.out⟩
 obtain⟨j,V',hj,rfl,HJ⟩:=hrel
 by_cases bQ:j<M.length
 case neg=>
  obtain rfl:j=M.length:=by omega
  go_wp2_with fail
  go_end0
  refine⟨⟨.tuple #[],rfl⟩,V',?_⟩;rw[<-j'.out];exact HJ.out
 obtain⟨bm,om,e1,Wk,m0,m1,m2,m3,m4,m5,m6,m7⟩:=(sx.out _ HJ.out.bel).row j bQ;subst e1;have GH:(0:Int)<=(j:Int):=by omega
 have EG:(j:Int)<(M.length:Int):=by omega
 have HF:=HJ.out.hF;have f0:=za HF 0 rfl;have Lt:bF<wr.heap.size:=zc HF;have lU:=Cm.out M[j] (Ld bQ);obtain⟨z1,z2,z3,z4⟩:=HZ.out _ lU;have cO:=zH (qb a k M bQ);have eO:=vN a k M (j+1);rw[qb a k M bQ,Lu,LJ] at eO;obtain⟨m,Et⟩:=Kh (M[j]);rw[Et] at m0 m1 m2 m3 m4 m5 m6 m7 lU z1 z2 z3 z4 cO eO
 have mH:(outs++yB pre (yd a k M j)).length+(zC a k m.to).length<=5000:=by
  have:=sB.out;rw[<-j'.out] at this;rw[Lu,QD];omega
 have Ol:=zH mH;have FE:=zH z3;have MT:=zH z4;clear Et eO z1 z2 z3 z4 mH lU Cm HZ sB HI sx j';go_wp2_with fail;clear m0 m1 m2 m3 m4 m5 m6 m7;obtain⟨W1,cV,g0,df,aG⟩:=zh wr m.cells 70;unfold Mv.cells at cV;rw[cV];clear cV;have f1:=(aG.cell (p:=⟨bF,0,Z⟩) Lt).trans f0;have dx:=(HJ.out.buf.lt g rfl).2;have KM:=bE.out.gf;have Va:pre.length+1<=K:=by omega
 have I4:(pre++[m.r]).length+k=K:=by rw[Lu,P8];omega
 have WO:wr.heap.size<W1.heap.size:=by omega
 have hD:=zH g0
 refine zk [(0,Ar),(1,Ar),(2,Ar),(3,Ar),(4,Ar),(5,Ar),(6,As),(7,As),(8,As)]
  (fun W=>W.cell? ⟨bF,0,Z⟩=J (.func (.func 79) #[] #[Aj (J ⟨bR,0,Z⟩),Aj (J ⟨bO,0,Z⟩),Aj (J ⟨bA,0,Z⟩),Aj (J ⟨bF,0,Z⟩)])/\W.heap[wr.heap.size]?=J (Ag m.cells 70 (0,0)))
  (by kernel_rfl) (by kernel_rfl) ⟨f1,g0⟩ ?_
 clear f0
 repeat
  apply zy rfl
  . rintro K' ae W ⟨y0,y1⟩
    have g1:W.cell? ⟨wr.heap.size,0,Z⟩=J (O U m.r.n):=za y1 0 rfl;have g2:W.cell? ⟨wr.heap.size,1,Z⟩=J (O U m.r.h0):=za y1 1 rfl;have g3:W.cell? ⟨wr.heap.size,2,Z⟩=J (O U m.r.h1):=za y1 2 rfl;have g4:W.cell? ⟨wr.heap.size,3,Z⟩=J (O U m.r.h2):=za y1 3 rfl;have g5:W.cell? ⟨wr.heap.size,4,Z⟩=J (O U m.r.h3):=za y1 4 rfl;have g6:W.cell? ⟨wr.heap.size,5,Z⟩=J (O U m.r.h4):=za y1 5 rfl;have g7:W.cell? ⟨wr.heap.size,6,Z⟩=J (O U m.r.f):=za y1 6 rfl;have g8:W.cell? ⟨wr.heap.size,7,Z⟩=J (O U m.to):=za y1 7 rfl;clear y1;go_simp;exact ae
 refine zt rfl ?_;intro K' ae;go_simp;obtain⟨W2,dT,d0,ee,BG⟩:=QT W1 m.r.cells 68;unfold Rd.cells at dT;rw[dT];have g2:=Lb BG WO hD.out;have f2:=(BG.cell (p:=⟨bF,0,Z⟩) (by show bF<W1.heap.size;omega)).trans f1;refine ae _ _ ⟨f2,g2⟩ ?_;have Ts:Am wr.heap.size wr W2:=aG.trans (BG.mono (by omega));refine zt rfl ?_;intro K' ae;rw[Lo (by rfl)];refine wp_fitR ZZ (.tmp 32) (.tmp 35) (by rfl) B g pre.length K (yq pre) (by rfl) (HJ.out.buf.below Ts (Lh _)) (wr.heap.size+1) m.r.cells (by rfl) (df▸d0) rfl (by simp[Rd.cells,Value.oneCell']) Va ?_;intro W3 hr lp;have HX:=zH (HJ.out.ext bE.out Ts hr lp);have g3:=(lp.block _ (by omega) (fun e=>by cases e;omega)).trans g2;have f3:=(LR (lp.block bF (by omega) (fun e=>by cases e;exact KM rfl))).trans f2;refine ae _ _ ⟨f3,g3⟩ ?_;refine yN rfl (by kernel_rfl) ?_;intro K' ae;go_simp;have HC:=Ou.out m.to (pre++[m.r]) (outs++yB pre (yd a k M j)) V' B bR bO bA bF g w0 W3 I4 (.inr ⟨FE.out,MT.out⟩) Ol.out bE.out cN.out HX.out;rw[Lu,P8] at HC;refine HC.mono ?_;rintro e w4 ⟨⟨v4,rfl⟩,V4,H4⟩;have H5:=zH H4.cut;rw[L7,<-Xn,<-gL,<-cO.out] at H5;refine ae (fun _=>True) _ _ trivial ?_;refine zE ?_;go_wp2_with fail
 go_roundw
 case rel=>exact⟨j+1,V4,by omega,by go_num,H5⟩
 simp[Ao];omega
theorem Y8(a:Ad)(K:Nat)(hK:K<=6)(SV:Bb)(ks:Nat)(hz:zB a a.sts=0)(hf:FewA a):∀k,vb a K SV ks k
 | 0=>J9 a K hK SV ks
 | k+1=>from_succ a K SV ks k hz hf (Y8 a K hK SV ks hz hf k)
theorem J5{W w w':Ba}{r r':Option Nat}(h:W.grownBy w r)(hg:w.grownBy w' r')(hr:∀k,r'=J k->k<W.heap.size->r=J k):W.grownBy w' r:=
 ⟨hg.os.trans h.os,hg.tape.trans h.tape,hg.output.trans h.output,LE h.size hg.size,fun k hk hn=>(hg.block k (Lx hk h.size) (fun e=>hn (hr k e.symm hk).symm)).trans (h.block k hk hn)⟩
theorem Qm{W w w':Ba}{r:Option Nat}(h:W.grownBy w r)(hb:Am w.heap.size w w'):W.grownBy w' r:=
 ⟨hb.os.trans h.os,hb.tape.trans h.tape,hb.output.trans h.output,LE h.size hb.size,fun k hk hn=>(hb.block k (Lx hk h.size)).trans (h.block k hk hn)⟩
def qX(a:Ad)(SV:Bb)(ks k:Nat):Prop:=∀(s:Int) (w:Ba),(k=0\/(0<=s/\s<a.sts.length))->(zC a k s).length<=5000->SAt w w.heap.size SV a.sts ->
 An Al 134 #[Ai #[O U a.n,I SV a.sts.length ks],O U s,O U k] w fun e w'=>∃v,e=Ak v/\OwnX cWd (fun b=>w.heap.size<=b) w' w.heap.size v (zC a k s)/\Am w.heap.size w w'
theorem Qp(a:Ad)(SV:Bb)(ks:Nat):qX a SV ks 0:=by
 intro s w _ _ _;go_enter func134,ntmps134;go_wp2_with fail;obtain⟨w1,ac,d0,d1,aA,bZ⟩:=yr w #[O U a.n,I SV a.sts.length ks] #[I Z 0 0] 27 46;rw[ac];go_ret;refine⟨_,rfl,⟨[[I Z 0 0]],rfl,?_,?_⟩,bZ⟩
 . exact OwnR.of_block (K:=kWd) (n:=1) d1 (by omega) rfl (by unfold maxLen;omega)
 intro i h1 h2;obtain rfl:i=0:=by simp at h1;omega
 exact⟨Z,0,rfl,RAtS.nil _ _ _,Lh _⟩
theorem Qq(a:Ad)(SV:Bb)(ks k:Nat)(rW:k<=6)(hz:zB a a.sts=0)(hf:FewA a)(ih:qX a SV ks k):qX a SV ks (k+1):=by
 intro s w oD an hS;have hs:0<=s/\s<a.sts.length:=oD.resolve_left (by omega);obtain⟨S,rfl⟩:=Lr hs.1;have ma:S<a.sts.length:=by omega
 have Ou:=zH ih;have HZ:=zH (@yY a hz);have oN:=hf.each (Ld ma);have j':=zH (vO a k ma);have sB:=zH an;have Cm:=zH (fun (m:Mv) (hm:m∈a.sts[S])=>(Nq.2 ⟨_,Ld ma,hm⟩:m∈a.mvs));have HS:=zH hS;obtain⟨bs,os,A',nn,C',bh,s0,BA⟩:=hS.at_ S ma;subst C';have sx:=zH BA;obtain⟨M,hM⟩:=Kh (a.sts[S]);rw[hM] at s0 sx j' Cm oN;have e0:(((k+1:Nat):Int)==0)=As:=by simp;omega
 have ac:IntKind.i64.wrap (((k+1:Nat):Int)-1)=(k:Int):=by rw[Lv];omega
 have aA:(S:Int)<(a.sts.length:Int):=by omega
 have ef:(0:Int)<=(S:Int):=by omega
 obtain⟨K,hK⟩:∃K:Int,((k+1:Nat):Int)=K:=⟨_,rfl⟩;rw[hK] at e0 ac ⊢;go_enter func134,ntmps134;go_wp2_with fail;obtain⟨w1,cV,d0,df,aG⟩:=zh w #[O U a.n,I (J ⟨bs,os,Z⟩) a.sts.length ks] 27;rw[cV];have bD:=zH d0;have dk:=zH aG;clear d0 aG e0
 go_loopw [7,8] (fun o i wr=>∃j:Nat,j<=M.length/\i=O U (j:Int)/\Ap (OwnX cWd (fun b=>w.heap.size<b) wr (w.heap.size+1) o (yd a k M j))/\Ap (Am w1.heap.size w1 wr)) (fun _ i _=>M.length-(Ao i).toNat)
 case atStart=>exact⟨0,by omega,rfl,by rw[jR];exact OwnX.nil _ _ _ _,Ll _ _⟩
 obtain⟨j,hj,rfl,HO,dv⟩:=hrel;have D0:=Lb dv.out (by omega) bD.out;have q1:=za D0 1 rfl;have az:=dv.out.size;have s1:wr.cell? ⟨bs,os+S,Z⟩=J (I A' M.length nn):=((dk.out.trans (dv.out.mono (by omega))).cell (p:=⟨bs,os+S,Z⟩) bh).trans s0
 by_cases bQ:j<M.length
 case neg=>
  obtain rfl:j=M.length:=by omega
  go_wp2_with fail;go_ret;refine⟨_,rfl,?_,dk.out.trans (dv.out.mono (by omega))⟩;rw[<-j'.out];exact(HO.out.mono xL fun b _ hb=>by omega).low (by omega)
 obtain⟨bm,om,e1,Wk,m0,m1,m2,m3,m4,m5,m6,m7⟩:=(sx.out.keep (dk.out.trans (dv.out.mono (by omega)))).row j bQ;subst e1;have GH:(0:Int)<=(j:Int):=by omega
 have EG:(j:Int)<(M.length:Int):=by omega
 have q0:=za D0 0 rfl;have oS:w.heap.size<wr.heap.size:=by omega
 have lU:=Cm.out M[j] (Ld bQ);obtain⟨z1,z2,z3,z4⟩:=HZ.out _ lU;have cN:=zH (qb a k M bQ);have eO:=vN a k M (j+1);rw[qb a k M bQ,Lu,LJ] at eO;obtain⟨m,Et⟩:=Kh (M[j]);rw[Et] at m0 m1 m2 m3 m4 m5 m6 m7 lU z1 z2 z3 z4 cN eO
 have mH:(yd a k M j).length+(zC a k m.to).length<=5000:=by
  have:=sB.out;rw[<-j'.out] at this;omega
 have HC:=zH (fun (W:Ba) (hW:Am wr.heap.size wr W)=>Ou.out m.to W (.inr ⟨z3,z4⟩) (by omega) (((HS.out.keep (dk.out.trans ((dv.out.trans (hW.mono az)).mono (by omega)))).more (by have:=hW.size;omega))));clear Et eO z1 z2 z3 z4 lU Cm HZ sB sx j';go_wp2_with fail;clear m0 m1 m2 m3 m4 m5 m6 m7 q0 q1 s1;obtain⟨W1,cV,g0,ee,bP⟩:=zh wr m.cells 70;unfold Mv.cells at cV;rw[cV];refine(HC.out W1 bP).mono ?_;rintro e w3 ⟨rv,rfl,pJ,am⟩;obtain⟨AR,cR,rfl,hcR,hmR,hWR⟩:=gd pJ;have G0:=Lb am (by omega) g0;have bk:Ap (Am wr.heap.size wr w3):=bP.trans (am.mono (by omega));have rp:=zH (HO.out.below xL bk.out (Lh _));have cz:=HO.out.lt;have rj:=zH (pJ.mono (S':=fun b=>wr.heap.size<b) xL fun b _ hb=>by omega);have Gd:=zH G0;have lM:=am.size;obtain⟨R,hR⟩:=Kh (zC a k m.to);have T4:=zH (yK a k m.to);rw[hR] at mH cN rj T4 ⊢;go_wp2_with fail;obtain⟨Ab,rfl⟩:∃Ab,Ab=u7:=⟨_,rfl⟩;obtain⟨wo,rfl⟩:∃x,x=wr:=⟨_,rfl⟩
 go_loopw [7,11] (fun o i wx=>∃l:Nat,l<=R.length/\i=O U (l:Int)/\Ap (OwnX cWd (fun b=>w.heap.size<b) wx (w.heap.size+1) o (yd a k M j++(R.take l).map (m.r::·)))/\Ap (w3.grownBy wx (Value.ownBlock Ab))/\Ap (o.ownBlock=Value.ownBlock Ab\/∀b,o.ownBlock=J b->w3.heap.size<=b)) (fun _ i _=>R.length-(Ao i).toNat)
 case atStart=>exact⟨0,by omega,rfl,by rw[LI,NE,L5];exact rp.out,Rn _ _,.inl rfl⟩
 obtain⟨l,hl,rfl,HX,HG,HW⟩:=hrel;have bj:Ap (Am w1.heap.size w1 wr):=(dv.out.trans (bk.out.mono az)).grown HG.out (by omega) (fun b hb=>by have:=(cz b hb).1;omega)
 by_cases aD:l<R.length
 case neg=>
  obtain rfl:l=R.length:=by omega
  rw[LC,<-cN.out] at HX;go_wp2_with fail
  go_roundw
  case rel=>exact⟨j+1,by omega,by go_num,HX,bj⟩
  simp[Ao];omega
 have Bx:OwnX cWd (fun b=>wo.heap.size<b) wr W1.heap.size (I AR R.length cR) R:=rj.out.kept xL HG.out (by
  cases WV:(I AR R.length cR).ownBlock with
  | none=>exact .inl rfl
  | some b=>exact .inr fun e=>by have h1:=(rj.out.lt b WV).1;have h2:=(cz b e.symm).2;omega) (fun b hb=>.inl fun h=>by have:=(cz b hb).2;omega)
 obtain⟨A9,c9,e9,_,_,SQ⟩:=gd Bx
 cases e9
 obtain⟨br,UN,A2,c2,er,aC,r0,iJ⟩:=SQ.at_ l aD;subst er;have G1:=(HG.out.block wo.heap.size (by omega) (fun e=>by have:=(cz _ e.symm).2;omega)).trans Gd.out;have oo:=zc G1;have FN:=zH iJ;have T9:=zH HX.out;have Kw:(yd a k M j++(R.take l).map (m.r::·)).length=(yd a k M j).length+l:=by simp;omega
 have DV:Ap (yd a k M j++(R.take (l+1)).map (m.r::·)=(yd a k M j++(R.take l).map (m.r::·))++[m.r::R[l]]):=by
  show _=_;rw[Ls aD,LF,L7];rfl
 have ep:=T4.out _ (Ld aD);have Kx:R[l].length<=6:=by omega
 clear ep;have pO:(0:Int)<=(l:Int):=by omega
 have iu:(l:Int)<(R.length:Int):=by omega
 obtain⟨x,hx⟩:=Kh (R[l]);rw[hx] at r0 FN DV Kx;have z':Ap (Raw (wr.alloc (Ag m.r.cells 68)) A2 x.length (yq x)):=wk ((FN.out.keep (zN wr _)).more (by simp));have g0:wr.cell? ⟨wo.heap.size,0,Z⟩=J (O U m.r.n):=za G1 0 rfl;have g1:wr.cell? ⟨wo.heap.size,1,Z⟩=J (O U m.r.h0):=za G1 1 rfl;have g2:wr.cell? ⟨wo.heap.size,2,Z⟩=J (O U m.r.h1):=za G1 2 rfl;have g3:wr.cell? ⟨wo.heap.size,3,Z⟩=J (O U m.r.h2):=za G1 3 rfl;have g4:wr.cell? ⟨wo.heap.size,4,Z⟩=J (O U m.r.h3):=za G1 4 rfl;have g5:wr.cell? ⟨wo.heap.size,5,Z⟩=J (O U m.r.h4):=za G1 5 rfl;have g6:wr.cell? ⟨wo.heap.size,6,Z⟩=J (O U m.r.f):=za G1 6 rfl;have Wi:br<wr.heap.size:=aC;have sT:w.heap.size+1<=wr.heap.size:=by have:=HG.out.size;omega
 clear hx Bx SQ iJ G1 HX;have Gd:=zH (zj wr (Ag m.r.cells 68));obtain⟨N,hN⟩:=Kh ((yd a k M j++(R.take l).map (m.r::·)).length);have GW:N<=5000:=by omega
 have HN:=zH hN;clear hN Kw
 go_wp2_with (at_builtin;(first
  | ((refine Yf ZZ rfl (.tmp 50) (.tmp 54) rfl wr.heap.size (I (J ⟨wr.heap.size, 0, Z⟩) 1 1) 1 m.r.cells.toList rfl (OwnR.of_block Gd.out (Nat.le_refl _) rfl (by unfold maxLen; omega)) A2 x.length c2 (yq x) rfl (yX _) z'.out (jB _) (by omega) (by simp) ?_)
     intro v1 w5 CN pS _;have Ef:OwnR kRd w5 wr.heap.size v1 (m.r::x).length (yq (m.r::x)):=by rw[LD,Nat.add_comm];exact CN
     obtain⟨A5,c5,rfl,Wc,_,mH⟩:=jA Ef;have lA:Am wr.heap.size wr w5:=(zN wr _).grown pS (by simp) (fun b hb=>by cases hb;exact Lh _);have nm:=zH (lA.alloc lA.size (Ag #[.slice A5 (m.r::x).length c5] 46));have sD:=zH (zj w5 (Ag #[.slice A5 (m.r::x).length c5] 46));have Ds:=zH (mH.keep (KeepB.alloc _ w5 (Ag #[.slice A5 (m.r::x).length c5] 46)));have mQ:=zH (T9.out.below xL nm.out (Lh _));have UZ:wr.heap.size<=w5.heap.size:=lA.size
     clear CN Ef pS mH lA)
  | (obtain ⟨aI, aw, fW, bJ⟩ := mQ.out
     rw[HN.out] at fW;refine yJ Qd rfl (.tmp 49) (.tmp 56) rfl (w.heap.size+1) u7 N aI.flatten rfl fW w5.heap.size #[.slice A5 (m.r::x).length c5] rfl sD.out rfl (by simp[Value.oneCell']) (by omega) (by simp;omega) _ rfl ?_;intro g' cap w7 lQ fD dp oO;have hX:cWd.lies (fun b=>(fun b=>w.heap.size<b) b/\Value.ownBlock u7≠J b) _ [.slice A5 (m.r::x).length c5] (m.r::x):=⟨A5,c5,rfl,Ds.out.mono fun b _ hb=>⟨by have:wr.heap.size<=b:=hb;show w.heap.size<b;omega,fun e=>by have:=(T9.out.lt b e).2;have:wr.heap.size<=b:=hb;omega⟩,Wc⟩;have ik:=lQ;rw[<-HN.out] at ik;have rn:=zH (OwnX.app xL aw bJ hX ik fD dp);rw[<-DV.out,HN.out] at rn
     have tI:Ap (w3.grownBy w7 Ab.ownBlock):=J5 (Qm HG.out nm.out) fD (fun b hb aa=>by
      rcases HW.out with h | h
      . rw[<-h];exact hb
      . have:=h b hb;omega)
     have HW7:Ap ((I (J ⟨g',0,Z⟩) (N+1) cap).ownBlock=Ab.ownBlock\/∀b,(I (J ⟨g',0,Z⟩) (N+1) cap).ownBlock=J b->w3.heap.size<=b):=by
      have ij:=HG.out.size;rcases dp with e | e
      . rcases HW.out with h | h
        . exact .inl (by rw[<-h,e];rfl)
        . exact .inr fun b hb=>h b (by rw[e];exact hb)
      . refine .inr fun b hb=>?_
        have h9:g'=b:=by simpa[Value.ownBlock] using hb
        simp at e;omega
     clear lQ ik fD dp hX bJ fW aw)
  ))
 go_roundw
 case rel=>exact⟨l+1,by omega,by go_num,rn,tI,HW7⟩
 simp[Ao];omega
theorem Zn(a:Ad)(SV:Bb)(ks:Nat)(hz:zB a a.sts=0)(hf:FewA a):∀k,k<=6->qX a SV ks k
 | 0,_=>Qp a SV ks
 | k+1,h=>Qq a SV ks k (by omega) hz hf (Zn a SV ks hz hf k (by omega))
end
end Go.Proofs.YtjjcgpfljidbhaaGreat
