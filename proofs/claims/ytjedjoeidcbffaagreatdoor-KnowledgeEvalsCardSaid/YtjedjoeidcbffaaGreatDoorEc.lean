/- Merged. -/
import Derived.Test.YtjedjoeidcbffaaGreatDoorEb
import Derived.SizedLaws
import Derived.OwnWalk
import Derived.Maps.AppendAt
import Derived.Lib.Walk
import Derived.Lib.SliceRun
import Derived.Maps.Own
import Derived.Maps.OwnIn
import Derived.OrdersIn
open Go.Proofs.Tryz
open Go.Value renaming int->O,slice->I,bool->Aj,agg->Ak,pointer->Al
open Go.IntKind renaming i64->U
open Option renaming none->Z,some->J
open Go.Obj renaming cells->Ai
open Go.Ending renaming returned->Am
open Go.Proofs.Tryz renaming prog->Aq,underlying87->Rt,underlying22->Rv,underlying95->Rs,underlying25->Ru,underlying30->PY,underlying58->Sf,underlying29->Si
open Go.RowKit renaming Below->Ar,intOf->Au,Hid->Aw
open Go renaming Calls->As,Value->Ax,run_equalIn_int->NQ,info_parts->RK,getD_replicate_false->RP
open Bool renaming true->AA,false->AC
open Go.World renaming ownsRow_nil->Rq,news_of_block->R6
open Go.World.ownsRow renaming kept->PC,alloc->PN,lt->RH
namespace Go.Proofs.YtjedjoeidcbffaaGreatDoor
abbrev RT:=@Nat.mul_le_mul_right
abbrev NF:=@Nat.zero_le
abbrev Lv:=@List.getElem?_eq_some_iff
abbrev LS:=@List.getElem_map
abbrev PS:=@Go.World.block_lt_of_cell?
abbrev Nm:=@Go.Proofs.Tryz.underlying36
abbrev LI:=@List.getElem_of_mem
abbrev PX:=@Go.Proofs.Tryz.underlying55
abbrev PH:=@Go.Proofs.Tryz.underlying35
abbrev LO:=@Nat.zero_add
abbrev LU:=@Nat.mul_le_mul
abbrev L8:=@Go.wpList_plain
abbrev Nw:=@Nat.eq_zero_or_pos
abbrev LA:=@List.eq_nil_of_length_eq_zero
abbrev Ro:=@Go.World.grownBy.refl
abbrev PA:=@List.take_append_of_le_length
abbrev Sw:=@Nat.min_eq_left
abbrev Rw:=@Nat.add_mul
abbrev LY:=@List.getElem?_append_left
abbrev LW:=@List.getElem?_append_right
abbrev PP:=@List.getElem_append_left
abbrev N5:=@List.getElem_append_right
abbrev Ps:=@Go.wpList_append_own
abbrev So:=@List.map_set
abbrev Pq:=@Go.Lib.run_eql_slice_nil
abbrev Pn:=@Go.Addr.add_lit
abbrev Pw:=@Go.Lib.cell?_alloc_some
abbrev PB:=@Go.World.ownsRow_made
abbrev NJ:=@List.mem_flatMap
abbrev SE:=@or_false
abbrev RY:=@List.mem_of_getElem?
abbrev PM:=@List.pairwise_iff_getElem
abbrev Ri:=@List.length_set
abbrev St:=@List.getElem_set
abbrev L7:=@Array.getElem?_setIfInBounds_ne
abbrev Sz:=@Go.CallsIn.inRound
abbrev Sl:=@Go.Oper.wp_mono
abbrev N8:=@List.length_take
abbrev Rp:=@List.getElem?_drop
abbrev Rl:=@Go.mem_ready
abbrev NR:=@Option.some.inj
abbrev Sm:=@Nat.lt_or_ge
abbrev P7:=@Array.getElem?_eq_none
abbrev Rk:=@Ne.symm
abbrev Sx:=@List.sum_append
abbrev N3:=@List.map_congr_left
abbrev N2:=@List.foldl_append
abbrev Lq:=@Go.heap_setCell_same
abbrev Pa:=@Array.getElem?_setIfInBounds_self_of_lt
abbrev N0:=@Nat.sub_self
abbrev RB:=@List.sum_cons
abbrev R7:=@List.flatMap_append
abbrev L3:=@Go.World.cell?_alloc_lt
abbrev RL:=@List.length_singleton
set_option maxRecDepth 100000
set_option maxHeartbeats 4000000
section
open Go.RowKit
attribute [local go_sem] Oper.semAt_some
def Sy.vs_(s:Sy)(A:Bb)(kc:Nat)(SV:Bb)(ks:Nat)(AV:Bb)(kv:Nat)(AX:Bb)(kx:Nat):Array Ax:=
 #[O U s.p.t.n,O U s.p.t.ins,O U s.p.t.outs,I A s.p.t.cases.length kc,O U s.p.a.n,I SV s.p.a.sts.length ks,O U s.p.k,O U s.n,I AV s.vs.length kv,I AX s.xs.length kx]
structure LowS(s:Sy):Prop where
 fp:LowP s.p
 fv:s.vs.length<=2199023255552
 fx:s.xs.length<=2199023255552
 fe:∀x∈s.xs,XA x
structure SyAt(w:Ba)(B:Nat)(A SV AV AX:Bb)(s:Sy):Prop where
 fc:CAt w B A s.p.t.cases
 fs:SAt w B SV s.p.a.sts
 fv:VAt w B AV s.vs
 fx:XAt w B AX s.xs
theorem SyAt.keep{w w':Ba}{B:Nat}{A SV AV AX:Bb}{s:Sy}(h:SyAt w B A SV AV AX s)(hb:Ar B w w'):SyAt w' B A SV AV AX s:=⟨h.fc.keep hb,h.fs.keep hb,h.fv.keep hb,h.fx.keep hb⟩
theorem SyAt.more{w:Ba}{B B':Nat}{A SV AV AX:Bb}{s:Sy}(h:SyAt w B A SV AV AX s)(hB:B<=B'):SyAt w B' A SV AV AX s:=⟨h.fc.more hB,h.fs.more hB,h.fv.more hB,h.fx.more hB⟩
theorem SyAt.up{w w':Ba}{A SV AV AX:Bb}{s:Sy}(h:SyAt w w.heap.size A SV AV AX s)(hb:Ar w.heap.size w w'):SyAt w' w'.heap.size A SV AV AX s:=(h.keep hb).more hb.size
theorem sy_eq{a b:Sy}(h1:a.p=b.p)(h2:a.n=b.n/\a.vs=b.vs)(h3:a.xs=b.xs):a=b:=by cases a;cases b;simp_all
theorem rsameS_any(a b:Sy)(ha:LowS a)(hb:LowS b)(A SA AV AX B SB BV BX:Bb)(ca sa av ax cb sb bv bx:Nat)(w:Ba)(hA:SyAt w w.heap.size A SA AV AX a)(hB:SyAt w w.heap.size B SB BV BX b) :
  As Aq 110 #[.agg (a.vs_ A ca SA sa AV av AX ax),.agg (b.vs_ B cb SB sb BV bv BX bx)] w fun e w'=>e=Am (Aj (decide (a=b)))/\Ar w.heap.size w w':=by
 obtain⟨w1,ab,d0,d1,aK,dj⟩:=yV w (a.vs_ A ca SA sa AV av AX ax) (b.vs_ B cb SB sb BV bv BX bx) 35 35;have rU:=hA.up dj;have bP:=hB.up dj;have WZ:=zH (rsameP_any a.p b.p ha.fp hb.fp A B SA SB ca cb sa sb w1 rU.fc bP.fc rU.fs bP.fs);have Hc:=zH (fun (W:Ba) (hW:Ar w1.heap.size w1 W)=>same_any a.n b.n AV BV av bv a.vs b.vs W W.heap.size (Le _) (rU.up hW).fv (bP.up hW).fv ha.fv hb.fv);have G9:=zH ha.fe;have Ef:=zH hb.fe;have hax:=ha.fx;have bk:=hb.fx;have HA:=zH rU.fx;have HB:=zH bP.fx;unfold Pb.vs at WZ;unfold Sy.vs_ at ab d0 d1 ⊢;have cu:=zH dj;have bK:=zH d0;have cN:=zH d1;have ai:=zH ab;have q6:=zh d1 6 rfl;clear ab d0 d1 dj hA hB rU bP ha hb;have HT:Aw (a≠b->decide (a=b)=AC):=fun h=>Lj h
 have HU:Aw (a=b->decide (a=b)=AA):=fun h=>Lm h
 obtain⟨r,hr⟩:∃r,decide (a=b)=r:=⟨_,rfl⟩;rw[hr] at HT HU ⊢;clear hr;have HE:=zH (@sy_eq a b);go_enter func110,ntmps110;go_wp2_with fail;rw[ai.out];go_wp2_with fail;refine WZ.out.mono ?_;rintro e w2 ⟨rfl,ag⟩;have d0:=La ag bK.out;have d1:=La ag cN.out;have aw:=zH ag
 by_cases h1:a.p=b.p
 case neg=>
  have hR:=zH (HT.out (fun h=>h1 (congrArg Sy.p h)));rw[Lj h1];go_wp2_with fail
  all_goals
   go_ret;exact⟨zn hR.out.symm,Lc cu.out aw.out⟩
 case pos=>
 have au:=zH (HE.out h1);rw[Lm h1];have p7:=zh d0 7 rfl;have p8:=zh d0 8 rfl;have q7:=zh d1 7 rfl;have q8:=zh d1 8 rfl;go_wp2_with fail;refine(Hc.out w2 aw.out).mono ?_;rintro e w3 ⟨rfl,aj⟩;have aJ:=zH (Lc aw.out aj);have d0:=La aJ.out bK.out;have d1:=La aJ.out cN.out
 by_cases h1:a.n=b.n/\a.vs=b.vs
 case neg=>
  have hR:=zH (HT.out (fun h=>h1 ⟨congrArg Sy.n h,congrArg Sy.vs h⟩));rw[Lj h1];go_wp2_with fail
  all_goals
   go_ret;exact⟨zn hR.out.symm,Lc cu.out aJ.out⟩
 case pos=>
 have H3:Aw (a.xs=b.xs->r=AA):=fun h=>HU.out (au.out h1 h)
 have H4:Aw (a.xs≠b.xs->r=AC):=fun h=>HT.out (fun e=>h (congrArg Sy.xs e))
 rw[Lm h1];have p9:=zh d0 9 rfl;have q9:=zh d1 9 rfl
 by_cases h3:a.xs.length=b.xs.length
 case neg=>
  have hR:=zH (H4.out (fun h=>h3 (by rw[h])));have e0:((a.xs.length:Int) != (b.xs.length:Int))=AA:=by simp;omega
  go_wp2_with fail
  all_goals
   go_ret;exact⟨zn hR.out.symm,Lc cu.out aJ.out⟩
 case pos=>
 have HL:=zH h3;rw[<-h3] at q9 bk cN ⊢;go_wp2_with fail
 go_loopw [5] (fun i wr=>∃k:Nat,k<=a.xs.length/\i=O U (k:Int)/\Aw (a.xs.take k=b.xs.take k)/\Aw (Ar w1.heap.size w1 wr)) (fun i _=>a.xs.length-(Au i).toNat)
 case atStart=>exact⟨0,by omega,rfl,by rw[Aw,L1,L1],aJ.out⟩
 obtain⟨k,hk,rfl,hp,aL⟩:=hrel;have p9:=zh (La aL.out bK.out) 9 rfl;have q9:=zh (La aL.out cN.out) 9 rfl
 by_cases aa:k<a.xs.length
 case neg=>
  obtain rfl:k=a.xs.length:=by omega
  have hR:=zH (H3.out (ku HL.out hp.out));go_wp2_with fail;go_ret;exact⟨zn hR.out.symm,Lc cu.out aL.out⟩
 case pos=>
 have lp:k<b.xs.length:=by have:=HL.out;omega
 have oy:=aL.out.size;obtain⟨ba,oa,A1,c1,A2,c2,ea,IM,a0,a1,a2,Um,Ul⟩:=(HA.out.keep aL.out).row k aa;obtain⟨bb,ob,B1,n1,B2,n2,eb,aY,b0,b1,b2,Uk,Uj⟩:=(HB.out.keep aL.out).row k lp;subst ea;subst eb;have HC:=zH (fun (W:Ba) (hW:Ar wr.heap.size wr W)=>rsamex_any a.xs[k] b.xs[k] (G9.out _ (Ld aa)) (Ef.out _ (Ld lp)) A1 A2 B1 B2 c1 c2 n1 n2 W (((Um.more oy).keep hW).more hW.size) (((Ul.more oy).keep hW).more hW.size) (((Uk.more oy).keep hW).more hW.size) (((Uj.more oy).keep hW).more hW.size));have h0:Aw (a.xs[k]=b.xs[k]->a.xs.take (k+1)=b.xs.take (k+1)):=fun he=>xO hp.out aa lp he
 have hN:Aw (a.xs[k]≠b.xs[k]->r=AC):=fun he=>H4.out (fun h=>he (by simp only[h]))
 obtain⟨X,hX⟩:=Ki (a.xs[k]);obtain⟨Y,hY⟩:=Ki (b.xs[k]);rw[hX] at a0 a1 a2 h0 hN HC;rw[hY] at b0 b1 b2 h0 hN HC;have dh:(0:Int)<=(k:Int):=by omega
 have aW:(k:Int)<(a.xs.length:Int):=by omega
 go_wp2_with fail
 go_still_tail 10,(by kernel_rfl)
 change wpList _ _ _ _ _ wr.drew;obtain⟨w4,fN⟩:∃w4,w4=wr.drew:=⟨_,rfl⟩;have dT:Aw (Ar wr.heap.size wr w4):=by rw[fN];exact(Ll _ _).drew
 rw[<-fN];clear fN a0 a1 a2 b0 b1 b2 p9 q9 dh aW;go_wp2_with fail;refine(HC.out w4 dT.out).mono ?_;rintro e w5 ⟨rfl,aA⟩;have cj:=zH (aL.out.trans ((Lc dT.out aA).mono oy))
 by_cases t1:X=Y
 case neg=>
  have hR:=zH (hN.out t1);rw[Lj t1];go_wp2_with fail;go_ret;exact⟨zn hR.out.symm,Lc cu.out cj.out⟩
 have hR:=zH (h0.out t1);rw[Lm t1];go_wp2_with fail
 go_roundw
 case rel=>exact⟨k+1,by omega,by go_num,hR,cj.out⟩
 simp[Au];omega
end
section
open Go.ChangeShapes Go.WideShapes Go.ChangeAt Go.RowKit Go.Deep
section
variable {H:Type} {enc:TypeId×Ax->H} {P:Program} {W:Ba} {base:Nat} {spare:Nat->Bool} {ap:Bool}
def xI(P:Program)(t:TypeId)(d:DataW H):Prop:=(d.weights P t).all (·<=reachBytes)=AA
theorem yQ{fs:Array Field}{t:TypeId}{Eu:List (DataW H)}(ht:P.underlying t=J (.struct fs))(h:xI P t (.agg Eu)){j:Nat}{f:Field}{d:DataW H}(hf:fs[j]?=J f)(hd:Eu[j]?=J d):xI P f.type d:=by
 unfold xI at h ⊢;refine LT.2 fun n hn=>LT.1 h n ?_
 simp only[DataW.weights,ht];exact DataW.weights_mem_each (j:=j) (by simp[hf]) hd n hn
theorem vd{e:TypeId}:∀ {ds:List (DataW H)} {d:DataW H},d∈ds->∀n∈d.weights P e,n∈DataW.weightsAll P e ds
 | d0::ds,d,hd,n,hn=>by
  simp only[DataW.weightsAll,List.mem_append];rcases LL.1 hd with rfl | hd
  . exact Or.inl hn
  . exact Or.inr (vd hd n hn)
theorem Xf{t e:TypeId}{el sp:List (DataW H)}(ht:P.underlying t=J (.slice e))(h:xI P t (.slice el sp)):el.length*P.bytesOf e<=reachBytes/\∀d∈el,xI P e d:=by
 unfold xI at h;have h1:=LT.1 h;simp only[DataW.weights,ht] at h1;constructor
 . have h2:=h1 _ (Sb ..)
   have h3:(el.length+sp.length)*P.bytesOf e<=reachBytes:=by simpa using h2
   exact Lz (RT _ (Nat.le_add_right _ _)) h3
 intro d hd;exact LT.2 fun n hn=>h1 n (RZ _ (Rf _ (vd hd n hn)))
theorem qA{α:Type}[Inhabited α]{t e:TypeId}{fuel:Nat}{cs:List Ax}{x:DataW H×List MemPlace}{s:Nat}(L:List Ax->α->Prop)(ht:P.underlying t=J (.slice e))(hs:P.cellsOf e=s)(h1:0<s)
  (rd:∀(m:Nat) (cs:List Ax) (y:DataW H×List MemPlace),DataW.trod enc P W base spare ap m e cs=J y->xI P e y.1->∃a,L cs a)
  (h:DataW.trod enc P W base spare ap fuel t cs=J x) (hw:xI P t x.1) :
  ∃(A:Bb) (i5:List α) (cap:Nat),cs=[I A i5.length cap]/\i5.length<=cap/\cap<=maxLen/\i5.length*P.bytesOf e<=reachBytes /\
   (0<i5.length->∃b off,A=J ⟨b,off,Z⟩/\b<W.heap.size/\∀(i:Nat) (hi:i<i5.length),∃cs,L cs i5[i]/\∀(k:Nat) (y:Ax),cs[k]?=J y->W.cell? ⟨b,off+i*s+k,Z⟩=J y):=by
 rcases open_slice ht h with ⟨rfl,_⟩ | ⟨a,len,cap,m,n',D,Pl,rfl,_,hlc,mV,hm,my,hi⟩
 . exact⟨Z,[],0,rfl,Le _,NF _,by simp,fun h=>absurd h (by simp)⟩
 have Ip:len<=m:=by rw[hm];split<;>omega
 rw[my] at hw;obtain⟨hb,aO⟩:=Xf ht hw
 have nT:∀i,i<len->∃(a':α) (cs:List Ax),cs.length=s/\L cs a'/\∀(k:Nat) (y:Ax),cs[k]?=J y->W.cell? (a.add (i*s+k))=J y:=fun i aa=>by
  obtain⟨rm,hc,ht'⟩:=hi i (by omega);rw[hs] at hc;obtain⟨_,aP,bL⟩:=World.cells?_some hc;obtain⟨u,hu⟩:=rd _ _ _ ht' (aO _ (LZ.2 ⟨i,Py.2 aa,rfl⟩));refine⟨u,rm,aP,hu,fun k y hk=>?_⟩;have fm:k<s:=by rw[<-aP];exact(Lv.1 hk).1
  rw[<-Go.Deep.add_add,bL k fm,hk]
 obtain⟨i5,sK,has⟩:∃i5:List α,i5.length=len/\∀i (hi:i<i5.length),∃cs:List Ax,cs.length=s/\L cs i5[i]/\∀(k:Nat) (y:Ax),cs[k]?=J y->W.cell? (a.add (i*s+k))=J y:=by
  refine⟨(List.range len).map fun i=>if h:i<len then Classical.choose (nT i h) else default,by simp,fun i hi=>?_⟩;have fR:i<len:=by simpa using hi
  simp only[List.getElem_map,List.getElem_range,fR,dite_true];exact Classical.choose_spec (nT i fR)
 subst sK;have di:i5.length*P.bytesOf e<=reachBytes:=by simpa using hb
 refine⟨J a,i5,cap,rfl,hlc,mV,di,fun h0=>?_⟩;obtain⟨c0,rL,_,pB⟩:=has 0 h0;have Fa:=pB 0 _ (Ln (by omega));obtain⟨b,off,Hq⟩:=a;have tN:Hq=Z:=by simpa[Addr.add] using World.cell?_spot Fa
 subst tN;refine⟨b,off,rfl,?_,fun i hi=>?_⟩
 . have:=PS W _ Fa
   simpa[Addr.add] using this
 obtain⟨c1,_,hL,hc1⟩:=has i hi;refine⟨c1,hL,fun k y hk=>?_⟩;have:=hc1 k y hk;rw[add_plain] at this;rw[<-PF] at this;exact this
end
section
variable {H:Type} {enc:TypeId×Ax->H} {W:Ba} {base:Nat} {spare:Nat->Bool} {ap:Bool}
theorem JM:Aq.cellsOf 36=1:=by kernel_rfl
theorem Xq:Aq.cellsOf 56=1:=by kernel_rfl
theorem cellsCs:Aq.cellsOf 87=3:=by kernel_rfl
theorem cellsCss:Aq.cellsOf 22=1:=by kernel_rfl
theorem cellsTk:Aq.cellsOf 24=4:=by kernel_rfl
theorem cellsGr:Aq.cellsOf 90=6:=by kernel_rfl
theorem JL:Aq.cellsOf 92=7:=by kernel_rfl
theorem cellsMv:Aq.cellsOf 94=8:=by kernel_rfl
theorem cellsMl:Aq.cellsOf 95=1:=by kernel_rfl
theorem cellsMls:Aq.cellsOf 25=1:=by kernel_rfl
theorem cellsAd:Aq.cellsOf 27=2:=by kernel_rfl
theorem cellsPb:Aq.cellsOf 29=7:=by kernel_rfl
theorem cellsRds:Aq.cellsOf 55=1:=by kernel_rfl
theorem cellsXn:Aq.cellsOf 58=3:=by kernel_rfl
theorem cellsXns:Aq.cellsOf 33=1:=by kernel_rfl
theorem cellsVs:Aq.cellsOf 30=1:=by kernel_rfl
theorem cellsSy:Aq.cellsOf 35=10:=by kernel_rfl
theorem bytesI8:Aq.bytesOf 3=8:=by kernel_rfl
theorem bytesIs:Aq.bytesOf 36=24:=by kernel_rfl
theorem bytesCs:Aq.bytesOf 87=72:=by kernel_rfl
theorem bytesMv:Aq.bytesOf 94=64:=by kernel_rfl
theorem bytesMl:Aq.bytesOf 95=24:=by kernel_rfl
theorem bytesRd:Aq.bytesOf 92=56:=by kernel_rfl
theorem bytesXn:Aq.bytesOf 58=56:=by kernel_rfl
/-- A slice of integers. -/
theorem Je{m:Nat}{cs:List Ax}{y:DataW H×List MemPlace}(h:DataW.trod enc Aq W base spare ap m 36 cs=J y)(hw:xI Aq 36 y.1) :
  ∃(A:Bb) (xs:List Int) (c:Nat),cs=[I A xs.length c]/\xs.length<=17592186044416/\IAt W W.heap.size A xs:=by
 obtain⟨A,xs,c,e,_,_,hb,hA⟩:=qA (α:=Int) (fun cs i=>cs=[O U i]) Nm yG (by decide) (fun m cs y h _=>by obtain⟨i,e,_⟩:=LP Lx h;exact⟨i,e⟩) h hw;refine⟨A,xs,c,e,?_,fun h0=>?_⟩
 . rw[bytesI8] at hb;unfold reachBytes at hb;omega
 obtain⟨b,off,e,aa,hc⟩:=hA h0;refine⟨b,off,e,aa,fun i hi=>?_⟩;obtain⟨cs,rfl,h2⟩:=hc i hi;simpa using h2 0 _ rfl
/-- A slice of slices of integers. -/
theorem YD{m:Nat}{cs:List Ax}{y:DataW H×List MemPlace}(h:DataW.trod enc Aq W base spare ap m 56 cs=J y)(hw:xI Aq 56 y.1) :
  ∃(A:Bb) (xs:List (List Int)) (c:Nat),cs=[I A xs.length c]/\xs.length<=17592186044416/\(∀v∈xs,v.length<=17592186044416)/\LAt W W.heap.size A xs:=by
 obtain⟨A,xs,c,e,_,_,hb,hA⟩:=qA (α:=List Int) (fun cs v=>∃A c,cs=[I A v.length c]/\v.length<=17592186044416/\IAt W W.heap.size A v) underlying56 JM (by decide)
  (fun m cs y h hw=>by obtain⟨A,xs,c,e,h1,h2⟩:=Je h hw;exact⟨xs,A,c,e,h1,h2⟩) h hw
 refine⟨A,xs,c,e,?_,?_,fun h0=>?_⟩
 . rw[bytesIs] at hb;unfold reachBytes at hb;omega
 . intro v hv
   obtain⟨i,hi,rfl⟩:=LI hv;obtain⟨b,off,_,_,hc⟩:=hA (by omega);obtain⟨cs,⟨A,c,_,h1,_⟩,_⟩:=hc i hi;exact h1
 obtain⟨b,off,e,aa,hc⟩:=hA h0;refine⟨b,off,e,aa,fun i hi=>?_⟩;obtain⟨cs,⟨A,c,rfl,_,h3⟩,h2⟩:=hc i hi;exact⟨A,c,by simpa using h2 0 _ rfl,h3⟩
/-- A case. -/
theorem rd_case{m:Nat}{cs:List Ax}{y:DataW H×List MemPlace}(h:DataW.trod enc Aq W base spare ap m 87 cs=J y)(hw:xI Aq 87 y.1) :
  ∃x:Cs,LowC x/\∃v0 v1 v2,cs=[v0,v1,v2]/\CsV W W.heap.size v0 v1 v2 x:=by
 obtain⟨xs,n,rfl,rfl,hl,ed,hf⟩:=Ni Rt h;rw[cellsCs] at hl;have iO:xs.length=3:=ed
 match cs,hl with
 | [c0,c1,c2],_=>
  have f0:=hf 0 _ rfl;have f1:=hf 1 _ rfl;have f2:=hf 2 _ rfl
  match xs,iO with
  | [x0,x1,x2],_=>
   have g0:DataW.trod enc Aq W base spare ap n 36 [c0]=J x0:=by simpa[JM] using f0
   have g1:DataW.trod enc Aq W base spare ap n 56 [c1]=J x1:=by simpa[Xq] using f1
   have g2:DataW.trod enc Aq W base spare ap n 56 [c2]=J x2:=by simpa[Xq] using f2
   have w0:xI Aq 36 x0.1:=yQ Rt hw (j:=0) rfl rfl;have w1:xI Aq 56 x1.1:=yQ Rt hw (j:=1) rfl rfl;have w2:xI Aq 56 x2.1:=yQ Rt hw (j:=2) rfl rfl;obtain⟨A0,y0,k0,e0,l0,r0⟩:=Je g0 w0;obtain⟨A1,y1,k1,e1,l1,m1,r1⟩:=YD g1 w1;obtain⟨A2,y2,k2,e2,l2,m2,r2⟩:=YD g2 w2
   cases e0;cases e1;cases e2
   exact⟨⟨y0,y1,y2⟩,⟨l0,l1,l2,m1,m2⟩,_,_,_,rfl,⟨A0,k0,rfl,r0⟩,⟨A1,k1,rfl,r1⟩,⟨A2,k2,rfl,r2⟩⟩
/-- A slice of cases. -/
theorem rd_cases{m:Nat}{cs:List Ax}{y:DataW H×List MemPlace}(h:DataW.trod enc Aq W base spare ap m 22 cs=J y)(hw:xI Aq 22 y.1) :
  ∃(A:Bb) (xs:List Cs) (c:Nat),cs=[I A xs.length c]/\xs.length<=17592186044416/\(∀v∈xs,LowC v)/\CAt W W.heap.size A xs:=by
 obtain⟨A,xs,c,e,_,_,hb,hA⟩:=qA (α:=Cs) (fun cs x=>LowC x/\∃v0 v1 v2,cs=[v0,v1,v2]/\CsV W W.heap.size v0 v1 v2 x) Rv cellsCs (by decide)
  (fun m cs y h hw=>rd_case h hw) h hw
 refine⟨A,xs,c,e,?_,?_,fun h0=>?_⟩
 . rw[bytesCs] at hb;unfold reachBytes at hb;omega
 . intro v hv
   obtain⟨i,hi,rfl⟩:=LI hv;obtain⟨b,off,_,_,hc⟩:=hA (by omega);obtain⟨cs,⟨h1,_⟩,_⟩:=hc i hi;exact h1
 obtain⟨b,off,e,aa,hc⟩:=hA h0;refine⟨b,off,e,aa,fun i hi=>?_⟩;obtain⟨cs,⟨_,v0,v1,v2,rfl,h3⟩,h2⟩:=hc i hi;exact⟨v0,v1,v2,h2 0 _ rfl,h2 1 _ rfl,h2 2 _ rfl,h3⟩
/-- A round. -/
theorem rd_round{m:Nat}{cs:List Ax}{y:DataW H×List MemPlace}(h:DataW.trod enc Aq W base spare ap m 92 cs=J y):∃x:Rd,cs=x.cells.toList:=by
 obtain⟨xs,n,rfl,rfl,hl,ed,hf⟩:=Ni underlying92 h;rw[JL] at hl;have iO:xs.length=2:=ed
 match cs,hl with
 | [c0,c1,c2,c3,c4,c5,c6],_=>
  have f0:=hf 0 _ rfl;have f1:=hf 1 _ rfl
  match xs,iO with
  | [x0,x1],_=>
   have g0:DataW.trod enc Aq W base spare ap n 90 [c0,c1,c2,c3,c4,c5]=J x0:=by simpa[cellsGr] using f0
   have g1:DataW.trod enc Aq W base spare ap n 3 [c6]=J x1:=by simpa[yG] using f1
   obtain⟨i6,e6,_,_⟩:=LP Lx g1;obtain⟨ys,k,rfl,rfl,_,fY,hg⟩:=Ni underlying90 g0;have Hu:ys.length=2:=fY;have q0:=hg 0 _ rfl;have q1:=hg 1 _ rfl
   match ys,Hu with
   | [y0,y1],_=>
    have r0:DataW.trod enc Aq W base spare ap k 3 [c0]=J y0:=by simpa[yG] using q0
    have r1:DataW.trod enc Aq W base spare ap k 88 [c1,c2,c3,c4,c5]=J y1:=by simpa[cells5] using q1
    obtain⟨i0,e0,_,_⟩:=LP Lx r0;obtain⟨zs,m,rfl,_,_,hzl,hi⟩:=Sv Pt r1;have k0:=hi 0 (by decide);have k1:=hi 1 (by decide);have k2:=hi 2 (by decide);have k3:=hi 3 (by decide);have k4:=hi 4 (by decide)
    match zs,hzl with
    | [z0,z1,z2,z3,z4],_=>
     have j0:DataW.trod enc Aq W base spare ap m 3 [c1]=J z0:=by simpa[yG] using k0
     have j1:DataW.trod enc Aq W base spare ap m 3 [c2]=J z1:=by simpa[yG] using k1
     have j2:DataW.trod enc Aq W base spare ap m 3 [c3]=J z2:=by simpa[yG] using k2
     have j3:DataW.trod enc Aq W base spare ap m 3 [c4]=J z3:=by simpa[yG] using k3
     have j4:DataW.trod enc Aq W base spare ap m 3 [c5]=J z4:=by simpa[yG] using k4
     obtain⟨a0,b0,_,_⟩:=LP Lx j0;obtain⟨a1,b1,_,_⟩:=LP Lx j1;obtain⟨a2,b2,_,_⟩:=LP Lx j2;obtain⟨a3,b3,_,_⟩:=LP Lx j3;obtain⟨a4,b4,_,_⟩:=LP Lx j4
     cases e0;cases e6;cases b0;cases b1;cases b2;cases b3;cases b4
     exact⟨⟨i0,a0,a1,a2,a3,a4,i6⟩,rfl⟩
/-- A slice of rounds. -/
theorem rd_rounds{m:Nat}{cs:List Ax}{y:DataW H×List MemPlace}(h:DataW.trod enc Aq W base spare ap m 55 cs=J y)(hw:xI Aq 55 y.1) :
  ∃(A:Bb) (xs:List Rd) (c:Nat),cs=[I A xs.length c]/\xs.length<=c/\c<=maxLen/\xs.length<=17592186044416/\RAt W W.heap.size A xs:=by
 obtain⟨A,xs,c,e,hc1,hc2,hb,hA⟩:=qA (α:=Rd) (fun cs x=>cs=x.cells.toList) PX JL (by decide) (fun m cs y h _=>rd_round h) h hw;refine⟨A,xs,c,e,hc1,hc2,?_,fun h0=>?_⟩
 . rw[bytesRd] at hb;unfold reachBytes at hb;omega
 obtain⟨b,off,e,aa,hc⟩:=hA h0;refine⟨b,off,e,aa,fun i hi k u hk=>?_⟩;obtain⟨cs,rfl,h2⟩:=hc i hi;exact h2 k u (by simpa using hk)
/-- A move. -/
theorem rd_move{m:Nat}{cs:List Ax}{y:DataW H×List MemPlace}(h:DataW.trod enc Aq W base spare ap m 94 cs=J y):∃x:Mv,cs=x.cells.toList:=by
 obtain⟨xs,n,rfl,rfl,hl,ed,hf⟩:=Ni underlying94 h;rw[cellsMv] at hl;have iO:xs.length=2:=ed
 match cs,hl with
 | [c0,c1,c2,c3,c4,c5,c6,c7],_=>
  have f0:=hf 0 _ rfl;have f1:=hf 1 _ rfl
  match xs,iO with
  | [x0,x1],_=>
   have g0:DataW.trod enc Aq W base spare ap n 92 [c0,c1,c2,c3,c4,c5,c6]=J x0:=by simpa[JL] using f0
   have g1:DataW.trod enc Aq W base spare ap n 3 [c7]=J x1:=by simpa[yG] using f1
   obtain⟨r,e0⟩:=rd_round g0;obtain⟨i7,e7,_,_⟩:=LP Lx g1
   cases e7
   refine⟨⟨r,i7⟩,?_⟩;simp only[Rd.cells,List.cons.injEq] at e0;obtain⟨rfl,rfl,rfl,rfl,rfl,rfl,rfl,_⟩:=e0
   rfl
/-- A slice of moves. -/
theorem rd_moves{m:Nat}{cs:List Ax}{y:DataW H×List MemPlace}(h:DataW.trod enc Aq W base spare ap m 95 cs=J y)(hw:xI Aq 95 y.1) :
  ∃(A:Bb) (xs:List Mv) (c:Nat),cs=[I A xs.length c]/\xs.length<=17592186044416/\MAt W W.heap.size A xs:=by
 obtain⟨A,xs,c,e,_,_,hb,hA⟩:=qA (α:=Mv) (fun cs x=>cs=x.cells.toList) Rs cellsMv (by decide) (fun m cs y h _=>rd_move h) h hw;refine⟨A,xs,c,e,?_,fun h0=>?_⟩
 . rw[bytesMv] at hb;unfold reachBytes at hb;omega
 obtain⟨b,off,e,aa,hc⟩:=hA h0;refine⟨b,off,e,aa,fun i hi k u hk=>?_⟩;obtain⟨cs,rfl,h2⟩:=hc i hi;exact h2 k u (by simpa using hk)
/-- A slice of slices of moves. -/
theorem rd_states{m:Nat}{cs:List Ax}{y:DataW H×List MemPlace}(h:DataW.trod enc Aq W base spare ap m 25 cs=J y)(hw:xI Aq 25 y.1) :
  ∃(A:Bb) (xs:List (List Mv)) (c:Nat),cs=[I A xs.length c]/\xs.length<=17592186044416/\(∀v∈xs,v.length<=17592186044416)/\SAt W W.heap.size A xs:=by
 obtain⟨A,xs,c,e,_,_,hb,hA⟩:=qA (α:=List Mv) (fun cs v=>∃A c,cs=[I A v.length c]/\v.length<=17592186044416/\MAt W W.heap.size A v) Ru cellsMl (by decide)
  (fun m cs y h hw=>by obtain⟨A,xs,c,e,h1,h2⟩:=rd_moves h hw;exact⟨xs,A,c,e,h1,h2⟩) h hw
 refine⟨A,xs,c,e,?_,?_,fun h0=>?_⟩
 . rw[bytesMl] at hb;unfold reachBytes at hb;omega
 . intro v hv
   obtain⟨i,hi,rfl⟩:=LI hv;obtain⟨b,off,_,_,hc⟩:=hA (by omega);obtain⟨cs,⟨A,c,_,h1,_⟩,_⟩:=hc i hi;exact h1
 obtain⟨b,off,e,aa,hc⟩:=hA h0;refine⟨b,off,e,aa,fun i hi=>?_⟩;obtain⟨cs,⟨A,c,rfl,_,h3⟩,h2⟩:=hc i hi;exact⟨A,c,by simpa using h2 0 _ rfl,h3⟩
/-- A slice of views. -/
theorem rd_views{m:Nat}{cs:List Ax}{y:DataW H×List MemPlace}(h:DataW.trod enc Aq W base spare ap m 30 cs=J y)(hw:xI Aq 30 y.1) :
  ∃(A:Bb) (xs:List Vw) (c:Nat),cs=[I A xs.length c]/\xs.length<=c/\c<=maxLen/\xs.length<=2199023255552/\VAt W W.heap.size A xs:=by
 obtain⟨A,xs,c,e,hc1,hc2,hb,hA⟩:=qA (α:=Vw) (fun cs x=>cs=x.cells.toList) PY cellsV (by decide) (fun m cs y h _=>open_view h) h hw;refine⟨A,xs,c,e,hc1,hc2,?_,fun h0=>?_⟩
 . rw[bytesV] at hb;unfold reachBytes at hb;omega
 obtain⟨b,off,e,aa,hc⟩:=hA h0;refine⟨b,off,e,aa,fun i hi k u hk=>?_⟩;obtain⟨cs,rfl,h2⟩:=hc i hi;exact h2 k u (by simpa using hk)
/-- An execution. -/
theorem rd_exn{m:Nat}{cs:List Ax}{y:DataW H×List MemPlace}(h:DataW.trod enc Aq W base spare ap m 58 cs=J y)(hw:xI Aq 58 y.1) :
  ∃x:Exn,XA x/\∃v0 v1 v2,cs=[v0,v1,v2]/\XsV W W.heap.size v0 v1 v2 x:=by
 obtain⟨xs,n,rfl,rfl,hl,ed,hf⟩:=Ni Sf h;rw[cellsXn] at hl;have iO:xs.length=3:=ed
 match cs,hl with
 | [c0,c1,c2],_=>
  have f0:=hf 0 _ rfl;have f1:=hf 1 _ rfl;have f2:=hf 2 _ rfl
  match xs,iO with
  | [x0,x1,x2],_=>
   have g0:DataW.trod enc Aq W base spare ap n 3 [c0]=J x0:=by simpa[yG] using f0
   have g1:DataW.trod enc Aq W base spare ap n 55 [c1]=J x1:=by simpa[cellsRds] using f1
   have g2:DataW.trod enc Aq W base spare ap n 56 [c2]=J x2:=by simpa[Xq] using f2
   have w1:xI Aq 55 x1.1:=yQ Sf hw (j:=1) rfl rfl;have w2:xI Aq 56 x2.1:=yQ Sf hw (j:=2) rfl rfl;obtain⟨i0,e0,_,_⟩:=LP Lx g0;obtain⟨A1,y1,k1,e1,_,_,l1,r1⟩:=rd_rounds g1 w1;obtain⟨A2,y2,k2,e2,l2,m2,r2⟩:=YD g2 w2
   cases e0;cases e1;cases e2
   exact⟨⟨i0,y1,y2⟩,⟨l1,l2,m2⟩,_,_,_,rfl,rfl,⟨A1,k1,rfl,r1⟩,⟨A2,k2,rfl,r2⟩⟩
/-- A slice of executions. -/
theorem rd_exns{m:Nat}{cs:List Ax}{y:DataW H×List MemPlace}(h:DataW.trod enc Aq W base spare ap m 33 cs=J y)(hw:xI Aq 33 y.1) :
  ∃(A:Bb) (xs:List Exn) (c:Nat),cs=[I A xs.length c]/\xs.length<=17592186044416/\(∀v∈xs,XA v)/\XAt W W.heap.size A xs:=by
 obtain⟨A,xs,c,e,_,_,hb,hA⟩:=qA (α:=Exn) (fun cs x=>XA x/\∃v0 v1 v2,cs=[v0,v1,v2]/\XsV W W.heap.size v0 v1 v2 x) underlying33 cellsXn (by decide)
  (fun m cs y h hw=>rd_exn h hw) h hw
 refine⟨A,xs,c,e,?_,?_,fun h0=>?_⟩
 . rw[bytesXn] at hb;unfold reachBytes at hb;omega
 . intro v hv
   obtain⟨i,hi,rfl⟩:=LI hv;obtain⟨b,off,_,_,hc⟩:=hA (by omega);obtain⟨cs,⟨h1,_⟩,_⟩:=hc i hi;exact h1
 obtain⟨b,off,e,aa,hc⟩:=hA h0;refine⟨b,off,e,aa,fun i hi=>?_⟩;obtain⟨cs,⟨_,v0,v1,v2,rfl,h3⟩,h2⟩:=hc i hi;exact⟨v0,v1,v2,h2 0 _ rfl,h2 1 _ rfl,h2 2 _ rfl,h3⟩
/-- A problem. -/
theorem rd_prob{m:Nat}{cs:List Ax}{y:DataW H×List MemPlace}(h:DataW.trod enc Aq W base spare ap m 29 cs=J y)(hw:xI Aq 29 y.1) :
  ∃(p:Pb) (A:Bb) (kc:Nat) (SV:Bb) (ks:Nat),cs=(p.vs A kc SV ks).toList/\LowP p/\CAt W W.heap.size A p.t.cases/\SAt W W.heap.size SV p.a.sts:=by
 obtain⟨xs,n,rfl,rfl,hl,ed,hf⟩:=Ni Si h;rw[cellsPb] at hl;have iO:xs.length=3:=ed
 match cs,hl with
 | [c0,c1,c2,c3,c4,c5,c6],_=>
  have f0:=hf 0 _ rfl;have f1:=hf 1 _ rfl;have f2:=hf 2 _ rfl
  match xs,iO with
  | [x0,x1,x2],_=>
   have g0:DataW.trod enc Aq W base spare ap n 24 [c0,c1,c2,c3]=J x0:=by simpa[cellsTk] using f0
   have g1:DataW.trod enc Aq W base spare ap n 27 [c4,c5]=J x1:=by simpa[cellsAd] using f1
   have g2:DataW.trod enc Aq W base spare ap n 3 [c6]=J x2:=by simpa[yG] using f2
   have w0:xI Aq 24 x0.1:=yQ Si hw (j:=0) rfl rfl;have w1:xI Aq 27 x1.1:=yQ Si hw (j:=1) rfl rfl;obtain⟨i6,e6,_,_⟩:=LP Lx g2;obtain⟨ys,k,rfl,oK,_,fY,hg⟩:=Ni underlying24 g0;rw[oK] at w0;have hyl4:ys.length=4:=fY;have q0:=hg 0 _ rfl;have q1:=hg 1 _ rfl;have q2:=hg 2 _ rfl;have q3:=hg 3 _ rfl
   match ys,hyl4 with
   | [y0,y1,y2,y3],_=>
    have r0:DataW.trod enc Aq W base spare ap k 3 [c0]=J y0:=by simpa[yG] using q0
    have r1:DataW.trod enc Aq W base spare ap k 3 [c1]=J y1:=by simpa[yG] using q1
    have r2:DataW.trod enc Aq W base spare ap k 3 [c2]=J y2:=by simpa[yG] using q2
    have r3:DataW.trod enc Aq W base spare ap k 22 [c3]=J y3:=by simpa[cellsCss] using q3
    have v3:xI Aq 22 y3.1:=yQ underlying24 w0 (j:=3) rfl rfl;obtain⟨i0,e0,_,_⟩:=LP Lx r0;obtain⟨i1,e1,_,_⟩:=LP Lx r1;obtain⟨i2,e2,_,_⟩:=LP Lx r2;obtain⟨A,us,kc,e3,lu,hu,hA⟩:=rd_cases r3 v3;obtain⟨zs,k',fm,my,_,hzl,fD⟩:=Ni underlying27 g1;rw[my] at w1;have hzl2:zs.length=2:=hzl;have s0:=fD 0 _ rfl;have s1:=fD 1 _ rfl
    match zs,hzl2 with
    | [z0,z1],_=>
     have t0:DataW.trod enc Aq W base spare ap k' 3 [c4]=J z0:=by simpa[yG] using s0
     have t1:DataW.trod enc Aq W base spare ap k' 25 [c5]=J z1:=by simpa[cellsMls] using s1
     have u1:xI Aq 25 z1.1:=yQ underlying27 w1 (j:=1) rfl rfl;obtain⟨i4,e4,_,_⟩:=LP Lx t0;obtain⟨SV,ss,ks,e5,ls,hs,hS⟩:=rd_states t1 u1
     cases e0;cases e1;cases e2;cases e3;cases e4;cases e5;cases e6
     exact⟨⟨⟨i0,i1,i2,us⟩,⟨i4,ss⟩,i6⟩,A,kc,SV,ks,rfl,⟨⟨lu,hu⟩,ls,hs⟩,hA,hS⟩
structure LowSy(s:Sy):Prop where
 fp:LowP s.p
 fv:s.vs.length<=2199023255552
 fx:s.xs.length<=17592186044416
 fe:∀x∈s.xs,XA x
/-- A system that is handed over by value. -/
theorem open_sysArg{b0:Nat}{v:Ax}{d:DataW H}{ps:List MemPlace}(hv:Value.okWide Aq W .any b0 35 v)(h:DataW.Trod enc Aq W base spare ap 35 v d ps)(hw:xI Aq 35 d) :
  ∃(s:Sy) (A:Bb) (kc:Nat) (SV:Bb) (ks:Nat) (AV:Bb) (kv:Nat) (AX:Bb) (kx:Nat),v=.agg (s.vs_ A kc SV ks AV kv AX kx)/\LowSy s/\s.vs.length<=kv/\kv<=maxLen/\SyAt W W.heap.size A SV AV AX s:=by
 obtain⟨cs,rfl,_⟩:=okWide_struct PH hv;obtain⟨fuel,hf⟩:=h;obtain⟨xs,n,rfl,hx,hl,ed,sD⟩:=Ni PH hf;have hd:d=.agg (xs.map (·.1)):=congrArg Prod.fst hx;rw[hd] at hw;rw[cellsSy] at hl;have iO:xs.length=3:=ed;obtain⟨cl⟩:=cs
 match cl,hl with
 | [c0,c1,c2,c3,c4,c5,c6,c7,c8,c9],_=>
  have f0:=sD 0 _ rfl;have f1:=sD 1 _ rfl;have f2:=sD 2 _ rfl
  obtain⟨x0,x1,x2,rfl⟩:∃x0 x1 x2,xs=[x0,x1,x2]:=by
   match xs,iO with
   | [x0,x1,x2],_=>exact⟨x0,x1,x2,rfl⟩
  have g0:DataW.trod enc Aq W base spare ap n 29 [c0,c1,c2,c3,c4,c5,c6]=J x0:=by simpa[cellsPb,Value.cells] using f0
  have g1:DataW.trod enc Aq W base spare ap n 32 [c7,c8]=J x1:=by simpa[cellsT,Value.cells] using f1
  have g2:DataW.trod enc Aq W base spare ap n 33 [c9]=J x2:=by simpa[cellsXns,Value.cells] using f2
  have w0:xI Aq 29 x0.1:=yQ PH hw (j:=0) rfl rfl;have w1:xI Aq 32 x1.1:=yQ PH hw (j:=1) rfl rfl;have w2:xI Aq 33 x2.1:=yQ PH hw (j:=2) rfl rfl;obtain⟨p,A,kc,SV,ks,e0,hp,hA,hS⟩:=rd_prob g0 w0;obtain⟨AX,us,kx,e9,lu,hu,hX⟩:=rd_exns g2 w2;obtain⟨ys,k,rfl,my,_,fY,hg⟩:=Ni underlying32 g1;rw[my] at w1;have Hu:ys.length=2:=fY;have q0:=hg 0 _ rfl;have q1:=hg 1 _ rfl
  match ys,Hu with
  | [y0,y1],_=>
   have r0:DataW.trod enc Aq W base spare ap k 3 [c7]=J y0:=by simpa[yG] using q0
   have r1:DataW.trod enc Aq W base spare ap k 30 [c8]=J y1:=by simpa[cellsVs] using q1
   have v1:xI Aq 30 y1.1:=yQ underlying32 w1 (j:=1) rfl rfl;obtain⟨i7,e7,_,_⟩:=LP Lx r0;obtain⟨AV,vs,kv,e8,hc1,hc2,lv,hV⟩:=rd_views r1 v1
   cases e7;cases e8;cases e9
   simp only[Pb.vs,List.cons.injEq] at e0;obtain⟨rfl,rfl,rfl,rfl,rfl,rfl,rfl,_⟩:=e0;exact⟨⟨p,i7,vs,us⟩,A,kc,SV,ks,AV,kv,AX,kx,rfl,⟨hp,lv,lu,hu⟩,hc1,hc2,⟨hA,hS,hV,hX⟩⟩
end
end
section
open Go.RowKit
structure Kd where
 e:TypeId
 s:TypeId
 size:Nat
 bytes:Nat
 z:Ax
structure KdOk(P:Program)(K:Kd):Prop where
 under:P.underlying K.s=J (.slice K.e)
 info:(P.info? K.e).map (fun i=>(i.zero,i.size,i.bytes))=J (J K.z,K.size,K.bytes)
 zs:K.z.cells.size=K.size
 pos:0<K.size
 small:K.bytes<=1024
def Raw(w:Ba)(A:Bb)(n:Nat)(cs:List Ax):Prop:=0<n->∃b off,A=J ⟨b,off,Z⟩/\b<w.heap.size/\∀(j:Nat) (u:Ax),cs[j]?=J u->w.cell? ⟨b,off+j,Z⟩=J u
def OwnR(K:Kd)(w:Ba)(base:Nat)(v:Ax)(n:Nat)(cs:List Ax):Prop:=w.ownsRow base K.e K.size v n cs
section
variable {P:Program} {K:Kd} {w w':Ba} {base:Nat} {v:Ax} {n:Nat} {cs:List Ax}
theorem OwnR.nil(K:Kd)(w:Ba)(base:Nat):OwnR K w base (I Z 0 0) 0 []:=Rq w base _ _
theorem OwnR.kept{row:Option Nat}(h:OwnR K w base v n cs)(hg:w.grownBy w' row)(bj:v.ownBlock=Z\/v.ownBlock≠row):OwnR K w' base v n cs:=PC h hg bj
theorem OwnR.alloc(h:OwnR K w base v n cs)(o:Obj):OwnR K (w.alloc o) base v n cs:=PN h o
theorem OwnR.lt(h:OwnR K w base v n cs):∀k,v.ownBlock=J k->base<=k/\k<w.heap.size:=RH h
theorem OwnR.below{B:Nat}(h:OwnR K w base v n cs)(hb:Ar B w w')(hB:w.heap.size<=B):OwnR K w' base v n cs:=
 PC (row:=Z) h ⟨hb.os,hb.tape,hb.output,hb.size,fun k hk _=>hb.block k (by omega)⟩ (by cases v.ownBlock<;>simp)
theorem OwnR.low{base':Nat}(h:OwnR K w base v n cs)(hb:base'<=base):OwnR K w base' v n cs:=by
 refine⟨h.1,?_⟩;rcases h.2 with h2 | ⟨g,cap,cur,hv,hg,r⟩
 . exact Or.inl h2
 exact Or.inr ⟨g,cap,cur,hv,by omega,r⟩
theorem OwnR.form(h:OwnR K w base v n cs):∃A cap,v=I A n cap/\n<=cap/\cap<=maxLen/\(0<n->∃g,A=J ⟨g,0,Z⟩/\v.ownBlock=J g/\g<w.heap.size/\∀j u,cs[j]?=J u->w.cell? ⟨g,j,Z⟩=J u):=by
 rcases h.2 with ⟨rfl,h0⟩ | ⟨g,cap,cur,rfl,_,hg,eU,mV,_⟩
 . exact⟨Z,0,by rw[h0],by omega,by omega,fun hn=>by omega⟩
 refine⟨_,_,rfl,eU,mV,fun _=>⟨g,rfl,rfl,(Lu.1 hg).1,fun j u hu=>?_⟩⟩;have:=World.ownsRow.cells h (g:=g) rfl j u hu;rwa[show(⟨g,0,Z⟩:Addr).add j=⟨g,j,Z⟩ from by unfold Addr.add;split<;>simp_all] at this
theorem OwnR.ne{b:Nat}(h:OwnR K w base v n cs)(hb:b<base):v.ownBlock≠J b:=fun e=>by
 have:=(h.lt b e).1;omega
theorem OwnR.raw(h:OwnR K w base v n cs):∃A cap,v=I A n cap/\n<=cap/\cap<=maxLen/\Raw w A n cs:=by
 obtain⟨A,cap,e,h1,h2,h3⟩:=h.form;refine⟨A,cap,e,h1,h2,fun h0=>?_⟩;obtain⟨g,hA,_,hg,hc⟩:=h3 h0;exact⟨g,0,hA,hg,fun j u hu=>by rw[LO];exact hc j u hu⟩
theorem xu(ok:KdOk P K):∃i:TypeInfo,P.info? K.e=J i/\i.zero=J K.z/\i.size=K.size/\i.bytes=K.bytes:=by
 have h:=ok.info
 cases hi:P.info? K.e with
 | none=>rw[hi] at h;cases h
 | some i=>
  rw[hi] at h;simp only[Option.map_some,Option.some.injEq,Prod.mk.injEq] at h;exact⟨i,rfl,h.1,h.2.1,h.2.2⟩
theorem jQ(ok:KdOk P K){o:Oper}{a:Act}{KK:Act->Ba->Prop}{Q:Exit->Act->Ba->Prop}{W:Ba}(s x:Operand)
  (ho:o.op=.call { callee:=.builtin .append,args:=#[s,x],argTypes:=#[K.s,K.s] }) (base:Nat) (V:Ax) (n:Nat) (cs:List Ax) (hs:a.eval s=V) (an:OwnR K W base V n cs)
  (g:Nat) (new:Array Ax) (hx:a.eval x=I (J ⟨g,0,Z⟩) 1 1) (hg:W.heap[g]?=J (Ai new K.e (0,0))) (hn:new.size=K.size) (h1:∀u∈new.toList,u.oneCell'=AA) (hl:n<=1000000000) (hb:base<=W.heap.size) (H:Nat) (hH:W.heap.size=H)
  (h:∀g' cap w1,OwnR K w1 base (I (J ⟨g',0,Z⟩) (n+1) cap) (n+1) (cs++new.toList)->W.grownBy w1 V.ownBlock->(V.ownBlock=J g'\/g'=H)->g'<w1.heap.size->KK (a.put o.dst (I (J ⟨g',0,Z⟩) (n+1) cap)) w1):o.wp P a W KK Q:=by
 obtain⟨i0,hi,ec,cO,dP⟩:=xu ok
 refine wp_append_lies W s x K.s ho base K.e i0 K.z K.size K.bytes ok.under hi ec cO dP ok.zs ok.pos V n cs hs an ⟨g,0,Z⟩ 1 1 new.toList hx (by simp[hn])
  (R6 hg) h1 (by omega) (by unfold maxLen;omega) ?_ hb H hH h
 have:=LU (show n+1<=1000000001 by omega) ok.small;omega
theorem xb(ok:KdOk P K){ops:Array Oper}{rest:List Oper}{o:Oper}{a:Act}{Q:Exit->Act->Ba->Prop}{W:Ba}(lr:o.guard=Z)(s x:Operand)
  (ho:o.op=.call { callee:=.builtin .append,args:=#[s,x],argTypes:=#[K.s,K.s] }) (base:Nat) (V:Ax) (n:Nat) (cs:List Ax) (hs:a.eval s=V) (an:OwnR K W base V n cs)
  (g:Nat) (new:Array Ax) (hx:a.eval x=I (J ⟨g,0,Z⟩) 1 1) (hg:W.heap[g]?=J (Ai new K.e (0,0))) (hn:new.size=K.size) (h1:∀u∈new.toList,u.oneCell'=AA) (hl:n<=1000000000) (hb:base<=W.heap.size) (H:Nat) (hH:W.heap.size=H)
  (h:∀g' cap w1,OwnR K w1 base (I (J ⟨g',0,Z⟩) (n+1) cap) (n+1) (cs++new.toList)->W.grownBy w1 V.ownBlock->(V.ownBlock=J g'\/g'=H)->g'<w1.heap.size->wpList P ops Q rest (a.put o.dst (I (J ⟨g',0,Z⟩) (n+1) cap)) w1):wpList P ops Q (o::rest) a W:=
 L8 lr fun _ hK=>jQ ok s x ho base V n cs hs an g new hx hg hn h1 hl hb H hH fun g' cap w1 h1 h2 h3 h4=>hK _ _ (h g' cap w1 h1 h2 h3 h4)
theorem step_appR(ok:KdOk P K){ops:Array Oper}{o:Oper}{a:Act}{KK:Act->Ba->Prop}{Q:Exit->Act->Ba->Prop}{E:Prop}{W:Ba}(lr:o.guard=Z)(s x:Operand)
  (ho:o.op=.call { callee:=.builtin .append,args:=#[s,x],argTypes:=#[K.s,K.s] }) (base:Nat) (V:Ax) (n:Nat) (cs:List Ax) (hs:a.eval s=V) (an:OwnR K W base V n cs)
  (g:Nat) (new:Array Ax) (hx:a.eval x=I (J ⟨g,0,Z⟩) 1 1) (hg:W.heap[g]?=J (Ai new K.e (0,0))) (hn:new.size=K.size) (h1:∀u∈new.toList,u.oneCell'=AA) (hl:n<=1000000000) (hb:base<=W.heap.size) (H:Nat) (hH:W.heap.size=H)
  (h:∀g' cap w1,OwnR K w1 base (I (J ⟨g',0,Z⟩) (n+1) cap) (n+1) (cs++new.toList)->W.grownBy w1 V.ownBlock->(V.ownBlock=J g'\/g'=H)->g'<w1.heap.size->KK (a.put o.dst (I (J ⟨g',0,Z⟩) (n+1) cap)) w1) :
  if Region.wanted o (yielded ops a.tmps)=AA then Oper.wp P o a W KK Q else E:=by
 have hw:Region.wanted o (yielded ops a.tmps)=AA:=by simp[Region.wanted,lr]
 rw[Li hw];exact jQ ok s x ho base V n cs hs an g new hx hg hn h1 hl hb H hH h
theorem wp_fitR(ok:KdOk P K){o:Oper}{a:Act}{KK:Act->Ba->Prop}{Q:Exit->Act->Ba->Prop}{W:Ba}(s x:Operand)
  (ho:o.op=.call { callee:=.builtin .append,args:=#[s,x],argTypes:=#[K.s,K.s] }) (base g n cap:Nat) (cs:List Ax) (hs:a.eval s=I (J ⟨g,0,Z⟩) n cap) (an:OwnR K W base (I (J ⟨g,0,Z⟩) n cap) n cs)
  (h:Nat) (new:Array Ax) (hx:a.eval x=I (J ⟨h,0,Z⟩) 1 1) (hg:W.heap[h]?=J (Ai new K.e (0,0))) (hn:new.size=K.size) (h1:∀u∈new.toList,u.oneCell'=AA) (eU:n+1<=cap)
  (hK:∀w1,OwnR K w1 base (I (J ⟨g,0,Z⟩) (n+1) cap) (n+1) (cs++new.toList)->W.grownBy w1 (J g)->KK (a.put o.dst (I (J ⟨g,0,Z⟩) (n+1) cap)) w1):o.wp P a W KK Q:=by
 obtain⟨i0,hi,ec,cO,dP⟩:=xu ok;obtain⟨w',fH,r1,r2⟩:=run_append_fits (P:=P) W base K.s o.type K.e i0 K.size ok.under hi cO g n cap cs an ⟨h,0,Z⟩ 1 1 new.toList (by simp[hn]) (R6 hg) h1 eU;unfold Oper.wp execOp;simp only[ho,resolve,invoke,builtin,Sem.run_bind,Sem.run_pure,Result.andThen_ok,List.map_toArray,List.map_cons,List.map_nil,hs,hx,fH];exact hK w' r1 r2
theorem gh(ok:KdOk P K)(A:Bb)(n cap c:Nat)(ty:TypeId)(W:Ba)(hn:n<=cap):(Builtin.append_ #[K.s,K.s] ty #[I A n cap,I Z 0 c]).run P W=.ok (I A n cap) W:=by
 obtain⟨i0,hi,ec,cO,dP⟩:=xu ok
 cases A with
 | none=>simp[Builtin.append_,run_underlying ok.under,sizeOf,typeInfo,hi,Builtin.lenOf,Builtin.firstCells,hn,Result.andThen]
 | some ad=>simp[Builtin.append_,run_underlying ok.under,sizeOf,typeInfo,hi,Builtin.lenOf,Builtin.firstCells,hn,Result.andThen,storeCells]
theorem run_appN(ok:KdOk P K)(W:Ba)(ty:TypeId)(base:Nat)(v:Ax)(n:Nat)(cs:List Ax)(an:OwnR K W base v n cs)(A:Bb)(m c:Nat)(news:List Ax)(hl:news.length=m*K.size)(hA:Raw W A m news)
  (h1:∀u∈news,u.oneCell'=AA) (hm:n+m<=1000000000) (hb:base<=W.heap.size) :
  ∃v' w',(Builtin.append_ #[K.s,K.s] ty #[v,I A m c]).run P W=.ok v' w'/\OwnR K w' base v' (n+m) (cs++news)/\W.grownBy w' v.ownBlock/\(v'.ownBlock=v.ownBlock\/v'.ownBlock=J W.heap.size):=by
 obtain⟨i0,hi,ec,cO,dP⟩:=xu ok
 cases A with
 | none=>
  have lO:m=0:=by
   rcases Nw m with h | h
   . exact h
   . obtain⟨b,off,e,_⟩:=hA h;cases e
  subst lO;have MI:news=[]:=LA (by omega);subst MI;obtain⟨A,cap,rfl,hc,_⟩:=an.form;exact⟨_,W,gh ok A n cap c ty W hc,by simpa using an,Ro _ _,.inl rfl⟩
 | some ad=>
  have aY:=LU hm ok.small
  obtain⟨v',w',hr,r1,r2,_,r4⟩:=run_append_own_at (P:=P) W base K.s ty K.e i0 K.z K.size K.bytes ok.under hi ec cO dP ok.zs ok.pos v n cs an ad m c news hl (fun j u hj=>by
    have cq:j<m*K.size:=by rw[<-hl];exact(Lv.1 hj).1
    have lO:0<m:=by rcases Nw m with h | h;(· subst h;omega);(· exact h)
    obtain⟨b,off,e,_,hc⟩:=hA lO
    cases e
    rw[show(⟨b,off,Z⟩:Addr).add j=⟨b,off+j,Z⟩ from by unfold Addr.add;split<;>simp_all]
    exact hc j u hj) h1 (by unfold maxLen;omega) (by omega) hb
  exact⟨v',w',hr,r1,r2,r4⟩
theorem wp_appN(ok:KdOk P K){o:Oper}{a:Act}{KK:Act->Ba->Prop}{Q:Exit->Act->Ba->Prop}{W:Ba}(s x:Operand)
  (ho:o.op=.call { callee:=.builtin .append,args:=#[s,x],argTypes:=#[K.s,K.s] }) (base:Nat) (v:Ax) (n:Nat) (cs:List Ax) (hs:a.eval s=v) (an:OwnR K W base v n cs) (A:Bb) (m c:Nat) (news:List Ax) (hx:a.eval x=I A m c)
  (hl:news.length=m*K.size) (hA:Raw W A m news) (h1:∀u∈news,u.oneCell'=AA) (hm:n+m<=1000000000) (hb:base<=W.heap.size)
  (h:∀v' w1,OwnR K w1 base v' (n+m) (cs++news)->W.grownBy w1 v.ownBlock->(v'.ownBlock=v.ownBlock\/v'.ownBlock=J W.heap.size)->KK (a.put o.dst v') w1):o.wp P a W KK Q:=by
 obtain⟨v',w',fH,r1,r2,r3⟩:=run_appN ok W o.type base v n cs an A m c news hl hA h1 hm hb;unfold Oper.wp execOp;simp only[ho,resolve,invoke,builtin,Sem.run_bind,Sem.run_pure,Result.andThen_ok,List.map_toArray,List.map_cons,List.map_nil,hs,hx,fH];exact h v' w' r1 r2 r3
theorem JU(ok:KdOk P K){ops:Array Oper}{rest:List Oper}{o:Oper}{a:Act}{Q:Exit->Act->Ba->Prop}{W:Ba}(lr:o.guard=Z)(s x:Operand)
  (ho:o.op=.call { callee:=.builtin .append,args:=#[s,x],argTypes:=#[K.s,K.s] }) (base:Nat) (v:Ax) (n:Nat) (cs:List Ax) (hs:a.eval s=v) (an:OwnR K W base v n cs) (A:Bb) (m c:Nat) (news:List Ax) (hx:a.eval x=I A m c)
  (hl:news.length=m*K.size) (hA:Raw W A m news) (h1:∀u∈news,u.oneCell'=AA) (hm:n+m<=1000000000) (hb:base<=W.heap.size)
  (h:∀v' w1,OwnR K w1 base v' (n+m) (cs++news)->W.grownBy w1 v.ownBlock->(v'.ownBlock=v.ownBlock\/v'.ownBlock=J W.heap.size)->wpList P ops Q rest (a.put o.dst v') w1):wpList P ops Q (o::rest) a W:=
 L8 lr fun _ hK=>wp_appN ok s x ho base v n cs hs an A m c news hx hl hA h1 hm hb fun v' w1 h1 h2 h3=>hK _ _ (h v' w1 h1 h2 h3)
theorem OwnR.of_block{g:Nat}{cur:Array Ax}(h:w.heap[g]?=J (Ai cur K.e (0,0)))(hb:base<=g)(hc:cur.size=n*K.size)(hn:n<=maxLen):OwnR K w base (I (J ⟨g,0,Z⟩) n n) n cur.toList:=
 ⟨by simpa using hc,.inr ⟨g,n,cur,rfl,hb,h,Le _,hn,hc,by rw[Nd (by simp[hc])]⟩⟩
theorem OwnR.pop{g m cap:Nat}{rm:List Ax}(h:OwnR K w base (I (J ⟨g,0,Z⟩) (n+m) cap) (n+m) (cs++rm))(hl:cs.length=n*K.size):OwnR K w base (I (J ⟨g,0,Z⟩) n cap) n cs:=by
 refine⟨hl,.inr ?_⟩;rcases h.2 with ⟨e,_⟩ | ⟨g',aD,cur,e,hb,hg,eU,hm,hs,ht⟩
 . cases e
 injection e with e1 e2 e3
 injection e1 with e1
 injection e1 with e1
 subst e1;subst e3;refine⟨g,cap,cur,rfl,hb,hg,by omega,hm,hs,?_⟩;have h2:=congrArg (List.take (n*K.size)) ht;rw[List.take_take,PA (by omega),<-hl,LC,Sw (by rw[hl,Rw];omega)] at h2;rw[<-hl];exact h2
end
section
variable {S S':Nat->Prop} {w w':Ba} {A:Bb}
theorem kU{b o:Nat}{u:Ax}(h:KeepB S w w')(hb:S b)(hc:w.cell? ⟨b,o,Z⟩=J u):w'.cell? ⟨b,o,Z⟩=J u:=by
 obtain⟨ob,ho,_⟩:=R8 hc;rw[LH (h.same b hb (Lu.1 ho).1)];exact hc
structure KeepC(S:Nat->Prop)(w w':Ba):Prop where
 size:w.heap.size<=w'.heap.size
 cell:∀k o v,S k->w.cell? ⟨k,o,Z⟩=J v->w'.cell? ⟨k,o,Z⟩=J v
theorem KeepC.of_cells(S:Nat->Prop)(hs:w.heap.size<=w'.heap.size)(h:∀(k:Nat) (o:Obj),w.heap[k]?=J o->o.isCells=AA->w'.heap[k]?=J o):KeepC S w w':=
 ⟨hs,fun k o v _ hc=>by
  obtain⟨ob,ho,ex⟩:=R8 hc;rw[LH ((h k ob ho ex).trans ho.symm)]
  exact hc⟩
def IAtS(S:Nat->Prop)(w:Ba)(A:Bb)(xs:List Int):Prop:=
 0<xs.length->∃b off,A=J ⟨b,off,Z⟩/\S b/\b<w.heap.size/\∀(i:Nat) (hi:i<xs.length),w.cell? ⟨b,off+i,Z⟩=J (O U xs[i])
theorem IAtS.keep{xs:List Int}(h:IAtS S w A xs)(hk:KeepB S w w'):IAtS S w' A xs:=fun h0=>by
 obtain⟨b,off,e,hs,hb,hc⟩:=h h0;exact⟨b,off,e,hs,LF hb hk.size,fun i hi=>kU hk hs (hc i hi)⟩
theorem IAtS.keepC{xs:List Int}(h:IAtS S w A xs)(hk:KeepC S w w'):IAtS S w' A xs:=fun h0=>by
 obtain⟨b,off,e,hs,hb,hc⟩:=h h0;exact⟨b,off,e,hs,LF hb hk.size,fun i hi=>hk.cell _ _ _ hs (hc i hi)⟩
theorem IAtS.mono{xs:List Int}(h:IAtS S w A xs)(hm:∀k,k<w.heap.size->S k->S' k):IAtS S' w A xs:=fun h0=>by
 obtain⟨b,off,e,hs,hb,hc⟩:=h h0;exact⟨b,off,e,hm b hb hs,hb,hc⟩
theorem IAtS.on{xs:List Int}(h:IAtS S w A xs)(hb:Ar w.heap.size w w'):IAtS S w' A xs:=
 ((h.mono (S':=fun k=>S k/\k<w.heap.size) fun _ hk hs=>⟨hs,hk⟩).keep ⟨hb.size,fun k hk _=>hb.block k hk.2⟩).mono fun _ _ hs=>hs.1
theorem IAtS.iat{xs:List Int}(h:IAtS S w A xs):IAt w w.heap.size A xs:=fun h0=>by
 obtain⟨b,off,e,hs,hb,hc⟩:=h h0;exact⟨b,off,e,hb,hc⟩
theorem IAtS.of_iat{xs:List Int}{B:Nat}(h:IAt w B A xs)(hB:B<=w.heap.size)(hS:∀k,k<B->S k):IAtS S w A xs:=fun h0=>by
 obtain⟨b,off,e,hb,hc⟩:=h h0;exact⟨b,off,e,hS b hb,by omega,hc⟩
def RAtS(S:Nat->Prop)(w:Ba)(A:Bb)(rs:List Rd):Prop:=
 0<rs.length->∃b off,A=J ⟨b,off,Z⟩/\S b/\b<w.heap.size/\∀(i:Nat) (hi:i<rs.length) (k:Nat) (u:Ax),rs[i].cells[k]?=J u->w.cell? ⟨b,off+i*7+k,Z⟩=J u
theorem RAtS.keep{xs:List Rd}(h:RAtS S w A xs)(hk:KeepB S w w'):RAtS S w' A xs:=fun h0=>by
 obtain⟨b,off,e,hs,hb,hc⟩:=h h0;exact⟨b,off,e,hs,LF hb hk.size,fun i hi k u hu=>kU hk hs (hc i hi k u hu)⟩
theorem RAtS.keepC{xs:List Rd}(h:RAtS S w A xs)(hk:KeepC S w w'):RAtS S w' A xs:=fun h0=>by
 obtain⟨b,off,e,hs,hb,hc⟩:=h h0;exact⟨b,off,e,hs,LF hb hk.size,fun i hi k u hu=>hk.cell _ _ _ hs (hc i hi k u hu)⟩
theorem RAtS.mono{xs:List Rd}(h:RAtS S w A xs)(hm:∀k,k<w.heap.size->S k->S' k):RAtS S' w A xs:=fun h0=>by
 obtain⟨b,off,e,hs,hb,hc⟩:=h h0;exact⟨b,off,e,hm b hb hs,hb,hc⟩
theorem RAtS.on{xs:List Rd}(h:RAtS S w A xs)(hb:Ar w.heap.size w w'):RAtS S w' A xs:=
 ((h.mono (S':=fun k=>S k/\k<w.heap.size) fun _ hk hs=>⟨hs,hk⟩).keep ⟨hb.size,fun k hk _=>hb.block k hk.2⟩).mono fun _ _ hs=>hs.1
theorem RAtS.rat{xs:List Rd}(h:RAtS S w A xs):RAt w w.heap.size A xs:=fun h0=>by
 obtain⟨b,off,e,hs,hb,hc⟩:=h h0;exact⟨b,off,e,hb,hc⟩
theorem RAtS.nil(S:Nat->Prop)(w:Ba)(A:Bb):RAtS S w A []:=fun h=>absurd h (by simp)
def LAtS(S:Nat->Prop)(w:Ba)(A:Bb)(xss:List (List Int)):Prop:=
 0<xss.length->∃b off,A=J ⟨b,off,Z⟩/\S b/\b<w.heap.size/\∀(i:Nat) (hi:i<xss.length),∃A' c,w.cell? ⟨b,off+i,Z⟩=J (I A' xss[i].length c)/\IAtS S w A' xss[i]
theorem LAtS.keep{xs:List (List Int)}(h:LAtS S w A xs)(hk:KeepB S w w'):LAtS S w' A xs:=fun h0=>by
 obtain⟨b,off,e,hs,hb,hc⟩:=h h0;refine⟨b,off,e,hs,LF hb hk.size,fun i hi=>?_⟩;obtain⟨A',c,h1,h2⟩:=hc i hi;exact⟨A',c,kU hk hs h1,h2.keep hk⟩
theorem LAtS.keepC{xs:List (List Int)}(h:LAtS S w A xs)(hk:KeepC S w w'):LAtS S w' A xs:=fun h0=>by
 obtain⟨b,off,e,hs,hb,hc⟩:=h h0;refine⟨b,off,e,hs,LF hb hk.size,fun i hi=>?_⟩;obtain⟨A',c,h1,h2⟩:=hc i hi;exact⟨A',c,hk.cell _ _ _ hs h1,h2.keepC hk⟩
theorem LAtS.mono{xs:List (List Int)}(h:LAtS S w A xs)(hm:∀k,k<w.heap.size->S k->S' k):LAtS S' w A xs:=fun h0=>by
 obtain⟨b,off,e,hs,hb,hc⟩:=h h0;refine⟨b,off,e,hm b hb hs,hb,fun i hi=>?_⟩;obtain⟨A',c,h1,h2⟩:=hc i hi;exact⟨A',c,h1,h2.mono hm⟩
theorem LAtS.on{xs:List (List Int)}(h:LAtS S w A xs)(hb:Ar w.heap.size w w'):LAtS S w' A xs:=
 ((h.mono (S':=fun k=>S k/\k<w.heap.size) fun _ hk hs=>⟨hs,hk⟩).keep ⟨hb.size,fun k hk _=>hb.block k hk.2⟩).mono fun _ _ hs=>hs.1
theorem LAtS.lat{xs:List (List Int)}(h:LAtS S w A xs):LAt w w.heap.size A xs:=fun h0=>by
 obtain⟨b,off,e,hs,hb,hc⟩:=h h0;refine⟨b,off,e,hb,fun i hi=>?_⟩;obtain⟨A',c,h1,h2⟩:=hc i hi;exact⟨A',c,h1,h2.iat⟩
theorem LAtS.of_lat{xs:List (List Int)}{B:Nat}(h:LAt w B A xs)(hB:B<=w.heap.size)(hS:∀k,k<B->S k):LAtS S w A xs:=fun h0=>by
 obtain⟨b,off,e,hb,hc⟩:=h h0;refine⟨b,off,e,hS b hb,by omega,fun i hi=>?_⟩;obtain⟨A',c,h1,h2⟩:=hc i hi;exact⟨A',c,h1,IAtS.of_iat h2 hB hS⟩
def MAtS(S:Nat->Prop)(w:Ba)(A:Bb)(ms:List Mv):Prop:=
 0<ms.length->∃b off,A=J ⟨b,off,Z⟩/\S b/\b<w.heap.size/\∀(i:Nat) (hi:i<ms.length) (k:Nat) (u:Ax),ms[i].cells[k]?=J u->w.cell? ⟨b,off+i*8+k,Z⟩=J u
theorem MAtS.keep{xs:List Mv}(h:MAtS S w A xs)(hk:KeepB S w w'):MAtS S w' A xs:=fun h0=>by
 obtain⟨b,off,e,hs,hb,hc⟩:=h h0;exact⟨b,off,e,hs,LF hb hk.size,fun i hi k u hu=>kU hk hs (hc i hi k u hu)⟩
theorem MAtS.keepC{xs:List Mv}(h:MAtS S w A xs)(hk:KeepC S w w'):MAtS S w' A xs:=fun h0=>by
 obtain⟨b,off,e,hs,hb,hc⟩:=h h0;exact⟨b,off,e,hs,LF hb hk.size,fun i hi k u hu=>hk.cell _ _ _ hs (hc i hi k u hu)⟩
theorem MAtS.mono{xs:List Mv}(h:MAtS S w A xs)(hm:∀k,k<w.heap.size->S k->S' k):MAtS S' w A xs:=fun h0=>by
 obtain⟨b,off,e,hs,hb,hc⟩:=h h0;exact⟨b,off,e,hm b hb hs,hb,hc⟩
theorem MAtS.mat{xs:List Mv}(h:MAtS S w A xs):MAt w w.heap.size A xs:=fun h0=>by
 obtain⟨b,off,e,hs,hb,hc⟩:=h h0;exact⟨b,off,e,hb,hc⟩
theorem MAtS.of_mat{xs:List Mv}{B:Nat}(h:MAt w B A xs)(hB:B<=w.heap.size)(hS:∀k,k<B->S k):MAtS S w A xs:=fun h0=>by
 obtain⟨b,off,e,hb,hc⟩:=h h0;exact⟨b,off,e,hS b hb,by omega,hc⟩
end
structure Ct(α:Type) where
 K:Kd
 lies:(Nat->Prop)->Ba->List Ax->α->Prop
structure CtOk{α:Type}(C:Ct α):Prop where
 len:∀ {S w cs x},C.lies S w cs x->cs.length=C.K.size
 one:∀ {S w cs x},C.lies S w cs x->∀u∈cs,u.oneCell'=AA
 keep:∀ {S w w' cs x},C.lies S w cs x->KeepB S w w'->C.lies S w' cs x
 keepC:∀ {S w w' cs x},C.lies S w cs x->KeepC S w w'->C.lies S w' cs x
 mono:∀ {S S' w cs x},C.lies S w cs x->(∀k,k<w.heap.size->S k->S' k)->C.lies S' w cs x
def OwnX{α:Type}(C:Ct α)(S:Nat->Prop)(w:Ba)(base:Nat)(v:Ax)(xs:List α):Prop:=
 ∃bz:List (List Ax),bz.length=xs.length/\OwnR C.K w base v xs.length bz.flatten/\∀(i:Nat) (h1:i<bz.length) (h2:i<xs.length),C.lies (fun k=>S k/\v.ownBlock≠J k) w bz[i] xs[i]
theorem Z8{s:Nat}:∀(bz:List (List Ax)) (_:∀c∈bz,c.length=s) (i:Nat) (hi:i<bz.length) (k:Nat),k<s->bz.flatten[i*s+k]?=bz[i][k]?
 | c::bz,h,0,hi,k,hk=>by
  have:=h c (by simp);rw[Rz,LY (by omega)];simp
 | c::bz,h,i+1,hi,k,hk=>by
  have hc:=h c (by simp);have:=Z8 bz (fun d hd=>h d (by simp[hd])) i (by simpa using hi) k hk;rw[Rz,LW (by rw[hc,Rw];omega),hc,show(i+1)*s+k-s=i*s+k by rw[Rw];omega,this]
  rfl
section
variable {α:Type} {C:Ct α} {S S':Nat->Prop} {w w':Ba} {base:Nat} {v:Ax} {xs:List α}
theorem OwnX.nil(C:Ct α)(S:Nat->Prop)(w:Ba)(base:Nat):OwnX C S w base (I Z 0 0) []:=⟨[],rfl,OwnR.nil _ _ _,fun i h1 _=>absurd h1 (by simp)⟩
theorem OwnX.lt(h:OwnX C S w base v xs):∀k,v.ownBlock=J k->base<=k/\k<w.heap.size:=by
 obtain⟨bz,_,h2,_⟩:=h;exact h2.lt
theorem OwnX.ne{b:Nat}(h:OwnX C S w base v xs)(hb:b<base):v.ownBlock≠J b:=fun e=>by
 have:=(h.lt b e).1;omega
theorem OwnX.kept(ok:CtOk C){row:Option Nat}(h:OwnX C S w base v xs)(hg:w.grownBy w' row)(bj:v.ownBlock=Z\/v.ownBlock≠row)(hS:∀k,row=J k->¬S k\/v.ownBlock=J k):OwnX C S w' base v xs:=by
 obtain⟨bz,hl,h2,h3⟩:=h;refine⟨bz,hl,h2.kept hg bj,fun i i1 i2=>ok.keep (h3 i i1 i2) (KeepB.of_grown hg fun k hk hs=>?_)⟩;rcases hS k hk with h | h
 . exact h hs.1
 exact hs.2 h
theorem OwnX.keep(ok:CtOk C)(h:OwnX C S w base v xs)(hk:KeepB S w w')(hv:∀k,v.ownBlock=J k->w'.heap[k]?=w.heap[k]?):OwnX C S w' base v xs:=by
 obtain⟨bz,hl,h2,h3⟩:=h;refine⟨bz,hl,?_,fun i i1 i2=>ok.keep (h3 i i1 i2) (hk.mono fun k hk=>hk.1)⟩;refine⟨h2.1,?_⟩;rcases h2.2 with hn | ⟨g,cap,cur,CI,hb,hg,rest⟩
 . exact .inl hn
 exact .inr ⟨g,cap,cur,CI,hb,(hv g (by rw[CI];rfl)).trans hg,rest⟩
theorem OwnX.turn(ok:CtOk C)(h:OwnX C S w base v xs)(hs:w.heap.size<=w'.heap.size)(hc:∀(k:Nat) (o:Obj),w.heap[k]?=J o->o.isCells=AA->w'.heap[k]?=J o):OwnX C S w' base v xs:=by
 obtain⟨bz,hl,h2,h3⟩:=h;refine⟨bz,hl,?_,fun i i1 i2=>ok.keepC (h3 i i1 i2) (KeepC.of_cells _ hs hc)⟩;refine⟨h2.1,?_⟩;rcases h2.2 with hn | ⟨g,cap,cur,CI,hb,hg,rest⟩
 . exact .inl hn
 exact .inr ⟨g,cap,cur,CI,hb,hc g _ hg rfl,rest⟩
theorem OwnX.below(ok:CtOk C){B:Nat}(h:OwnX C S w base v xs)(hb:Ar B w w')(hB:w.heap.size<=B):OwnX C S w' base v xs:=
 h.keep ok ⟨hb.size,fun k _ hk=>hb.block k (by omega)⟩ (fun k hk=>hb.block k (by have:=(h.lt k hk).2;omega))
theorem OwnX.mono(ok:CtOk C)(h:OwnX C S w base v xs)(hm:∀k,k<w.heap.size->S k->S' k):OwnX C S' w base v xs:=by
 obtain⟨bz,hl,h2,h3⟩:=h;exact⟨bz,hl,h2,fun i i1 i2=>ok.mono (h3 i i1 i2) fun k hk hs=>⟨hm k hk hs.1,hs.2⟩⟩
theorem OwnX.low{base':Nat}(h:OwnX C S w base v xs)(hb:base'<=base):OwnX C S w base' v xs:=by
 obtain⟨bz,hl,h2,h3⟩:=h;exact⟨bz,hl,h2.low hb,h3⟩
theorem OwnX.app(ok:CtOk C){g' cap:Nat}{bz:List (List Ax)}{x:α}{cs:List Ax}(hl:bz.length=xs.length)(h3:∀(i:Nat) (h1:i<bz.length) (h2:i<xs.length),C.lies (fun k=>S k/\v.ownBlock≠J k) w bz[i] xs[i])
  (hx:C.lies (fun k=>S k/\v.ownBlock≠J k) w cs x) (hr:OwnR C.K w' base (I (J ⟨g',0,Z⟩) (xs.length+1) cap) (xs.length+1) (bz.flatten++cs)) (hg:w.grownBy w' v.ownBlock) (bL:v.ownBlock=J g'\/g'=w.heap.size) :
  OwnX C S w' base (I (J ⟨g',0,Z⟩) (xs.length+1) cap) (xs++[x]):=by
 have go:∀ {cs x},C.lies (fun k=>S k/\v.ownBlock≠J k) w cs x->C.lies (fun k=>S k/\(I (J ⟨g',0,Z⟩) (xs.length+1) cap).ownBlock≠J k) w' cs x:=fun h=>by
  have h1:=ok.mono (S':=fun k=>S k/\v.ownBlock≠J k/\g'≠k) h fun k hk hs=>⟨hs.1,hs.2,by
   rcases bL with e | e
   . rintro rfl;exact hs.2 e
   . omega⟩
  have h2:=ok.keep h1 (KeepB.of_grown hg fun k hk hs=>hs.2.1 hk);exact ok.mono h2 fun k _ hs=>⟨hs.1,fun e=>hs.2.2 (by simpa[Value.ownBlock] using e)⟩
 refine⟨bz++[cs],by simp[hl],by simpa using hr,fun i i1 i2=>?_⟩
 by_cases hi:i<bz.length
 . have h2:i<xs.length:=by omega
   rw[PP hi,PP h2];exact go (h3 i hi h2)
 have e1:i=bz.length:=by simp at i1;omega
 subst e1;rw[N5 (Le _),N5 (by omega)];simpa[hl] using go hx
theorem OwnX.form(ok:CtOk C)(h:OwnX C S w base v xs):∃A cap,v=I A xs.length cap/\xs.length<=cap/\cap<=maxLen/\(0<xs.length->∃g,A=J ⟨g,0,Z⟩/\base<=g/\g<w.heap.size /\
  ∀(i:Nat) (h2:i<xs.length),∃cs,C.lies (fun k=>S k/\k≠g) w cs xs[i]/\∀j u,cs[j]?=J u->w.cell? ⟨g,i*C.K.size+j,Z⟩=J u):=by
 obtain⟨bz,hl,h2,h3⟩:=h;have aa:=h2.lt;obtain⟨A,cap,rfl,hc,hm,hr⟩:=h2.form;refine⟨A,cap,rfl,hc,hm,fun h0=>?_⟩;obtain⟨g,rfl,hg,ia,aP⟩:=hr h0;refine⟨g,rfl,(aa g hg).1,ia,fun i hi=>?_⟩;have hic:i<bz.length:=by omega
 refine⟨bz[i],ok.mono (h3 i hic hi) fun k _ hs=>⟨hs.1,fun e=>hs.2 (by rw[hg,e])⟩,fun j u hu=>?_⟩
 have cK:∀c∈bz,c.length=C.K.size:=fun c hc=>by
  obtain⟨m,hm,rfl⟩:=LI hc;exact ok.len (h3 m hm (by omega))
 have cq:j<C.K.size:=by
  have:=(Lv.1 hu).1;rw[cK _ (Ld hic)] at this;exact this
 exact aP _ u (by rw[Z8 bz cK i hic j cq];exact hu)
end
end
section
open Go.RowKit
def Own(w:Ba)(base:Nat)(v:Ax)(xs:List Int):Prop:=w.ownsRow base 3 1 v xs.length (xs.map (O U))
theorem Own.nil(w:Ba)(base:Nat):Own w base (I Z 0 0) []:=Rq w base _ 1
theorem Own.drewN{w:Ba}{base:Nat}{v:Ax}{xs:List Int}(h:Own w base v xs)(n:Nat):Own (w.drewN n) base v xs:=h
theorem Own.kept{w w':Ba}{base:Nat}{v:Ax}{xs:List Int}{row:Option Nat}(h:Own w base v xs)(hg:w.grownBy w' row)(bj:v.ownBlock=Z\/v.ownBlock≠row):Own w' base v xs:=PC h hg bj
theorem Own.below{w w':Ba}{base B:Nat}{v:Ax}{xs:List Int}(h:Own w base v xs)(hb:Ar B w w')(hB:w.heap.size<=B):Own w' base v xs:=
 PC (row:=Z) h ⟨hb.os,hb.tape,hb.output,hb.size,fun k hk _=>hb.block k (by omega)⟩ (by cases v.ownBlock<;>simp)
theorem Own.shut{w w':Ba}{base B:Nat}{v:Ax}{xs:List Int}(h:Own w base v xs)(hs:Shut B w w'):Own w' base v xs:=hs.own h
theorem Own.form{w:Ba}{base:Nat}{v:Ax}{xs:List Int}(h:Own w base v xs):∃A cap,v=I A xs.length cap/\xs.length<=cap/\cap<=maxLen/\IAt w w.heap.size A xs:=by
 rcases h.2 with ⟨rfl,h0⟩ | ⟨g,cap,cur,rfl,_,_,eU,mV,_⟩
 . have:xs=[]:=LA h0
   subst this;exact⟨Z,0,rfl,Le _,NF _,IAt.nil _ _ _⟩
 exact⟨_,_,rfl,eU,mV,IAt.of_own h⟩
theorem Own.low{w:Ba}{base base':Nat}{v:Ax}{xs:List Int}(h:Own w base v xs)(hb:base'<=base):Own w base' v xs:=by
 refine⟨h.1,?_⟩;rcases h.2 with h2 | ⟨g,cap,cur,hv,hg,r⟩
 . exact Or.inl h2
 exact Or.inr ⟨g,cap,cur,hv,by omega,r⟩
theorem Own.lt{w:Ba}{base:Nat}{v:Ax}{xs:List Int}(h:Own w base v xs):∀k,v.ownBlock=J k->base<=k/\k<w.heap.size:=RH h
theorem Y4:(Aq.info? 3).map (fun i=>(i.zero,i.size,i.bytes))=J (J (O U 0),1,8):=by kernel_rfl
theorem xF{w w':Ba}{o:Obj}{row:Option Nat}(h:(w.alloc o).grownBy w' row):w.grownBy w' row:=
 ⟨h.os,h.tape,h.output,Lz (by simp) h.size,fun k hk bj=>(h.block k (by simp;omega) bj).trans (N9 w o k hk)⟩
theorem xd{ops:Array Oper}{rest:List Oper}{o:Oper}{a:Act}{Q:Exit->Act->Ba->Prop}{W:Ba}(lr:o.guard=Z)(s x:Operand)
  (cG:o.op=.call { callee:=.builtin .append,args:=#[s,x],argTypes:=#[36,36] }) (base:Nat) (v:Ax) (xs:List Int) (u:Int) (hs:a.eval s=v) (an:Own W base v xs)
  (hx:a.eval x=I (J ⟨W.heap.size,0,Z⟩) 1 1) (aS:xs.length<8796093022208) (hb:base<=W.heap.size)
  (h:∀v' w1,Own w1 base v' (xs++[u])->W.grownBy w1 v.ownBlock->Ar base W w1->wpList Aq ops Q rest (a.put o.dst v') w1) :
  wpList Aq ops Q (o::rest) a (W.alloc (Ai #[O U u] 3)):=by
 obtain⟨i0,hi,ec,cO,dP⟩:=RK Y4
 refine Ps _ lr s x 36 cG base 3 i0 (O U 0) 1 8 Nm hi ec cO dP rfl (by decide) v xs.length _ hs (PN an _) ⟨W.heap.size,0,Z⟩ 1 1 [O U u] hx rfl (cell_one_new _ _ _)
  (by simp[Value.oneCell']) (by unfold maxLen;omega) (by omega) (by simp;omega) ?_
 intro v' w1 aI bW _;have hg:=xF bW;refine h v' w1 ?_ hg ((Ll base W).grown hg hb fun k hk=>(an.lt k hk).1);unfold Own;rw[Lw,LM];exact aI
theorem kW{ops:Array Oper}{o:Oper}{a:Act}{K:Act->Ba->Prop}{Q:Exit->Act->Ba->Prop}{E:Prop}{W:Ba}(lr:o.guard=Z)(s x:Operand)
  (cG:o.op=.call { callee:=.builtin .append,args:=#[s,x],argTypes:=#[36,36] }) (base:Nat) (v:Ax) (xs:List Int) (u:Int) (hs:a.eval s=v) (an:Own W base v xs)
  (hx:a.eval x=I (J ⟨W.heap.size,0,Z⟩) 1 1) (aS:xs.length<8796093022208) (hb:base<=W.heap.size)
  (h:∀v' w1,Own w1 base v' (xs++[u])->W.grownBy w1 v.ownBlock->Ar base W w1->K (a.put o.dst v') w1) :
  if Region.wanted o (yielded ops a.tmps)=AA then Oper.wp Aq o a (W.alloc (Ai #[O U u] 3)) K Q else E:=by
 have hw:Region.wanted o (yielded ops a.tmps)=AA:=by simp[Region.wanted,lr]
 rw[Li hw];obtain⟨i0,hi,ec,cO,dP⟩:=RK Y4
 refine wp_append_own _ s x 36 cG base 3 i0 (O U 0) 1 8 Nm hi ec cO dP rfl (by decide) v xs.length _ hs (PN an _) ⟨W.heap.size,0,Z⟩ 1 1 [O U u] hx rfl (cell_one_new _ _ _)
  (by simp[Value.oneCell']) (by unfold maxLen;omega) (by omega) (by simp;omega) ?_
 intro v' w1 aI bW _;have hg:=xF bW;refine h v' w1 ?_ hg ((Ll base W).grown hg hb fun k hk=>(an.lt k hk).1);unfold Own;rw[Lw,LM];exact aI
theorem ul{F:Fence}{n:Nat}{ops:Array Oper}{rest:List Oper}{o:Oper}{a:Act}{Q:Exit->Act->Ba->Prop}{W:Ba}(lr:o.guard=Z)(s x:Operand)
  (cG:o.op=.call { callee:=.builtin .append,args:=#[s,x],argTypes:=#[36,36] }) (base:Nat) (v:Ax) (xs:List Int) (u:Int) (hs:a.eval s=v) (an:Own W base v xs)
  (hx:a.eval x=I (J ⟨W.heap.size,0,Z⟩) 1 1) (aS:xs.length<8796093022208) (hb:base<=W.heap.size)
  (h:∀v' w1,Own w1 base v' (xs++[u])->W.grownBy w1 v.ownBlock->Ar base W w1->wpListIn F n Aq ops Q rest (a.put o.dst v') w1) :
  wpListIn F n Aq ops Q (o::rest) a (W.alloc (Ai #[O U u] 3)):=by
 obtain⟨i0,hi,ec,cO,dP⟩:=RK Y4
 refine wpListIn_append_own _ lr s x 36 cG base 3 i0 (O U 0) 1 8 Nm hi ec cO dP rfl (by decide) v xs.length _ hs (PN an _) ⟨W.heap.size,0,Z⟩ 1 1 [O U u] hx rfl (cell_one_new _ _ _)
  (by simp[Value.oneCell']) (by unfold maxLen;omega) (by omega) (by simp;omega) ?_
 intro v' w1 aI bW _;have hg:=xF bW;refine h v' w1 ?_ hg ((Ll base W).grown hg hb fun k hk=>(an.lt k hk).1);unfold Own;rw[Lw,LM];exact aI
theorem Yc(A:Bb)(n cap:Nat)(hn:n+1<=cap)(_hm:cap<=maxLen):∃A',(∀X:Ba,(Instr.slice 36 (I A (n+1) cap) (J (O U 1)) Z Z).run Aq X=.ok (I A' n (cap-1)) X) /\
  ∀(w:Ba) (B:Nat) (u:Int) (xs:List Int),xs.length=n->IAt w B A (u::xs)->IAt w B A' xs:=by
 refine⟨if cap=1 then A else A.map (·.add 1),fun X=>?_,fun w B u xs hl h h0=>?_⟩
 . have hu:Aq.underlying 36=J (.slice 3):=Nm
   simp[Instr.slice,Instr.sliceBounds,run_underlying hu,go_sem];exact fun h=>absurd h (by omega)
 obtain⟨b,off,rfl,hb,hc⟩:=h (by simp);have:cap≠1:=by omega
 refine⟨b,off+1,by simp[this,Addr.add],hb,fun i hi=>?_⟩;have:=hc (i+1) (by simp;omega);simpa[Nat.add_assoc,Nat.add_comm 1 i] using this
theorem IAt.up{w w':Ba}{A:Bb}{xs:List Int}(h:IAt w w.heap.size A xs)(hb:Ar w.heap.size w w'):IAt w' w'.heap.size A xs:=(h.keep hb).more hb.size
theorem IAt.box(w:Ba)(x:Int)(t:TypeId):IAt (w.alloc (Ai #[O U x] t)) (w.alloc (Ai #[O U x] t)).heap.size (J ⟨w.heap.size,0,Z⟩) [x]:=fun _=>
 ⟨w.heap.size,0,rfl,by simp,fun i hi=>by
  have:i=0:=by simp at hi;omega
  subst this
  exact zh (zy w _) 0 rfl⟩
theorem YL{w W w2:Ba}{v:Ax}{xs:List Int}(ho:Own w2 W.heap.size v xs)(hb:Ar W.heap.size W w2)(h:Ar w.heap.size w W):Own w2 w.heap.size v xs/\Ar w.heap.size w w2:=
 ⟨ho.low h.size,Lc h hb⟩
def ug(xs:List Int)(w:Ba)(e:Ending)(w':Ba):Prop:=∃v,e=Am v/\Own w' w.heap.size v xs/\Ar w.heap.size w w'
def RowAt(w:Ba)(g:Nat)(xs:List Int):Prop:=w.heap[g]?=J (Ai (xs.map (O U)).toArray 3 (0,0))
theorem RowAt.cell{w:Ba}{g:Nat}{xs:List Int}(h:RowAt w g xs)(k:Nat)(hk:k<xs.length):w.cell? ⟨g,k,Z⟩=J (O U xs[k]):=zh h k (by simp[hk])
theorem RowAt.froz{w:Ba}{g:Nat}{xs:List Int}(h:RowAt w g xs)(k:Nat):w.frozen? ⟨g,k,Z⟩=AC:=zi h k
theorem RowAt.lt{w:Ba}{g:Nat}{xs:List Int}(h:RowAt w g xs):g<w.heap.size:=zj h
theorem RowAt.set{w:Ba}{g:Nat}{xs:List Int}(h:RowAt w g xs)(k:Nat)(u:Int):RowAt (w.setCell ⟨g,k,Z⟩ (O U u)) g (xs.set k u):=by
 unfold RowAt at *;rw[World.setCell,PG,Li rfl,h];simp[List.map_set]
theorem RowAt.own{w:Ba}{g base:Nat}{xs:List Int}(h:RowAt w g xs)(hb:base<=g)(hl:xs.length<=maxLen):Own w base (I (J ⟨g,0,Z⟩) xs.length xs.length) xs:=by
 refine⟨by simp,.inr ⟨g,xs.length,_,rfl,hb,h,Le _,hl,by simp,by rw[NW];simp[List.take_of_length_le]⟩⟩
theorem zk(w:Ba)(c1:Array Ax)(t1:TypeId):∃W0,w.alloc (Ai c1 t1)=W0/\W0.heap[w.heap.size]?=J (Ai c1 t1 (0,0))/\W0.heap.size=w.heap.size+1/\Ar w.heap.size w W0:=
 ⟨_,rfl,zy _ _,by simp,ye w _⟩
theorem zV(w:Ba)(g k:Nat)(v':Ax):w.grownBy (w.setCell ⟨g,k,Z⟩ v') (J g):=
 ⟨rfl,rfl,rfl,by simp[World.setCell],fun j _ hj=>Lh w ⟨g,k,Z⟩ v' j (fun e=>hj (by rw[e]))⟩
def kRd:Kd:=⟨92,55,7,56,Ak #[O U 0,O U 0,O U 0,O U 0,O U 0,O U 0,O U 0]⟩
theorem Jw:KdOk Aq kRd:=⟨PX,by kernel_rfl,by rfl,by decide,by decide⟩
def kMv:Kd:=⟨94,95,8,64,Ak #[O U 0,O U 0,O U 0,O U 0,O U 0,O U 0,O U 0,O U 0]⟩
theorem kMv_ok:KdOk Aq kMv:=⟨Rs,by kernel_rfl,by rfl,by decide,by decide⟩
def kWd:Kd:=⟨55,141,1,24,I Z 0 0⟩
theorem kWd_ok:KdOk Aq kWd:=⟨underlying141,by kernel_rfl,by rfl,by decide,by decide⟩
def kIs:Kd:=⟨36,56,1,24,I Z 0 0⟩
theorem Jy:KdOk Aq kIs:=⟨underlying56,by kernel_rfl,by rfl,by decide,by decide⟩
def kMl:Kd:=⟨95,25,1,24,I Z 0 0⟩
theorem kMl_ok:KdOk Aq kMl:=⟨Ru,by kernel_rfl,by rfl,by decide,by decide⟩
def kCs:Kd:=⟨87,22,3,72,Ak #[I Z 0 0,I Z 0 0,I Z 0 0]⟩
theorem kCs_ok:KdOk Aq kCs:=⟨Rv,by kernel_rfl,by rfl,by decide,by decide⟩
def kXn:Kd:=⟨58,33,3,56,Ak #[O U 0,I Z 0 0,I Z 0 0]⟩
theorem kXn_ok:KdOk Aq kXn:=⟨underlying33,by kernel_rfl,by rfl,by decide,by decide⟩
def kIn:Kd:=⟨3,36,1,8,O U 0⟩
theorem Y3:KdOk Aq kIn:=⟨Nm,by kernel_rfl,by rfl,by decide,by decide⟩
def kVw:Kd:=⟨111,30,8,64,Ak #[O U 0,O U 0,O U 0,O U 0,O U 0,O U 0,O U 0,O U 0]⟩
theorem kVw_ok:KdOk Aq kVw:=⟨PY,by kernel_rfl,by rfl,by decide,by decide⟩
def RetR(K:Kd)(n:Nat)(cs:List Ax)(w:Ba)(e:Ending)(w':Ba):Prop:=∃v,e=Am v/\OwnR K w' w.heap.size v n cs/\Ar w.heap.size w w'
theorem QP(A:Bb)(n cap:Nat)(cs:List Ax)(w:Ba)(hl:cs.length=n*7)(hA:Raw w A n cs)(h1:∀u∈cs,u.oneCell'=AA)(hn:n<=1000000) :
  As Aq 87 #[I A n cap] w (RetR kRd n cs w):=by
 have HT:=zH hA;have H1:=zH h1;have HL:=zH hl;have q:∀(w:Ba) (a:Bb) (n c n' c':Nat),(binOp .eql 55 (I a n c) (I Z n' c')).run Aq w=.ok (Aj a.isNone) w:=fun w a n c n' c'=>Pq w _ _ a n c n' c' PX
 obtain⟨i0,hi,ec,cO,dP⟩:=xu Jw
 cases A with
 | none=>
  have mz:n=0:=by
   rcases Nw n with h | h
   . exact h
   . obtain⟨b,off,e,_⟩:=HT.out h;cases e
  subst mz;have cK:cs=[]:=LA (by have:=HL.out;omega);subst cK;go_enter func87,ntmps87;go_wp2;go_ret;exact⟨_,rfl,OwnR.nil _ _ _,Ll _ _⟩
 | some ad=>
  have HC:Aw (∀(j:Nat) (u:Ax),cs[j]?=J u->(w.alloc (Ai #[] 92)).cell? (ad.add j)=J u):=fun j u hj=>by
   have cq:j<n*7:=by rw[<-HL.out];exact(Lv.1 hj).1
   obtain⟨b,off,e,aa,hc⟩:=HT.out (by omega)
   cases e
   rw[Pn];exact Pw _ (hc j u hj)
  go_enter func87,ntmps87;go_wp2_with (at_builtin;refine Ps _ rfl _ _ 55 rfl w.heap.size 92 i0 _ 7 56 PX hi ec cO dP rfl (by decide) _ _ _ rfl (PB w #[] 0 (Le _) (NF _) rfl) ad n cap cs rfl HL.out HC.out H1.out ?qc4 ?qc5 ?qc6 ?_)
  case qc4=>unfold maxLen;omega
  case qc5=>omega
  case qc6=>simp
  intro v' w1 an bW pZ;go_wp2;go_ret;refine⟨v',rfl,an,?_⟩;exact((Ll _ w).alloc (Le _) _).grown bW (by simp) (by intro k hk;simp[Value.ownBlock] at hk;omega)
theorem clone_kCs(A:Bb)(n cap:Nat)(cs:List Ax)(w:Ba)(hl:cs.length=n*3)(hA:Raw w A n cs)(h1:∀u∈cs,u.oneCell'=AA)(hn:n<=1000000) :
  As Aq 139 #[I A n cap] w (RetR kCs n cs w):=by
 have HT:=zH hA;have H1:=zH h1;have HL:=zH hl;have q:∀(w:Ba) (a:Bb) (n c n' c':Nat),(binOp .eql 22 (I a n c) (I Z n' c')).run Aq w=.ok (Aj a.isNone) w:=fun w a n c n' c'=>Pq w _ _ a n c n' c' Rv
 obtain⟨i0,hi,ec,cO,dP⟩:=xu kCs_ok
 cases A with
 | none=>
  have mz:n=0:=by
   rcases Nw n with h | h
   . exact h
   . obtain⟨b,off,e,_⟩:=HT.out h;cases e
  subst mz;have cK:cs=[]:=LA (by have:=HL.out;omega);subst cK;go_enter func139,ntmps139;go_wp2;go_ret;exact⟨_,rfl,OwnR.nil _ _ _,Ll _ _⟩
 | some ad=>
  have HC:Aw (∀(j:Nat) (u:Ax),cs[j]?=J u->(w.alloc (Ai #[] 87)).cell? (ad.add j)=J u):=fun j u hj=>by
   have cq:j<n*3:=by rw[<-HL.out];exact(Lv.1 hj).1
   obtain⟨b,off,e,aa,hc⟩:=HT.out (by omega)
   cases e
   rw[Pn];exact Pw _ (hc j u hj)
  go_enter func139,ntmps139;go_wp2_with (at_builtin;refine Ps _ rfl _ _ 22 rfl w.heap.size 87 i0 _ 3 72 Rv hi ec cO dP rfl (by decide) _ _ _ rfl (PB w #[] 0 (Le _) (NF _) rfl) ad n cap cs rfl HL.out HC.out H1.out ?qc4 ?qc5 ?qc6 ?_)
  case qc4=>unfold maxLen;omega
  case qc5=>omega
  case qc6=>simp
  intro v' w1 an bW pZ;go_wp2;go_ret;refine⟨v',rfl,an,?_⟩;exact((Ll _ w).alloc (Le _) _).grown bW (by simp) (by intro k hk;simp[Value.ownBlock] at hk;omega)
theorem clone_kMv(A:Bb)(n cap:Nat)(cs:List Ax)(w:Ba)(hl:cs.length=n*8)(hA:Raw w A n cs)(h1:∀u∈cs,u.oneCell'=AA)(hn:n<=1000000) :
  As Aq 143 #[I A n cap] w (RetR kMv n cs w):=by
 have HT:=zH hA;have H1:=zH h1;have HL:=zH hl;have q:∀(w:Ba) (a:Bb) (n c n' c':Nat),(binOp .eql 95 (I a n c) (I Z n' c')).run Aq w=.ok (Aj a.isNone) w:=fun w a n c n' c'=>Pq w _ _ a n c n' c' Rs
 obtain⟨i0,hi,ec,cO,dP⟩:=xu kMv_ok
 cases A with
 | none=>
  have mz:n=0:=by
   rcases Nw n with h | h
   . exact h
   . obtain⟨b,off,e,_⟩:=HT.out h;cases e
  subst mz;have cK:cs=[]:=LA (by have:=HL.out;omega);subst cK;go_enter func143,ntmps143;go_wp2;go_ret;exact⟨_,rfl,OwnR.nil _ _ _,Ll _ _⟩
 | some ad=>
  have HC:Aw (∀(j:Nat) (u:Ax),cs[j]?=J u->(w.alloc (Ai #[] 94)).cell? (ad.add j)=J u):=fun j u hj=>by
   have cq:j<n*8:=by rw[<-HL.out];exact(Lv.1 hj).1
   obtain⟨b,off,e,aa,hc⟩:=HT.out (by omega)
   cases e
   rw[Pn];exact Pw _ (hc j u hj)
  go_enter func143,ntmps143;go_wp2_with (at_builtin;refine Ps _ rfl _ _ 95 rfl w.heap.size 94 i0 _ 8 64 Rs hi ec cO dP rfl (by decide) _ _ _ rfl (PB w #[] 0 (Le _) (NF _) rfl) ad n cap cs rfl HL.out HC.out H1.out ?qc4 ?qc5 ?qc6 ?_)
  case qc4=>unfold maxLen;omega
  case qc5=>omega
  case qc6=>simp
  intro v' w1 an bW pZ;go_wp2;go_ret;refine⟨v',rfl,an,?_⟩;exact((Ll _ w).alloc (Le _) _).grown bW (by simp) (by intro k hk;simp[Value.ownBlock] at hk;omega)
theorem clone_kMl(A:Bb)(n cap:Nat)(cs:List Ax)(w:Ba)(hl:cs.length=n*1)(hA:Raw w A n cs)(h1:∀u∈cs,u.oneCell'=AA)(hn:n<=1000000) :
  As Aq 142 #[I A n cap] w (RetR kMl n cs w):=by
 have HT:=zH hA;have H1:=zH h1;have HL:=zH hl;have q:∀(w:Ba) (a:Bb) (n c n' c':Nat),(binOp .eql 25 (I a n c) (I Z n' c')).run Aq w=.ok (Aj a.isNone) w:=fun w a n c n' c'=>Pq w _ _ a n c n' c' Ru
 obtain⟨i0,hi,ec,cO,dP⟩:=xu kMl_ok
 cases A with
 | none=>
  have mz:n=0:=by
   rcases Nw n with h | h
   . exact h
   . obtain⟨b,off,e,_⟩:=HT.out h;cases e
  subst mz;have cK:cs=[]:=LA (by have:=HL.out;omega);subst cK;go_enter func142,ntmps142;go_wp2;go_ret;exact⟨_,rfl,OwnR.nil _ _ _,Ll _ _⟩
 | some ad=>
  have HC:Aw (∀(j:Nat) (u:Ax),cs[j]?=J u->(w.alloc (Ai #[] 95)).cell? (ad.add j)=J u):=fun j u hj=>by
   have cq:j<n*1:=by rw[<-HL.out];exact(Lv.1 hj).1
   obtain⟨b,off,e,aa,hc⟩:=HT.out (by omega)
   cases e
   rw[Pn];exact Pw _ (hc j u hj)
  go_enter func142,ntmps142;go_wp2_with (at_builtin;refine Ps _ rfl _ _ 25 rfl w.heap.size 95 i0 _ 1 24 Ru hi ec cO dP rfl (by decide) _ _ _ rfl (PB w #[] 0 (Le _) (NF _) rfl) ad n cap cs rfl HL.out HC.out H1.out ?qc4 ?qc5 ?qc6 ?_)
  case qc4=>unfold maxLen;omega
  case qc5=>omega
  case qc6=>simp
  intro v' w1 an bW pZ;go_wp2;go_ret;refine⟨v',rfl,an,?_⟩;exact((Ll _ w).alloc (Le _) _).grown bW (by simp) (by intro k hk;simp[Value.ownBlock] at hk;omega)
theorem clone_kIn(A:Bb)(n cap:Nat)(cs:List Ax)(w:Ba)(hl:cs.length=n*1)(hA:Raw w A n cs)(h1:∀u∈cs,u.oneCell'=AA)(hn:n<=1000000) :
  As Aq 140 #[I A n cap] w (RetR kIn n cs w):=by
 have HT:=zH hA;have H1:=zH h1;have HL:=zH hl;have q:∀(w:Ba) (a:Bb) (n c n' c':Nat),(binOp .eql 36 (I a n c) (I Z n' c')).run Aq w=.ok (Aj a.isNone) w:=fun w a n c n' c'=>Pq w _ _ a n c n' c' Nm
 obtain⟨i0,hi,ec,cO,dP⟩:=xu Y3
 cases A with
 | none=>
  have mz:n=0:=by
   rcases Nw n with h | h
   . exact h
   . obtain⟨b,off,e,_⟩:=HT.out h;cases e
  subst mz;have cK:cs=[]:=LA (by have:=HL.out;omega);subst cK;go_enter func140,ntmps140;go_wp2;go_ret;exact⟨_,rfl,OwnR.nil _ _ _,Ll _ _⟩
 | some ad=>
  have HC:Aw (∀(j:Nat) (u:Ax),cs[j]?=J u->(w.alloc (Ai #[] 3)).cell? (ad.add j)=J u):=fun j u hj=>by
   have cq:j<n*1:=by rw[<-HL.out];exact(Lv.1 hj).1
   obtain⟨b,off,e,aa,hc⟩:=HT.out (by omega)
   cases e
   rw[Pn];exact Pw _ (hc j u hj)
  go_enter func140,ntmps140;go_wp2_with (at_builtin;refine Ps _ rfl _ _ 36 rfl w.heap.size 3 i0 _ 1 8 Nm hi ec cO dP rfl (by decide) _ _ _ rfl (PB w #[] 0 (Le _) (NF _) rfl) ad n cap cs rfl HL.out HC.out H1.out ?qc4 ?qc5 ?qc6 ?_)
  case qc4=>unfold maxLen;omega
  case qc5=>omega
  case qc6=>simp
  intro v' w1 an bW pZ;go_wp2;go_ret;refine⟨v',rfl,an,?_⟩;exact((Ll _ w).alloc (Le _) _).grown bW (by simp) (by intro k hk;simp[Value.ownBlock] at hk;omega)
end
section
open Go.RowKit
def xq(vs:List Rd):List Ax:=vs.flatMap fun x=>x.cells.toList
theorem uw(vs us:List Rd):xq (vs++us)=xq vs++xq us:=by simp[xq]
theorem qo(vs:List Rd):(xq vs).length=vs.length*7:=by
 induction vs with
 | nil=>rfl
 | cons v vs ih=>simp only[xq,List.flatMap_cons,List.length_append,List.length_cons] at *;rw[ih];simp[Rd.cells];omega
theorem gq:∀(vs:List Rd) (i:Nat) (hi:i<vs.length) (k:Nat),k<7->(xq vs)[i*7+k]?=vs[i].cells[k]?
 | v::vs,0,hi,k,hk=>by
  simp only[xq,List.flatMap_cons,List.getElem_cons_zero,Nat.zero_mul,Nat.zero_add];rw[LY (by simp[Rd.cells];omega)];simp
 | v::vs,i+1,hi,k,hk=>by
  have:=gq vs i (by simpa using hi) k hk;simp only[xq,List.flatMap_cons,List.getElem_cons_succ] at *;rw[LW (by simp[Rd.cells];omega),<-this]
  congr 1
  simp[Rd.cells];omega
theorem uJ(vs:List Rd):∀u∈xq vs,u.oneCell'=AA:=by
 intro u hu;obtain⟨v,_,hv⟩:=NJ.1 hu;simp only[Rd.cells,List.mem_cons,List.not_mem_nil,or_false] at hv;rcases hv with rfl | rfl | rfl | rfl | rfl | rfl | rfl<;>rfl
theorem YF{w:Ba}{A:Bb}{vs:List Rd}(h:RAt w w.heap.size A vs):Raw w A vs.length (xq vs):=fun h0=>by
 obtain⟨b,off,e,aa,hc⟩:=h h0;refine⟨b,off,e,aa,fun j u hj=>?_⟩;have hj8:j<vs.length*7:=by have:=(Lv.1 hj).1;rwa[qo] at this
 have fR:j / 7<vs.length:=by omega
 have h8:j / 7*7+j % 7=j:=by omega
 rw[<-h8,gq vs (j / 7) fR (j % 7) (by omega)] at hj;have:=hc (j / 7) fR (j % 7) u hj;rwa[PF,h8] at this
theorem uI{w:Ba}{base:Nat}{v:Ax}{vs:List Rd}(h:OwnR kRd w base v vs.length (xq vs)):∃A cap,v=I A vs.length cap/\vs.length<=cap/\cap<=maxLen/\RAtS (fun k=>base<=k) w A vs:=by
 have aa:=h.lt;obtain⟨A,cap,rfl,hc,hm,hr⟩:=h.form;refine⟨A,cap,rfl,hc,hm,fun h0=>?_⟩;obtain⟨g,rfl,hg,ia,aP⟩:=hr h0;refine⟨g,0,rfl,(aa g hg).1,ia,fun i hi k u hu=>?_⟩;have hk:k<7:=by have:=(Lu.1 hu).1;simpa[Rd.cells] using this
 rw[LO];exact aP _ u (by rw[gq vs i hi k hk];exact hu)
def jq(vs:List Mv):List Ax:=vs.flatMap fun x=>x.cells.toList
theorem uy(vs:List Mv):(jq vs).length=vs.length*8:=by
 induction vs with
 | nil=>rfl
 | cons v vs ih=>simp only[jq,List.flatMap_cons,List.length_append,List.length_cons] at *;rw[ih];simp[Mv.cells];omega
theorem gI:∀(vs:List Mv) (i:Nat) (hi:i<vs.length) (k:Nat),k<8->(jq vs)[i*8+k]?=vs[i].cells[k]?
 | v::vs,0,hi,k,hk=>by
  simp only[jq,List.flatMap_cons,List.getElem_cons_zero,Nat.zero_mul,Nat.zero_add];rw[LY (by simp[Mv.cells];omega)];simp
 | v::vs,i+1,hi,k,hk=>by
  have:=gI vs i (by simpa using hi) k hk;simp only[jq,List.flatMap_cons,List.getElem_cons_succ] at *;rw[LW (by simp[Mv.cells];omega),<-this]
  congr 1
  simp[Mv.cells];omega
theorem mcells_one(vs:List Mv):∀u∈jq vs,u.oneCell'=AA:=by
 intro u hu;obtain⟨v,_,hv⟩:=NJ.1 hu;simp only[Mv.cells,List.mem_cons,List.not_mem_nil,or_false] at hv;rcases hv with rfl | rfl | rfl | rfl | rfl | rfl | rfl | rfl<;>rfl
theorem mcells_raw{w:Ba}{A:Bb}{vs:List Mv}(h:MAt w w.heap.size A vs):Raw w A vs.length (jq vs):=fun h0=>by
 obtain⟨b,off,e,aa,hc⟩:=h h0;refine⟨b,off,e,aa,fun j u hj=>?_⟩;have hj8:j<vs.length*8:=by have:=(Lv.1 hj).1;rwa[uy] at this
 have fR:j / 8<vs.length:=by omega
 have h8:j / 8*8+j % 8=j:=by omega
 rw[<-h8,gI vs (j / 8) fR (j % 8) (by omega)] at hj;have:=hc (j / 8) fR (j % 8) u hj;rwa[PF,h8] at this
theorem mcells_own{w:Ba}{base:Nat}{v:Ax}{vs:List Mv}(h:OwnR kMv w base v vs.length (jq vs)):∃A cap,v=I A vs.length cap/\vs.length<=cap/\cap<=maxLen/\MAtS (fun k=>base<=k) w A vs:=by
 have aa:=h.lt;obtain⟨A,cap,rfl,hc,hm,hr⟩:=h.form;refine⟨A,cap,rfl,hc,hm,fun h0=>?_⟩;obtain⟨g,rfl,hg,ia,aP⟩:=hr h0;refine⟨g,0,rfl,(aa g hg).1,ia,fun i hi k u hu=>?_⟩;have hk:k<8:=by have:=(Lu.1 hu).1;simpa[Mv.cells] using this
 rw[LO];exact aP _ u (by rw[gI vs i hi k hk];exact hu)
def cIs:Ct (List Int):=⟨kIs,fun S w cs xs=>∃A c,cs=[I A xs.length c]/\IAtS S w A xs⟩
theorem xx:CtOk cIs where
 len:=fun ⟨A,c,e,_⟩=>by rw[e];rfl
 one:=fun ⟨A,c,e,_⟩ u hu=>by rw[e] at hu;simp at hu;subst hu;rfl
 keep:=fun ⟨A,c,e,h⟩ hk=>⟨A,c,e,h.keep hk⟩
 keepC:=fun ⟨A,c,e,h⟩ hk=>⟨A,c,e,h.keepC hk⟩
 mono:=fun ⟨A,c,e,h⟩ hm=>⟨A,c,e,h.mono hm⟩
def cWd:Ct (List Rd):=⟨kWd,fun S w cs xs=>∃A c,cs=[I A xs.length c]/\RAtS S w A xs/\xs.length<=c⟩
theorem kd:CtOk cWd where
 len:=fun ⟨A,c,e,_⟩=>by rw[e];rfl
 one:=fun ⟨A,c,e,_⟩ u hu=>by rw[e] at hu;simp at hu;subst hu;rfl
 keep:=fun ⟨A,c,e,h,hc⟩ hk=>⟨A,c,e,h.keep hk,hc⟩
 keepC:=fun ⟨A,c,e,h,hc⟩ hk=>⟨A,c,e,h.keepC hk,hc⟩
 mono:=fun ⟨A,c,e,h,hc⟩ hm=>⟨A,c,e,h.mono hm,hc⟩
def cMl:Ct (List Mv):=⟨kMl,fun S w cs xs=>∃A c,cs=[I A xs.length c]/\MAtS S w A xs⟩
theorem jg:CtOk cMl where
 len:=fun ⟨A,c,e,_⟩=>by rw[e];rfl
 one:=fun ⟨A,c,e,_⟩ u hu=>by rw[e] at hu;simp at hu;subst hu;rfl
 keep:=fun ⟨A,c,e,h⟩ hk=>⟨A,c,e,h.keep hk⟩
 keepC:=fun ⟨A,c,e,h⟩ hk=>⟨A,c,e,h.keepC hk⟩
 mono:=fun ⟨A,c,e,h⟩ hm=>⟨A,c,e,h.mono hm⟩
def cCs:Ct Cs:=⟨kCs,fun S w cs x=>∃A0 c0 A1 c1 A2 c2,cs=[I A0 x.inp.length c0,I A1 x.out.length c1,I A2 x.calm.length c2]/\IAtS S w A0 x.inp/\LAtS S w A1 x.out/\LAtS S w A2 x.calm⟩
theorem qM:CtOk cCs where
 len:=fun ⟨A0,c0,A1,c1,A2,c2,e,_⟩=>by rw[e];rfl
 one:=fun ⟨A0,c0,A1,c1,A2,c2,e,_⟩ u hu=>by rw[e] at hu;simp at hu;rcases hu with rfl | rfl | rfl<;>rfl
 keep:=fun ⟨A0,c0,A1,c1,A2,c2,e,h0,h1,h2⟩ hk=>⟨A0,c0,A1,c1,A2,c2,e,h0.keep hk,h1.keep hk,h2.keep hk⟩
 keepC:=fun ⟨A0,c0,A1,c1,A2,c2,e,h0,h1,h2⟩ hk=>⟨A0,c0,A1,c1,A2,c2,e,h0.keepC hk,h1.keepC hk,h2.keepC hk⟩
 mono:=fun ⟨A0,c0,A1,c1,A2,c2,e,h0,h1,h2⟩ hm=>⟨A0,c0,A1,c1,A2,c2,e,h0.mono hm,h1.mono hm,h2.mono hm⟩
section
variable {S:Nat->Prop} {w:Ba} {base:Nat} {v:Ax}
theorem Xu{xs:List (List Rd)}(h:OwnX cWd S w base v xs):∃A cap,v=I A xs.length cap/\xs.length<=cap/\cap<=maxLen/\WAt w w.heap.size A xs:=by
 obtain⟨A,cap,e,h1,h2,h3⟩:=h.form kd;refine⟨A,cap,e,h1,h2,fun h0=>?_⟩;obtain⟨g,rfl,_,hg,hc⟩:=h3 h0;refine⟨g,0,rfl,hg,fun i hi=>?_⟩;obtain⟨cs,⟨A',c',rfl,hl,_⟩,ah⟩:=hc i hi;refine⟨A',c',?_,hl.rat⟩;have:=ah 0 _ rfl;rw[LO];rwa[show i*cWd.K.size+0=i by show i*1+0=i;omega] at this
theorem cIs_part{xs:List (List Int)}(h:OwnX cIs S w base v xs):∃A cap,v=I A xs.length cap/\xs.length<=cap/\cap<=maxLen/\LAtS (fun k=>S k\/base<=k) w A xs:=by
 obtain⟨A,cap,e,h1,h2,h3⟩:=h.form xx;refine⟨A,cap,e,h1,h2,fun h0=>?_⟩;obtain⟨g,rfl,hb,hg,hc⟩:=h3 h0;refine⟨g,0,rfl,.inr hb,hg,fun i hi=>?_⟩;obtain⟨cs,⟨A',c',rfl,hl⟩,ah⟩:=hc i hi;refine⟨A',c',?_,hl.mono fun k _ hs=>.inl hs.1⟩;have:=ah 0 _ rfl;rw[LO];rwa[show i*cIs.K.size+0=i by show i*1+0=i;omega] at this
theorem QV{xs:List (List Int)}(h:OwnX cIs S w base v xs):∃A cap,v=I A xs.length cap/\xs.length<=cap/\cap<=maxLen/\LAtS (fun k=>S k\/v.ownBlock=J k) w A xs:=by
 obtain⟨A,cap,e,h1,h2,h3⟩:=h.form xx;refine⟨A,cap,e,h1,h2,fun h0=>?_⟩;obtain⟨g,rfl,hb,hg,hc⟩:=h3 h0;refine⟨g,0,rfl,.inr (by rw[e];rfl),hg,fun i hi=>?_⟩;obtain⟨cs,⟨A',c',rfl,hl⟩,ah⟩:=hc i hi;refine⟨A',c',?_,hl.mono fun k _ hs=>.inl hs.1⟩;have:=ah 0 _ rfl;rw[LO];rwa[show i*cIs.K.size+0=i by show i*1+0=i;omega] at this
end
end
section
open Go.RowKit
def JN:Ct Exn:=⟨kXn,fun S w cs x=>∃A c A2 c2,cs=[O U x.c,I A x.word.length c,I A2 x.views.length c2]/\RAtS S w A x.word/\LAtS S w A2 x.views/\x.word.length<=c⟩
theorem yc:CtOk JN where
 len:=fun ⟨A,c,A2,c2,e,_⟩=>by rw[e];rfl
 one:=fun ⟨A,c,A2,c2,e,_⟩ u hu=>by rw[e] at hu;simp at hu;rcases hu with rfl | rfl | rfl<;>rfl
 keep:=fun ⟨A,c,A2,c2,e,h1,h2,h3⟩ hk=>⟨A,c,A2,c2,e,h1.keep hk,h2.keep hk,h3⟩
 keepC:=fun ⟨A,c,A2,c2,e,h1,h2,h3⟩ hk=>⟨A,c,A2,c2,e,h1.keepC hk,h2.keepC hk,h3⟩
 mono:=fun ⟨A,c,A2,c2,e,h1,h2,h3⟩ hm=>⟨A,c,A2,c2,e,h1.mono hm,h2.mono hm,h3⟩
def XCap(w:Ba)(A:Bb)(xs:List Exn):Prop:=∀b o q,A=J ⟨b,o,q⟩->∀(i:Nat) (_:i<xs.length) (B:Bb) (n c:Nat),w.cell? ⟨b,o+i*3+1,Z⟩=J (I B n c)->n<=c
section
variable {S:Nat->Prop} {w:Ba} {base:Nat} {v:Ax}
theorem uf{xs:List Exn}(h:OwnX JN S w base v xs):∃A cap,v=I A xs.length cap/\xs.length<=cap/\cap<=maxLen/\XAt w w.heap.size A xs/\XCap w A xs:=by
 obtain⟨A,cap,e,h1,h2,h3⟩:=h.form yc
 have key:∀g,A=J ⟨g,0,Z⟩->∀(i:Nat) (hi:i<xs.length),∃A' c' A2 c2,w.cell? ⟨g,i*3,Z⟩=J (O U xs[i].c)/\w.cell? ⟨g,i*3+1,Z⟩=J (I A' xs[i].word.length c')/\w.cell? ⟨g,i*3+2,Z⟩=J (I A2 xs[i].views.length c2)/\RAt w w.heap.size A' xs[i].word/\LAt w w.heap.size A2 xs[i].views/\xs[i].word.length<=c':=by
  intro g eg i hi;obtain⟨g',eg',_,hg,hc⟩:=h3 (by omega);rw[eg] at eg'
  cases eg'
  obtain⟨cs,⟨A',c',A2,c2,rfl,hr,hl,hw⟩,ah⟩:=hc i hi;have h0:=ah 0 _ rfl;have h1:=ah 1 _ rfl;have h2:=ah 2 _ rfl;change w.cell? ⟨g,i*3+0,Z⟩=_ at h0;change w.cell? ⟨g,i*3+1,Z⟩=_ at h1;change w.cell? ⟨g,i*3+2,Z⟩=_ at h2;exact⟨A',c',A2,c2,by simpa using h0,by simpa using h1,by simpa using h2,hr.rat,hl.lat,hw⟩
 refine⟨A,cap,e,h1,h2,fun h0=>?_,fun b o q eA i hi B n c ah=>?_⟩
 . obtain⟨g,rfl,_,hg,_⟩:=h3 h0
   refine⟨g,0,rfl,hg,fun i hi=>?_⟩;obtain⟨A',c',A2,c2,k0,k1,k2,hr,hl,_⟩:=key g rfl i hi;refine⟨_,_,_,?_,?_,?_,rfl,⟨A',c',rfl,hr⟩,⟨A2,c2,rfl,hl⟩⟩
   . simpa using k0
   . simpa using k1
   simpa using k2
 obtain⟨g,eg,_,hg,_⟩:=h3 (by omega);have eg2:=eg;rw[eA] at eg
 cases eg
 obtain⟨A',c',A2,c2,k0,k1,k2,hr,hl,hw⟩:=key _ eg2 i hi;rw[LO] at ah;rw[k1] at ah
 cases ah
 exact hw
end
end
section
open Go.RowKit
structure KeyOk{κ:Type}(P:Program)(kt:TypeId)(enc:κ->Ax):Prop where
 inj:∀a b,enc a=enc b->a=b
 check:∀(w:Ba) (em:Bool) (a:κ),(Instr.checkKey em 10000 kt (enc a)).run P w=.ok () w
 equal:∀(w:Ba) (a b:κ),(Op.equal kt (enc a) (enc b)).run P w=.ok (@decide (enc a=enc b) (Classical.propDecidable _)) w
 now:∀(d:TypeDesc),P.underlying kt=J d->(∀a b:κ,Instr.sameNow d (enc a) (enc b)=J (@decide (enc a=enc b) (Classical.propDecidable _)))\/(∀a b:κ,Instr.sameNow d (enc a) (enc b)=Z)
 stays:∀a:κ,Instr.sameBits 10000 (enc a) (enc a)=AA
 kind:∃d,P.underlying kt=J d
section
variable {κ:Type} {P:Program} {kt:TypeId} {enc:κ->Ax}
open Classical
theorem ZH{d:TypeDesc}(h:∀a b:κ,Instr.sameNow d (enc a) (enc b)=J (decide (enc a=enc b)))(x:κ):∀(es:List MapEntry) (i:Nat),(∀e∈es,∃k,e.key=enc k) ->
  (Instr.findNow d (enc x) es i=J Z/\∀e∈es,e.key≠enc x)\/∃j e,Instr.findNow d (enc x) es i=J (J (i+j,e.val))/\es[j]?=J e/\e.key=enc x
 | [],i,_=>.inl ⟨rfl,fun _ h=>by cases h⟩
 | e::es,i,hk=>by
  obtain⟨k,re⟩:=hk e (by simp)
  by_cases he:enc x=enc k
  . refine .inr ⟨0,e,?_,rfl,by rw[re,he]⟩
    simp[Instr.findNow,re,h,he]
  . rcases ZH h x es (i+1) (fun e he=>hk e (by simp[he])) with ⟨h1,h2⟩ | ⟨j,e',h1,h2,h3⟩
    . refine .inl ⟨by simp[Instr.findNow,re,h,he,h1],fun e' DQ=>?_⟩
      rcases LL.1 DQ with rfl | DQ
      . rw[re];exact fun e2=>he e2.symm
      . exact h2 e' DQ
    . exact .inr ⟨j+1,e',by simp[Instr.findNow,re,h,he,h1];omega,by simpa using h2,h3⟩
theorem vF(K:KeyOk P kt enc)(w:Ba)(x:κ):∀(es:List MapEntry) (i:Nat),(∀e∈es,∃k,e.key=enc k) ->
  ((Instr.findAsking kt (enc x) es i).run P w=.ok Z w/\∀e∈es,e.key≠enc x)\/∃j e,(Instr.findAsking kt (enc x) es i).run P w=.ok (J (i+j,e.val)) w/\es[j]?=J e/\e.key=enc x
 | [],i,_=>.inl ⟨rfl,fun _ h=>by cases h⟩
 | e::es,i,hk=>by
  obtain⟨k,re⟩:=hk e (by simp)
  by_cases he:enc x=enc k
  . refine .inr ⟨0,e,?_,rfl,by rw[re,he]⟩
    simp[Instr.findAsking,re,K.equal,he,Result.andThen]
  . rcases vF K w x es (i+1) (fun e he=>hk e (by simp[he])) with ⟨h1,h2⟩ | ⟨j,e',h1,h2,h3⟩
    . refine .inl ⟨by simp[Instr.findAsking,re,K.equal,he,h1,Result.andThen],fun e' DQ=>?_⟩
      rcases LL.1 DQ with rfl | DQ
      . rw[re];exact fun e2=>he e2.symm
      . exact h2 e' DQ
    . exact .inr ⟨j+1,e',by simp[Instr.findAsking,re,K.equal,he,h1,Result.andThen];omega,by simpa using h2,h3⟩
theorem Xh{d:TypeDesc}(h:∀a b:κ,Instr.sameNow d (enc a) (enc b)=Z)(x:κ)(es:List MapEntry)(hk:∀e∈es,∃k,e.key=enc k) :
  es=[]\/Instr.findNow d (enc x) es 0=Z:=by
 cases es with
 | nil=>exact .inl rfl
 | cons e es=>
  obtain⟨k,re⟩:=hk e (by simp);exact .inr (by simp[Instr.findNow,re,h])
theorem Xg(K:KeyOk P kt enc)(w:Ba)(x:κ)(es:List MapEntry)(hk:∀e∈es,∃k,e.key=enc k) :
  ((Instr.findKey kt (enc x) es).run P w=.ok Z w/\∀e∈es,e.key≠enc x)\/∃j e,(Instr.findKey kt (enc x) es).run P w=.ok (J (j,e.val)) w/\es[j]?=J e/\e.key=enc x:=by
 obtain⟨d,hd⟩:=K.kind;rcases K.now d hd with h | h
 . rcases ZH h x es 0 hk with ⟨h1,h2⟩ | ⟨j,e,h1,h2,h3⟩
   . exact .inl ⟨by simp[Instr.findKey,run_underlying hd,h1],h2⟩
   exact .inr ⟨j,e,by simp[Instr.findKey,run_underlying hd,h1],h2,h3⟩
 rcases Xh h x es hk with rfl | hn
 . exact .inl ⟨by simp[Instr.findKey,run_underlying hd,Instr.findNow],fun _ h=>by cases h⟩
 rcases vF K w x es 0 hk with ⟨h1,h2⟩ | ⟨j,e,h1,h2,h3⟩
 . exact .inl ⟨by simp[Instr.findKey,run_underlying hd,hn,h1],h2⟩
 exact .inr ⟨j,e,by simp[Instr.findKey,run_underlying hd,hn,h1],h2,h3⟩
def MapOf(enc:κ->Ax)(w:Ba)(b n:Nat)(f:κ->Option Ax):Prop:=
 ∃es bG,w.heap[b]?=J (.map es bG)/\es.size<=n/\(es.toList.Pairwise fun x y=>x.key≠y.key)/\(∀e∈es.toList,∃k,e.key=enc k/\f k=J e.val)/\(∀k v,f k=J v->∃e∈es.toList,e.key=enc k/\e.val=v)
theorem MapOf.made(w:Ba):MapOf enc (w.alloc (.map #[] 0)) w.heap.size 0 (fun _=>Z):=
 ⟨#[],0,heap_alloc_new w _,Le _,List.Pairwise.nil,fun e h=>by simp at h,fun k v h=>by cases h⟩
theorem MapOf.same{w w':Ba}{b n:Nat}{f:κ->Option Ax}(h:MapOf enc w b n f)(hs:w'.heap[b]?=w.heap[b]?):MapOf enc w' b n f:=by
 obtain⟨es,bG,hb,r⟩:=h;exact⟨es,bG,hs.trans hb,r⟩
theorem MapOf.lt{w:Ba}{b n:Nat}{f:κ->Option Ax}(h:MapOf enc w b n f):b<w.heap.size:=by
 obtain⟨es,bG,hb,r⟩:=h;exact(Lu.1 hb).1
theorem MapOf.look{w:Ba}{b n:Nat}{f:κ->Option Ax}{t e:TypeId}{z:Ax}(h:MapOf enc w b n f)(K:KeyOk P kt enc)(ht:P.underlying t=J (.map kt e))(hz:(zeroValue e).run P w=.ok z w)(k:κ) :
  (Instr.lookup t (.map (J b)) (enc k) AC).run P w=.ok ((f k).getD z) w:=by
 obtain⟨es,bG,hb,_,_,h1,h2⟩:=h;rcases Xg K w k es.toList (fun e he=>by obtain⟨k,hk,_⟩:=h1 e he;exact⟨k,hk⟩) with ⟨r1,r2⟩ | ⟨j,e0,r1,r2,r3⟩
 · have hf : f k = Z := by
    cases hf:f k with
    | none=>rfl
    | some v=>obtain⟨e,he,hk,_⟩:=h2 k v hf;exact absurd hk (r2 e he)
   simp[Instr.lookup,run_underlying ht,MapKept.run_getObj_map hb,K.check w _ k,r1,hz,Result.andThen,hf]
 obtain⟨k',fm,hf⟩:=h1 e0 (RY r2);have:k=k':=K.inj _ _ (r3.symm.trans fm);subst this;simp[Instr.lookup,run_underlying ht,MapKept.run_getObj_map hb,K.check w _ k,r1,Result.andThen,hf]
theorem MapOf.look2{w:Ba}{b n:Nat}{f:κ->Option Ax}{t e:TypeId}{z:Ax}(h:MapOf enc w b n f)(K:KeyOk P kt enc)(ht:P.underlying t=J (.map kt e))(hz:(zeroValue e).run P w=.ok z w)(k:κ) :
  (Instr.lookup t (.map (J b)) (enc k) AA).run P w=.ok (.tuple #[(f k).getD z,Aj (f k).isSome]) w:=by
 obtain⟨es,bG,hb,_,_,h1,h2⟩:=h;rcases Xg K w k es.toList (fun e he=>by obtain⟨k,hk,_⟩:=h1 e he;exact⟨k,hk⟩) with ⟨r1,r2⟩ | ⟨j,e0,r1,r2,r3⟩
 · have hf : f k = Z := by
    cases hf:f k with
    | none=>rfl
    | some v=>obtain⟨e,he,hk,_⟩:=h2 k v hf;exact absurd hk (r2 e he)
   simp[Instr.lookup,run_underlying ht,MapKept.run_getObj_map hb,K.check w _ k,r1,hz,Result.andThen,hf]
 obtain⟨k',fm,hf⟩:=h1 e0 (RY r2);have:k=k':=K.inj _ _ (r3.symm.trans fm);subst this;simp[Instr.lookup,run_underlying ht,MapKept.run_getObj_map hb,K.check w _ k,r1,Result.andThen,hf]
def xH[DecidableEq κ](f:κ->Option Ax)(k:κ)(v:Ax):κ->Option Ax:=fun x=>if x=k then J v else f x
theorem ve{P:Program}{w:Ba}{b:Nat}{es es':Array MapEntry}{c c':Nat}(hb:w.heap[b]?=J (.map es c)) :
  (setObj b (.map es' c')).run P w=.ok () { w with heap:=w.heap.setIfInBounds b (.map es' c') }:=by
 simp[setObj,Sem.run,hb]
theorem pw_key{l:List MapEntry}(h:l.Pairwise fun x y=>x.key≠y.key){i j:Nat}{a b:MapEntry}(hi:l[i]?=J a)(hj:l[j]?=J b)(he:a.key=b.key):i=j:=by
 obtain⟨mC,rfl⟩:=Lv.1 hi;obtain⟨cq,rfl⟩:=Lv.1 hj;rcases Nat.lt_trichotomy i j with aa | h' | aa
 . exact absurd he (PM.1 h i j mC cq aa)
 . exact h'
 exact absurd he.symm (PM.1 h j i cq mC aa)
theorem pw_set{l:List MapEntry}(h:l.Pairwise fun x y=>x.key≠y.key){j:Nat}{a a':MapEntry}(hj:l[j]?=J a)(he:a.key=a'.key):(l.set j a').Pairwise fun x y=>x.key≠y.key:=by
 obtain⟨cq,rfl⟩:=Lv.1 hj;rw[PM] at h ⊢;intro i k hi hk hik;simp only[List.length_set] at hi hk;simp only[List.getElem_set]
 split
 . rename_i h1;subst h1
   split
   . omega
   rw[<-he];exact h _ _ hi hk hik
 split
 . rename_i h1;subst h1
   rw[<-he];exact h _ _ hi hk hik
 exact h _ _ hi hk hik
theorem MapOf.put[DecidableEq κ]{w:Ba}{b n:Nat}{f:κ->Option Ax}{t e:TypeId}(h:MapOf enc w b n f)(K:KeyOk P kt enc)(ht:P.underlying t=J (.map kt e))(k:κ)(v:Ax) :
  ∃w',(Instr.mapUpdate t (.map (J b)) (enc k) v).run P w=.ok () w'/\MapOf enc w' b (n+1) (xH f k v)/\w.grownBy w' (J b):=by
 obtain⟨es,bG,hb,hn,tQ,h1,h2⟩:=h;have aL:=(Lu.1 hb).1
 have grown:∀o,w.grownBy { w with heap:=w.heap.setIfInBounds b o } (J b):=fun o=>
  ⟨rfl,rfl,rfl,by simp,fun i _ hi=>by simp only;rw[L7 (fun e=>hi (by rw[e]))]⟩
 have at_:∀o,({ w with heap:=w.heap.setIfInBounds b o }:Ba).heap[b]?=J o:=fun o=>by simp[aL]
 rcases Xg K w k es.toList (fun e he=>by obtain⟨k,hk,_⟩:=h1 e he;exact⟨k,hk⟩) with ⟨r1,r2⟩ | ⟨j,e0,r1,r2,r3⟩
 . refine⟨_,?_,⟨es.push { key:=enc k,val:=v,born:=bG },bG+1,at_ _,by simp;omega,?_,?_,?_⟩,grown _⟩
   . simp[Instr.mapUpdate,run_underlying ht,MapKept.run_getObj_map hb,K.check w AC k,r1,ve hb,Result.andThen]
   . rw[Array.toList_push]
     exact List.pairwise_append.2 ⟨tQ,List.pairwise_singleton _ _,fun a ha c hc=>by simp only[List.mem_singleton] at hc;subst hc;exact r2 a ha⟩
   . intro e he
     simp only[Array.toList_push,List.mem_append,List.mem_singleton] at he;rcases he with he | rfl
     . obtain⟨k',fm,hf⟩:=h1 e he
       refine⟨k',fm,?_⟩;have:k'≠k:=fun e2=>r2 e he (by rw[fm,e2])
       simp[xH,this,hf]
     exact⟨k,rfl,by simp[xH]⟩
   intro k' v' hf;unfold xH at hf
   split at hf
   . rename_i hk;subst hk
     cases hf
     exact⟨_,by simp;exact .inr rfl,rfl,rfl⟩
   obtain⟨e,he,hk,hv⟩:=h2 k' v' hf;exact⟨e,by simp;exact .inl (by simpa using he),hk,hv⟩
 have hjs:es[j]?=J e0:=by simpa using r2
 have hs:(Instr.keyThatStays e0.key (enc k)).run P w=.ok (enc k) w:=by simp[Instr.keyThatStays,r3,K.stays]
 have cq:j<es.toList.length:=(Lv.1 r2).1
 have rK:(es.modify j (fun e'=>{ e' with key:=enc k,val:=v })).toList=es.toList.set j { e0 with key:=enc k,val:=v }:=by
  rw[Array.toList_modify,ChangeMaps.modify_eq_set _ _ _ _ r2]
 refine⟨_,?_,⟨es.modify j (fun e'=>{ e' with key:=enc k,val:=v }),bG,at_ _,by simp;omega,?_,?_,?_⟩,grown _⟩
 . simp[Instr.mapUpdate,run_underlying ht,MapKept.run_getObj_map hb,K.check w AC k,r1,hjs,hs,ve hb,Result.andThen]
 . rw[rK]
   exact pw_set tQ r2 (by simpa using r3)
 . intro e he
   rw[rK] at he;obtain⟨i,hi,rfl⟩:=LI he;rw[St]
   split
   . exact⟨k,rfl,by simp[xH]⟩
   rename_i bj;have fR:i<es.toList.length:=by simpa using hi
   obtain⟨k',fm,hf⟩:=h1 _ (Ld fR);refine⟨k',fm,?_⟩
   by_cases e2:k'=k
   . exact absurd (fm.trans ((congrArg enc e2).trans r3.symm)) (fun e3=>bj (pw_key tQ r2 (Ln fR) e3.symm))
   simp[xH,e2,hf]
 intro k' v' hf;unfold xH at hf
 split at hf
 . rename_i hk;subst hk
   cases hf
   refine⟨{ e0 with key:=enc k',val:=v },?_,rfl,rfl⟩;rw[rK];exact Pe.2 ⟨j,by simpa using cq,by simp⟩
 rename_i hk;obtain⟨e,he,DL,hv⟩:=h2 k' v' hf;refine⟨e,?_,DL,hv⟩;rw[rK];obtain⟨i,hi,rfl⟩:=LI he
 have MO:j≠i:=by
  rintro rfl;rw[Ln cq] at r2
  cases r2
  exact hk (K.inj _ _ (DL.symm.trans r3))
 exact Pe.2 ⟨i,by simpa using hi,by simp[MO]⟩
end
end
section
open Go.RowKit
open Classical in
theorem yL:KeyOk Aq 3 (O U) where
 inj:=fun a b h=>by injection h
 check:=fun w em a=>by
  have hi:Aq.underlying 3=J (.int U):=Lx;unfold Instr.checkKey;simp[run_underlying hi,Result.andThen]
 equal:=fun w a b=>by
  have hi:Aq.underlying 3=J (.int U):=Lx;unfold Op.equal Op.maxDepth;rw[NQ w _ 3 _ _ _ _ hi]
  by_cases h:a=b<;>simp[h]
 now:=fun d hd=>.inl fun a b=>by
  have hi:Aq.underlying 3=J (.int U):=Lx;rw[hi] at hd
  cases hd
  by_cases h:a=b<;>simp[Instr.sameNow,h]
 stays:=fun a=>by simp[Instr.sameBits]
 kind:=⟨_,Lx⟩
theorem JV(a b:Vw)(h:Ak a.cells=.agg b.cells):a=b:=by
 injection h with h
 obtain⟨a0,a1,a2,a3,a4,a5,a6,a7⟩:=a;obtain⟨b0,b1,b2,b3,b4,b5,b6,b7⟩:=b;simpa[Vw.cells] using h
theorem QQ(w:Ba)(em:Bool)(n:Nat)(a:Int):(Instr.checkKey em (n+1) 3 (O U a)).run Aq w=.ok () w:=by
 have hi:Aq.underlying 3=J (.int U):=Lx;unfold Instr.checkKey;simp[run_underlying hi,Result.andThen]
theorem QR(w:Ba)(em:Bool)(n:Nat)(a b c d e:Int):(Instr.checkKey em (n+2) 88 (Ak #[O U a,O U b,O U c,O U d,O U e])).run Aq w=.ok () w:=by
 have hu:Aq.underlying 88=J (.array 5 3):=Pt;have hs:(sizeOf 3).run Aq w=.ok 1 w:=by kernel_rfl
 have p0:=fun x0 x1 x2 x3 x4=>yK #[x0,x1,x2,x3,x4] 0 x0 rfl w
 have p1:=fun x0 x1 x2 x3 x4=>yK #[x0,x1,x2,x3,x4] 1 x1 rfl w
 have p2:=fun x0 x1 x2 x3 x4=>yK #[x0,x1,x2,x3,x4] 2 x2 rfl w
 have p3:=fun x0 x1 x2 x3 x4=>yK #[x0,x1,x2,x3,x4] 3 x3 rfl w
 have p4:=fun x0 x1 x2 x3 x4=>yK #[x0,x1,x2,x3,x4] 4 x4 rfl w
 unfold Instr.checkKey;simp only[Sem.run_bind,run_underlying hu,Result.andThen_ok,hs,Std.Legacy.Range.forIn_eq_forIn_range',Std.Legacy.Range.size,Nat.sub_zero,Nat.add_sub_cancel,Nat.div_one,show List.range' 0 5 1=[0,1,2,3,4] from rfl,List.forIn_cons,List.forIn_nil,p0,p1,p2,p3,p4,Nat.mul_one,QQ,Sem.run_pure]
open Classical in
theorem Yg:KeyOk Aq 111 (fun v:Vw=>.agg v.cells) where
 inj:=JV
 check:=fun w em v=>by
  have hu:Aq.underlying 111=J (.struct (Aq.fieldsOf 111)):=by kernel_rfl
  have hf : (Aq.fieldsOf 111).toList.map (fun f => (f.name, f.type, f.offset)) = [("Proc", 3, 0), ("Round", 3, 1), ("Input", 3, 2), ("Heard", 88, 3)] := by kernel_rfl
  have p0:∀x:Vw,(part 3 x.cells 0).run Aq w=.ok (O U x.p) w:=fun x=>yK _ 0 _ rfl w
  have p1:∀x:Vw,(part 3 x.cells 1).run Aq w=.ok (O U x.r) w:=fun x=>yK _ 1 _ rfl w
  have p2:∀x:Vw,(part 3 x.cells 2).run Aq w=.ok (O U x.i) w:=fun x=>yK _ 2 _ rfl w
  have p3:∀x:Vw,(part 88 x.cells 3).run Aq w=.ok (Ak #[O U x.h0,O U x.h1,O U x.h2,O U x.h3,O U x.h4]) w:=fun x=>by unfold Vw.cells;kernel_rfl
  unfold Instr.checkKey;simp only[Sem.run_bind,run_underlying hu,Result.andThen_ok];rw[<-Array.forIn_toList]
  generalize (Aq.fieldsOf 111).toList=fs at hf
  obtain⟨f0,f1,f2,f3,rfl⟩:∃f0 f1 f2 f3,fs=[f0,f1,f2,f3]:=by
   have hl:fs.length=4:=by simpa using congrArg List.length hf
   rcases fs with _ | ⟨f0,_ | ⟨f1,_ | ⟨f2,_ | ⟨f3,_ | ⟨f4,r⟩⟩⟩⟩⟩<;>simp at hl
   exact⟨_,_,_,_,rfl⟩
  simp only[List.map_cons,List.map_nil,List.cons.injEq,Prod.mk.injEq,and_true] at hf;obtain⟨⟨n0,t0,o0⟩,⟨n1,t1,o1⟩,⟨n2,t2,o2⟩,⟨n3,t3,o3⟩⟩:=hf;simp only[List.forIn_cons,List.forIn_nil,n0,n1,n2,n3,t0,t1,t2,t3,o0,o1,o2,o3,p0,p1,p2,p3,Sem.run_bind,Result.andThen_ok,QQ,QR,ne_eq,String.reduceEq,not_false_eq_true,if_true,Sem.run_pure]
 equal:=fun w a b=>by
  unfold Op.equal Op.maxDepth;rw[uU 9997 a b w]
  by_cases h:a=b
  . simp[h]
  . have:¬(Ak a.cells=.agg b.cells):=fun e=>h (JV a b e)
    rw[Lj h,Lj this]
 now:=fun d hd=>.inr fun a b=>by
  have hu:Aq.underlying 111=J (.struct (Aq.fieldsOf 111)):=by kernel_rfl
  rw[hu] at hd
  cases hd
  simp[Instr.sameNow]
 stays:=fun a=>by simp[Instr.sameBits,Vw.cells]
 kind := ⟨_, by have hu : Aq.underlying 111 = J (.struct (Aq.fieldsOf 111)) := by kernel_rfl
                exact hu⟩
end
section
open Go.RowKit
structure TArg(w:Ba)(A:Bb)(cap:Nat)(vs:List Vw):Prop where
 rows:VAt w w.heap.size A vs
 lec:vs.length<=cap
 lem:cap<=maxLen
 few:vs.length<=100000
theorem TArg.keep{w w':Ba}{A:Bb}{cap:Nat}{vs:List Vw}(h:TArg w A cap vs)(hb:Ar w.heap.size w w'):TArg w' A cap vs:=
 ⟨(h.rows.keep hb).more hb.size,h.lec,h.lem,h.few⟩
structure TAg(w:Ba)(A:Bb)(vs:List Vw):Prop where
 rows:VAt w w.heap.size A vs
 few:vs.length<=100000
theorem TAg.keep{w w':Ba}{A:Bb}{vs:List Vw}(h:TAg w A vs)(hb:Ar w.heap.size w w'):TAg w' A vs:=⟨(h.rows.keep hb).more hb.size,h.few⟩
def xp(vs:List Vw):List Ax:=vs.flatMap fun x=>x.cells.toList
theorem uq(vs us:List Vw):xp (vs++us)=xp vs++xp us:=by simp[xp]
theorem uo(vs:List Vw):(xp vs).length=vs.length*8:=by
 induction vs with
 | nil=>rfl
 | cons v vs ih=>simp only[xp,List.flatMap_cons,List.length_append,List.length_cons] at *;rw[ih];simp[Vw.cells];omega
theorem gc:∀(vs:List Vw) (i:Nat) (hi:i<vs.length) (k:Nat),k<8->(xp vs)[i*8+k]?=vs[i].cells[k]?
 | v::vs,0,hi,k,hk=>by
  simp only[xp,List.flatMap_cons,List.getElem_cons_zero,Nat.zero_mul,Nat.zero_add];rw[LY (by simp[Vw.cells];omega)];simp
 | v::vs,i+1,hi,k,hk=>by
  have:=gc vs i (by simpa using hi) k hk;simp only[xp,List.flatMap_cons,List.getElem_cons_succ] at *;rw[LW (by simp[Vw.cells];omega),<-this]
  congr 1
  simp[Vw.cells];omega
def OwnV(w:Ba)(base:Nat)(v:Ax)(vs:List Vw):Prop:=w.ownsRow base 111 8 v vs.length (xp vs)
theorem OwnV.nil(w:Ba)(base:Nat):OwnV w base (I Z 0 0) []:=Rq w base _ 8
theorem OwnV.form{w:Ba}{base:Nat}{v:Ax}{vs:List Vw}(h:OwnV w base v vs)(hf:vs.length<=100000):∃A cap,v=I A vs.length cap/\TArg w A cap vs:=by
 rcases h.2 with ⟨rfl,h0⟩ | ⟨g,cap,cur,rfl,_,hg,eU,mV,_⟩
 . have:vs=[]:=LA h0
   subst this;exact⟨Z,0,rfl,fun h=>absurd h (by simp),Le _,NF _,hf⟩
 refine⟨_,_,rfl,fun _=>⟨g,0,rfl,(Lu.1 hg).1,fun i hi k u hk=>?_⟩,eU,mV,hf⟩;have hk8:k<8:=by have:=(Lu.1 hk).1;simpa[Vw.cells] using this
 have:=h.cells (g:=g) rfl (i*8+k) u (by rw[gc vs i hi k hk8];exact hk);rw[show(⟨g,0,Z⟩:Addr).add (i*8+k)=⟨g,0+i*8+k,Z⟩ from by unfold Addr.add;split<;>simp_all] at this;exact this
theorem OwnV.low{w:Ba}{base base':Nat}{v:Ax}{xs:List Vw}(h:OwnV w base v xs)(hb:base'<=base):OwnV w base' v xs:=by
 refine⟨h.1,?_⟩;rcases h.2 with h2 | ⟨g,cap,cur,hv,hg,r⟩
 . exact Or.inl h2
 exact Or.inr ⟨g,cap,cur,hv,by omega,r⟩
theorem OwnV.lt{w:Ba}{base:Nat}{v:Ax}{xs:List Vw}(h:OwnV w base v xs):∀k,v.ownBlock=J k->base<=k/\k<w.heap.size:=RH h
theorem gP:(Aq.info? 111).map (fun i=>(i.zero,i.size,i.bytes))=J (J (.agg (⟨0,0,0,0,0,0,0,0⟩:Vw).cells),8,64):=by kernel_rfl
theorem gV(v:Vw):∀u∈v.cells.toList,u.oneCell'=AA:=by
 intro u hu;simp only[Vw.cells,List.mem_cons,List.not_mem_nil,or_false] at hu;rcases hu with rfl | rfl | rfl | rfl | rfl | rfl | rfl | rfl<;>rfl
theorem vcells_one(vs:List Vw):∀u∈xp vs,u.oneCell'=AA:=by
 intro u hu;obtain⟨v,_,hv⟩:=NJ.1 hu;exact gV v u hv
theorem XF(c:Nat)(ty:TypeId)(W:Ba):(Builtin.append_ #[30,30] ty #[I Z 0 0,I Z 0 c]).run Aq W=.ok (I Z 0 0) W:=by
 obtain⟨i0,hi,_⟩:=RK gP;simp[Builtin.append_,run_underlying underlying30,sizeOf,typeInfo,hi,Builtin.lenOf,Builtin.firstCells]
theorem TArg.news{w:Ba}{ad:Addr}{cap:Nat}{vs:List Vw}(h:TArg w (J ad) cap vs):∀j u,(xp vs)[j]?=J u->w.cell? (ad.add j)=J u:=by
 intro j u hj;have hj8:j<vs.length*8:=by have:=(Lv.1 hj).1;rwa[uo] at this
 obtain⟨b,off,e,aa,hc⟩:=h.rows (by omega)
 cases e
 rw[Pn];have fR:j / 8<vs.length:=by omega
 have h8:j / 8*8+j % 8=j:=by omega
 rw[<-h8,gc vs (j / 8) fR (j % 8) (by omega)] at hj;have:=hc (j / 8) fR (j % 8) u hj;rwa[PF,h8] at this
theorem OwnV.lit{w:Ba}{base:Nat}{v:Ax}{vs:List Vw}(h:OwnV w base v vs):∃A cap,v=I A vs.length cap:=by
 rcases h.2 with ⟨rfl,h0⟩ | ⟨g,cap,cur,rfl,_⟩
 . exact⟨Z,0,by rw[h0]⟩
 exact⟨_,_,rfl⟩
theorem wp_appv0{o:Oper}{a:Act}{K:Act->Ba->Prop}{Q:Exit->Act->Ba->Prop}{W:Ba}(s x:Operand)
  (ho:o.op=.call { callee:=.builtin .append,args:=#[s,x],argTypes:=#[30,30] }) (base:Nat) (hs:a.eval s=I Z 0 0) (A:Bb) (cap:Nat) (vs:List Vw)
  (hx:a.eval x=I A vs.length cap) (hT:TArg W A cap vs) (hb:base<=W.heap.size)
  (h:∀A' aD w1,OwnV w1 base (I A' vs.length aD) vs->W.grownBy w1 Z->K (a.put o.dst (I A' vs.length aD)) w1):o.wp Aq a W K Q:=by
 obtain⟨i0,hi,ec,cO,dP⟩:=RK gP
 cases A with
 | none=>
  have mz:vs=[]:=by
   rcases Nw vs.length with h | h
   . exact LA h
   . obtain⟨b,off,e,_⟩:=hT.rows h;cases e
  subst mz;have fH:=XF cap o.type W;unfold Oper.wp execOp;simp only[ho,resolve,invoke,builtin,Sem.run_bind,Sem.run_pure,Result.andThen_ok,List.map_toArray,List.map_cons,List.map_nil,hs,hx,List.length_nil,fH];exact h Z 0 W (OwnV.nil _ _) (Ro _ _)
 | some ad=>
  refine wp_append_own W s x 30 ho base 111 i0 _ 8 64 PY hi ec cO dP rfl (by decide) _ 0 [] hs (Rq W base _ 8) ad vs.length cap (xp vs) hx (uo vs) hT.news (vcells_one vs) (by have:=hT.few;unfold maxLen;omega) (by have:=hT.few;omega) hb ?_;intro v' w1 an bW _;have rJ:OwnV w1 base v' vs:=by unfold OwnV;simpa using an
  obtain⟨A',aD,rfl⟩:=rJ.lit;exact h A' aD w1 rJ bW
theorem wp_appv1{o:Oper}{a:Act}{K:Act->Ba->Prop}{Q:Exit->Act->Ba->Prop}{W:Ba}(s x:Operand)
  (ho:o.op=.call { callee:=.builtin .append,args:=#[s,x],argTypes:=#[30,30] }) (base:Nat) (V:Ax) (vs:List Vw) (v:Vw) (hs:a.eval s=V) (an:OwnV W base V vs) (hf:vs.length<=100000)
  (g:Nat) (hx:a.eval x=I (J ⟨g,0,Z⟩) 1 1) (hg:W.heap[g]?=J (Ai v.cells 111 (0,0))) (hb:base<=W.heap.size)
  (h:∀A' aD w1,OwnV w1 base (I A' (vs.length+1) aD) (vs++[v])->W.grownBy w1 V.ownBlock->K (a.put o.dst (I A' (vs.length+1) aD)) w1):o.wp Aq a W K Q:=by
 obtain⟨i0,hi,ec,cO,dP⟩:=RK gP
 refine wp_append_lies W s x 30 ho base 111 i0 _ 8 64 PY hi ec cO dP rfl (by decide) V vs.length (xp vs) hs an ⟨g,0,Z⟩ 1 1 v.cells.toList hx (by simp[Vw.cells])
  (R6 hg) (gV v) (by omega) (by unfold maxLen;omega) (by omega) hb _ rfl ?_
 intro g' cap w1 rJ bW _ _;refine h _ cap w1 ?_ bW;unfold OwnV;rw[Lw,uq];simpa[xp] using rJ
theorem step_appv0{ops:Array Oper}{o:Oper}{a:Act}{K:Act->Ba->Prop}{Q:Exit->Act->Ba->Prop}{E:Prop}{W:Ba}(lr:o.guard=Z)(s x:Operand)
  (ho:o.op=.call { callee:=.builtin .append,args:=#[s,x],argTypes:=#[30,30] }) (base:Nat) (hs:a.eval s=I Z 0 0) (A:Bb) (cap:Nat) (vs:List Vw)
  (hx:a.eval x=I A vs.length cap) (hT:TArg W A cap vs) (hb:base<=W.heap.size)
  (h:∀A' aD w1,OwnV w1 base (I A' vs.length aD) vs->W.grownBy w1 Z->K (a.put o.dst (I A' vs.length aD)) w1) :
  if Region.wanted o (yielded ops a.tmps)=AA then Oper.wp Aq o a W K Q else E:=by
 have hw:Region.wanted o (yielded ops a.tmps)=AA:=by simp[Region.wanted,lr]
 rw[Li hw];exact wp_appv0 s x ho base hs A cap vs hx hT hb h
theorem Ym{ops:Array Oper}{o:Oper}{a:Act}{K:Act->Ba->Prop}{Q:Exit->Act->Ba->Prop}{E:Prop}{W:Ba}(lr:o.guard=Z)(s x:Operand)
  (ho:o.op=.call { callee:=.builtin .append,args:=#[s,x],argTypes:=#[30,30] }) (base:Nat) (V:Ax) (vs:List Vw) (v:Vw) (hs:a.eval s=V) (an:OwnV W base V vs) (hf:vs.length<=100000)
  (g:Nat) (hx:a.eval x=I (J ⟨g,0,Z⟩) 1 1) (hg:W.heap[g]?=J (Ai v.cells 111 (0,0))) (hb:base<=W.heap.size)
  (h:∀A' aD w1,OwnV w1 base (I A' (vs.length+1) aD) (vs++[v])->W.grownBy w1 V.ownBlock->K (a.put o.dst (I A' (vs.length+1) aD)) w1) :
  if Region.wanted o (yielded ops a.tmps)=AA then Oper.wp Aq o a W K Q else E:=by
 have hw:Region.wanted o (yielded ops a.tmps)=AA:=by simp[Region.wanted,lr]
 rw[Li hw];exact wp_appv1 s x ho base V vs v hs an hf g hx hg hb h
theorem yF{W w1:Ba}{row:Option Nat}{b o:Nat}{u:Ax}(hg:W.grownBy w1 row)(h:W.cell? ⟨b,o,Z⟩=J u)(bj:row≠J b):w1.cell? ⟨b,o,Z⟩=J u:=by
 obtain⟨ob,ho,_⟩:=R8 h;rw[LH ((hg.block b (Lu.1 ho).1 (fun e=>bj e.symm)))];exact h
theorem uR(w:Ba)(g k:Nat)(v':Ax):w.grownBy (w.setCell ⟨g,k,Z⟩ v') (J g):=
 ⟨rfl,rfl,rfl,by simp[World.setCell],fun j _ hj=>Lh w ⟨g,k,Z⟩ v' j (fun e=>hj (by rw[e]))⟩
theorem grown_heap{W w1:Ba}{row:Option Nat}{b:Nat}{o:Obj}(hg:W.grownBy w1 row)(h:W.heap[b]?=J o)(bj:row≠J b):w1.heap[b]?=J o:=
 (hg.block b (Lu.1 h).1 (fun e=>bj e.symm)).trans h
theorem OwnV.kept{w w':Ba}{base:Nat}{v:Ax}{vs:List Vw}{row:Option Nat}(h:OwnV w base v vs)(hg:w.grownBy w' row)(bj:v.ownBlock=Z\/v.ownBlock≠row):OwnV w' base v vs:=PC h hg bj
theorem OwnV.alloc{w:Ba}{base:Nat}{v:Ax}{vs:List Vw}(h:OwnV w base v vs)(o:Obj):OwnV (w.alloc o) base v vs:=PN h o
theorem OwnV.drew{w:Ba}{base:Nat}{v:Ax}{vs:List Vw}(h:OwnV w base v vs):OwnV w.drew base v vs:=h
theorem OwnV.below{w w':Ba}{base B:Nat}{v:Ax}{xs:List Vw}(h:OwnV w base v xs)(hb:Ar B w w')(hB:w.heap.size<=B):OwnV w' base v xs:=
 PC (row:=Z) h ⟨hb.os,hb.tape,hb.output,hb.size,fun k hk _=>hb.block k (by omega)⟩ (by cases v.ownBlock<;>simp)
theorem uS{W w1:Ba}{row:Option Nat}{b o:Nat}(hg:W.grownBy w1 row)(h:W.frozen? ⟨b,o,Z⟩=AC)(aa:b<W.heap.size)(bj:row≠J b):w1.frozen? ⟨b,o,Z⟩=AC:=
 (World.grownBy.frozen_far hg ⟨b,o,Z⟩ aa (fun e=>bj e.symm)).trans h
theorem OwnV.ne{w:Ba}{base b:Nat}{v:Ax}{xs:List Vw}(h:OwnV w base v xs)(hb:b<base):v.ownBlock≠J b:=fun e=>by
 have:=(h.lt b e).1;omega
def RetPut(n:Int)(A:Bb)(cap:Nat)(vs:List Vw)(v:Vw)(w:Ba)(e:Ending)(w':Ba):Prop:=
 Ar w.heap.size w w'/\(v∈vs->e=Am (.tuple #[Ak #[O U n,I A vs.length cap],O U (jj vs v)])) /\
  (v∉vs->∃A3 mm,e=Am (.tuple #[Ak #[O U n,I A3 (vs.length+1) mm],O U vs.length])/\OwnV w' w.heap.size (I A3 (vs.length+1) mm) (vs++[v]))
end
section
open Go.RowKit
section
variable {P:Program} {md:Region.Mode} {ops:Array Oper} {Q:Exit->Act->Ba->Prop} {l n:Nat}
theorem op_round{o:Oper}{a:Act}{w:Ba}{K:Act->Ba->Prop}(hd:∀c,o.op≠.defer c)(h:o.wp P a w K Q):o.wpIn (Fence.wide.inRound l) n P a w K Q:=by
 refine⟨fun _ _=>trivial,?_⟩;show o.uponIn (Fence.wide.inRound l) n P a K Q ((o.semAt (J l) a.eval).run P w);rw[Oper.semAt_some l a.eval o hd];unfold Oper.wp at h
 revert h
 cases (execOp a.eval o).run P w with
 | ok x w'=>
  cases x with
  | value v=>exact fun h=>h
  | skip=>exact fun h=>h
  | defer d=>exact fun h=>h
  | enter f args=>exact fun h=>⟨(fun h'=>Bool.noConfusion (show AC=AA from h')),Sz l (Se.2 h)⟩
  | row r args=>exact fun h=>⟨(fun h'=>Bool.noConfusion (show AC=AA from h')),fun b cs _=>by obtain⟨v,Ol,hR,hs⟩:=h b cs;exact⟨v,Ol,hR,stepsIn_wide.2 hs⟩⟩
  | _=>exact fun h=>h.elim
 | halt s w'=>
  cases s with
  | panic v=>exact fun h=>h
  | _=>exact fun h=>h.elim
def Z4(ops:Array Oper):Bool:=ops.toList.all fun o=>match o.op with | .defer _=>AC | _=>AA
theorem noDefer_at(h:Z4 ops=AA){i:Nat}{o:Oper}(ho:ops[i]?=J o):∀c,o.op≠.defer c:=by
 intro c e;have hm:o∈ops.toList:=by rw[Array.mem_toList_iff];exact Array.mem_of_getElem? ho
 have:=LT.1 h o hm;rw[e] at this
 cases this
theorem jO(hd:Z4 ops=AA)(eM:¬LetsOut Q):∀(fuel:Nat) (af:Array Bool) (a:Act) (w:Ba),wpAny P md ops Q fuel af a w->wpAnyIn (Fence.wide.inRound l) n P md ops Q fuel af a w
 | 0,_,_,_,h=>h
 | fuel+1,af,a,w,h=>by
  refine⟨h.1,fun i hi=>?_⟩;have h2:=h.2 i hi;unfold wpOp at h2;unfold wpOpIn
  cases ho:ops[i]? with
  | none=>rw[ho] at h2;exact jO hd eM fuel _ _ _ h2
  | some o=>
   rw[ho] at h2;dsimp only at h2 ⊢
   by_cases hw:Region.wanted o (yielded ops a.tmps)=AA
   . rw[Li hw] at h2 ⊢
     rcases h2 with h2 | h2
     . exact op_round (noDefer_at hd ho) (Sl (fun a' w' hk=>jO hd eM fuel _ _ _ hk) h2)
     . exact absurd h2.2 eM
   . rw[Lg hw] at h2 ⊢
     exact⟨fun _ _=>trivial,jO hd eM fuel _ _ _ h2⟩
theorem any_still{n:Nat}{w:Ba}{a:Act}{xs:List Oper}(hB:Region.lexTailB .any xs.toArray n=AA)
  (h:wpStill P xs.toArray w (fun a'=>wpList P xs.toArray Q (xs.drop n) a' w) (xs.take n) a):wpAny P .any xs.toArray Q xs.toArray.size (Array.replicate xs.toArray.size AC) a w:=by
 unfold Region.lexTailB at hB;simp only[Bool.and_eq_true,decide_eq_true_eq] at hB;have hn:n<xs.length:=by simpa using hB.1.1.1.2
 have e1:(xs.take n).length=n:=by rw[N8];omega
 have e2:(xs.drop n).length=xs.toArray.size-n:=by rw[List.length_drop];rfl
 have hI:HeadInv .any xs.toArray n (Array.replicate xs.toArray.size AC):=
  ⟨by simp,fun _ _ _ hl=>(by rw[RP] at hl;exact Bool.noConfusion hl),fun _ _ ht=>getD_in (by simpa using ht) (RP _ _)⟩
 have H:=wpAnyL_lex (md:=.any) (g:=xs.toArray.size-n) hB.1.1.1.1 hB.1.1.2 hB.1.2 hB.1.1.1.2 (xs.take n) 0 _ a
  (fun j hj=>by
   rw[e1] at hj
   simp[hj]) (by simpa using e1) hI (by rw[e1];exact hB.2) h
 have R:=wpAny_of_head (Q':=Q) (g:=xs.toArray.size-n) (fun af a' hL=>by
  have T:=wpAny_of_seq (md:=.any) (Q':=Q) (xs.drop n) n af a' w (fun j=>by simp[List.getElem?_drop]) (by rw[e2];exact hL.1) hL.2
  rwa[e2] at T) _ _ _ H
 rw[e1] at R;have e3:n+(xs.toArray.size-n)=xs.toArray.size:=by have:xs.toArray.size=xs.length:=rfl;omega
 rwa[e3] at R
theorem uH{id k:Nat}{a:Act}{w:Ba}{xs:List Oper}(n:Nat)(hm:P.follows .mixedOrders=AA)(hd:Z4 xs.toArray=AA)(hB:Region.lexTailB .any xs.toArray n=AA)(eM:¬LetsOut Q)
  (h:wpStill P xs.toArray w.drew (fun a'=>wpList P xs.toArray Q (xs.drop n) a' w.drew) (xs.take n) a):(Code.region id xs.toArray AA).wpIn (Fence.wide.inRound l) k P Q a w:=
 wpIn_region_any hm (jO hd eM _ _ _ _ (any_still hB h))
end
end
section
open Go.RowKit
section
variable {P:Program} {ops:Array Oper} {md:Region.Mode}
def Qf:Exit->Act->Ba->Prop:=fun _ _ _=>False
theorem qf_lets:¬LetsOut Qf:=fun ⟨_,_,h⟩=>h
theorem wp_of_qf{o:Oper}{a:Act}{w:Ba}{K:Act->Ba->Prop}{Q:Exit->Act->Ba->Prop}(hh:o.wp P a w K Qf):o.wp P a w K Q:=by
 unfold Oper.wp at *
 generalize (execOp a.eval o).run P w=r at *
 cases r with
 | ok n w'=>
  cases n<;>simp only[Oper.upon] at hh⊢<;>
   first
    | exact hh
    | exact Calls.mono hh (fun e Ol he=>by
      cases e with
      | returned v=>exact he
      | panicked c=>exact False.elim he
      | outgrown=>exact absurd he qf_lets)
 | halt x w'=>cases x<;>simp only[Oper.upon] at hh ⊢<;>exact False.elim hh
def kpOp(P:Program)(ops:Array Oper)(i:Nat)(K:Act->Ba->Prop)(a:Act)(w:Ba):Prop:=
 ∃o,ops[i]?=J o/\if Region.wanted o (yielded ops a.tmps)=AA then o.wp P a w K Qf else K (a.put o.dst undef) w
theorem Qx{i:Nat}{K K':Act->Ba->Prop}{a:Act}{w:Ba}(h:∀a w,K a w->K' a w)(hh:kpOp P ops i K a w):kpOp P ops i K' a w:=by
 obtain⟨o,ho,hh⟩:=hh;refine⟨o,ho,?_⟩
 split at hh
 . rename_i hw;rw[Li hw];exact Sl h hh
 rename_i hw;rw[Lg hw];exact h _ _ hh
def waitB(md:Region.Mode)(ops:Array Oper):Nat->Nat->Nat->Bool
 | 0,_,_=>AC
 | f+1,j,i=>match ops[j]? with
  | some o=>o.after.any fun e=>Region.binds md e&&(e.on==i||waitB md ops f e.on i)
  | none=>AC
def J6(md:Region.Mode)(ops:Array Oper)(F:List Nat)(j:Nat):Bool:=F.all fun i=>waitB md ops ops.size j i
def Closed(md:Region.Mode)(ops:Array Oper)(af:Array Bool):Prop:=∀(j:Nat) (oj:Oper),ops[j]?=J oj->af.getD j AC=AA->∀e∈oj.after,Region.binds md e=AA->af.getD e.on AC=AA
theorem Closed.set{af:Array Bool}(h:Closed md ops af){i:Nat}(hi:i∈Region.ready md ops af):Closed md ops (af.setIfInBounds i AA):=by
 obtain⟨_,oi,hoi,aO⟩:=Rl.1 hi;intro j oj hj hl e he hb
 by_cases MO:i=j
 . subst MO
   have:oj=oi:=NR (hj.symm.trans hoi);subst this;exact getD_set_true (aO e he hb)
 rw[getD_set_ne AC MO] at hl;exact getD_set_true (h j oj hj hl e he hb)
theorem Zf{af:Array Bool}(h:Closed md ops af):∀(f j i:Nat),(∀oj,ops[j]?=J oj->∀e∈oj.after,Region.binds md e=AA->af.getD e.on AC=AA)->waitB md ops f j i=AA->af.getD i AC=AA
 | 0,_,_,_,hr=>by cases hr
 | f+1,j,i,hj,hr=>by
  unfold waitB at hr
  cases ho:ops[j]? with
  | none=>rw[ho] at hr;cases hr
  | some o=>
   rw[ho] at hr;obtain⟨e,he,hb⟩:=Array.any_eq_true'.1 hr;simp only[Bool.and_eq_true,Bool.or_eq_true,beq_iff_eq] at hb;have hl:=hj o ho e he hb.1;rcases hb.2 with h1 | h1
   . rw[<-h1];exact hl
   . exact Zf h f e.on i (fun oj Ih e' DQ di=>h e.on oj Ih hl e' DQ di) h1
theorem J5{af:Array Bool}(h:Closed md ops af){F:List Nat}{j i:Nat}(hj:j∈Region.ready md ops af)(hs:J6 md ops F j=AA)(hi:i∈F):af.getD i AC=AA:=by
 obtain⟨_,oj,Ih,aO⟩:=Rl.1 hj;refine Zf h ops.size j i (fun o ho e he hb=>?_) (LT.1 hs i hi);have:oj=o:=NR (Ih.symm.trans ho);subst this;exact aO e he hb
def Yf(P:Program)(md:Region.Mode)(ops:Array Oper)(F:List Nat)(Q:Act->Ba->Prop):Nat->Array Bool->(Ba->Prop)->Act->Ba->Prop
 | 0,af,_,a,w=>Region.ready md ops af=[]/\Q a w
 | fuel+1,af,Kp,a,w=>(Region.ready md ops af=[]->Q a w) /\
   ∀i∈Region.ready md ops af,kpOp P ops i (fun a' w'=>∃lC:Ba->Prop,((∀W,lC W->Kp W)\/J6 md ops F i=AA)/\lC w'/\Yf P md ops F Q fuel (af.setIfInBounds i AA) lC a' w') a w
theorem uC{F:List Nat}{Q:Exit->Act->Ba->Prop}{Qn:Act->Ba->Prop}(hQ:∀a w,Qn a w->Q .normal a w):∀(fuel:Nat) (af:Array Bool) (Kp:Ba->Prop) (a:Act) (w:Ba),
  Yf P md ops F Qn fuel af Kp a w->wpAny P md ops Q fuel af a w
 | 0,_,_,_,_,h=>⟨h.1,hQ _ _ h.2⟩
 | fuel+1,af,Kp,a,w,h=>by
  refine⟨fun h0=>hQ _ _ (h.1 h0),fun i hi=>?_⟩;obtain⟨o,ho,h2⟩:=h.2 i hi;unfold wpOp;rw[ho];dsimp only
  split at h2
  . rename_i hw
    rw[Li hw];exact .inl (Sl (fun a' w' ⟨lC,_,_,h3⟩=>uC hQ fuel _ lC a' w' h3) (wp_of_qf h2))
  . rename_i hw
    rw[Lg hw];obtain⟨lC,_,_,h3⟩:=h2;exact uC hQ fuel _ lC _ _ h3
def FloatTo(P:Program)(ops:Array Oper)(Kp:Ba->Prop)(o:Oper)(a a1:Act):Prop:=∀W,Kp W->∃v,YieldsAt P ops W o v a/\a.put o.dst v=a1
theorem FloatTo.less{Kp lC:Ba->Prop}{o:Oper}{a a1:Act}(h:FloatTo P ops Kp o a a1)(hs:∀W,lC W->Kp W):FloatTo P ops lC o a a1:=fun W hW=>h W (hs W hW)
theorem gt(a:Act)(d:Option Tmp)(v:Ax)(x:Deferred):({ a.put d v with defers:=x::(a.put d v).defers }:Act)=({ a with defers:=x::a.defers }:Act).put d v:=by
 cases d<;>rfl
theorem kpOp_put{j:Nat}{oi oj:Oper}{Kp:Ba->Prop}(hj:ops[j]?=J oj)(hap:oi.apart ops oj=AA)
  (hsi:∀cs b,oi.op≠.select cs b) (Ib:∀cs b,oj.op≠.select cs b) {K:Act->Ba->Prop} {a a1:Act} {w:Ba}
  (hy:FloatTo P ops Kp oi a a1) (hk:Kp w) (h:kpOp P ops j K a1 w) :
  kpOp P ops j (fun a' w'=>∃WL,FloatTo P ops Kp oi a' WL/\K WL w') a w:=by
 obtain⟨h1,h2,h3⟩:=Oper.apart_spec hap;obtain⟨v,hv,rfl⟩:=hy w hk
 have keep:∀u,FloatTo P ops Kp oi (a.put oj.dst u) ((a.put oi.dst v).put oj.dst u):=fun u W hW=>by
  obtain⟨v',hy',e⟩:=hy W hW;exact⟨v',hy'.of_same (execOp_put oi hsi a oj.dst u h3) (wanted_put oi a oj.dst u h3),by rw[<-Act.put_comm a v' u h2,e]⟩
 have Oo:∀(x:Deferred) u,FloatTo P ops Kp oi (({ a with defers:=x::a.defers }:Act).put oj.dst u) ((({ a.put oi.dst v with defers:=x::(a.put oi.dst v).defers }:Act)).put oj.dst u):=fun x u W hW=>by
  obtain⟨v',hy',e⟩:=keep u W hW;rw[<-gt a oj.dst u x,<-gt (a.put oi.dst v) oj.dst u x];refine⟨v',hy'.of_same rfl rfl,?_⟩;rw[<-gt,e]
 obtain⟨o,ho,h⟩:=h;have:oj=o:=NR (hj.symm.trans ho);subst this;refine⟨oj,hj,?_⟩;rw[wanted_put oj a oi.dst v h1] at h
 split
 . rename_i hw
   rw[Li hw] at h;unfold Oper.wp at *;rw[execOp_put oj Ib a oi.dst v h1] at h
   generalize (execOp a.eval oj).run P w=r at *
   cases r with
   | ok n w'=>
    cases n<;>simp only[Oper.upon] at h ⊢
    case value u=>exact⟨_,keep u,h⟩
    case skip=>exact⟨_,keep undef,h⟩
    case defer d=>exact⟨_,Oo d undef,h⟩
    case enter f args=>
     exact Calls.mono h (fun e Ol he=>by
       cases e with
       | returned u=>exact⟨_,keep u,he⟩
       | panicked c=>exact False.elim he
       | outgrown=>exact absurd he qf_lets)
    case row row args=>exact Rows.mono h (fun u Ol he=>⟨_,keep u,he⟩)
   | halt x w'=>cases x<;>simp only[Oper.upon] at h ⊢<;>exact h
 rename_i hw;rw[Lg hw] at h;exact⟨_,keep undef,h⟩
theorem Zb{i:Nat}{o:Oper}{v:Ax}{a:Act}{w:Ba}(hi:ops[i]?=J o)(hy:YieldsAt P ops w o v a){K:Act->Ba->Prop}(h:K (a.put o.dst v) w):kpOp P ops i K a w:=by
 refine⟨o,hi,?_⟩;rcases hy with ⟨hw,hv | ⟨hv,rfl⟩ | ⟨f,args,hv,hc⟩⟩ | ⟨hw,rfl⟩
 . rw[Li hw];unfold Oper.wp;rw[hv];exact h
 . rw[Li hw];unfold Oper.wp;rw[hv];exact h
 . rw[Li hw];unfold Oper.wp;rw[hv]
   exact hc.mono fun e Ol ⟨he,bZ⟩=>by subst he;subst bZ;exact h
 rw[Lg (by rw[hw];decide)];exact h
theorem Q1{F:List Nat}{Q:Act->Ba->Prop}{i:Nat}{oi:Oper}(hF:i∈F)(hi:ops[i]?=J oi)(ON:∀(j:Nat) (o:Oper) cs b,ops[j]?=J o->o.op≠.select cs b) :
  ∀(fuel:Nat) (af:Array Bool) (Kp:Ba->Prop) (a a1:Act) (w:Ba),
   (∀j oj,ops[j]?=J oj->j≠i->af.getD j AA=AC->(∀e∈oj.after,Region.binds md e=AA->e.on≠i)->oi.apart ops oj=AA) ->
   Closed md ops af->i∈Region.ready md ops af->FloatTo P ops Kp oi a a1->Kp w ->
   Yf P md ops F Q fuel (af.setIfInBounds i AA) Kp a1 w->Yf P md ops F Q (fuel+1) af Kp a w:=by
 intro fuel
 induction fuel with
 | zero=>
  intro af Kp a a1 w _ _ hr hy hk H;refine⟨fun h=>(by rw[h] at hr;cases hr),fun j hj=>?_⟩
  by_cases pz:j=i
  . subst pz
    obtain⟨v,hv,rfl⟩:=hy w hk;exact Zb hi hv ⟨Kp,.inl fun _ h=>h,hk,H⟩
  . have:=ready_mono hj pz
    rw[H.1] at this
    cases this
 | succ fuel ih=>
  intro af Kp a a1 w EL aP hr hy hk H;refine⟨fun h=>(by rw[h] at hr;cases hr),fun j hj=>?_⟩
  by_cases pz:j=i
  . subst pz
    obtain⟨v,hv,rfl⟩:=hy w hk;exact Zb hi hv ⟨Kp,.inl fun _ h=>h,hk,H⟩
  . have h1:=H.2 j (ready_mono hj pz)
    obtain⟨P1,oj,Ih,aO⟩:=Rl.1 hj
    have hnot:∀e∈oj.after,Region.binds md e=AA->e.on≠i:=fun e he hb iJ=>by
     have h1:=aO e he hb;have h0:=(Rl.1 hr).1;rw[iJ] at h1;rcases Sm i af.size with h' | h'
     . simp[h'] at h0 h1;rw[h0] at h1;cases h1
     . simp[Array.getElem?_eq_none h'] at h1
    have h2:=kpOp_put Ih (EL j oj Ih pz P1 hnot) (fun cs b=>ON i oi cs b hi) (fun cs b=>ON j oj cs b Ih) hy hk h1
    have ID:∀k ok,ops[k]?=J ok->k≠i->(af.setIfInBounds j AA).getD k AA=AC ->
      (∀e∈ok.after,Region.binds md e=AA->e.on≠i)->oi.apart ops ok=AA:=fun k ok hk Is MC eM=>by
     refine EL k ok hk Is ?_ eM
     by_cases CO:j=k
     . subst CO;exact P1
     . rw[getD_set_ne AA CO] at MC;exact MC
    have hns:J6 md ops F j=AA->False:=fun VN=>by
     have h1:=J5 aP hj VN hF;have h0:=(Rl.1 hr).1;rcases Sm i af.size with h' | h'
     . simp[h'] at h0 h1;rw[h0] at h1;cases h1
     . simp[Array.getElem?_eq_none h'] at h1
    refine Qx (fun a' w' ⟨WL,hf,lC,pU,fm,h3⟩=>⟨lC,pU,fm,ih (af.setIfInBounds j AA) lC a' WL w' ID (aP.set hj) (ready_mono hr (Rk pz)) (hf.less (pU.resolve_right hns)) fm ?_⟩) h2;rw[Array.setIfInBounds_comm _ _ pz];exact h3
def jw(P:Program)(md:Region.Mode)(ops:Array Oper)(F:List Nat)(Q:Act->Ba->Prop):List (Nat×Bool)->(Ba->Prop)->Act->Ba->Prop
 | [],_,a,w=>Q a w
 | (i,AA)::r,Kp,a,w=>∃o a1,ops[i]?=J o/\FloatTo P ops Kp o a a1/\jw P md ops F Q r Kp a1 w
 | (i,AC)::r,Kp,a,w=>kpOp P ops i (fun a' w'=>∃lC:Ba->Prop,((∀W,lC W->Kp W)\/J6 md ops F i=AA)/\lC w'/\jw P md ops F Q r lC a' w') a w
def mixB(md:Region.Mode)(ops:Array Oper)(F:List Nat):List (Nat×Bool)->Array Bool->Bool
 | [],af=>(Region.ready md ops af).isEmpty
 | (i,AA)::r,af=>F.contains i&&(Region.ready md ops af).contains i&&Region.free md ops af i&&mixB md ops F r (af.setIfInBounds i AA)
 | (i,AC)::r,af=>decide (Region.ready md ops af=[i])&&mixB md ops F r (af.setIfInBounds i AA)
theorem uD{F:List Nat}{Q:Act->Ba->Prop}(hs:Region.noSelect ops=AA):∀(l:List (Nat×Bool)) (af:Array Bool) (Kp:Ba->Prop) (a:Act) (w:Ba),
  mixB md ops F l af=AA->Closed md ops af->Kp w->jw P md ops F Q l Kp a w->Yf P md ops F Q l.length af Kp a w
 | [],_,_,_,_,hB,_,_,h=>⟨by simpa[mixB] using hB,h⟩
 | (i,AA)::l,af,Kp,a,w,hB,aP,hk,h=>by
  simp only[mixB,Bool.and_eq_true] at hB;obtain⟨o,a1,ho,hf,h⟩:=h;have hr:i∈Region.ready md ops af:=by simpa using hB.1.1.2
  exact Q1 (by simpa using hB.1.1.1) ho (Region.noSelect_spec hs) l.length af Kp a a1 w (Region.free_spec ho hB.1.2) aP hr hf hk (uD hs l _ Kp a1 w hB.2 (aP.set hr) hk h)
 | (i,AC)::l,af,Kp,a,w,hB,aP,hk,h=>by
  simp only[mixB,Bool.and_eq_true,decide_eq_true_eq] at hB;refine⟨fun h1=>(by rw[hB.1] at h1;cases h1),fun j hj=>?_⟩;rw[hB.1] at hj;have pz:j=i:=by simpa using hj
  subst pz;exact Qx (fun a' w' ⟨lC,pU,fm,h3⟩=>⟨lC,pU,fm,uD hs l _ lC a' w' hB.2 (aP.set (by rw[hB.1];simp)) fm h3⟩) h
def wF(l:List (Nat×Bool)):List Nat:=l.filterMap fun x=>if x.2 then J x.1 else Z
theorem closed_none:Closed md ops (Array.replicate ops.size AC):=fun j _ _ h=>by rw[RP] at h;cases h
def Ju(md:Region.Mode)(ops:Array Oper)(l:List (Nat×Bool)):Bool:=Region.noSelect ops&&mixB md ops (wF l) l (Array.replicate ops.size AC)&&l.length==ops.size
theorem any_mix{Q:Exit->Act->Ba->Prop}{a:Act}{w:Ba}{xs:List Oper}(l:List (Nat×Bool))(Kp:Ba->Prop)(hB:Ju .any xs.toArray l=AA)
  (h0:Kp w) (h:jw P .any xs.toArray (wF l) (fun a' w'=>Q .normal a' w') l Kp a w):wpAny P .any xs.toArray Q xs.toArray.size (Array.replicate xs.toArray.size AC) a w:=by
 unfold Ju at hB;simp only[Bool.and_eq_true,beq_iff_eq] at hB;have:=uD (md:=.any) hB.1.1 l _ Kp a w hB.1.2 closed_none h0 h;rw[hB.2] at this;exact uC (fun _ _ h=>h) _ _ _ _ _ this
theorem zw{id:Nat}{Q:Exit->Act->Ba->Prop}{a:Act}{w:Ba}{xs:List Oper}(l:List (Nat×Bool))(Kp:Ba->Prop)(hm:P.follows .mixedOrders=AA)(hB:Ju .any xs.toArray l=AA)
  (h0:Kp w.drew) (h:jw P .any xs.toArray (wF l) (fun a' w'=>Q .normal a' w') l Kp a w.drew):(Code.region id xs.toArray AA).wp P Q a w:=
 wp_region_any hm (any_mix l Kp hB h0 h)
theorem qg{id k l0:Nat}{Q:Exit->Act->Ba->Prop}{a:Act}{w:Ba}{xs:List Oper}(l:List (Nat×Bool))(Kp:Ba->Prop)(hm:P.follows .mixedOrders=AA)(hd:Z4 xs.toArray=AA)(hB:Ju .any xs.toArray l=AA)(eM:¬LetsOut Q)
  (h0:Kp w.drew) (h:jw P .any xs.toArray (wF l) (fun a' w'=>Q .normal a' w') l Kp a w.drew):(Code.region id xs.toArray AA).wpIn (Fence.wide.inRound l0) k P Q a w:=
 wpIn_region_any hm (jO hd eM _ _ _ _ (any_mix l Kp hB h0 h))
theorem zA{F:List Nat}{Q:Act->Ba->Prop}{i:Nat}{r:List (Nat×Bool)}{Kp:Ba->Prop}{a a1:Act}{w:Ba}{o:Oper}(ho:ops[i]?=J o)
  (h:∀(K:Act->Prop),K a1->∀W,Kp W->if Region.wanted o (yielded ops a.tmps)=AA then o.still P a W K else K (a.put o.dst undef))
  (k:jw P md ops F Q r Kp a1 w):jw P md ops F Q ((i,AA)::r) Kp a w:=by
 refine⟨o,a1,ho,fun W hW=>?_,k⟩;have h2:=h (fun x=>x=a1) rfl W hW;have h3:stOp P ops W i (fun x=>x=a1) a:=by unfold stOp;simp only[ho];exact h2
 obtain⟨v,hv,he⟩:=yieldsAt_of_stOp ho h3;exact⟨v,hv,he⟩
theorem zx{F:List Nat}{Q:Act->Ba->Prop}{i:Nat}{r:List (Nat×Bool)}{Kp:Ba->Prop}{a:Act}{w:Ba}{o:Oper}(ho:ops[i]?=J o)
  (h:∀K:Act->Ba->Prop,(∀a' w',Kp w'->jw P md ops F Q r Kp a' w'->K a' w')->if Region.wanted o (yielded ops a.tmps)=AA then o.wp P a w K Qf else K (a.put o.dst undef) w):jw P md ops F Q ((i,AC)::r) Kp a w:=
 ⟨o,ho,h _ fun _ _ hk h3=>⟨Kp,.inl fun _ h=>h,hk,h3⟩⟩
theorem zO{F:List Nat}{Q:Act->Ba->Prop}{Kp:Ba->Prop}{a:Act}{w:Ba}(h:Q a w):jw P md ops F Q [] Kp a w:=h
theorem xg{F:List Nat}{Q:Act->Ba->Prop}{i:Nat}{r:List (Nat×Bool)}{Kp:Ba->Prop}{a:Act}{w:Ba}{o:Oper}(ho:ops[i]?=J o)(hs:J6 md ops F i=AA)
  (h:∀K:Act->Ba->Prop,(∀(lC:Ba->Prop) a' w',lC w'->jw P md ops F Q r lC a' w'->K a' w')->if Region.wanted o (yielded ops a.tmps)=AA then o.wp P a w K Qf else K (a.put o.dst undef) w):jw P md ops F Q ((i,AC)::r) Kp a w:=
 ⟨o,ho,h _ fun lC _ _ hk h2=>⟨lC,.inr hs,hk,h2⟩⟩
end
end
section
open Go.RowKit
def yw(a:Ad):Nat->Int->Nat
 | 0,_=>1
 | k+1,s=>((a.at_ s).map fun m=>yw a k m.to).sum
def xA(L x:Nat):Nat:=min x (L+1)
def cl(a:Ad)(L k s:Nat):List Int:=(List.range s).map fun (j:Nat)=>((xA L (yw a k (j:Int)):Nat):Int)
theorem j9(a:Ad)(L k s:Nat):(cl a L k s).length=s:=by unfold cl;simp
theorem cl_succ(a:Ad)(L k s:Nat):cl a L k (s+1)=cl a L k s++[((xA L (yw a k (s:Int)):Nat):Int)]:=by
 unfold cl;rw[Rh,LM];rfl
theorem Xp(a:Ad)(L k s j:Nat)(h:j<(cl a L k s).length):(cl a L k s)[j]=((xA L (yw a k (j:Int)):Nat):Int):=by
 simp[cl]
def jx(a:Ad)(k:Nat)(M:List Mv)(j:Nat):Nat:=((M.take j).map fun m=>yw a k m.to).sum
theorem sumTo_zero(a:Ad)(k:Nat)(M:List Mv):jx a k M 0=0:=by unfold jx;rw[L1];rfl
theorem sumTo_succ(a:Ad)(k:Nat)(M:List Mv){j:Nat}(h:j<M.length):jx a k M (j+1)=jx a k M j+yw a k M[j].to:=by
 unfold jx;rw[Lr h,LM,Sx];simp
theorem sumTo_end(a:Ad)(k:Nat){s:Nat}(h:s<a.sts.length):jx a k a.sts[s] (a.sts[s].length)=yw a (k+1) (s:Int):=by
 unfold jx;rw[yw,LC,show a.at_ (s:Int)=a.sts[s] by unfold Ad.at_;rw[Lo,Lk,Ln h];rfl]
theorem ge(L x:Nat):xA L x<=L+1:=Nat.min_le_right _ _
theorem sat_add(L x y:Nat):min (xA L x+xA L y) (L+1)=xA L (x+y):=by unfold xA;omega
theorem J7(L:Nat):xA L 0=0:=by unfold xA;omega
theorem sat_one(L:Nat):xA L 1=1:=by unfold xA;omega
theorem sat_gt(L x:Nat):(L<xA L x)↔L<x:=by unfold xA;omega
theorem sat_eq{L x:Nat}(h:x<=L):xA L x=x:=by unfold xA;omega
theorem sat_mul(L c x:Nat)(hc:1<=c):(L<c*xA L x)↔L<c*x:=by
 unfold xA
 by_cases h:x<=L+1
 . rw[Sw h]
 rw[Nat.min_eq_right (by omega)];have h1:1*(L+1)<=c*(L+1):=RT _ hc;have h2:c*(L+1)<=c*x:=Nat.mul_le_mul_left _ (by omega);constructor<;>intro _<;>omega
def zT(a:Ad):Nat->Int->List (List Rd)
 | 0,_=>[[]]
 | k+1,s=>(a.at_ s).flatMap fun m=>(zT a k m.to).map (m.r::·)
theorem xe(a:Ad):∀(k:Nat) (s:Int),(zT a k s).length=yw a k s
 | 0,_=>rfl
 | k+1,s=>by
  rw[zT,yw,List.length_flatMap]
  congr 1
  exact N3 fun m _=>by rw[LJ,xe a k m.to]
theorem xW(a:Ad):∀(k:Nat) (s:Int),∀w∈zT a k s,w.length=k
 | 0,_,w,h=>by simp[zT] at h;subst h;rfl
 | k+1,s,w,h=>by
  rw[zT] at h;obtain⟨m,_,hm⟩:=NJ.1 h;obtain⟨w',hw,rfl⟩:=LZ.1 hm;rw[LE,xW a k m.to w' hw]
theorem at_mem{a:Ad}{s:Int}{m:Mv}(h:m∈a.at_ s):m∈a.mvs:=by
 unfold Ad.at_ at h;unfold Ad.mvs;rw[Lk] at h
 cases hc:a.sts[s.toNat]? with
 | none=>rw[hc] at h;cases h
 | some l=>rw[hc] at h;exact NI.2 ⟨l,RY hc,h⟩
theorem jR(a:Ad):∀(k:Nat) (s:Int),∀w∈zT a k s,∀r∈w,∃m∈a.mvs,m.r=r
 | 0,_,w,h,r,hr=>by simp[zT] at h;subst h;cases hr
 | k+1,s,w,h,r,hr=>by
  rw[zT] at h;obtain⟨m,hma,hm⟩:=NJ.1 h;obtain⟨w',hw,rfl⟩:=LZ.1 hm;rcases LL.1 hr with rfl | hr
  . exact⟨m,at_mem hma,rfl⟩
  . exact jR a k m.to w' hw r hr
def yo(r:Rd)(p:Nat)(now:List Int)(q:Nat):Int:=if q<now.length/\(r.h p).toNat.testBit q=AA then now.getD q 0 else -1
def qy(r:Rd)(k p:Nat)(now:List Int):Vw:=⟨p,k,0,yo r p now 0,yo r p now 1,yo r p now 2,yo r p now 3,yo r p now 4⟩
def xr(p:Nat)(i:Int):Vw:=⟨p,0,i,-1,-1,-1,-1,-1⟩
def qu(vs:List Vw)(v:Vw):List Vw×Int:=if v∈vs then (vs,jj vs v) else (vs++[v],vs.length)
theorem putW_yes{vs:List Vw}{v:Vw}(h:v∈vs):qu vs v=(vs,jj vs v):=Li h
theorem putW_no{vs:List Vw}{v:Vw}(h:v∉vs):qu vs v=(vs++[v],(vs.length:Int)):=Lg h
theorem putW_len(vs:List Vw)(v:Vw):(qu vs v).1.length<=vs.length+1:=by
 unfold qu;split<;>simp
def yH(f:Nat->Vw)(vs:List Vw):Nat->List Vw×List Int
 | 0=>(vs,[])
 | p+1=>((qu (yH f vs p).1 (f p)).1,(yH f vs p).2++[(qu (yH f vs p).1 (f p)).2])
theorem qn(f:Nat->Vw)(vs:List Vw):∀p,(yH f vs p).2.length=p
 | 0=>rfl
 | p+1=>by rw[yH,Lw,qn f vs p];rfl
theorem jC(f:Nat->Vw)(vs:List Vw):∀p,(yH f vs p).1.length<=vs.length+p
 | 0=>by simp[yH]
 | p+1=>by
  have h:=jC f vs p;have h2:=putW_len (yH f vs p).1 (f p);rw[yH];dsimp only;omega
def zI(vs:List Vw)(n:Nat)(inp:List Int)(word:List Rd):Nat->List Vw×List (List Int)
 | 0=>((yH (fun p=>xr p (inp.getD p 0)) vs n).1,[(yH (fun p=>xr p (inp.getD p 0)) vs n).2])
 | j+1=>((yH (fun p=>qy (word.getD j default) (j+1) p ((zI vs n inp word j).2.getD j [])) (zI vs n inp word j).1 n).1,
   (zI vs n inp word j).2++[(yH (fun p=>qy (word.getD j default) (j+1) p ((zI vs n inp word j).2.getD j [])) (zI vs n inp word j).1 n).2])
theorem yW(vs:List Vw)(n:Nat)(inp:List Int)(word:List Rd):∀j,(zI vs n inp word j).2.length=j+1
 | 0=>rfl
 | j+1=>by rw[zI,Lw,yW vs n inp word j];rfl
theorem jE(vs:List Vw)(n:Nat)(inp:List Int)(word:List Rd):∀j,(zI vs n inp word j).1.length<=vs.length+(j+1)*n
 | 0=>by rw[zI];have:=jC (fun p=>xr p (inp.getD p 0)) vs n;simpa using this
 | j+1=>by
  have h:=jE vs n inp word j;have h2:=jC (fun p=>qy (word.getD j default) (j+1) p ((zI vs n inp word j).2.getD j [])) (zI vs n inp word j).1 n;rw[zI,Rw (j+1) 1 n];dsimp only;omega
theorem kY(vs:List Vw)(n:Nat)(inp:List Int)(word:List Rd):∀j,∀l∈(zI vs n inp word j).2,l.length=n
 | 0,l,h=>by rw[zI] at h;simp at h;subst h;exact qn _ _ _
 | j+1,l,h=>by
  rw[zI] at h;rcases Nh.1 h with h | h
  . exact kY vs n inp word j l h
  . simp at h;subst h;exact qn _ _ _
def zD(p:Pb):List (Nat×List Rd):=(List.range p.t.cases.length).flatMap fun i=>(zT p.a p.k.toNat 0).map fun w=>(i,w)
def yt(p:Pb)(i:Nat):List Int:=(p.t.cases.getD i default).inp
def zK(p:Pb)(l:List (Nat×List Rd)):List Vw×List Exn:=
 l.foldl (fun s x=>((zI s.1 p.t.n.toNat (yt p x.1) x.2 x.2.length).1,s.2++[⟨x.1,x.2,(zI s.1 p.t.n.toNat (yt p x.1) x.2 x.2.length).2⟩])) ([],[])
theorem jB(p:Pb):zK p []=([],[]):=rfl
theorem qz(p:Pb)(l:List (Nat×List Rd))(x:Nat×List Rd):zK p (l++[x]) =
  ((zI (zK p l).1 p.t.n.toNat (yt p x.1) x.2 x.2.length).1,(zK p l).2++[⟨x.1,x.2,(zI (zK p l).1 p.t.n.toNat (yt p x.1) x.2 x.2.length).2⟩]):=by
 unfold zK;rw[N2];rfl
def kH:Sy:=⟨⟨⟨0,0,0,[]⟩,⟨0,[]⟩,0⟩,0,[],[]⟩
def yu(p:Pb):Sy:=⟨p,p.t.n,(zK p (zD p)).1,(zK p (zD p)).2⟩
end
section
open Go.RowKit
def RowX{α:Type}(C:Ct α)(S:Nat->Prop)(w:Ba)(g:Nat)(xs:List α):Prop:=
 ∃iL,w.heap[g]?=J (Ai iL C.K.e (0,0))/\∀(i:Nat) (hi:i<xs.length),∃cs,C.lies (fun k=>S k/\k≠g) w cs xs[i]/\∀j u,cs[j]?=J u->iL[i*C.K.size+j]?=J u
section
variable {α:Type} {C:Ct α} {S S':Nat->Prop} {w w':Ba} {g:Nat} {xs:List α}
theorem RowX.keep(ok:CtOk C)(h:RowX C S w g xs)(hk:KeepB (fun k=>S k/\k≠g) w w')(hg:w'.heap[g]?=w.heap[g]?):RowX C S w' g xs:=by
 obtain⟨iL,h1,h2⟩:=h;refine⟨iL,hg.trans h1,fun i hi=>?_⟩;obtain⟨cs,h3,h4⟩:=h2 i hi;exact⟨cs,ok.keep h3 hk,h4⟩
theorem RowX.below(ok:CtOk C){B:Nat}(h:RowX C S w g xs)(hb:Ar B w w')(hB:w.heap.size<=B):RowX C S w' g xs:=
 h.keep ok ⟨hb.size,fun k _ hk=>hb.block k (by omega)⟩ (hb.block g (by obtain⟨iL,h1,_⟩:=h;have:=zj h1;omega))
theorem RowX.mono(ok:CtOk C)(h:RowX C S w g xs)(hm:∀k,k<w.heap.size->S k->S' k):RowX C S' w g xs:=by
 obtain⟨iL,h1,h2⟩:=h;refine⟨iL,h1,fun i hi=>?_⟩;obtain⟨cs,h3,h4⟩:=h2 i hi;exact⟨cs,ok.mono h3 fun k hk hs=>⟨hm k hk hs.1,hs.2⟩,h4⟩
theorem RowX.lt(h:RowX C S w g xs):g<w.heap.size:=by obtain⟨iL,h1,_⟩:=h;exact zj h1
theorem RowX.other(ok:CtOk C)(h:RowX C S w g xs){b:Nat}(o:Nat)(v:Ax)(hb:b≠g)(hS:¬S b):RowX C S (w.setCell ⟨b,o,Z⟩ v) g xs:=
 h.keep ok (KeepB.setCell (fun h=>hS h.1) v) (Lh w ⟨b,o,Z⟩ v g (fun e=>hb e.symm))
theorem RowX.of_own(ok:CtOk C){base n cap:Nat}{v:Ax}{cs:List Ax}(h:OwnR C.K w base v n cs)(hv:v=I (J ⟨g,0,Z⟩) n cap)(_hn:xs.length=n)
  (hc:∀(i:Nat) (hi:i<xs.length),∃d,C.lies (fun k=>S k/\k≠g) w d xs[i]/\∀j u,d[j]?=J u->cs[i*C.K.size+j]?=J u):RowX C S w g xs:=by
 have:=ok;subst hv;rcases h.2 with ⟨e,_⟩ | ⟨g',aD,cur,e,_,hg,_,_,_,ht⟩
 . cases e
 cases e
 refine⟨cur,hg,fun i hi=>?_⟩;obtain⟨d,h1,h2⟩:=hc i hi;refine⟨d,h1,fun j u hu=>?_⟩;have h3:=h2 j u hu;rw[<-ht,NU] at h3
 split at h3
 . simpa using h3
 cases h3
end
theorem RowX.set3{S:Nat->Prop}{w:Ba}{g:Nat}{xs:List Cs}(h:RowX cCs S w g xs){i:Nat}(hi:i<xs.length){v0 v1 v2:Ax}(hl:cCs.lies (fun k=>S k/\k≠g) w [v0,v1,v2] xs[i]) :
  RowX cCs S (((w.setCell ⟨g,i*3,Z⟩ v0).setCell ⟨g,i*3+1,Z⟩ v1).setCell ⟨g,i*3+2,Z⟩ v2) g xs:=by
 obtain⟨iL,h1,h2⟩:=h;have k1:=Lq w g (i*3) iL _ v0 h1;have k2:=Lq _ g (i*3+1) _ _ v1 k1;have k3:=Lq _ g (i*3+2) _ _ v2 k2
 have hk:KeepB (fun k=>S k/\k≠g) w (((w.setCell ⟨g,i*3,Z⟩ v0).setCell ⟨g,i*3+1,Z⟩ v1).setCell ⟨g,i*3+2,Z⟩ v2):=
  ((KeepB.setCell (a:=⟨g,i*3,Z⟩) (fun h=>h.2 rfl) v0).trans (KeepB.setCell (a:=⟨g,i*3+1,Z⟩) (fun h=>h.2 rfl) v1)).trans (KeepB.setCell (a:=⟨g,i*3+2,Z⟩) (fun h=>h.2 rfl) v2)
 refine⟨_,k3,fun i' fR=>?_⟩
 by_cases e:i'=i
 . subst e
   obtain⟨cs,h3,h4⟩:=h2 i' fR;have aS:=qM.len h3
   have hb:i'*3+2<iL.size:=by
    have hc2:2<cs.length:=by rw[aS];show 2<3;omega
    have:=h4 2 cs[2] (Ln hc2);exact(Lu.1 this).1
   refine⟨[v0,v1,v2],qM.keep hl hk,fun j u hu=>?_⟩;change (((iL.setIfInBounds (i'*3) v0).setIfInBounds (i'*3+1) v1).setIfInBounds (i'*3+2) v2)[i'*3+j]?=J u
   match j,hu with
   | 0,hu=>cases hu;rw[L7 (by omega),L7 (by omega),NS,Pa (by omega)]
   | 1,hu=>cases hu;rw[L7 (by omega),Pa (by simp;omega)]
   | 2,hu=>cases hu;rw[Pa (by simp;omega)]
 obtain⟨cs,h3,h4⟩:=h2 i' fR;refine⟨cs,qM.keep h3 hk,fun j u hu=>?_⟩;have hj:j<3:=by have:=(Lv.1 hu).1;rw[qM.len h3] at this;exact this
 have h5:=h4 j u hu;change iL[i'*3+j]?=J u at h5;change (((iL.setIfInBounds (i*3) v0).setIfInBounds (i*3+1) v1).setIfInBounds (i*3+2) v2)[i'*3+j]?=J u;rw[L7 (by omega),L7 (by omega),L7 (by omega)];exact h5
theorem RowX.set1{α:Type}{C:Ct α}(ok:CtOk C)(WE:C.K.size=1){S:Nat->Prop}{w:Ba}{g:Nat}{xs:List α}(h:RowX C S w g xs){i:Nat}(hi:i<xs.length){v0:Ax}(hl:C.lies (fun k=>S k/\k≠g) w [v0] xs[i]) :
  RowX C S (w.setCell ⟨g,i,Z⟩ v0) g xs:=by
 obtain⟨iL,h1,h2⟩:=h;have k1:=Lq w g i iL _ v0 h1;have hk:KeepB (fun k=>S k/\k≠g) w (w.setCell ⟨g,i,Z⟩ v0):=KeepB.setCell (a:=⟨g,i,Z⟩) (fun h=>h.2 rfl) v0;refine⟨_,k1,fun i' fR=>?_⟩;obtain⟨cs,h3,h4⟩:=h2 i' fR;have aS:=ok.len h3;rw[WE] at aS
 by_cases e:i'=i
 . subst e
   have hb:i'<iL.size:=by
    have:=h4 0 cs[0] (Ln (by omega));rw[WE] at this;have:=(Lu.1 this).1;omega
   refine⟨[v0],ok.keep hl hk,fun j u hu=>?_⟩;have hj:j=0:=by have:=(Lv.1 hu).1;simp at this;omega
   subst hj
   cases hu
   rw[WE,NW,NS,Pa hb]
 refine⟨cs,ok.keep h3 hk,fun j u hu=>?_⟩;have hj:j=0:=by have:=(Lv.1 hu).1;omega
 subst hj;have h5:=h4 0 u hu;rw[WE,NW,NS] at h5 ⊢;rw[L7 (by omega)];exact h5
theorem RowX.cat{S:Nat->Prop}{w:Ba}{g:Nat}{xs:List Cs}(h:RowX cCs S w g xs):CAt w w.heap.size (J ⟨g,0,Z⟩) xs:=fun _=>by
 obtain⟨iL,h1,h2⟩:=h;refine⟨g,0,rfl,zj h1,fun i hi=>?_⟩;obtain⟨cs,⟨A0,c0,A1,c1,A2,c2,rfl,We,iR,mT⟩,h4⟩:=h2 i hi;refine⟨_,_,_,?_,?_,?_,⟨A0,c0,rfl,We.iat⟩,⟨A1,c1,rfl,iR.lat⟩,⟨A2,c2,rfl,mT.lat⟩⟩
 . rw[LO];exact zh h1 _ (h4 0 _ rfl)
 . rw[LO];exact zh h1 _ (h4 1 _ rfl)
 . rw[LO];exact zh h1 _ (h4 2 _ rfl)
theorem RowX.sat{S:Nat->Prop}{w:Ba}{g:Nat}{xs:List (List Mv)}(h:RowX cMl S w g xs):SAt w w.heap.size (J ⟨g,0,Z⟩) xs:=fun _=>by
 obtain⟨iL,h1,h2⟩:=h;refine⟨g,0,rfl,zj h1,fun i hi=>?_⟩;obtain⟨cs,⟨A0,c0,rfl,We⟩,h4⟩:=h2 i hi;refine⟨A0,c0,?_,We.mat⟩;have:=h4 0 _ rfl;change iL[i*1+0]?=_ at this;rw[LO];exact zh h1 _ (by rw[<-this];congr 1;omega)
theorem CAt.raw{w:Ba}{B:Nat}{A:Bb}{xs:List Cs}(h:CAt w B A xs)(hB:B<=w.heap.size):∃cs:List Ax,cs.length=xs.length*3/\Raw w A xs.length cs/\(∀u∈cs,u.oneCell'=AA) /\
  ∀(i:Nat) (hi:i<xs.length),∃d,cCs.lies (fun k=>k<B) w d xs[i]/\∀j u,d[j]?=J u->cs[i*3+j]?=J u:=by
 have key:∀n,n<=xs.length->∃bz:List (List Ax),bz.length=n/\(∀c∈bz,c.length=3/\∀u∈c,u.oneCell'=AA)/\∀(i:Nat) (hi:i<n) (hx:i<xs.length),∃d,bz[i]?=J d/\cCs.lies (fun k=>k<B) w d xs[i] /\
   ∀b off,A=J ⟨b,off,Z⟩->∀j u,d[j]?=J u->w.cell? ⟨b,off+(i*3+j),Z⟩=J u:=by
  intro n
  induction n with
  | zero=>exact fun _=>⟨[],rfl,by simp,fun i hi=>absurd hi (by omega)⟩
  | succ n ih=>
   intro hn;obtain⟨bz,c1,c2,c3⟩:=ih (by omega);obtain⟨b,off,A0,k0,A1,k1,A2,k2,e,hb,x0,x1,x2,i0,l1,l2⟩:=h.row n (by omega);refine⟨bz++[[I A0 xs[n].inp.length k0,I A1 xs[n].out.length k1,I A2 xs[n].calm.length k2]],by simp[c1],?_,fun i hi hx=>?_⟩
   . intro c hc
     rcases Nh.1 hc with hc | hc
     . exact c2 c hc
     . simp at hc;subst hc
       exact⟨rfl,fun u hu=>by simp at hu;rcases hu with rfl | rfl | rfl<;>rfl⟩
   . by_cases ei:i<n
     . obtain⟨d,d1,d2⟩:=c3 i ei hx
       exact⟨d,by rw[LY (by omega)];exact d1,d2⟩
     . obtain rfl:i=n:=by omega
       refine⟨_,by rw[LW (by omega),c1,N0];rfl,⟨A0,k0,A1,k1,A2,k2,rfl,IAtS.of_iat i0 hB (fun _ h=>h),LAtS.of_lat l1 hB (fun _ h=>h),LAtS.of_lat l2 hB (fun _ h=>h)⟩,fun b' eh e' j u hu=>?_⟩;rw[e] at e';cases e'
       match j,hu with
       | 0,hu=>cases hu;exact x0
       | 1,hu=>cases hu;exact x1
       | 2,hu=>cases hu;exact x2
 obtain⟨bz,c1,c2,c3⟩:=key xs.length (Le _);have cK:∀c∈bz,c.length=3:=fun c hc=>(c2 c hc).1
 have EN:bz.flatten.length=xs.length*3:=by
  rw[List.length_flatten,<-c1];clear c3 c1
  induction bz with
  | nil=>rfl
  | cons c bz ih=>simp only[List.map_cons,List.sum_cons,List.length_cons];rw[ih (fun d hd=>c2 d (by simp[hd])) (fun d hd=>cK d (by simp[hd])),cK c (by simp)];omega
 refine⟨bz.flatten,EN,fun h0=>?_,fun u hu=>?_,fun i hi=>?_⟩
 . obtain⟨b,off,e,hb,_⟩:=h h0
   refine⟨b,off,e,by omega,fun j u hj=>?_⟩;have cq:j<xs.length*3:=by rw[<-EN];exact(Lv.1 hj).1
   have fR:j / 3<xs.length:=by omega
   obtain⟨d,d1,_,d3⟩:=c3 (j / 3) fR fR;have h8:j / 3*3+j % 3=j:=by omega
   have h9:=Z8 bz cK (j / 3) (by omega) (j % 3) (by omega);rw[h8,hj] at h9;obtain⟨_,d4⟩:=Lv.1 d1;rw[d4] at h9;have:=d3 b off e (j % 3) u h9.symm;rwa[h8] at this
 . obtain⟨c,hc,hu⟩:=NI.1 hu
   exact(c2 c hc).2 u hu
 obtain⟨d,d1,d2,_⟩:=c3 i hi hi;refine⟨d,d2,fun j u hu=>?_⟩;have hj:j<3:=by have:=(Lv.1 hu).1;rw[qM.len d2] at this;exact this
 obtain⟨d5,d4⟩:=Lv.1 d1;rw[Z8 bz cK i d5 j hj,d4];exact hu
theorem SAt.raw{w:Ba}{B:Nat}{A:Bb}{xs:List (List Mv)}(h:SAt w B A xs)(hB:B<=w.heap.size):∃cs:List Ax,cs.length=xs.length*1/\Raw w A xs.length cs/\(∀u∈cs,u.oneCell'=AA) /\
  ∀(i:Nat) (hi:i<xs.length),∃d,cMl.lies (fun k=>k<B) w d xs[i]/\∀j u,d[j]?=J u->cs[i*1+j]?=J u:=by
 have key:∀n,n<=xs.length->∃cs:List Ax,cs.length=n/\(∀u∈cs,u.oneCell'=AA)/\∀(i:Nat) (hi:i<n) (hx:i<xs.length),∃A' c,cs[i]?=J (I A' xs[i].length c)/\MAtS (fun k=>k<B) w A' xs[i] /\
   ∀b off,A=J ⟨b,off,Z⟩->w.cell? ⟨b,off+i,Z⟩=J (I A' xs[i].length c):=by
  intro n
  induction n with
  | zero=>exact fun _=>⟨[],rfl,by simp,fun i hi=>absurd hi (by omega)⟩
  | succ n ih=>
   intro hn;obtain⟨cs,c1,c2,c3⟩:=ih (by omega);obtain⟨b,off,A',c,e,hb,x0,m0⟩:=h.at_ n (by omega);refine⟨cs++[I A' xs[n].length c],by simp[c1],?_,fun i hi hx=>?_⟩
   . intro u hu
     rcases Nh.1 hu with hu | hu
     . exact c2 u hu
     . simp at hu;subst hu;rfl
   . by_cases ei:i<n
     . obtain⟨A2,k2,d1,d2⟩:=c3 i ei hx
       exact⟨A2,k2,by rw[LY (by omega)];exact d1,d2⟩
     . obtain rfl:i=n:=by omega
       refine⟨A',c,by rw[LW (by omega),c1,N0];rfl,MAtS.of_mat m0 hB (fun _ h=>h),fun b' eh e'=>?_⟩;rw[e] at e';cases e';exact x0
 obtain⟨cs,c1,c2,c3⟩:=key xs.length (Le _);refine⟨cs,by omega,fun h0=>?_,c2,fun i hi=>?_⟩
 . obtain⟨b,off,e,hb,_⟩:=h h0
   refine⟨b,off,e,by omega,fun j u hj=>?_⟩;have cq:j<xs.length:=by rw[<-c1];exact(Lv.1 hj).1
   obtain⟨A',c,d1,_,d3⟩:=c3 j cq cq;rw[hj] at d1;cases d1;exact d3 b off e
 obtain⟨A',c,d1,d2,_⟩:=c3 i hi hi;refine⟨[I A' xs[i].length c],⟨A',c,rfl,d2⟩,fun j u hu=>?_⟩;have hj:j=0:=by have:=(Lv.1 hu).1;simp at this;omega
 subst hj
 cases hu
 rw[NW,NS];exact d1
end
section
open Go.RowKit
attribute [local go_sem] Oper.semAt_some
theorem Z3(w:Ba)(c1:Array Ax)(t1:TypeId):∃W0,(w.alloc (Ai c1 t1)).drew=W0/\W0.heap[w.heap.size]?=J (Ai c1 t1 (0,0))/\W0.heap.size=w.heap.size+1/\Ar w.heap.size w W0:=
 ⟨_,rfl,zy w _,by show(w.alloc _).heap.size=_;simp,(ye w _).drew⟩
def xG(pre:List Rd)(l:List (List Rd)):List (List Rd):=l.map (pre++·)
theorem behind_nil(pre:List Rd):xG pre [[]]=[pre]:=by simp[xG]
theorem behind_cons(pre:List Rd)(r:Rd)(l:List (List Rd)):xG pre (l.map (r::·))=xG (pre++[r]) l:=by simp[xG]
def yT(a:Ad)(k:Nat)(M:List Mv)(j:Nat):List (List Rd):=(M.take j).flatMap fun m=>(zT a k m.to).map (m.r::·)
theorem wg(a:Ad)(k:Nat)(M:List Mv):yT a k M 0=[]:=by simp[yT]
theorem kL(a:Ad)(k:Nat)(M:List Mv){j:Nat}(h:j<M.length):yT a k M (j+1)=yT a k M j++(zT a k M[j].to).map (M[j].r::·):=by
 unfold yT;rw[Lr h,R7];simp
theorem Ze(a:Ad)(k:Nat){s:Nat}(h:s<a.sts.length):yT a k a.sts[s] a.sts[s].length=zT a (k+1) (s:Int):=by
 unfold yT;rw[zT,LC,show a.at_ (s:Int)=a.sts[s] by unfold Ad.at_;rw[Lo,Lk,Ln h];rfl]
theorem Zd(a:Ad)(k:Nat)(M:List Mv)(j:Nat):(yT a k M j).length<=(yT a k M M.length).length:=by
 unfold yT;rw[LC]
 conv=>rhs;rw[<-P8 j M,R7,Lw]
 omega
def Fx(bR bO bA bF g k:Nat):Prop:=k≠bR/\k≠bO/\k≠bA/\k≠bF/\k≠g
structure FromIn(a:Ad)(K:Nat)(SV:Bb)(ks B bR bO bA bF g:Nat)(V:Ax)(pre:List Rd)(outs:List (List Rd))(w0 w:Ba):Prop where
 hR:w.heap[bR]?=J (Ai #[O U K] 3 (0,0))
 hO:w.heap[bO]?=J (Ai #[V] 141 (0,0))
 hA:w.heap[bA]?=J (Ai #[O U a.n,I SV a.sts.length ks] 27 (0,0))
 hF:w.heap[bF]?=J (Ai #[.func (.func 138) #[] #[Al (J ⟨bR,0,Z⟩),Al (J ⟨bO,0,Z⟩),Al (J ⟨bA,0,Z⟩),Al (J ⟨bF,0,Z⟩)]] 200 (0,0))
 out:OwnX cWd (Fx bR bO bA bF g) w B V outs
 ne:∀k,V.ownBlock=J k->Fx bR bO bA bF g k
 buf:OwnR kRd w B (I (J ⟨g,0,Z⟩) pre.length K) pre.length (xq pre)
 bel:Ar B w0 w
theorem FromIn.fresh{a:Ad}{K:Nat}{SV:Bb}{ks B bR bO bA bF g:Nat}{V:Ax}{pre:List Rd}{outs:List (List Rd)}{w0 w:Ba}(H:FromIn a K SV ks B bR bO bA bF g V pre outs w0 w){k:Nat}(hk:w.heap.size<=k):Fx bR bO bA bF g k:=by
 have h1:=zj H.hR;have h2:=zj H.hO;have h3:=zj H.hA;have h4:=zj H.hF;have h5:=(H.buf.lt g rfl).2;exact⟨by omega,by omega,by omega,by omega,by omega⟩
structure FromB(B bR bO bA bF g:Nat):Prop where
 r:B<=bR
 o:B<=bO
 a:B<=bA
 f:B<=bF
 ro:bR≠bO
 ao:bA≠bO
 fo:bF≠bO
 gr:g≠bR
 go:g≠bO
 ga:g≠bA
 gf:g≠bF
 g:B<=g
def wZ(a:Ad)(K:Nat)(SV:Bb)(ks k:Nat):Prop:=∀(s:Int) (pre:List Rd) (outs:List (List Rd)) (V:Ax) (B bR bO bA bF g:Nat) (w0 w:Ba),
 pre.length+k=K->(k=0\/(0<=s/\s<a.sts.length))->outs.length+(zT a k s).length<=5000->FromB B bR bO bA bF g->SAt w0 B SV a.sts->FromIn a K SV ks B bR bO bA bF g V pre outs w0 w ->
 As Aq 138 #[O U s,I (J ⟨g,0,Z⟩) pre.length K,Al (J ⟨bR,0,Z⟩),Al (J ⟨bO,0,Z⟩),Al (J ⟨bA,0,Z⟩),Al (J ⟨bF,0,Z⟩)] w
  fun e w'=>(∃v,e=Am v)/\∃V',FromIn a K SV ks B bR bO bA bF g V' pre (outs++xG pre (zT a k s)) w0 w'
theorem FromIn.push{a:Ad}{K:Nat}{SV:Bb}{ks B bR bO bA bF g:Nat}{V:Ax}{pre:List Rd}{outs:List (List Rd)}{w0 w W w3:Ba}{x:List Rd}{bz:List (List Ax)}{A2:Bb}{c2 g' cap:Nat}
  (H:FromIn a K SV ks B bR bO bA bF g V pre outs w0 w) (hB:FromB B bR bO bA bF g) (hw:Ar w.heap.size w W) (hl:bz.length=outs.length)
  (h3:∀(i:Nat) (h1:i<bz.length) (h2:i<outs.length),cWd.lies (fun k=>Fx bR bO bA bF g k/\V.ownBlock≠J k) W bz[i] outs[i])
  (hx:RAtS (fun k=>w.heap.size<=k) W A2 x) (hxc:x.length<=c2) (hr:OwnR kWd w3 B (I (J ⟨g',0,Z⟩) (outs.length+1) cap) (outs.length+1) (bz.flatten++[I A2 x.length c2]))
  (hg:W.grownBy w3 V.ownBlock) (bL:V.ownBlock=J g'\/g'=W.heap.size) :
  FromIn a K SV ks B bR bO bA bF g (I (J ⟨g',0,Z⟩) (outs.length+1) cap) pre (outs++[x]) w0 (w3.setCell ⟨bO,0,Z⟩ (I (J ⟨g',0,Z⟩) (outs.length+1) cap)):=by
 have aa:=H.out.lt;have ie:g<w.heap.size:=(H.buf.lt g rfl).2;have hws:=hw.size;have k1:=zj H.hR;have k2:=zj H.hO;have k3:=zj H.hA;have k4:=zj H.hF
 have hk:∀b,b<w.heap.size->V.ownBlock≠J b->b≠bO->(w3.setCell ⟨bO,0,Z⟩ (I (J ⟨g',0,Z⟩) (outs.length+1) cap)).heap[b]?=w.heap[b]?:=fun b h1 h0 h2=>
  (Lh _ _ _ b h2).trans ((hg.block b (by omega) (fun e=>h0 e.symm)).trans (hw.block b h1))
 have mc:w3.heap[bO]?=J (Ai #[V] 141 (0,0)):=(hg.block bO (by omega) (fun e=>(H.ne bO e.symm).2.1 rfl)).trans ((hw.block bO (by omega)).trans H.hO);obtain⟨x1,x2,x3⟩:=kI mc (I (J ⟨g',0,Z⟩) (outs.length+1) cap);have hX:cWd.lies (fun k=>Fx bR bO bA bF g k/\V.ownBlock≠J k) W [I A2 x.length c2] x:=⟨A2,c2,rfl,hx.mono fun k _ hk=>⟨H.fresh hk,fun e=>by have:=(aa k e).2;omega⟩,hxc⟩;have hO:=OwnX.app kd hl h3 hX hr hg bL;have RQ:B<=g'/\g'<w3.heap.size:=hr.lt g' rfl
 have hfx:Fx bR bO bA bF g g':=by
  rcases bL with e | e
  . exact H.ne g' e
  exact H.fresh (by omega)
 have hvg:V.ownBlock≠J g:=fun e=>(H.ne g e).2.2.2.2 rfl
 refine⟨(hk _ k1 (fun e=>(H.ne _ e).1 rfl) hB.ro).trans H.hR,x1,(hk _ k3 (fun e=>(H.ne _ e).2.2.1 rfl) hB.ao).trans H.hA,(hk _ k4 (fun e=>(H.ne _ e).2.2.2.1 rfl) hB.fo).trans H.hF,?_,?_,?_,?_⟩
 . refine hO.kept kd (zV w3 bO 0 _) (.inr (fun e=>?_)) (fun k e=>.inl fun hs=>?_)
   . have e2:g'=bO:=by simpa[Value.ownBlock] using e
     exact hfx.2.1 e2
   cases e
   exact hs.2.1 rfl
 . intro k e
   have e2:g'=k:=by simpa[Value.ownBlock] using e
   subst e2;exact hfx
 . refine((H.buf.below hw (Le _)).kept hg (.inr (fun e=>hvg e.symm))).kept (zV w3 bO 0 _) (.inr (fun e=>?_))
   have e2:g=bO:=by simpa[Value.ownBlock] using e
   exact hB.go e2
 have h1:=hB.o;have h2:=hB.g;exact((H.bel.trans (hw.mono (by omega))).grown hg (by omega) (fun k hk=>(aa k hk).1)).setCell (by show B<=bO;omega) _
theorem from_zero(a:Ad)(K:Nat)(hK:K<=6)(SV:Bb)(ks:Nat):wZ a K SV ks 0:=by
 intro s pre outs V B bR bO bA bF g w0 w MH _ aS hB hS H;obtain rfl:K=pre.length:=by omega
 have aS:outs.length<=5000:=by omega
 have HI:=zH H;have cJ:=zH hB;have r0:=zh H.hR 0 rfl;have o0:=zh H.hO 0 rfl
 have Id:Raw w.drew (J ⟨g,0,Z⟩) pre.length (xq pre):=by
  obtain⟨A,cap,e,_,_,h⟩:=H.buf.raw
  cases e;exact h
 have HC:=zH (QP (J ⟨g,0,Z⟩) pre.length pre.length (xq pre) w.drew (qo pre) Id (uJ pre) (by omega));go_enter func138,ntmps138;go_wp2_with fail;refine zw [(0,AA),(1,AA),(2,AC),(3,AC),(4,AC),(5,AC)] (fun W=>W.cell? ⟨bO,0,Z⟩=J V) (by kernel_rfl) (by kernel_rfl) (by exact o0) ?_
 repeat
  apply zA rfl
  . intro K' ac W hW
    go_simp;exact ac
 refine zx rfl ?_;intro K' ac;go_simp;refine HC.out.mono ?_;rintro e w2 ⟨v2,rfl,mB,ag⟩;obtain⟨A2,c2,rfl,hc2,fC,mT⟩:=uI mB;have ag:Ar w.heap.size w w2:=kF ag;have mT:RAtS (fun k=>w.heap.size<=k) w2 A2 pre:=mT;have K3:=HI.out.hO;have o2:w2.cell? ⟨bO,0,Z⟩=J V:=(ag.cell (p:=⟨bO,0,Z⟩) (zj K3)).trans o0;refine ac _ _ o2 ?_;refine zx rfl ?_;intro K' ac;go_simp;have hbO2:bO<w2.heap.size:=by have:=zj K3;have:=ag.size;omega
 refine ac _ _ ((L3 _ _ _ hbO2).trans o2) ?_;refine zx rfl ?_;intro K' ac;obtain⟨W2,iU⟩:=Ki (w2.alloc (Ai #[I A2 pre.length c2] 55));have ib:=zy w2 (Ai #[I A2 pre.length c2] 55);have cH:Ar w.heap.size w W2:=by rw[<-iU];exact ag.alloc ag.size _
 have I4:RAtS (fun k=>w.heap.size<=k) W2 A2 pre:=by rw[<-iU];exact mT.keep (KeepB.alloc _ _ _)
 rw[iU] at ib ⊢;obtain⟨bz,aP,nA,cK⟩:=HI.out.out.below kd cH (Le _);have cA:B<=W2.heap.size:=by have:=cJ.out.g;have:=(HI.out.buf.lt g rfl).2;have:=cH.size;omega
 refine step_appR kWd_ok (by rfl) (.tmp 14) (.tmp 17) (by rfl) B V outs.length bz.flatten (by rfl) nA w2.heap.size #[I A2 pre.length c2] (by rfl) ib rfl (by simp[Value.oneCell']) (by omega) cA _ rfl ?_;intro g' cap w3 hr bW bL hlt3
 have o3:w3.cell? ⟨bO,0,Z⟩=J V:=by
  refine(LH (bW.block bO (by have:=zj K3;have:=cH.size;omega) (fun e=>?_))).trans ((cH.cell (p:=⟨bO,0,Z⟩) (zj K3)).trans o0);exact(HI.out.ne bO e.symm).2.1 rfl
 have f3:w3.frozen? ⟨bO,0,Z⟩=AC:=by
  refine zi (cs:=#[V]) (t:=141) ((bW.block bO (by have:=zj K3;have:=cH.size;omega) (fun e=>?_)).trans ((cH.block bO (zj K3)).trans K3)) 0;exact(HI.out.ne bO e.symm).2.1 rfl
 have HP:=zH (HI.out.push cJ.out cH aP cK I4 hc2 hr bW bL);refine ac _ _ o3 ?_;refine xg rfl (by kernel_rfl) ?_;intro K' ac;go_simp;refine ac (fun _=>True) _ _ trivial ?_;refine zO ?_;go_simp;go_wp2_with fail;refine LG (Sd rfl _ _ _) rfl ?_;refine⟨⟨.tuple #[],rfl⟩,I (J ⟨g',0,Z⟩) (outs.length+1) cap,?_⟩;rw[show zT a 0 s=[[]] from rfl,behind_nil];exact HP.out
theorem FromIn.ext{a:Ad}{K:Nat}{SV:Bb}{ks B bR bO bA bF g:Nat}{V:Ax}{pre:List Rd}{outs:List (List Rd)}{w0 w W w4:Ba}{r:Rd}
  (H:FromIn a K SV ks B bR bO bA bF g V pre outs w0 w) (hB:FromB B bR bO bA bF g) (hw:Ar w.heap.size w W)
  (hr:OwnR kRd w4 B (I (J ⟨g,0,Z⟩) (pre.length+1) K) (pre.length+1) (xq pre++r.cells.toList)) (hg:W.grownBy w4 (J g)) :
  FromIn a K SV ks B bR bO bA bF g V (pre++[r]) outs w0 w4:=by
 have ie:g<w.heap.size:=(H.buf.lt g rfl).2;have hws:=hw.size;have k1:=zj H.hR;have k2:=zj H.hO;have k3:=zj H.hA;have k4:=zj H.hF;have hk:∀b,b<w.heap.size->g≠b->w4.heap[b]?=w.heap[b]?:=fun b h1 h2=>(hg.block b (by omega) (fun e=>by cases e;exact h2 rfl)).trans (hw.block b h1)
 have hvg:V.ownBlock≠J g:=fun e=>(H.ne g e).2.2.2.2 rfl
 refine⟨(hk _ k1 hB.gr).trans H.hR,(hk _ k2 hB.go).trans H.hO,(hk _ k3 hB.ga).trans H.hA,(hk _ k4 hB.gf).trans H.hF,?_,H.ne,?_,?_⟩
 . exact(H.out.below kd hw (Le _)).kept kd hg (.inr hvg) (fun k e=>.inl fun hs=>hs.2.2.2.2 (by cases e;rfl))
 . rw[Lw,uw];exact hr
 have:=hB.g;exact(H.bel.trans (hw.mono (by omega))).grown hg (by omega) (fun k hk=>by cases hk;omega)
theorem FromIn.cut{a:Ad}{K:Nat}{SV:Bb}{ks B bR bO bA bF g:Nat}{V:Ax}{pre:List Rd}{outs:List (List Rd)}{w0 w:Ba}{r:Rd}
  (H:FromIn a K SV ks B bR bO bA bF g V (pre++[r]) outs w0 w):FromIn a K SV ks B bR bO bA bF g V pre outs w0 w:=by
 refine⟨H.hR,H.hO,H.hA,H.hF,H.out,H.ne,?_,H.bel⟩;have h:=H.buf;rw[uw,Lw] at h;exact h.pop (qo pre)
theorem behind_len(pre:List Rd)(l:List (List Rd)):(xG pre l).length=l.length:=by simp[xG]
theorem XT(pre:List Rd)(l m:List (List Rd)):xG pre (l++m)=xG pre l++xG pre m:=by simp[xG]
theorem from_succ(a:Ad)(K:Nat)(SV:Bb)(ks k:Nat)(hz:zQ a a.sts=0)(hf:FewA a)(ih:wZ a K SV ks k):wZ a K SV ks (k+1):=by
 intro s pre outs V B bR bO bA bF g w0 w MH tg aS hB hS H;have hs:0<=s/\s<a.sts.length:=tg.resolve_left (by omega);obtain⟨S,rfl⟩:=Lp hs.1;have pD:S<a.sts.length:=by omega
 have HI:=zH H;have cJ:=zH hB;have HIH:=zH ih;have dq:=zH hS;have HZ:=zH (@qq a hz);have tU:=hf.each (Ld pD);have nf:=zH (Ze a k pD);have iN:=zH aS;have Df:=zH (fun (m:Mv) (hm:m∈a.sts[S])=>(NI.2 ⟨_,Ld pD,hm⟩:m∈a.mvs));have r0:=zh H.hR 0 rfl;have a1:=zh H.hA 1 rfl;obtain⟨bs,os,A',rm,MY,cA,s0,IZ⟩:=(hS.keep H.bel).at_ S pD;have hsv:SV.map (fun x=>x)=J ⟨bs,os,Z⟩:=by rw[MY];rfl
 have En:Aw (∀W,Ar B w0 W->MAt W B A' a.sts[S]):=by
  intro W hW;obtain⟨bs2,os2,A2,cs2,Tg,_,s2,EY⟩:=(hS.keep hW).at_ S pD;rw[MY] at Tg
  cases Tg
  have e1:=(hS.keep H.bel).at_ S pD;obtain⟨bs3,os3,A3,cs3,Tf,SQ,s3,Wy⟩:=hS.at_ S pD;rw[MY] at Tf
  cases Tf
  have x1:=(H.bel.cell (p:=⟨bs,os+S,Z⟩) SQ).trans s3;have x2:=(hW.cell (p:=⟨bs,os+S,Z⟩) SQ).trans s3;rw[x1] at s0
  cases s0
  exact Wy.keep hW
 clear hsv IZ hS;subst MY;obtain⟨M,hM⟩:=Ki (a.sts[S]);rw[hM] at s0 En nf Df tU;have e0:((pre.length:Int)==(K:Int))=AC:=by simp;omega
 have aK:(S:Int)<(a.sts.length:Int):=by omega
 have eQ:(0:Int)<=(S:Int):=by omega
 clear H hB hM hz hf ih hs tg;go_enter func138,ntmps138;go_wp2_with fail;clear r0 a1 s0 e0
 go_loopw [25] (fun i wr=>∃(j:Nat) (V':Ax),j<=M.length/\i=O U (j:Int)/\Aw (FromIn a K (J ⟨bs,os,Z⟩) ks B bR bO bA bF g V' pre (outs++xG pre (yT a k M j)) w0 wr)) (fun i _=>M.length-(Au i).toNat)
 case atStart=>exact⟨0,V,by omega,rfl,by rw[wg,show xG pre []=[] from rfl,Nr];exact HI.out⟩
 obtain⟨j,V',hj,rfl,HJ⟩:=hrel
 by_cases cq:j<M.length
 case neg=>
  obtain rfl:j=M.length:=by omega
  go_wp2_with fail
  go_end0
  refine⟨⟨.tuple #[],rfl⟩,V',?_⟩;rw[<-nf.out];exact HJ.out
 obtain⟨bm,om,e1,hbm,m0,m1,m2,m3,m4,m5,m6,m7⟩:=(En.out _ HJ.out.bel).row j cq;subst e1;have CP:(0:Int)<=(j:Int):=by omega
 have rN:(j:Int)<(M.length:Int):=by omega
 have HF:=HJ.out.hF;have f0:=zh HF 0 rfl;have hbFl:bF<wr.heap.size:=zj HF;have lm:=Df.out M[j] (Ld cq);obtain⟨z1,z2,z3,z4⟩:=HZ.out _ lm;have dW:=zH (kL a k M cq);have me:=Zd a k M (j+1);rw[kL a k M cq,Lw,LJ] at me;obtain⟨m,O'⟩:=Ki (M[j]);rw[O'] at m0 m1 m2 m3 m4 m5 m6 m7 lm z1 z2 z3 z4 dW me
 have nP:(outs++xG pre (yT a k M j)).length+(zT a k m.to).length<=5000:=by
  have:=iN.out;rw[<-nf.out] at this;rw[Lw,behind_len];omega
 have HL5:=zH nP;have HZ3:=zH z3;have HZ4:=zH z4;clear O' me z1 z2 z3 z4 nP lm Df HZ iN HI En nf;go_wp2_with fail;clear m0 m1 m2 m3 m4 m5 m6 m7;obtain⟨W1,eO,g0,eP,bP⟩:=zk wr m.cells 94;unfold Mv.cells at eO;rw[eO];clear eO;have f1:=(bP.cell (p:=⟨bF,0,Z⟩) hbFl).trans f0;have ia:=(HJ.out.buf.lt g rfl).2;have hgf:=cJ.out.gf;have hpK:pre.length+1<=K:=by omega
 have hpk2:(pre++[m.r]).length+k=K:=by rw[Lw,RL];omega
 have hGN:wr.heap.size<W1.heap.size:=by omega
 have hD:=zH g0
 refine zw [(0,AA),(1,AA),(2,AA),(3,AA),(4,AA),(5,AA),(6,AC),(7,AC),(8,AC)]
  (fun W=>W.cell? ⟨bF,0,Z⟩=J (.func (.func 138) #[] #[Al (J ⟨bR,0,Z⟩),Al (J ⟨bO,0,Z⟩),Al (J ⟨bA,0,Z⟩),Al (J ⟨bF,0,Z⟩)])/\W.heap[wr.heap.size]?=J (Ai m.cells 94 (0,0)))
  (by kernel_rfl) (by kernel_rfl) ⟨f1,g0⟩ ?_
 clear f0
 repeat
  apply zA rfl
  . rintro K' ac W ⟨y0,y1⟩
    have g1:W.cell? ⟨wr.heap.size,0,Z⟩=J (O U m.r.n):=zh y1 0 rfl;have g2:W.cell? ⟨wr.heap.size,1,Z⟩=J (O U m.r.h0):=zh y1 1 rfl;have g3:W.cell? ⟨wr.heap.size,2,Z⟩=J (O U m.r.h1):=zh y1 2 rfl;have g4:W.cell? ⟨wr.heap.size,3,Z⟩=J (O U m.r.h2):=zh y1 3 rfl;have g5:W.cell? ⟨wr.heap.size,4,Z⟩=J (O U m.r.h3):=zh y1 4 rfl;have g6:W.cell? ⟨wr.heap.size,5,Z⟩=J (O U m.r.h4):=zh y1 5 rfl;have g7:W.cell? ⟨wr.heap.size,6,Z⟩=J (O U m.r.f):=zh y1 6 rfl;have g8:W.cell? ⟨wr.heap.size,7,Z⟩=J (O U m.to):=zh y1 7 rfl;clear y1;go_simp;exact ac
 refine zx rfl ?_;intro K' ac;go_simp;obtain⟨W2,iU,d0,dw,Kj⟩:=Z3 W1 m.r.cells 92;unfold Rd.cells at iU;rw[iU];have g2:=Lb Kj hGN hD.out;have f2:=(Kj.cell (p:=⟨bF,0,Z⟩) (by show bF<W1.heap.size;omega)).trans f1;refine ac _ _ ⟨f2,g2⟩ ?_;have hBW:Ar wr.heap.size wr W2:=bP.trans (Kj.mono (by omega));refine zx rfl ?_;intro K' ac;rw[Li (by rfl)];refine wp_fitR Jw (.tmp 32) (.tmp 35) (by rfl) B g pre.length K (xq pre) (by rfl) (HJ.out.buf.below hBW (Le _)) (wr.heap.size+1) m.r.cells (by rfl) (eP▸d0) rfl (by simp[Rd.cells,Value.oneCell']) hpK ?_;intro W3 hr lP;have HX:=zH (HJ.out.ext cJ.out hBW hr lP);have g3:=(lP.block _ (by omega) (fun e=>by cases e;omega)).trans g2;have f3:=(LH (lP.block bF (by omega) (fun e=>by cases e;exact hgf rfl))).trans f2;refine ac _ _ ⟨f3,g3⟩ ?_;refine xg rfl (by kernel_rfl) ?_;intro K' ac;go_simp;have HC:=HIH.out m.to (pre++[m.r]) (outs++xG pre (yT a k M j)) V' B bR bO bA bF g w0 W3 hpk2 (.inr ⟨HZ3.out,HZ4.out⟩) HL5.out cJ.out dq.out HX.out;rw[Lw,RL] at HC;refine HC.mono ?_;rintro e w4 ⟨⟨v4,rfl⟩,V4,H4⟩;have H5:=zH H4.cut;rw[Nn,<-behind_cons,<-XT,<-dW.out] at H5;refine ac (fun _=>True) _ _ trivial ?_;refine zO ?_;go_wp2_with fail
 go_roundw
 case rel=>exact⟨j+1,V4,by omega,by go_num,H5⟩
 simp[Au];omega
theorem from_any(a:Ad)(K:Nat)(hK:K<=6)(SV:Bb)(ks:Nat)(hz:zQ a a.sts=0)(hf:FewA a):∀k,wZ a K SV ks k
 | 0=>from_zero a K hK SV ks
 | k+1=>from_succ a K SV ks k hz hf (from_any a K hK SV ks hz hf k)
end
end Go.Proofs.YtjedjoeidcbffaaGreatDoor
