/- Merged. -/
import Derived.Test.YtkledihebeidlaaGreatDoorWb
import Derived.SizedLaws
import Derived.OwnWalk
import Derived.Maps.AppendAt
import Derived.Lib.Walk
import Derived.Lib.SliceRun
import Derived.Maps.Own
import Derived.Maps.OwnIn
import Derived.OrdersIn
open Go.Proofs.Tryz
open Go.Value renaming int->O,slice->I,bool->Ai,agg->Aj
open Go.IntKind renaming i64->U
open Option renaming none->Z,some->J
open Go.Obj renaming cells->Ah
open Go.Ending renaming returned->Am
open Go.Proofs.Tryz renaming prog->An,underlying118->PG,underlying22->PR,underlying119->PF,underlying25->PQ,underlying29->PP,underlying31->PO,func66->RJ,ntmps66->Rv
open Go.RowKit renaming Below->Ao,intOf->Aq,Hid->As
open Go renaming Calls->Ap,Value->Au,run_equalIn_int->Np,getD_replicate_false->Re,mem_ready->RF
open Bool renaming true->Av,false->Ax
open List renaming mem_range->Rg
open Nat renaming mul_one->N0
open Go.DataW renaming trod_int->Nk,trod_struct->NW
open Go.World renaming ownsRow_nil->PK,news_of_block->Rj
open Go.World.ownsRow renaming kept->Pj,alloc->Pf,lt->PY
namespace Go.Proofs.YtkledihebeidlaaGreatDoor
abbrev Pr:=@List.take_of_length_le
abbrev NJ:=@Nat.mul_le_mul_right
abbrev Nu:=@Nat.zero_le
abbrev Lo:=@List.getElem?_eq_some_iff
abbrev Nt:=@Go.Proofs.Tryz.underlying49
abbrev LU:=@List.getElem_of_mem
abbrev LC:=@List.eq_nil_of_length_eq_zero
abbrev LM:=@Nat.zero_add
abbrev NY:=@Nat.mul_le_mul
abbrev LJ:=@Go.wpList_plain
abbrev L9:=@Nat.eq_zero_or_pos
abbrev Pk:=@Go.World.grownBy.refl
abbrev N1:=@List.take_append_of_le_length
abbrev Ra:=@Nat.min_eq_left
abbrev Pz:=@Nat.add_mul
abbrev LX:=@List.getElem?_append_left
abbrev LW:=@List.getElem?_append_right
abbrev PW:=@List.getElem_append_left
abbrev PJ:=@List.getElem_append_right
abbrev PD:=@Go.info_parts
abbrev NS:=@Go.wpList_append_own
abbrev PN:=@Go.Proofs.Tryz.underlying39
abbrev NQ:=@Go.Lib.run_eql_slice_nil
abbrev N5:=@Go.Addr.add_lit
abbrev NV:=@Go.Lib.cell?_alloc_some
abbrev N2:=@Go.World.ownsRow_made
abbrev LR:=@List.mem_flatMap
abbrev PA:=@List.mem_of_getElem?
abbrev Pe:=@List.pairwise_iff_getElem
abbrev P1:=@List.getElem_set
abbrev LY:=@Array.getElem?_setIfInBounds_ne
abbrev RM:=@Go.CallsIn.inRound
abbrev Nd:=@List.length_take
abbrev N6:=@Option.some.inj
abbrev P9:=@Array.getElem?_eq_none
abbrev PC:=@Ne.symm
abbrev RL:=@List.sum_append
abbrev Ph:=@List.map_congr_left
abbrev Lk:=@Go.heap_setCell_same
abbrev NI:=@Array.getElem?_setIfInBounds_self_of_lt
abbrev NM:=@Nat.sub_self
set_option maxRecDepth 100000
set_option maxHeartbeats 4000000
section
open Go.RowKit
def qq(vs:List Vw)(v:Vw):Int:=if v∈vs then (vs.idxOf v:Int) else -1
theorem YJ{vs:List Vw}{v:Vw}{k:Nat}(hk:k<vs.length)(hv:vs[k]=v)(hn:v∉vs.take k):qq vs v=k:=by
 have hm:v∈vs:=hv▸Ld hk;unfold qq;rw[Ln hm];have h1:vs=vs.take k++vs.drop k:=(Rc k vs).symm;rw[h1,List.idxOf_append,Lj hn];have h2:vs.drop k=v::vs.drop (k+1):=by rw[<-hv];exact Ly hk
 rw[h2,List.idxOf_cons_self];simp;omega
theorem JU{vs:List Vw}{v:Vw}(hn:v∉vs):qq vs v=-1:=by unfold qq;rw[Lj hn]
theorem YI{vs:List Vw}{v:Vw}(hv:v∈vs):0<=qq vs v:=by unfold qq;rw[Ln hv];omega
theorem ZL{vs:List Vw}{v:Vw}{k:Nat}(hk:k<vs.length)(hv:vs[k]≠v)(hn:v∉vs.take k):v∉vs.take (k+1):=by
 rw[Lu hk,LS,not_or];exact⟨hn,by simpa using fun e=>hv e.symm⟩
theorem JS(n:Int)(A:Bb)(cap:Nat)(vs:List Vw)(v:Vw)(w:Ba)(B:Nat)(hB:B<=w.heap.size)(hA:VAt w B A vs)(hl:vs.length<=2199023255552) :
  Ap An 147 #[Aj #[O U n,I A vs.length cap],.agg v.cells] w fun e w'=>e=Am (O U (qq vs v))/\Ao w.heap.size w w':=by
 have HB:=xX w;have HE:As (∀k (hk:k<vs.length) (X:Ba),(binOp .eql 100 (.agg vs[k].cells) (.agg v.cells)).run An X=.ok (Ai (decide (vs[k]=v))) X):=fun k hk X=>eql_view vs[k] v X
 unfold Vw.cells at HE ⊢;go_enter func147,ntmps147;go_wp2
 go_loopw [5] (fun i wr=>∃k m:Nat,k<=vs.length/\i=O U k/\wr=((w.alloc (Ah #[O U n,I A vs.length cap] 33)).alloc (Ah #[O U v.p,O U v.r,O U v.i,O U v.h0,O U v.h1,O U v.h2,O U v.h3,O U v.h4] 100)).drewN m/\As (v∉vs.take k)) (fun i _=>vs.length-(Aq i).toNat)
 case atStart=>exact⟨0,0,by omega,rfl,rfl,by show v∉vs.take 0;simp⟩
 obtain⟨k,m,hk,rfl,rfl,aj⟩:=hrel
 by_cases ac:k<vs.length
 . obtain⟨b,off,rfl,aC,c0,c1,c2,c3,c4,c5,c6,c7⟩:=hA.row k ac
   have af:b<w.heap.size:=by omega
   have fr:=HE.out k ac
   by_cases hv:vs[k]=v
   . have iU:∀X:Ba,_:=fun X=>(fr X).trans (by rw[Ll hv])
     have hz:As (qq vs v=k):=YJ ac hv aj.out;clear fr hv;go_wp2;go_quiet (fail);go_wp2;go_ret;exact⟨zc hz.out.symm,by repeat (first | exact HB _ _ | refine zx ?_ _)⟩
   have iU:∀X:Ba,_:=fun X=>(fr X).trans (by rw[Lm hv])
   have hz:As (v∉vs.take (k+1)):=ZL ac hv aj.out;go_wp2;go_quiet (fail);go_wp2
   go_roundw
   case rel=>exact⟨k+1,_,by omega,by go_num,rfl,hz⟩
   simp[Aq];omega
 have hz:As (qq vs v=-1):=JU (by have:=aj.out;rwa[Pr (by omega)] at this);go_wp2;go_ret;exact⟨zc hz.out.symm,by repeat (first | exact HB _ _ | refine zx ?_ _)⟩
theorem qh{α:Type}{vs us:List α}{k:Nat}(hk:k<vs.length)(cY:k<us.length)(h:vs[k]≠us[k]):vs≠us:=by
 rintro rfl;exact h rfl
theorem qm{α:Type}{vs us:List α}(hl:vs.length=us.length)(h:vs.take vs.length=us.take vs.length):vs=us:=by
 rw[LD] at h;rw[h,hl,LD]
theorem vh{α:Type}{vs us:List α}{k:Nat}(hk:k<vs.length)(cY:k<us.length)(h:vs.take k=us.take k)(he:vs[k]=us[k]):vs.take (k+1)=us.take (k+1):=by
 rw[Lu hk,Lu cY,h,he]
theorem same_any(n n':Int)(A A':Bb)(cap aF:Nat)(vs us:List Vw)(w:Ba)(B:Nat)(hB:B<=w.heap.size)(hA:VAt w B A vs)(ld:VAt w B A' us)(hl:vs.length<=2199023255552)(nd:us.length<=2199023255552) :
  Ap An 97 #[Aj #[O U n,I A vs.length cap],Aj #[O U n',I A' us.length aF]] w fun e w'=>e=Am (Ai (decide (n=n'/\vs=us)))/\Ao w.heap.size w w':=by
 have HB:=xX w;have HE:As (∀k (hk:k<vs.length) (cY:k<us.length) (X:Ba),(binOp .neq 100 (.agg vs[k].cells) (.agg us[k].cells)).run An X=.ok (Ai (decide (vs[k]≠us[k]))) X):=fun k hk cY X=>Yy vs[k] us[k] X
 unfold Vw.cells at HE
 by_cases hn:n=n'
 . by_cases aL:vs.length=us.length
   . have H:As (decide (n=n'/\vs=us)=decide (vs=us)):=by show decide (n=n'/\vs=us)=_;simp[hn]
     have HL:=zH aL;rw[H.out];have fU:(n != n')=Ax:=by simp[hn]
     have dP:((vs.length:Int) != (us.length:Int))=Ax:=by simp[aL]
     clear hn aL H;go_enter func97,ntmps97;go_wp2
     go_loopw [5] (fun i wr=>∃k m:Nat,k<=vs.length/\i=O U k/\wr=((w.alloc (Ah #[O U n,I A vs.length cap] 33)).alloc (Ah #[O U n',I A' us.length aF] 33)).drewN m/\As (vs.take k=us.take k)) (fun i _=>vs.length-(Aq i).toNat)
     case atStart=>exact⟨0,0,by omega,rfl,rfl,by show vs.take 0=us.take 0;simp⟩
     obtain⟨k,m,hk,rfl,rfl,aj⟩:=hrel;have du:k<=us.length:=by have:=HL.out;omega
     by_cases ac:k<vs.length
     . have bY:k<us.length:=by have:=HL.out;omega
       obtain⟨b,off,rfl,aC,c0,c1,c2,c3,c4,c5,c6,c7⟩:=hA.row k ac;have af:b<w.heap.size:=by omega
       obtain⟨b',fa,rfl,i8,d0,d1,d2,d3,d4,d5,d6,d7⟩:=ld.row k bY;have Wg:b'<w.heap.size:=by omega
       have fr:=HE.out k ac bY
       by_cases hv:vs[k]=us[k]
       . have iU:∀X:Ba,_:=fun X=>(fr X).trans (by rw[Lm (by simpa using hv)])
         have hz:As (vs.take (k+1)=us.take (k+1)):=vh ac bY aj.out hv;clear fr hv;go_wp2;go_quiet (fail);go_wp2
         go_roundw
         case rel=>exact⟨k+1,_,by omega,by go_num,rfl,hz⟩
         simp[Aq];omega
       have iU:∀X:Ba,_:=fun X=>(fr X).trans (by rw[Ll hv])
       have hz:As (decide (vs=us)=Ax):=Lm (qh ac bY hv);go_wp2;go_quiet (fail);go_wp2;go_ret;exact⟨ze hz.out.symm,by repeat (first | exact HB _ _ | refine zx ?_ _)⟩
     obtain rfl:k=vs.length:=by omega
     have hz:As (decide (vs=us)=Av):=Ll (qm HL.out aj.out);go_wp2;go_ret;exact⟨ze hz.out.symm,by repeat (first | exact HB _ _ | refine zx ?_ _)⟩
   have hz:As (decide (n=n'/\vs=us)=Ax):=Lm (by rintro⟨_,rfl⟩;exact aL rfl);have fU:(n != n')=Ax:=by simp[hn]
   have dP:((vs.length:Int) != (us.length:Int))=Av:=by simp;omega
   go_enter func97,ntmps97;go_wp2;go_ret;exact⟨ze hz.out.symm,by repeat (first | exact HB _ _ | refine zx ?_ _)⟩
 have hz:As (decide (n=n'/\vs=us)=Ax):=Lm (by rintro⟨h,_⟩;exact hn h);have fU:(n != n')=Av:=by simpa using hn
 go_enter func97,ntmps97;go_wp2;go_ret;exact⟨ze hz.out.symm,by repeat (first | exact HB _ _ | refine zx ?_ _)⟩
end
section
open Go.RowKit
attribute [local go_sem] Oper.semAt_some
def Sy.vs_(s:Sy)(A:Bb)(kc:Nat)(SV:Bb)(ks:Nat)(AV:Bb)(kv:Nat)(AX:Bb)(kx:Nat):Array Au:=
 #[O U s.p.t.n,O U s.p.t.ins,O U s.p.t.outs,I A s.p.t.cases.length kc,O U s.p.a.n,I SV s.p.a.sts.length ks,O U s.p.k,O U s.n,I AV s.vs.length kv,I AX s.xs.length kx]
structure LowS(s:Sy):Prop where
 fp:uI s.p
 fv:s.vs.length<=2199023255552
 fx:s.xs.length<=2199023255552
 fe:∀x∈s.xs,ZY x
structure SyAt(w:Ba)(B:Nat)(A SV AV AX:Bb)(s:Sy):Prop where
 fc:CAt w B A s.p.t.cases
 fs:SAt w B SV s.p.a.sts
 fv:VAt w B AV s.vs
 fx:XAt w B AX s.xs
theorem SyAt.keep{w w':Ba}{B:Nat}{A SV AV AX:Bb}{s:Sy}(h:SyAt w B A SV AV AX s)(hb:Ao B w w'):SyAt w' B A SV AV AX s:=⟨h.fc.keep hb,h.fs.keep hb,h.fv.keep hb,h.fx.keep hb⟩
theorem SyAt.more{w:Ba}{B B':Nat}{A SV AV AX:Bb}{s:Sy}(h:SyAt w B A SV AV AX s)(hB:B<=B'):SyAt w B' A SV AV AX s:=⟨h.fc.more hB,h.fs.more hB,h.fv.more hB,h.fx.more hB⟩
theorem SyAt.up{w w':Ba}{A SV AV AX:Bb}{s:Sy}(h:SyAt w w.heap.size A SV AV AX s)(hb:Ao w.heap.size w w'):SyAt w' w'.heap.size A SV AV AX s:=(h.keep hb).more hb.size
theorem sy_eq{a b:Sy}(h1:a.p=b.p)(h2:a.n=b.n/\a.vs=b.vs)(h3:a.xs=b.xs):a=b:=by cases a;cases b;simp_all
theorem Xq(a b:Sy)(ha:LowS a)(hb:LowS b)(A SA AV AX B SB BV BX:Bb)(ca sa av ax cb sb bv bx:Nat)(w:Ba)(hA:SyAt w w.heap.size A SA AV AX a)(hB:SyAt w w.heap.size B SB BV BX b) :
  Ap An 57 #[.agg (a.vs_ A ca SA sa AV av AX ax),.agg (b.vs_ B cb SB sb BV bv BX bx)] w fun e w'=>e=Am (Ai (decide (a=b)))/\Ao w.heap.size w w':=by
 obtain⟨w1,ah,d0,d1,bI,hBw⟩:=zZ w (a.vs_ A ca SA sa AV av AX ax) (b.vs_ B cb SB sb BV bv BX bx) 36 36;have eP:=hA.up hBw;have aB:=hB.up hBw;have Gj:=zH (Xr a.p b.p ha.fp hb.fp A B SA SB ca cb sa sb w1 eP.fc aB.fc eP.fs aB.fs);have nA:=zH (fun (W:Ba) (hW:Ao w1.heap.size w1 W)=>same_any a.n b.n AV BV av bv a.vs b.vs W W.heap.size (Lh _) (eP.up hW).fv (aB.up hW).fv ha.fv hb.fv);have iF:=zH ha.fe;have le:=zH hb.fe;have hax:=ha.fx;have aM:=hb.fx;have HA:=zH eP.fx;have HB:=zH aB.fx;unfold Pb.vs at Gj;unfold Sy.vs_ at ah d0 d1 ⊢;have bk:=zH hBw;have bu:=zH d0;have bQ:=zH d1;have aq:=zH ah;have q6:=za d1 6 rfl;clear ah d0 d1 hBw hA hB eP aB ha hb;have HT:As (a≠b->decide (a=b)=Ax):=fun h=>Lm h
 have HU:As (a=b->decide (a=b)=Av):=fun h=>Ll h
 obtain⟨r,hr⟩:∃r,decide (a=b)=r:=⟨_,rfl⟩;rw[hr] at HT HU ⊢;clear hr;have HE:=zH (@sy_eq a b);go_enter func57,ntmps57;go_wp2_with fail;rw[aq.out];go_wp2_with fail;refine Gj.out.mono ?_;rintro e w2 ⟨rfl,af⟩;have d0:=La af bu.out;have d1:=La af bQ.out;have aW:=zH af
 by_cases h1:a.p=b.p
 case neg=>
  have hR:=zH (HT.out (fun h=>h1 (congrArg Sy.p h)));rw[Lm h1];go_wp2_with fail
  all_goals
   go_ret;exact⟨ze hR.out.symm,Lc bk.out aW.out⟩
 case pos=>
 have al:=zH (HE.out h1);rw[Ll h1];have p7:=za d0 7 rfl;have p8:=za d0 8 rfl;have q7:=za d1 7 rfl;have q8:=za d1 8 rfl;go_wp2_with fail;refine(nA.out w2 aW.out).mono ?_;rintro e w3 ⟨rfl,ap⟩;have bL:=zH (Lc aW.out ap);have d0:=La bL.out bu.out;have d1:=La bL.out bQ.out
 by_cases h1:a.n=b.n/\a.vs=b.vs
 case neg=>
  have hR:=zH (HT.out (fun h=>h1 ⟨congrArg Sy.n h,congrArg Sy.vs h⟩));rw[Lm h1];go_wp2_with fail
  all_goals
   go_ret;exact⟨ze hR.out.symm,Lc bk.out bL.out⟩
 case pos=>
 have H3:As (a.xs=b.xs->r=Av):=fun h=>HU.out (al.out h1 h)
 have H4:As (a.xs≠b.xs->r=Ax):=fun h=>HT.out (fun e=>h (congrArg Sy.xs e))
 rw[Ll h1];have p9:=za d0 9 rfl;have q9:=za d1 9 rfl
 by_cases h3:a.xs.length=b.xs.length
 case neg=>
  have hR:=zH (H4.out (fun h=>h3 (by rw[h])));have e0:((a.xs.length:Int) != (b.xs.length:Int))=Av:=by simp;omega
  go_wp2_with fail
  all_goals
   go_ret;exact⟨ze hR.out.symm,Lc bk.out bL.out⟩
 case pos=>
 have HL:=zH h3;rw[<-h3] at q9 aM bQ ⊢;go_wp2_with fail
 go_loopw [5] (fun i wr=>∃k:Nat,k<=a.xs.length/\i=O U (k:Int)/\As (a.xs.take k=b.xs.take k)/\As (Ao w1.heap.size w1 wr)) (fun i _=>a.xs.length-(Aq i).toNat)
 case atStart=>exact⟨0,by omega,rfl,by rw[As,LP,LP],bL.out⟩
 obtain⟨k,hk,rfl,hp,aA⟩:=hrel;have p9:=za (La aA.out bu.out) 9 rfl;have q9:=za (La aA.out bQ.out) 9 rfl
 by_cases ac:k<a.xs.length
 case neg=>
  obtain rfl:k=a.xs.length:=by omega
  have hR:=zH (H3.out (xO HL.out hp.out));go_wp2_with fail;go_ret;exact⟨ze hR.out.symm,Lc bk.out aA.out⟩
 case pos=>
 have dQ:k<b.xs.length:=by have:=HL.out;omega
 have iL:=aA.out.size;obtain⟨ba,oa,A1,c1,A2,c2,ea,Kl,a0,a1,a2,Ef,Ee⟩:=(HA.out.keep aA.out).row k ac;obtain⟨bb,ob,B1,n1,B2,n2,eb,aI,b0,b1,b2,Ed,Ec⟩:=(HB.out.keep aA.out).row k dQ;subst ea;subst eb;have HC:=zH (fun (W:Ba) (hW:Ao wr.heap.size wr W)=>Xo a.xs[k] b.xs[k] (iF.out _ (Ld ac)) (le.out _ (Ld dQ)) A1 A2 B1 B2 c1 c2 n1 n2 W (((Ef.more iL).keep hW).more hW.size) (((Ee.more iL).keep hW).more hW.size) (((Ed.more iL).keep hW).more hW.size) (((Ec.more iL).keep hW).more hW.size));have h0:As (a.xs[k]=b.xs[k]->a.xs.take (k+1)=b.xs.take (k+1)):=fun he=>yG hp.out ac dQ he
 have hN:As (a.xs[k]≠b.xs[k]->r=Ax):=fun he=>H4.out (fun h=>he (by simp only[h]))
 obtain⟨X,hX⟩:=Kh (a.xs[k]);obtain⟨Y,hY⟩:=Kh (b.xs[k]);rw[hX] at a0 a1 a2 h0 hN HC;rw[hY] at b0 b1 b2 h0 hN HC;have cq:(0:Int)<=(k:Int):=by omega
 have cy:(k:Int)<(a.xs.length:Int):=by omega
 go_wp2_with fail
 go_still_tail 10,(by kernel_rfl)
 change wpList _ _ _ _ _ wr.drew;obtain⟨w4,AI⟩:∃w4,w4=wr.drew:=⟨_,rfl⟩;have fP:As (Ao wr.heap.size wr w4):=by rw[AI];exact(Lp _ _).drew
 rw[<-AI];clear AI a0 a1 a2 b0 b1 b2 p9 q9 cq cy;go_wp2_with fail;refine(HC.out w4 fP.out).mono ?_;rintro e w5 ⟨rfl,cd⟩;have eT:=zH (aA.out.trans ((Lc fP.out cd).mono iL))
 by_cases t1:X=Y
 case neg=>
  have hR:=zH (hN.out t1);rw[Lm t1];go_wp2_with fail;go_ret;exact⟨ze hR.out.symm,Lc bk.out eT.out⟩
 have hR:=zH (h0.out t1);rw[Ll t1];go_wp2_with fail
 go_roundw
 case rel=>exact⟨k+1,by omega,by go_num,hR,eT.out⟩
 simp[Aq];omega
end
section
open Go.ChangeShapes Go.WideShapes Go.ChangeAt Go.RowKit Go.Deep
section
variable {H:Type} {enc:TypeId×Au->H} {P:Program} {W:Ba} {aa:Nat} {spare:Nat->Bool} {aT:Bool}
def qp(P:Program)(t:TypeId)(d:DataW H):Prop:=(d.weights P t).all (·<=reachBytes)=Av
theorem xK{fs:Array Field}{t:TypeId}{pU:List (DataW H)}(ht:P.underlying t=J (.struct fs))(h:qp P t (.agg pU)){j:Nat}{f:Field}{d:DataW H}(hf:fs[j]?=J f)(hd:pU[j]?=J d):qp P f.type d:=by
 unfold qp at h ⊢;refine LH.2 fun n hn=>LH.1 h n ?_
 simp only[DataW.weights,ht];exact DataW.weights_mem_each (j:=j) (by simp[hf]) hd n hn
theorem qZ{e:TypeId}:∀ {ds:List (DataW H)} {d:DataW H},d∈ds->∀n∈d.weights P e,n∈DataW.weightsAll P e ds
 | d0::ds,d,hd,n,hn=>by
  simp only[DataW.weightsAll,List.mem_append];rcases LT.1 hd with rfl | hd
  . exact Or.inl hn
  . exact Or.inr (qZ hd n hn)
theorem Qk{t e:TypeId}{el sp:List (DataW H)}(ht:P.underlying t=J (.slice e))(h:qp P t (.slice el sp)):el.length*P.bytesOf e<=reachBytes/\∀d∈el,qp P e d:=by
 unfold qp at h;have h1:=LH.1 h;simp only[DataW.weights,ht] at h1;constructor
 . have h2:=h1 _ (Rq ..)
   have h3:(el.length+sp.length)*P.bytesOf e<=reachBytes:=by simpa using h2
   exact Lx (NJ _ (Nat.le_add_right _ _)) h3
 intro d hd;exact LH.2 fun n hn=>h1 n (Rh _ (Ri _ (qZ hd n hn)))
theorem qI{α:Type}[Inhabited α]{t e:TypeId}{fuel:Nat}{cs:List Au}{x:DataW H×List MemPlace}{s:Nat}(L:List Au->α->Prop)(ht:P.underlying t=J (.slice e))(hs:P.cellsOf e=s)(h1:0<s)
  (rd:∀(m:Nat) (cs:List Au) (y:DataW H×List MemPlace),DataW.trod enc P W aa spare aT m e cs=J y->qp P e y.1->∃a,L cs a)
  (h:DataW.trod enc P W aa spare aT fuel t cs=J x) (hw:qp P t x.1) :
  ∃(A:Bb) (lG:List α) (cap:Nat),cs=[I A lG.length cap]/\lG.length<=cap/\cap<=maxLen/\lG.length*P.bytesOf e<=reachBytes /\
   (0<lG.length->∃b off,A=J ⟨b,off,Z⟩/\b<W.heap.size/\∀(i:Nat) (hi:i<lG.length),∃cs,L cs lG[i]/\∀(k:Nat) (y:Au),cs[k]?=J y->W.cell? ⟨b,off+i*s+k,Z⟩=J y):=by
 rcases open_slice ht h with ⟨rfl,_⟩ | ⟨a,len,cap,m,n',D,Pl,rfl,_,Vn,iV,hm,mK,hi⟩
 . exact⟨Z,[],0,rfl,Lh _,Nu _,by simp,fun h=>absurd h (by simp)⟩
 have O8:len<=m:=by rw[hm];split<;>omega
 rw[mK] at hw;obtain⟨hb,aj⟩:=Qk ht hw
 have lD:∀i,i<len->∃(a':α) (cs:List Au),cs.length=s/\L cs a'/\∀(k:Nat) (y:Au),cs[k]?=J y->W.cell? (a.add (i*s+k))=J y:=fun i ac=>by
  obtain⟨lX,hc,UU⟩:=hi i (by omega);rw[hs] at hc;obtain⟨_,bh,bz⟩:=World.cells?_some hc;obtain⟨u,hu⟩:=rd _ _ _ UU (aj _ (LA.2 ⟨i,Rg.2 ac,rfl⟩));refine⟨u,lX,bh,hu,fun k y hk=>?_⟩;have cY:k<s:=by rw[<-bh];exact(Lo.1 hk).1
  rw[<-Go.Deep.add_add,bz k cY,hk]
 obtain⟨lG,Ks,has⟩:∃lG:List α,lG.length=len/\∀i (hi:i<lG.length),∃cs:List Au,cs.length=s/\L cs lG[i]/\∀(k:Nat) (y:Au),cs[k]?=J y->W.cell? (a.add (i*s+k))=J y:=by
  refine⟨(List.range len).map fun i=>if h:i<len then Classical.choose (lD i h) else default,by simp,fun i hi=>?_⟩;have dq:i<len:=by simpa using hi
  simp only[List.getElem_map,List.getElem_range,dq,dite_true];exact Classical.choose_spec (lD i dq)
 subst Ks;have cF:lG.length*P.bytesOf e<=reachBytes:=by simpa using hb
 refine⟨J a,lG,cap,rfl,Vn,iV,cF,fun h0=>?_⟩;obtain⟨c0,iS,_,td⟩:=has 0 h0;have Ta:=td 0 _ (Lg (by omega));obtain⟨b,off,GI⟩:=a;have CE:GI=Z:=by simpa[Addr.add] using World.cell?_spot Ta
 subst CE;refine⟨b,off,rfl,?_,fun i hi=>?_⟩
 . have:=World.block_lt_of_cell? W _ Ta
   simpa[Addr.add] using this
 obtain⟨c1,_,hL,hc1⟩:=has i hi;refine⟨c1,hL,fun k y hk=>?_⟩;have:=hc1 k y hk;rw[add_plain] at this;rw[<-Pv] at this;exact this
end
section
variable {H:Type} {enc:TypeId×Au->H} {W:Ba} {aa:Nat} {spare:Nat->Bool} {aT:Bool}
theorem Q8:An.cellsOf 49=1:=by kernel_rfl
theorem YX:An.cellsOf 40=1:=by kernel_rfl
theorem Ja:An.cellsOf 118=3:=by kernel_rfl
theorem cellsCss:An.cellsOf 22=1:=by kernel_rfl
theorem cellsTk:An.cellsOf 24=4:=by kernel_rfl
theorem cellsGr:An.cellsOf 45=6:=by kernel_rfl
theorem Q5:An.cellsOf 75=7:=by kernel_rfl
theorem Q7:An.cellsOf 121=8:=by kernel_rfl
theorem cellsMl:An.cellsOf 119=1:=by kernel_rfl
theorem cellsMls:An.cellsOf 25=1:=by kernel_rfl
theorem cellsAd:An.cellsOf 27=2:=by kernel_rfl
theorem cellsPb:An.cellsOf 29=7:=by kernel_rfl
theorem bytesI8:An.bytesOf 3=8:=by kernel_rfl
theorem bytesIs:An.bytesOf 49=24:=by kernel_rfl
theorem bytesCs:An.bytesOf 118=72:=by kernel_rfl
theorem bytesMv:An.bytesOf 121=64:=by kernel_rfl
theorem bytesMl:An.bytesOf 119=24:=by kernel_rfl
/-- A slice of integers. -/
theorem QR{m:Nat}{cs:List Au}{y:DataW H×List MemPlace}(h:DataW.trod enc An W aa spare aT m 49 cs=J y)(hw:qp An 49 y.1) :
  ∃(A:Bb) (xs:List Int) (c:Nat),cs=[I A xs.length c]/\xs.length<=17592186044416/\IAt W W.heap.size A xs:=by
 obtain⟨A,xs,c,e,_,_,hb,hA⟩:=qI (α:=Int) (fun cs i=>cs=[O U i]) Nt xB (by decide) (fun m cs y h _=>by obtain⟨i,e,_⟩:=Nk LB h;exact⟨i,e⟩) h hw;refine⟨A,xs,c,e,?_,fun h0=>?_⟩
 . rw[bytesI8] at hb;unfold reachBytes at hb;omega
 obtain⟨b,off,e,ac,hc⟩:=hA h0;refine⟨b,off,e,ac,fun i hi=>?_⟩;obtain⟨cs,rfl,h2⟩:=hc i hi;simpa using h2 0 _ rfl
/-- A slice of slices of integers. -/
theorem Yo{m:Nat}{cs:List Au}{y:DataW H×List MemPlace}(h:DataW.trod enc An W aa spare aT m 40 cs=J y)(hw:qp An 40 y.1) :
  ∃(A:Bb) (xs:List (List Int)) (c:Nat),cs=[I A xs.length c]/\xs.length<=17592186044416/\(∀v∈xs,v.length<=17592186044416)/\LAt W W.heap.size A xs:=by
 obtain⟨A,xs,c,e,_,_,hb,hA⟩:=qI (α:=List Int) (fun cs v=>∃A c,cs=[I A v.length c]/\v.length<=17592186044416/\IAt W W.heap.size A v) underlying40 Q8 (by decide)
  (fun m cs y h hw=>by obtain⟨A,xs,c,e,h1,h2⟩:=QR h hw;exact⟨xs,A,c,e,h1,h2⟩) h hw
 refine⟨A,xs,c,e,?_,?_,fun h0=>?_⟩
 . rw[bytesIs] at hb;unfold reachBytes at hb;omega
 . intro v hv
   obtain⟨i,hi,rfl⟩:=LU hv;obtain⟨b,off,_,_,hc⟩:=hA (by omega);obtain⟨cs,⟨A,c,_,h1,_⟩,_⟩:=hc i hi;exact h1
 obtain⟨b,off,e,ac,hc⟩:=hA h0;refine⟨b,off,e,ac,fun i hi=>?_⟩;obtain⟨cs,⟨A,c,rfl,_,h3⟩,h2⟩:=hc i hi;exact⟨A,c,by simpa using h2 0 _ rfl,h3⟩
/-- A case. -/
theorem rd_case{m:Nat}{cs:List Au}{y:DataW H×List MemPlace}(h:DataW.trod enc An W aa spare aT m 118 cs=J y)(hw:qp An 118 y.1) :
  ∃x:Cs,LowC x/\∃v0 v1 v2,cs=[v0,v1,v2]/\CsV W W.heap.size v0 v1 v2 x:=by
 obtain⟨xs,n,rfl,rfl,hl,fC,hf⟩:=NW PG h;rw[Ja] at hl;have iK:xs.length=3:=fC
 match cs,hl with
 | [c0,c1,c2],_=>
  have f0:=hf 0 _ rfl;have f1:=hf 1 _ rfl;have f2:=hf 2 _ rfl
  match xs,iK with
  | [x0,x1,x2],_=>
   have g0:DataW.trod enc An W aa spare aT n 49 [c0]=J x0:=by simpa[Q8] using f0
   have g1:DataW.trod enc An W aa spare aT n 40 [c1]=J x1:=by simpa[YX] using f1
   have g2:DataW.trod enc An W aa spare aT n 40 [c2]=J x2:=by simpa[YX] using f2
   have w0:qp An 49 x0.1:=xK PG hw (j:=0) rfl rfl;have w1:qp An 40 x1.1:=xK PG hw (j:=1) rfl rfl;have w2:qp An 40 x2.1:=xK PG hw (j:=2) rfl rfl;obtain⟨A0,y0,k0,e0,l0,r0⟩:=QR g0 w0;obtain⟨A1,y1,k1,e1,l1,m1,r1⟩:=Yo g1 w1;obtain⟨A2,y2,k2,e2,l2,m2,r2⟩:=Yo g2 w2
   cases e0;cases e1;cases e2
   exact⟨⟨y0,y1,y2⟩,⟨l0,l1,l2,m1,m2⟩,_,_,_,rfl,⟨A0,k0,rfl,r0⟩,⟨A1,k1,rfl,r1⟩,⟨A2,k2,rfl,r2⟩⟩
/-- A slice of cases. -/
theorem rd_cases{m:Nat}{cs:List Au}{y:DataW H×List MemPlace}(h:DataW.trod enc An W aa spare aT m 22 cs=J y)(hw:qp An 22 y.1) :
  ∃(A:Bb) (xs:List Cs) (c:Nat),cs=[I A xs.length c]/\xs.length<=17592186044416/\(∀v∈xs,LowC v)/\CAt W W.heap.size A xs:=by
 obtain⟨A,xs,c,e,_,_,hb,hA⟩:=qI (α:=Cs) (fun cs x=>LowC x/\∃v0 v1 v2,cs=[v0,v1,v2]/\CsV W W.heap.size v0 v1 v2 x) PR Ja (by decide)
  (fun m cs y h hw=>rd_case h hw) h hw
 refine⟨A,xs,c,e,?_,?_,fun h0=>?_⟩
 . rw[bytesCs] at hb;unfold reachBytes at hb;omega
 . intro v hv
   obtain⟨i,hi,rfl⟩:=LU hv;obtain⟨b,off,_,_,hc⟩:=hA (by omega);obtain⟨cs,⟨h1,_⟩,_⟩:=hc i hi;exact h1
 obtain⟨b,off,e,ac,hc⟩:=hA h0;refine⟨b,off,e,ac,fun i hi=>?_⟩;obtain⟨cs,⟨_,v0,v1,v2,rfl,h3⟩,h2⟩:=hc i hi;exact⟨v0,v1,v2,h2 0 _ rfl,h2 1 _ rfl,h2 2 _ rfl,h3⟩
/-- A round. -/
theorem rd_round{m:Nat}{cs:List Au}{y:DataW H×List MemPlace}(h:DataW.trod enc An W aa spare aT m 75 cs=J y):∃x:Rd,cs=x.cells.toList:=by
 obtain⟨xs,n,rfl,rfl,hl,fC,hf⟩:=NW underlying75 h;rw[Q5] at hl;have iK:xs.length=2:=fC
 match cs,hl with
 | [c0,c1,c2,c3,c4,c5,c6],_=>
  have f0:=hf 0 _ rfl;have f1:=hf 1 _ rfl
  match xs,iK with
  | [x0,x1],_=>
   have g0:DataW.trod enc An W aa spare aT n 45 [c0,c1,c2,c3,c4,c5]=J x0:=by simpa[cellsGr] using f0
   have g1:DataW.trod enc An W aa spare aT n 3 [c6]=J x1:=by simpa[xB] using f1
   obtain⟨i6,e6,_,_⟩:=Nk LB g1;obtain⟨ys,k,rfl,rfl,_,cz,hg⟩:=NW underlying45 g0;have GT:ys.length=2:=cz;have q0:=hg 0 _ rfl;have q1:=hg 1 _ rfl
   match ys,GT with
   | [y0,y1],_=>
    have r0:DataW.trod enc An W aa spare aT k 3 [c0]=J y0:=by simpa[xB] using q0
    have r1:DataW.trod enc An W aa spare aT k 43 [c1,c2,c3,c4,c5]=J y1:=by simpa[cells5] using q1
    obtain⟨i0,e0,_,_⟩:=Nk LB r0;obtain⟨zs,m,rfl,_,_,GQ,hi⟩:=DataW.trod_array Ru r1;have k0:=hi 0 (by decide);have k1:=hi 1 (by decide);have k2:=hi 2 (by decide);have k3:=hi 3 (by decide);have k4:=hi 4 (by decide)
    match zs,GQ with
    | [z0,z1,z2,z3,z4],_=>
     have j0:DataW.trod enc An W aa spare aT m 3 [c1]=J z0:=by simpa[xB] using k0
     have j1:DataW.trod enc An W aa spare aT m 3 [c2]=J z1:=by simpa[xB] using k1
     have j2:DataW.trod enc An W aa spare aT m 3 [c3]=J z2:=by simpa[xB] using k2
     have j3:DataW.trod enc An W aa spare aT m 3 [c4]=J z3:=by simpa[xB] using k3
     have j4:DataW.trod enc An W aa spare aT m 3 [c5]=J z4:=by simpa[xB] using k4
     obtain⟨a0,b0,_,_⟩:=Nk LB j0;obtain⟨a1,b1,_,_⟩:=Nk LB j1;obtain⟨a2,b2,_,_⟩:=Nk LB j2;obtain⟨a3,b3,_,_⟩:=Nk LB j3;obtain⟨a4,b4,_,_⟩:=Nk LB j4
     cases e0;cases e6;cases b0;cases b1;cases b2;cases b3;cases b4
     exact⟨⟨i0,a0,a1,a2,a3,a4,i6⟩,rfl⟩
/-- A move. -/
theorem rd_move{m:Nat}{cs:List Au}{y:DataW H×List MemPlace}(h:DataW.trod enc An W aa spare aT m 121 cs=J y):∃x:Mv,cs=x.cells.toList:=by
 obtain⟨xs,n,rfl,rfl,hl,fC,hf⟩:=NW underlying121 h;rw[Q7] at hl;have iK:xs.length=2:=fC
 match cs,hl with
 | [c0,c1,c2,c3,c4,c5,c6,c7],_=>
  have f0:=hf 0 _ rfl;have f1:=hf 1 _ rfl
  match xs,iK with
  | [x0,x1],_=>
   have g0:DataW.trod enc An W aa spare aT n 75 [c0,c1,c2,c3,c4,c5,c6]=J x0:=by simpa[Q5] using f0
   have g1:DataW.trod enc An W aa spare aT n 3 [c7]=J x1:=by simpa[xB] using f1
   obtain⟨r,e0⟩:=rd_round g0;obtain⟨i7,e7,_,_⟩:=Nk LB g1
   cases e7
   refine⟨⟨r,i7⟩,?_⟩;simp only[Rd.cells,List.cons.injEq] at e0;obtain⟨rfl,rfl,rfl,rfl,rfl,rfl,rfl,_⟩:=e0
   rfl
/-- A slice of moves. -/
theorem rd_moves{m:Nat}{cs:List Au}{y:DataW H×List MemPlace}(h:DataW.trod enc An W aa spare aT m 119 cs=J y)(hw:qp An 119 y.1) :
  ∃(A:Bb) (xs:List Mv) (c:Nat),cs=[I A xs.length c]/\xs.length<=17592186044416/\MAt W W.heap.size A xs:=by
 obtain⟨A,xs,c,e,_,_,hb,hA⟩:=qI (α:=Mv) (fun cs x=>cs=x.cells.toList) PF Q7 (by decide) (fun m cs y h _=>rd_move h) h hw;refine⟨A,xs,c,e,?_,fun h0=>?_⟩
 . rw[bytesMv] at hb;unfold reachBytes at hb;omega
 obtain⟨b,off,e,ac,hc⟩:=hA h0;refine⟨b,off,e,ac,fun i hi k u hk=>?_⟩;obtain⟨cs,rfl,h2⟩:=hc i hi;exact h2 k u (by simpa using hk)
/-- A slice of slices of moves. -/
theorem JH{m:Nat}{cs:List Au}{y:DataW H×List MemPlace}(h:DataW.trod enc An W aa spare aT m 25 cs=J y)(hw:qp An 25 y.1) :
  ∃(A:Bb) (xs:List (List Mv)) (c:Nat),cs=[I A xs.length c]/\xs.length<=17592186044416/\(∀v∈xs,v.length<=17592186044416)/\SAt W W.heap.size A xs:=by
 obtain⟨A,xs,c,e,_,_,hb,hA⟩:=qI (α:=List Mv) (fun cs v=>∃A c,cs=[I A v.length c]/\v.length<=17592186044416/\MAt W W.heap.size A v) PQ cellsMl (by decide)
  (fun m cs y h hw=>by obtain⟨A,xs,c,e,h1,h2⟩:=rd_moves h hw;exact⟨xs,A,c,e,h1,h2⟩) h hw
 refine⟨A,xs,c,e,?_,?_,fun h0=>?_⟩
 . rw[bytesMl] at hb;unfold reachBytes at hb;omega
 . intro v hv
   obtain⟨i,hi,rfl⟩:=LU hv;obtain⟨b,off,_,_,hc⟩:=hA (by omega);obtain⟨cs,⟨A,c,_,h1,_⟩,_⟩:=hc i hi;exact h1
 obtain⟨b,off,e,ac,hc⟩:=hA h0;refine⟨b,off,e,ac,fun i hi=>?_⟩;obtain⟨cs,⟨A,c,rfl,_,h3⟩,h2⟩:=hc i hi;exact⟨A,c,by simpa using h2 0 _ rfl,h3⟩
/-- A problem. -/
theorem rd_prob{m:Nat}{cs:List Au}{y:DataW H×List MemPlace}(h:DataW.trod enc An W aa spare aT m 29 cs=J y)(hw:qp An 29 y.1) :
  ∃(p:Pb) (A:Bb) (kc:Nat) (SV:Bb) (ks:Nat),cs=(p.vs A kc SV ks).toList/\uI p/\CAt W W.heap.size A p.t.cases/\SAt W W.heap.size SV p.a.sts:=by
 obtain⟨xs,n,rfl,rfl,hl,fC,hf⟩:=NW PP h;rw[cellsPb] at hl;have iK:xs.length=3:=fC
 match cs,hl with
 | [c0,c1,c2,c3,c4,c5,c6],_=>
  have f0:=hf 0 _ rfl;have f1:=hf 1 _ rfl;have f2:=hf 2 _ rfl
  match xs,iK with
  | [x0,x1,x2],_=>
   have g0:DataW.trod enc An W aa spare aT n 24 [c0,c1,c2,c3]=J x0:=by simpa[cellsTk] using f0
   have g1:DataW.trod enc An W aa spare aT n 27 [c4,c5]=J x1:=by simpa[cellsAd] using f1
   have g2:DataW.trod enc An W aa spare aT n 3 [c6]=J x2:=by simpa[xB] using f2
   have w0:qp An 24 x0.1:=xK PP hw (j:=0) rfl rfl;have w1:qp An 27 x1.1:=xK PP hw (j:=1) rfl rfl;obtain⟨i6,e6,_,_⟩:=Nk LB g2;obtain⟨ys,k,rfl,nO,_,cz,hg⟩:=NW underlying24 g0;rw[nO] at w0;have GS:ys.length=4:=cz;have q0:=hg 0 _ rfl;have q1:=hg 1 _ rfl;have q2:=hg 2 _ rfl;have q3:=hg 3 _ rfl
   match ys,GS with
   | [y0,y1,y2,y3],_=>
    have r0:DataW.trod enc An W aa spare aT k 3 [c0]=J y0:=by simpa[xB] using q0
    have r1:DataW.trod enc An W aa spare aT k 3 [c1]=J y1:=by simpa[xB] using q1
    have r2:DataW.trod enc An W aa spare aT k 3 [c2]=J y2:=by simpa[xB] using q2
    have r3:DataW.trod enc An W aa spare aT k 22 [c3]=J y3:=by simpa[cellsCss] using q3
    have v3:qp An 22 y3.1:=xK underlying24 w0 (j:=3) rfl rfl;obtain⟨i0,e0,_,_⟩:=Nk LB r0;obtain⟨i1,e1,_,_⟩:=Nk LB r1;obtain⟨i2,e2,_,_⟩:=Nk LB r2;obtain⟨A,us,kc,e3,lu,hu,hA⟩:=rd_cases r3 v3;obtain⟨zs,k',cY,mK,_,GQ,eJ⟩:=NW underlying27 g1;rw[mK] at w1;have GP:zs.length=2:=GQ;have s0:=eJ 0 _ rfl;have s1:=eJ 1 _ rfl
    match zs,GP with
    | [z0,z1],_=>
     have t0:DataW.trod enc An W aa spare aT k' 3 [c4]=J z0:=by simpa[xB] using s0
     have t1:DataW.trod enc An W aa spare aT k' 25 [c5]=J z1:=by simpa[cellsMls] using s1
     have u1:qp An 25 z1.1:=xK underlying27 w1 (j:=1) rfl rfl;obtain⟨i4,e4,_,_⟩:=Nk LB t0;obtain⟨SV,ss,ks,e5,ls,hs,hS⟩:=JH t1 u1
     cases e0;cases e1;cases e2;cases e3;cases e4;cases e5;cases e6
     exact⟨⟨⟨i0,i1,i2,us⟩,⟨i4,ss⟩,i6⟩,A,kc,SV,ks,rfl,⟨⟨lu,hu⟩,ls,hs⟩,hA,hS⟩
/-- A problem that is handed over by value. -/
theorem ZJ{b0:Nat}{v:Au}{d:DataW H}{ps:List MemPlace}(hv:Value.okWide An W .any b0 29 v)(h:DataW.Trod enc An W aa spare aT 29 v d ps)(hw:qp An 29 d) :
  ∃(p:Pb) (A:Bb) (kc:Nat) (SV:Bb) (ks:Nat),v=.agg (p.vs A kc SV ks)/\uI p/\CAt W W.heap.size A p.t.cases/\SAt W W.heap.size SV p.a.sts:=by
 obtain⟨cs,rfl,_⟩:=okWide_struct PP hv;obtain⟨fuel,hf⟩:=h;obtain⟨p,A,kc,SV,ks,e,h1,h2,h3⟩:=rd_prob hf hw;refine⟨p,A,kc,SV,ks,?_,h1,h2,h3⟩;have e':cs.toList=(p.vs A kc SV ks).toList:=e;rw[Array.toList_inj.1 e']
end
end
section
open Go.RowKit
attribute [local go_sem] Oper.semAt_some
theorem va(A A':Bb)(cap aF:Nat)(xs ys:List Int)(w:Ba)(B:Nat)(hA:IAt w B A xs)(ld:IAt w B A' ys)(hl:xs.length<=17592186044416)(nd:ys.length<=17592186044416) :
  Ap An 32 #[I A xs.length cap,I A' ys.length aF] w fun e w'=>e=Am (Ai (decide (xs=ys)))/\∃n,w'=w.drewN n:=by
 by_cases aL:xs.length=ys.length
 . by_cases h0:xs.length=0
   . have e1:xs=[]:=LC h0
     have e2:ys=[]:=LC (by omega);subst e1;subst e2;exact(Tryz.slices_Equal_int_empty A A' cap 0 aF w (by omega)).mono fun e w' h=>⟨by simpa using h.1,0,h.2⟩
   obtain⟨b,o,rfl,hb,hc⟩:=hA (by omega);obtain⟨b',o',rfl,cF,Bw⟩:=ld (by omega);refine(Tryz.slices_Equal_int b o xs.length cap b' o' ys.length aF xs ys w (Lh _) (Lh _) (by omega) (by omega) (fun j hj=>?_) (fun j hj=>?_)).mono fun e w' h=>⟨?_,h.2⟩
   . rw[Le,Lg hj];exact hc j hj
   . rw[Le,Lg hj];exact Bw j hj
   rw[h.1,LD,LD];exact ze (by rw[Nr];simp)
 exact(Tryz.slices_Equal_int_lens A A' xs.length cap ys.length aF w aL).mono fun e w' h=>⟨by rw[h.1,Lm (by rintro rfl;exact aL rfl)],0,h.2⟩
theorem eqV_any(A A':Bb)(cap aF:Nat)(vs us:List Vw)(w:Ba)(B:Nat)(_hB:B<=w.heap.size)(hA:VAt w B A vs)(ld:VAt w B A' us)(_hl:vs.length<=2199023255552)(nd:us.length<=2199023255552) :
  Ap An 45 #[I A vs.length cap,I A' us.length aF] w fun e w'=>e=Am (Ai (decide (vs=us)))/\∃n,w'=w.drewN n:=by
 have HE:As (∀k (hk:k<vs.length) (cY:k<us.length) (X:Ba),(binOp .neq 100 (.agg vs[k].cells) (.agg us[k].cells)).run An X=.ok (Ai (decide (vs[k]≠us[k]))) X):=fun k hk cY X=>Yy vs[k] us[k] X
 unfold Vw.cells at HE
 by_cases aL:vs.length=us.length
 . have HL:=zH aL
   have dP:((vs.length:Int) != (us.length:Int))=Ax:=by simp[aL]
   go_enter func45,ntmps45;go_wp2
   go_loopw [13] (fun i wr=>∃k m:Nat,k<=vs.length/\i=O U k/\wr=w.drewN m/\As (vs.take k=us.take k)) (fun i _=>vs.length-(Aq i).toNat)
   case atStart=>exact⟨0,0,by omega,rfl,rfl,by show vs.take 0=us.take 0;simp⟩
   obtain⟨k,m,hk,rfl,rfl,aj⟩:=hrel;have du:k<=us.length:=by have:=HL.out;omega
   by_cases ac:k<vs.length
   . have bY:k<us.length:=by have:=HL.out;omega
     obtain⟨b,off,rfl,aC,c0,c1,c2,c3,c4,c5,c6,c7⟩:=hA.row k ac;obtain⟨b',fa,rfl,i8,d0,d1,d2,d3,d4,d5,d6,d7⟩:=ld.row k bY;have fr:=HE.out k ac bY
     by_cases hv:vs[k]=us[k]
     . have iU:∀X:Ba,_:=fun X=>(fr X).trans (by rw[Lm (by simpa using hv)])
       have hz:As (vs.take (k+1)=us.take (k+1)):=vh ac bY aj.out hv;clear fr hv;go_wp2;go_quiet (fail);go_wp2
       go_roundw
       case rel=>exact⟨k+1,_,by omega,by go_num,rfl,hz⟩
       simp[Aq];omega
     have iU:∀X:Ba,_:=fun X=>(fr X).trans (by rw[Ll hv])
     have hz:As (decide (vs=us)=Ax):=Lm (qh ac bY hv);go_wp2;go_quiet (fail);go_wp2;go_ret;exact⟨ze hz.out.symm,_,kG _ _ _⟩
   obtain rfl:k=vs.length:=by omega
   have hz:As (decide (vs=us)=Av):=Ll (qm HL.out aj.out);go_wp2;go_ret;exact⟨ze hz.out.symm,_,rfl⟩
 have hz:As (decide (vs=us)=Ax):=Lm (by rintro rfl;exact aL rfl);have dP:((vs.length:Int) != (us.length:Int))=Av:=by simp;omega
 go_enter func45,ntmps45;go_wp2;go_ret;exact⟨ze hz.out.symm,0,rfl⟩
theorem Q2(A A':Bb)(cap aF:Nat)(vs us:List Rd)(w:Ba)(B:Nat)(_hB:B<=w.heap.size)(hA:RAt w B A vs)(ld:RAt w B A' us)(_hl:vs.length<=17592186044416)(nd:us.length<=17592186044416) :
  Ap An 38 #[I A vs.length cap,I A' us.length aF] w fun e w'=>e=Am (Ai (decide (vs=us)))/\∃n,w'=w.drewN n:=by
 have HE:As (∀k (hk:k<vs.length) (cY:k<us.length) (X:Ba),(binOp .neq 75 (.agg vs[k].cells) (.agg us[k].cells)).run An X=.ok (Ai (decide (vs[k]≠us[k]))) X):=fun k hk cY X=>Za vs[k] us[k] X
 unfold Rd.cells at HE
 by_cases aL:vs.length=us.length
 . have HL:=zH aL
   have dP:((vs.length:Int) != (us.length:Int))=Ax:=by simp[aL]
   go_enter func38,ntmps38;go_wp2
   go_loopw [13] (fun i wr=>∃k m:Nat,k<=vs.length/\i=O U k/\wr=w.drewN m/\As (vs.take k=us.take k)) (fun i _=>vs.length-(Aq i).toNat)
   case atStart=>exact⟨0,0,by omega,rfl,rfl,by show vs.take 0=us.take 0;simp⟩
   obtain⟨k,m,hk,rfl,rfl,aj⟩:=hrel;have du:k<=us.length:=by have:=HL.out;omega
   by_cases ac:k<vs.length
   . have bY:k<us.length:=by have:=HL.out;omega
     obtain⟨b,off,rfl,aC,c0,c1,c2,c3,c4,c5,c6⟩:=hA.row k ac;obtain⟨b',fa,rfl,i8,d0,d1,d2,d3,d4,d5,d6⟩:=ld.row k bY;have fr:=HE.out k ac bY
     by_cases hv:vs[k]=us[k]
     . have iU:∀X:Ba,_:=fun X=>(fr X).trans (by rw[Lm (by simpa using hv)])
       have hz:As (vs.take (k+1)=us.take (k+1)):=vh ac bY aj.out hv;clear fr hv;go_wp2;go_quiet (fail);go_wp2
       go_roundw
       case rel=>exact⟨k+1,_,by omega,by go_num,rfl,hz⟩
       simp[Aq];omega
     have iU:∀X:Ba,_:=fun X=>(fr X).trans (by rw[Ll hv])
     have hz:As (decide (vs=us)=Ax):=Lm (qh ac bY hv);go_wp2;go_quiet (fail);go_wp2;go_ret;exact⟨ze hz.out.symm,_,kG _ _ _⟩
   obtain rfl:k=vs.length:=by omega
   have hz:As (decide (vs=us)=Av):=Ll (qm HL.out aj.out);go_wp2;go_ret;exact⟨ze hz.out.symm,_,rfl⟩
 have hz:As (decide (vs=us)=Ax):=Lm (by rintro rfl;exact aL rfl);have dP:((vs.length:Int) != (us.length:Int))=Av:=by simp;omega
 go_enter func38,ntmps38;go_wp2;go_ret;exact⟨ze hz.out.symm,0,rfl⟩
theorem eqLL_any(A A':Bb)(cap aF:Nat)(vs us:List (List Int))(w:Ba)(B:Nat)(_hB:B<=w.heap.size)(hA:LAt w B A vs)(ld:LAt w B A' us)(hl:vs.length<=17592186044416)(nd:us.length<=17592186044416)
  (hv:∀v∈vs,v.length<=17592186044416) (hu:∀v∈us,v.length<=17592186044416) :
  Ap An 80 #[I A vs.length cap,I A' us.length aF,.func (.func 32) #[] #[]] w fun e w'=>e=Am (Ai (decide (vs=us)))/\∃n,w'=w.drewN n:=by
 have HV:=zH hv;have HU:=zH hu
 by_cases aL:vs.length=us.length
 . have HL:=zH aL
   have dP:((vs.length:Int) != (us.length:Int))=Ax:=by simp[aL]
   clear aL;go_enter func80,ntmps80;go_wp2_with fail
   go_loopw [17] (fun i wr=>∃k m:Nat,k<=vs.length/\i=O U k/\wr=w.drewN m/\As (vs.take k=us.take k)) (fun i _=>vs.length-(Aq i).toNat)
   case atStart=>exact⟨0,0,by omega,rfl,rfl,by show vs.take 0=us.take 0;simp⟩
   obtain⟨k,m,hk,rfl,rfl,aj⟩:=hrel;have du:k<=us.length:=by have:=HL.out;omega
   by_cases ac:k<vs.length
   . have bY:k<us.length:=by have:=HL.out;omega
     obtain⟨b,off,A1,c1,rfl,aC,x0,hI⟩:=hA.at_ k ac;obtain⟨b',fa,A2,c2,rfl,i8,y0,BD⟩:=ld.at_ k bY;have HC:=zH (va A1 A2 c1 c2 vs[k] us[k] (w.drewN m) B hI BD (HV.out _ (Ld ac)) (HU.out _ (Ld bY)));have x1:(w.drewN m).cell? ⟨b,off+k,Z⟩=J (I A1 vs[k].length c1):=x0;have y1:(w.drewN m).cell? ⟨b',fa+k,Z⟩=J (I A2 us[k].length c2):=y0;clear hA ld x0 y0 hI BD;have cq:(0:Int)<=(k:Int):=by omega
     have cy:(k:Int)<(vs.length:Int):=by omega
     have fJ:(k:Int)<(us.length:Int):=by omega
     go_wp2_with fail;refine HC.out.mono ?_;rintro e w' ⟨rfl,n,rfl⟩
     by_cases hv:vs[k]=us[k]
     . have hz:As (vs.take (k+1)=us.take (k+1)):=yG aj.out ac bY hv
       rw[Ll hv];clear hv HC x1 y1;go_wp2_with fail
       go_roundw
       case rel=>exact⟨k+1,_,by omega,by go_num,rfl,hz⟩
       simp[Aq];omega
     have hz:As (decide (vs=us)=Ax):=Lm (qh ac bY hv);rw[Lm hv];go_wp2_with fail;go_ret;exact⟨ze hz.out.symm,_,rfl⟩
   obtain rfl:k=vs.length:=by omega
   have hz:As (decide (vs=us)=Av):=Ll (qm HL.out aj.out);go_wp2_with fail;go_ret;exact⟨ze hz.out.symm,_,rfl⟩
 have hz:As (decide (vs=us)=Ax):=Lm (by rintro rfl;exact aL rfl);have dP:((vs.length:Int) != (us.length:Int))=Av:=by simp;omega
 go_enter func80,ntmps80;go_wp2_with fail;go_ret;exact⟨ze hz.out.symm,0,rfl⟩
theorem Ji(x y:Exn)(hx:ZY x)(hy:ZY y)(A1 A2 B1 B2:Bb)(a1 a2 b1 b2:Nat)(w:Ba)(eP:RAt w w.heap.size A1 x.word)(DW:LAt w w.heap.size A2 x.views)(aB:RAt w w.heap.size B1 y.word)(aQ:LAt w w.heap.size B2 y.views) :
  Ap An 47 #[Aj #[O U x.c,I A1 x.word.length a1,I A2 x.views.length a2],Aj #[O U y.c,I B1 y.word.length b1,I B2 y.views.length b2]] w fun e w'=>e=Am (Ai (decide (x=y)))/\Ao w.heap.size w w':=by
 obtain⟨w1,ah,d0,d1,bI,hB⟩:=zZ w #[O U x.c,I A1 x.word.length a1,I A2 x.views.length a2] #[O U y.c,I B1 y.word.length b1,I B2 y.views.length b2] 42 42;have HR:=zH (Q2 A1 B1 a1 b1 x.word y.word w1 w.heap.size (by omega) (eP.keep hB) (aB.keep hB) hx.1 hy.1);have HL:=zH (fun n=>eqLL_any A2 B2 a2 b2 x.views y.views (w1.drewN n) w.heap.size (by show w.heap.size<=w1.heap.size;omega) (DW.keep (zx hB n)) (aQ.keep (zx hB n)) hx.2.1 hy.2.1 hx.2.2 hy.2.2);have aq:=zH ah;have HB:=zH hB;have bu:=zH d0;have bQ:=zH d1;obtain⟨p0,p1,p2,_⟩:=Kc d0;obtain⟨q0,q1,q2,_⟩:=Kc d1;have HE:=zH (@exn_eq x y);have BO:As (x≠y->decide (x=y)=Ax):=fun h=>Lm h
 have BJ:As (x=y->decide (x=y)=Av):=fun h=>Ll h
 obtain⟨r,hr⟩:∃r,decide (x=y)=r:=⟨_,rfl⟩;rw[hr] at BO BJ ⊢;clear hr ah d0 d1 hB eP DW aB aQ hx hy;go_enter func47,ntmps47
 by_cases h1:x.c=y.c
 case neg=>
  have hR:=zH (BO.out (fun h=>h1 (congrArg Exn.c h)));have e0:(x.c==y.c)=Ax:=by simpa using h1
  clear BO BJ HE h1 HR HL;go_wp2_with fail;rw[aq.out];go_wp2_with fail
  all_goals
   go_ret;exact⟨ze hR.out.symm,HB.out⟩
 case pos=>
 have e0:(x.c==y.c)=Av:=by simpa using h1
 have HC:=zH h1;clear h1;go_wp2_with fail;rw[aq.out];go_wp2_with fail;refine HR.out.mono ?_;rintro e w2 ⟨rfl,n,rfl⟩;have p2:(w1.drewN n).cell? ⟨w.heap.size,2,Z⟩=J (I A2 x.views.length a2):=za bu.out 2 rfl;have q2:(w1.drewN n).cell? ⟨w.heap.size+1,2,Z⟩=J (I B2 y.views.length b2):=za bQ.out 2 rfl
 by_cases h2:x.word=y.word
 case neg=>
  have hR:=zH (BO.out (fun h=>h2 (congrArg Exn.word h)));rw[Lm h2];clear BO BJ HE h2 HR HL;go_wp2_with fail
  all_goals
   go_ret;exact⟨ze hR.out.symm,zx HB.out n⟩
 case pos=>
 rw[Ll h2];have HW:=zH h2;clear h2;go_wp2_with fail;refine(HL.out n).mono ?_;rintro e w3 ⟨rfl,m,rfl⟩
 have hR:As (decide (x.views=y.views)=r):=by
  by_cases h3:x.views=y.views
  . exact(Ll h3).trans (BJ.out (HE.out HC.out HW.out h3)).symm
  exact(Lm h3).trans (BO.out (fun h=>h3 (congrArg Exn.views h))).symm
 rw[hR.out];go_wp2_with fail
 all_goals
  go_ret;exact⟨rfl,zx HB.out _⟩
theorem eqX_any(A A':Bb)(cap aF:Nat)(vs us:List Exn)(w:Ba)(hA:XAt w w.heap.size A vs)(ld:XAt w w.heap.size A' us)(hl:vs.length<=17592186044416)(nd:us.length<=17592186044416)
  (hv:∀v∈vs,ZY v) (hu:∀v∈us,ZY v) :
  Ap An 46 #[I A vs.length cap,I A' us.length aF,.func (.func 47) #[] #[]] w fun e w'=>e=Am (Ai (decide (vs=us)))/\Ao w.heap.size w w':=by
 have HV:=zH hv;have HU:=zH hu;have HA:=zH hA;have HA':=zH ld;clear hv hu hA ld
 by_cases aL:vs.length=us.length
 . have HL:=zH aL
   have dP:((vs.length:Int) != (us.length:Int))=Ax:=by simp[aL]
   clear aL;go_enter func46,ntmps46;go_wp2_with fail
   go_loopw [17] (fun i wr=>∃k:Nat,k<=vs.length/\i=O U k/\As (Ao w.heap.size w wr)/\As (vs.take k=us.take k)) (fun i _=>vs.length-(Aq i).toNat)
   case atStart=>exact⟨0,by omega,rfl,Lp _ _,by show vs.take 0=us.take 0;simp⟩
   obtain⟨k,hk,rfl,hb,aj⟩:=hrel;have du:k<=us.length:=by have:=HL.out;omega
   by_cases ac:k<vs.length
   . have bY:k<us.length:=by have:=HL.out;omega
     obtain⟨b,off,A1,c1,A2,c2,eA,aC,x0,x1,x2,hW,hI⟩:=(HA.out.keep hb.out).row k ac;obtain⟨b',fa,B1,d1,B2,d2,eB,i8,y0,y1,y2,mr,BD⟩:=(HA'.out.keep hb.out).row k bY;subst eA;subst eB;obtain⟨x,hx⟩:=Kh (vs[k]);obtain⟨y,hy⟩:=Kh (us[k]);have fC:=HV.out _ (Ld ac);have cz:=HU.out _ (Ld bY);have bt:=zH (fun (h:x≠y)=>(Lm (qh ac bY (by rw[hx,hy];exact h)):decide (vs=us)=Ax));have Fp:=zH (fun (h:x=y)=>yG aj.out ac bY (by rw[hx,hy];exact h));rw[hx] at x0 x1 x2 hW hI fC;rw[hy] at y0 y1 y2 mr BD cz;have bn:=hb.out.size;have cD:b<wr.heap.size:=by omega
     have VY:b'<wr.heap.size:=by omega
     obtain⟨W2,eM,d0,Tf,dX,aQ⟩:=zZ wr #[O U x.c,I A1 x.word.length c1,I A2 x.views.length c2] #[O U y.c,I B1 y.word.length d1,I B2 y.views.length d2] 42 42;have HC:=zH (Ji x y fC cz A1 A2 B1 B2 c1 c2 d1 d2 W2 (((hW.more bn).keep aQ).more aQ.size) (((hI.more bn).keep aQ).more aQ.size) (((mr.more bn).keep aQ).more aQ.size) (((BD.more bn).keep aQ).more aQ.size));have aW:=zH (hb.out.trans (aQ.mono bn));have Ml:=zH eM;obtain⟨p0,p1,p2,_⟩:=Kc d0;obtain⟨q0,q1,q2,_⟩:=Kc Tf;clear hW hI mr BD fC cz eM d0 Tf aQ hx hy aj;have cq:(0:Int)<=(k:Int):=by omega
     have cy:(k:Int)<(vs.length:Int):=by omega
     have fJ:(k:Int)<(us.length:Int):=by omega
     go_wp2_with fail;rw[Ml.out];go_wp2_with fail;refine HC.out.mono ?_;rintro e w3 ⟨rfl,ap⟩;have bL:=zH (Lc aW.out ap);clear ap HC p0 p1 p2 q0 q1 q2 x0 x1 x2 y0 y1 y2
     by_cases hv:x=y
     . have hz:=zH (Fp.out hv)
       rw[Ll hv];clear hv Fp bt;go_wp2_with fail
       go_roundw
       case rel=>exact⟨k+1,by omega,by go_num,bL,hz⟩
       simp[Aq];omega
     have hz:=zH (bt.out hv);rw[Lm hv];go_wp2_with fail;go_ret;exact⟨ze hz.out.symm,bL.out⟩
   obtain rfl:k=vs.length:=by omega
   have hz:As (decide (vs=us)=Av):=Ll (qm HL.out aj.out);go_wp2_with fail;go_ret;exact⟨ze hz.out.symm,hb.out⟩
 have hz:As (decide (vs=us)=Ax):=Lm (by rintro rfl;exact aL rfl);have dP:((vs.length:Int) != (us.length:Int))=Av:=by simp;omega
 clear aL;go_enter func46,ntmps46;go_wp2_with fail;go_ret;exact⟨ze hz.out.symm,Lp _ _⟩
end
section
open Go.RowKit
structure Kd where
 e:TypeId
 s:TypeId
 size:Nat
 bytes:Nat
 z:Au
structure KdOk(P:Program)(K:Kd):Prop where
 under:P.underlying K.s=J (.slice K.e)
 info:(P.info? K.e).map (fun i=>(i.zero,i.size,i.bytes))=J (J K.z,K.size,K.bytes)
 zs:K.z.cells.size=K.size
 pos:0<K.size
 small:K.bytes<=1024
def Raw(w:Ba)(A:Bb)(n:Nat)(cs:List Au):Prop:=0<n->∃b off,A=J ⟨b,off,Z⟩/\b<w.heap.size/\∀(j:Nat) (u:Au),cs[j]?=J u->w.cell? ⟨b,off+j,Z⟩=J u
def OwnR(K:Kd)(w:Ba)(aa:Nat)(v:Au)(n:Nat)(cs:List Au):Prop:=w.ownsRow aa K.e K.size v n cs
section
variable {P:Program} {K:Kd} {w w':Ba} {aa:Nat} {v:Au} {n:Nat} {cs:List Au}
theorem OwnR.nil(K:Kd)(w:Ba)(aa:Nat):OwnR K w aa (I Z 0 0) 0 []:=PK w aa _ _
theorem OwnR.kept{row:Option Nat}(h:OwnR K w aa v n cs)(hg:w.grownBy w' row)(bt:v.ownBlock=Z\/v.ownBlock≠row):OwnR K w' aa v n cs:=Pj h hg bt
theorem OwnR.alloc(h:OwnR K w aa v n cs)(o:Obj):OwnR K (w.alloc o) aa v n cs:=Pf h o
theorem OwnR.lt(h:OwnR K w aa v n cs):∀k,v.ownBlock=J k->aa<=k/\k<w.heap.size:=PY h
theorem OwnR.below{B:Nat}(h:OwnR K w aa v n cs)(hb:Ao B w w')(hB:w.heap.size<=B):OwnR K w' aa v n cs:=
 Pj (row:=Z) h ⟨hb.os,hb.tape,hb.output,hb.size,fun k hk _=>hb.block k (by omega)⟩ (by cases v.ownBlock<;>simp)
theorem OwnR.low{base':Nat}(h:OwnR K w aa v n cs)(hb:base'<=aa):OwnR K w base' v n cs:=by
 refine⟨h.1,?_⟩;rcases h.2 with h2 | ⟨g,cap,cur,hv,hg,r⟩
 . exact Or.inl h2
 exact Or.inr ⟨g,cap,cur,hv,by omega,r⟩
theorem OwnR.form(h:OwnR K w aa v n cs):∃A cap,v=I A n cap/\n<=cap/\cap<=maxLen/\(0<n->∃g,A=J ⟨g,0,Z⟩/\v.ownBlock=J g/\g<w.heap.size/\∀j u,cs[j]?=J u->w.cell? ⟨g,j,Z⟩=J u):=by
 rcases h.2 with ⟨rfl,h0⟩ | ⟨g,cap,cur,rfl,_,hg,du,iV,_⟩
 . exact⟨Z,0,by rw[h0],by omega,by omega,fun hn=>by omega⟩
 refine⟨_,_,rfl,du,iV,fun _=>⟨g,rfl,rfl,(Li.1 hg).1,fun j u hu=>?_⟩⟩;have:=World.ownsRow.cells h (g:=g) rfl j u hu;rwa[show(⟨g,0,Z⟩:Addr).add j=⟨g,j,Z⟩ from by unfold Addr.add;split<;>simp_all] at this
theorem OwnR.ne{b:Nat}(h:OwnR K w aa v n cs)(hb:b<aa):v.ownBlock≠J b:=fun e=>by
 have:=(h.lt b e).1;omega
theorem OwnR.raw(h:OwnR K w aa v n cs):∃A cap,v=I A n cap/\n<=cap/\cap<=maxLen/\Raw w A n cs:=by
 obtain⟨A,cap,e,h1,h2,h3⟩:=h.form;refine⟨A,cap,e,h1,h2,fun h0=>?_⟩;obtain⟨g,hA,_,hg,hc⟩:=h3 h0;exact⟨g,0,hA,hg,fun j u hu=>by rw[LM];exact hc j u hu⟩
theorem yF(ok:KdOk P K):∃i:TypeInfo,P.info? K.e=J i/\i.zero=J K.z/\i.size=K.size/\i.bytes=K.bytes:=by
 have h:=ok.info
 cases hi:P.info? K.e with
 | none=>rw[hi] at h;cases h
 | some i=>
  rw[hi] at h;simp only[Option.map_some,Option.some.injEq,Prod.mk.injEq] at h;exact⟨i,rfl,h.1,h.2.1,h.2.2⟩
theorem uK(ok:KdOk P K){o:Oper}{a:Act}{KK:Act->Ba->Prop}{Q:Exit->Act->Ba->Prop}{W:Ba}(s x:Operand)
  (ho:o.op=.call { callee:=.builtin .append,args:=#[s,x],argTypes:=#[K.s,K.s] }) (aa:Nat) (V:Au) (n:Nat) (cs:List Au) (hs:a.eval s=V) (an:OwnR K W aa V n cs)
  (g:Nat) (d9:Array Au) (hx:a.eval x=I (J ⟨g,0,Z⟩) 1 1) (hg:W.heap[g]?=J (Ah d9 K.e (0,0))) (hn:d9.size=K.size) (h1:∀u∈d9.toList,u.oneCell'=Av) (hl:n<=1000000000) (hb:aa<=W.heap.size) (H:Nat) (hH:W.heap.size=H)
  (h:∀g' cap w1,OwnR K w1 aa (I (J ⟨g',0,Z⟩) (n+1) cap) (n+1) (cs++d9.toList)->W.grownBy w1 V.ownBlock->(V.ownBlock=J g'\/g'=H)->g'<w1.heap.size->KK (a.put o.dst (I (J ⟨g',0,Z⟩) (n+1) cap)) w1):o.wp P a W KK Q:=by
 obtain⟨i0,hi,cH,bS,cp⟩:=yF ok
 refine wp_append_lies W s x K.s ho aa K.e i0 K.z K.size K.bytes ok.under hi cH bS cp ok.zs ok.pos V n cs hs an ⟨g,0,Z⟩ 1 1 d9.toList hx (by simp[hn])
  (Rj hg) h1 (by omega) (by unfold maxLen;omega) ?_ hb H hH h
 have:=NY (show n+1<=1000000001 by omega) ok.small;omega
theorem yo(ok:KdOk P K){ak:Array Oper}{rest:List Oper}{o:Oper}{a:Act}{Q:Exit->Act->Ba->Prop}{W:Ba}(dZ:o.guard=Z)(s x:Operand)
  (ho:o.op=.call { callee:=.builtin .append,args:=#[s,x],argTypes:=#[K.s,K.s] }) (aa:Nat) (V:Au) (n:Nat) (cs:List Au) (hs:a.eval s=V) (an:OwnR K W aa V n cs)
  (g:Nat) (d9:Array Au) (hx:a.eval x=I (J ⟨g,0,Z⟩) 1 1) (hg:W.heap[g]?=J (Ah d9 K.e (0,0))) (hn:d9.size=K.size) (h1:∀u∈d9.toList,u.oneCell'=Av) (hl:n<=1000000000) (hb:aa<=W.heap.size) (H:Nat) (hH:W.heap.size=H)
  (h:∀g' cap w1,OwnR K w1 aa (I (J ⟨g',0,Z⟩) (n+1) cap) (n+1) (cs++d9.toList)->W.grownBy w1 V.ownBlock->(V.ownBlock=J g'\/g'=H)->g'<w1.heap.size->wpList P ak Q rest (a.put o.dst (I (J ⟨g',0,Z⟩) (n+1) cap)) w1):wpList P ak Q (o::rest) a W:=
 LJ dZ fun _ hK=>uK ok s x ho aa V n cs hs an g d9 hx hg hn h1 hl hb H hH fun g' cap w1 h1 h2 h3 h4=>hK _ _ (h g' cap w1 h1 h2 h3 h4)
theorem Jv(ok:KdOk P K){ak:Array Oper}{o:Oper}{a:Act}{KK:Act->Ba->Prop}{Q:Exit->Act->Ba->Prop}{E:Prop}{W:Ba}(dZ:o.guard=Z)(s x:Operand)
  (ho:o.op=.call { callee:=.builtin .append,args:=#[s,x],argTypes:=#[K.s,K.s] }) (aa:Nat) (V:Au) (n:Nat) (cs:List Au) (hs:a.eval s=V) (an:OwnR K W aa V n cs)
  (g:Nat) (d9:Array Au) (hx:a.eval x=I (J ⟨g,0,Z⟩) 1 1) (hg:W.heap[g]?=J (Ah d9 K.e (0,0))) (hn:d9.size=K.size) (h1:∀u∈d9.toList,u.oneCell'=Av) (hl:n<=1000000000) (hb:aa<=W.heap.size) (H:Nat) (hH:W.heap.size=H)
  (h:∀g' cap w1,OwnR K w1 aa (I (J ⟨g',0,Z⟩) (n+1) cap) (n+1) (cs++d9.toList)->W.grownBy w1 V.ownBlock->(V.ownBlock=J g'\/g'=H)->g'<w1.heap.size->KK (a.put o.dst (I (J ⟨g',0,Z⟩) (n+1) cap)) w1) :
  if Region.wanted o (yielded ak a.tmps)=Av then Oper.wp P o a W KK Q else E:=by
 have hw:Region.wanted o (yielded ak a.tmps)=Av:=by simp[Region.wanted,dZ]
 rw[Ln hw];exact uK ok s x ho aa V n cs hs an g d9 hx hg hn h1 hl hb H hH h
theorem wp_fitR(ok:KdOk P K){o:Oper}{a:Act}{KK:Act->Ba->Prop}{Q:Exit->Act->Ba->Prop}{W:Ba}(s x:Operand)
  (ho:o.op=.call { callee:=.builtin .append,args:=#[s,x],argTypes:=#[K.s,K.s] }) (aa g n cap:Nat) (cs:List Au) (hs:a.eval s=I (J ⟨g,0,Z⟩) n cap) (an:OwnR K W aa (I (J ⟨g,0,Z⟩) n cap) n cs)
  (h:Nat) (d9:Array Au) (hx:a.eval x=I (J ⟨h,0,Z⟩) 1 1) (hg:W.heap[h]?=J (Ah d9 K.e (0,0))) (hn:d9.size=K.size) (h1:∀u∈d9.toList,u.oneCell'=Av) (du:n+1<=cap)
  (hK:∀w1,OwnR K w1 aa (I (J ⟨g,0,Z⟩) (n+1) cap) (n+1) (cs++d9.toList)->W.grownBy w1 (J g)->KK (a.put o.dst (I (J ⟨g,0,Z⟩) (n+1) cap)) w1):o.wp P a W KK Q:=by
 obtain⟨i0,hi,cH,bS,cp⟩:=yF ok;obtain⟨w',dt,r1,r2⟩:=run_append_fits (P:=P) W aa K.s o.type K.e i0 K.size ok.under hi bS g n cap cs an ⟨h,0,Z⟩ 1 1 d9.toList (by simp[hn]) (Rj hg) h1 du;unfold Oper.wp execOp;simp only[ho,resolve,invoke,builtin,Sem.run_bind,Sem.run_pure,Result.andThen_ok,List.map_toArray,List.map_cons,List.map_nil,hs,hx,dt];exact hK w' r1 r2
theorem vn(ok:KdOk P K)(A:Bb)(n cap c:Nat)(ty:TypeId)(W:Ba)(hn:n<=cap):(Builtin.append_ #[K.s,K.s] ty #[I A n cap,I Z 0 c]).run P W=.ok (I A n cap) W:=by
 obtain⟨i0,hi,cH,bS,cp⟩:=yF ok
 cases A with
 | none=>simp[Builtin.append_,run_underlying ok.under,sizeOf,typeInfo,hi,Builtin.lenOf,Builtin.firstCells,hn,Result.andThen]
 | some ad=>simp[Builtin.append_,run_underlying ok.under,sizeOf,typeInfo,hi,Builtin.lenOf,Builtin.firstCells,hn,Result.andThen,storeCells]
theorem run_appN(ok:KdOk P K)(W:Ba)(ty:TypeId)(aa:Nat)(v:Au)(n:Nat)(cs:List Au)(an:OwnR K W aa v n cs)(A:Bb)(m c:Nat)(news:List Au)(hl:news.length=m*K.size)(hA:Raw W A m news)
  (h1:∀u∈news,u.oneCell'=Av) (hm:n+m<=1000000000) (hb:aa<=W.heap.size) :
  ∃v' w',(Builtin.append_ #[K.s,K.s] ty #[v,I A m c]).run P W=.ok v' w'/\OwnR K w' aa v' (n+m) (cs++news)/\W.grownBy w' v.ownBlock/\(v'.ownBlock=v.ownBlock\/v'.ownBlock=J W.heap.size):=by
 obtain⟨i0,hi,cH,bS,cp⟩:=yF ok
 cases A with
 | none=>
  have lN:m=0:=by
   rcases L9 m with h | h
   . exact h
   . obtain⟨b,off,e,_⟩:=hA h;cases e
  subst lN;have O7:news=[]:=LC (by omega);subst O7;obtain⟨A,cap,rfl,hc,_⟩:=an.form;exact⟨_,W,vn ok A n cap c ty W hc,by simpa using an,Pk _ _,.inl rfl⟩
 | some ad=>
  have aI:=NY hm ok.small
  obtain⟨v',w',hr,r1,r2,_,r4⟩:=run_append_own_at (P:=P) W aa K.s ty K.e i0 K.z K.size K.bytes ok.under hi cH bS cp ok.zs ok.pos v n cs an ad m c news hl (fun j u hj=>by
    have bg:j<m*K.size:=by rw[<-hl];exact(Lo.1 hj).1
    have lN:0<m:=by rcases L9 m with h | h;(· subst h;omega);(· exact h)
    obtain⟨b,off,e,_,hc⟩:=hA lN
    cases e
    rw[show(⟨b,off,Z⟩:Addr).add j=⟨b,off+j,Z⟩ from by unfold Addr.add;split<;>simp_all]
    exact hc j u hj) h1 (by unfold maxLen;omega) (by omega) hb
  exact⟨v',w',hr,r1,r2,r4⟩
theorem wp_appN(ok:KdOk P K){o:Oper}{a:Act}{KK:Act->Ba->Prop}{Q:Exit->Act->Ba->Prop}{W:Ba}(s x:Operand)
  (ho:o.op=.call { callee:=.builtin .append,args:=#[s,x],argTypes:=#[K.s,K.s] }) (aa:Nat) (v:Au) (n:Nat) (cs:List Au) (hs:a.eval s=v) (an:OwnR K W aa v n cs) (A:Bb) (m c:Nat) (news:List Au) (hx:a.eval x=I A m c)
  (hl:news.length=m*K.size) (hA:Raw W A m news) (h1:∀u∈news,u.oneCell'=Av) (hm:n+m<=1000000000) (hb:aa<=W.heap.size)
  (h:∀v' w1,OwnR K w1 aa v' (n+m) (cs++news)->W.grownBy w1 v.ownBlock->(v'.ownBlock=v.ownBlock\/v'.ownBlock=J W.heap.size)->KK (a.put o.dst v') w1):o.wp P a W KK Q:=by
 obtain⟨v',w',dt,r1,r2,r3⟩:=run_appN ok W o.type aa v n cs an A m c news hl hA h1 hm hb;unfold Oper.wp execOp;simp only[ho,resolve,invoke,builtin,Sem.run_bind,Sem.run_pure,Result.andThen_ok,List.map_toArray,List.map_cons,List.map_nil,hs,hx,dt];exact h v' w' r1 r2 r3
theorem Z2(ok:KdOk P K){ak:Array Oper}{rest:List Oper}{o:Oper}{a:Act}{Q:Exit->Act->Ba->Prop}{W:Ba}(dZ:o.guard=Z)(s x:Operand)
  (ho:o.op=.call { callee:=.builtin .append,args:=#[s,x],argTypes:=#[K.s,K.s] }) (aa:Nat) (v:Au) (n:Nat) (cs:List Au) (hs:a.eval s=v) (an:OwnR K W aa v n cs) (A:Bb) (m c:Nat) (news:List Au) (hx:a.eval x=I A m c)
  (hl:news.length=m*K.size) (hA:Raw W A m news) (h1:∀u∈news,u.oneCell'=Av) (hm:n+m<=1000000000) (hb:aa<=W.heap.size)
  (h:∀v' w1,OwnR K w1 aa v' (n+m) (cs++news)->W.grownBy w1 v.ownBlock->(v'.ownBlock=v.ownBlock\/v'.ownBlock=J W.heap.size)->wpList P ak Q rest (a.put o.dst v') w1):wpList P ak Q (o::rest) a W:=
 LJ dZ fun _ hK=>wp_appN ok s x ho aa v n cs hs an A m c news hx hl hA h1 hm hb fun v' w1 h1 h2 h3=>hK _ _ (h v' w1 h1 h2 h3)
theorem OwnR.of_block{g:Nat}{cur:Array Au}(h:w.heap[g]?=J (Ah cur K.e (0,0)))(hb:aa<=g)(hc:cur.size=n*K.size)(hn:n<=maxLen):OwnR K w aa (I (J ⟨g,0,Z⟩) n n) n cur.toList:=
 ⟨by simpa using hc,.inr ⟨g,n,cur,rfl,hb,h,Lh _,hn,hc,by rw[Pr (by simp[hc])]⟩⟩
theorem OwnR.pop{g m cap:Nat}{lX:List Au}(h:OwnR K w aa (I (J ⟨g,0,Z⟩) (n+m) cap) (n+m) (cs++lX))(hl:cs.length=n*K.size):OwnR K w aa (I (J ⟨g,0,Z⟩) n cap) n cs:=by
 refine⟨hl,.inr ?_⟩;rcases h.2 with ⟨e,_⟩ | ⟨g',aF,cur,e,hb,hg,du,hm,hs,ht⟩
 . cases e
 injection e with e1 e2 e3
 injection e1 with e1
 injection e1 with e1
 subst e1;subst e3;refine⟨g,cap,cur,rfl,hb,hg,by omega,hm,hs,?_⟩;have h2:=congrArg (List.take (n*K.size)) ht;rw[RO,N1 (by omega),<-hl,LD,Ra (by rw[hl,Pz];omega)] at h2;rw[<-hl];exact h2
end
section
variable {S S':Nat->Prop} {w w':Ba} {A:Bb}
theorem qc{b o:Nat}{u:Au}(h:KeepB S w w')(hb:S b)(hc:w.cell? ⟨b,o,Z⟩=J u):w'.cell? ⟨b,o,Z⟩=J u:=by
 obtain⟨ob,ho,_⟩:=Ro hc;rw[L7 (h.same b hb (Li.1 ho).1)];exact hc
structure KeepC(S:Nat->Prop)(w w':Ba):Prop where
 size:w.heap.size<=w'.heap.size
 cell:∀k o v,S k->w.cell? ⟨k,o,Z⟩=J v->w'.cell? ⟨k,o,Z⟩=J v
theorem KeepC.of_cells(S:Nat->Prop)(hs:w.heap.size<=w'.heap.size)(h:∀(k:Nat) (o:Obj),w.heap[k]?=J o->o.isCells=Av->w'.heap[k]?=J o):KeepC S w w':=
 ⟨hs,fun k o v _ hc=>by
  obtain⟨ob,ho,iW⟩:=Ro hc;rw[L7 ((h k ob ho iW).trans ho.symm)]
  exact hc⟩
def IAtS(S:Nat->Prop)(w:Ba)(A:Bb)(xs:List Int):Prop:=
 0<xs.length->∃b off,A=J ⟨b,off,Z⟩/\S b/\b<w.heap.size/\∀(i:Nat) (hi:i<xs.length),w.cell? ⟨b,off+i,Z⟩=J (O U xs[i])
theorem IAtS.keep{xs:List Int}(h:IAtS S w A xs)(hk:KeepB S w w'):IAtS S w' A xs:=fun h0=>by
 obtain⟨b,off,e,hs,hb,hc⟩:=h h0;exact⟨b,off,e,hs,LE hb hk.size,fun i hi=>qc hk hs (hc i hi)⟩
theorem IAtS.keepC{xs:List Int}(h:IAtS S w A xs)(hk:KeepC S w w'):IAtS S w' A xs:=fun h0=>by
 obtain⟨b,off,e,hs,hb,hc⟩:=h h0;exact⟨b,off,e,hs,LE hb hk.size,fun i hi=>hk.cell _ _ _ hs (hc i hi)⟩
theorem IAtS.mono{xs:List Int}(h:IAtS S w A xs)(hm:∀k,k<w.heap.size->S k->S' k):IAtS S' w A xs:=fun h0=>by
 obtain⟨b,off,e,hs,hb,hc⟩:=h h0;exact⟨b,off,e,hm b hb hs,hb,hc⟩
theorem IAtS.on{xs:List Int}(h:IAtS S w A xs)(hb:Ao w.heap.size w w'):IAtS S w' A xs:=
 ((h.mono (S':=fun k=>S k/\k<w.heap.size) fun _ hk hs=>⟨hs,hk⟩).keep ⟨hb.size,fun k hk _=>hb.block k hk.2⟩).mono fun _ _ hs=>hs.1
theorem IAtS.iat{xs:List Int}(h:IAtS S w A xs):IAt w w.heap.size A xs:=fun h0=>by
 obtain⟨b,off,e,hs,hb,hc⟩:=h h0;exact⟨b,off,e,hb,hc⟩
theorem IAtS.of_iat{xs:List Int}{B:Nat}(h:IAt w B A xs)(hB:B<=w.heap.size)(hS:∀k,k<B->S k):IAtS S w A xs:=fun h0=>by
 obtain⟨b,off,e,hb,hc⟩:=h h0;exact⟨b,off,e,hS b hb,by omega,hc⟩
def RAtS(S:Nat->Prop)(w:Ba)(A:Bb)(rs:List Rd):Prop:=
 0<rs.length->∃b off,A=J ⟨b,off,Z⟩/\S b/\b<w.heap.size/\∀(i:Nat) (hi:i<rs.length) (k:Nat) (u:Au),rs[i].cells[k]?=J u->w.cell? ⟨b,off+i*7+k,Z⟩=J u
theorem RAtS.keep{xs:List Rd}(h:RAtS S w A xs)(hk:KeepB S w w'):RAtS S w' A xs:=fun h0=>by
 obtain⟨b,off,e,hs,hb,hc⟩:=h h0;exact⟨b,off,e,hs,LE hb hk.size,fun i hi k u hu=>qc hk hs (hc i hi k u hu)⟩
theorem RAtS.keepC{xs:List Rd}(h:RAtS S w A xs)(hk:KeepC S w w'):RAtS S w' A xs:=fun h0=>by
 obtain⟨b,off,e,hs,hb,hc⟩:=h h0;exact⟨b,off,e,hs,LE hb hk.size,fun i hi k u hu=>hk.cell _ _ _ hs (hc i hi k u hu)⟩
theorem RAtS.mono{xs:List Rd}(h:RAtS S w A xs)(hm:∀k,k<w.heap.size->S k->S' k):RAtS S' w A xs:=fun h0=>by
 obtain⟨b,off,e,hs,hb,hc⟩:=h h0;exact⟨b,off,e,hm b hb hs,hb,hc⟩
theorem RAtS.on{xs:List Rd}(h:RAtS S w A xs)(hb:Ao w.heap.size w w'):RAtS S w' A xs:=
 ((h.mono (S':=fun k=>S k/\k<w.heap.size) fun _ hk hs=>⟨hs,hk⟩).keep ⟨hb.size,fun k hk _=>hb.block k hk.2⟩).mono fun _ _ hs=>hs.1
theorem RAtS.rat{xs:List Rd}(h:RAtS S w A xs):RAt w w.heap.size A xs:=fun h0=>by
 obtain⟨b,off,e,hs,hb,hc⟩:=h h0;exact⟨b,off,e,hb,hc⟩
theorem RAtS.nil(S:Nat->Prop)(w:Ba)(A:Bb):RAtS S w A []:=fun h=>absurd h (by simp)
def LAtS(S:Nat->Prop)(w:Ba)(A:Bb)(xss:List (List Int)):Prop:=
 0<xss.length->∃b off,A=J ⟨b,off,Z⟩/\S b/\b<w.heap.size/\∀(i:Nat) (hi:i<xss.length),∃A' c,w.cell? ⟨b,off+i,Z⟩=J (I A' xss[i].length c)/\IAtS S w A' xss[i]
theorem LAtS.keep{xs:List (List Int)}(h:LAtS S w A xs)(hk:KeepB S w w'):LAtS S w' A xs:=fun h0=>by
 obtain⟨b,off,e,hs,hb,hc⟩:=h h0;refine⟨b,off,e,hs,LE hb hk.size,fun i hi=>?_⟩;obtain⟨A',c,h1,h2⟩:=hc i hi;exact⟨A',c,qc hk hs h1,h2.keep hk⟩
theorem LAtS.keepC{xs:List (List Int)}(h:LAtS S w A xs)(hk:KeepC S w w'):LAtS S w' A xs:=fun h0=>by
 obtain⟨b,off,e,hs,hb,hc⟩:=h h0;refine⟨b,off,e,hs,LE hb hk.size,fun i hi=>?_⟩;obtain⟨A',c,h1,h2⟩:=hc i hi;exact⟨A',c,hk.cell _ _ _ hs h1,h2.keepC hk⟩
theorem LAtS.mono{xs:List (List Int)}(h:LAtS S w A xs)(hm:∀k,k<w.heap.size->S k->S' k):LAtS S' w A xs:=fun h0=>by
 obtain⟨b,off,e,hs,hb,hc⟩:=h h0;refine⟨b,off,e,hm b hb hs,hb,fun i hi=>?_⟩;obtain⟨A',c,h1,h2⟩:=hc i hi;exact⟨A',c,h1,h2.mono hm⟩
theorem LAtS.on{xs:List (List Int)}(h:LAtS S w A xs)(hb:Ao w.heap.size w w'):LAtS S w' A xs:=
 ((h.mono (S':=fun k=>S k/\k<w.heap.size) fun _ hk hs=>⟨hs,hk⟩).keep ⟨hb.size,fun k hk _=>hb.block k hk.2⟩).mono fun _ _ hs=>hs.1
theorem LAtS.lat{xs:List (List Int)}(h:LAtS S w A xs):LAt w w.heap.size A xs:=fun h0=>by
 obtain⟨b,off,e,hs,hb,hc⟩:=h h0;refine⟨b,off,e,hb,fun i hi=>?_⟩;obtain⟨A',c,h1,h2⟩:=hc i hi;exact⟨A',c,h1,h2.iat⟩
theorem LAtS.of_lat{xs:List (List Int)}{B:Nat}(h:LAt w B A xs)(hB:B<=w.heap.size)(hS:∀k,k<B->S k):LAtS S w A xs:=fun h0=>by
 obtain⟨b,off,e,hb,hc⟩:=h h0;refine⟨b,off,e,hS b hb,by omega,fun i hi=>?_⟩;obtain⟨A',c,h1,h2⟩:=hc i hi;exact⟨A',c,h1,IAtS.of_iat h2 hB hS⟩
def MAtS(S:Nat->Prop)(w:Ba)(A:Bb)(ms:List Mv):Prop:=
 0<ms.length->∃b off,A=J ⟨b,off,Z⟩/\S b/\b<w.heap.size/\∀(i:Nat) (hi:i<ms.length) (k:Nat) (u:Au),ms[i].cells[k]?=J u->w.cell? ⟨b,off+i*8+k,Z⟩=J u
theorem MAtS.keep{xs:List Mv}(h:MAtS S w A xs)(hk:KeepB S w w'):MAtS S w' A xs:=fun h0=>by
 obtain⟨b,off,e,hs,hb,hc⟩:=h h0;exact⟨b,off,e,hs,LE hb hk.size,fun i hi k u hu=>qc hk hs (hc i hi k u hu)⟩
theorem MAtS.keepC{xs:List Mv}(h:MAtS S w A xs)(hk:KeepC S w w'):MAtS S w' A xs:=fun h0=>by
 obtain⟨b,off,e,hs,hb,hc⟩:=h h0;exact⟨b,off,e,hs,LE hb hk.size,fun i hi k u hu=>hk.cell _ _ _ hs (hc i hi k u hu)⟩
theorem MAtS.mono{xs:List Mv}(h:MAtS S w A xs)(hm:∀k,k<w.heap.size->S k->S' k):MAtS S' w A xs:=fun h0=>by
 obtain⟨b,off,e,hs,hb,hc⟩:=h h0;exact⟨b,off,e,hm b hb hs,hb,hc⟩
theorem MAtS.mat{xs:List Mv}(h:MAtS S w A xs):MAt w w.heap.size A xs:=fun h0=>by
 obtain⟨b,off,e,hs,hb,hc⟩:=h h0;exact⟨b,off,e,hb,hc⟩
theorem MAtS.of_mat{xs:List Mv}{B:Nat}(h:MAt w B A xs)(hB:B<=w.heap.size)(hS:∀k,k<B->S k):MAtS S w A xs:=fun h0=>by
 obtain⟨b,off,e,hb,hc⟩:=h h0;exact⟨b,off,e,hS b hb,by omega,hc⟩
end
structure Ct(α:Type) where
 K:Kd
 lies:(Nat->Prop)->Ba->List Au->α->Prop
structure CtOk{α:Type}(C:Ct α):Prop where
 len:∀ {S w cs x},C.lies S w cs x->cs.length=C.K.size
 one:∀ {S w cs x},C.lies S w cs x->∀u∈cs,u.oneCell'=Av
 keep:∀ {S w w' cs x},C.lies S w cs x->KeepB S w w'->C.lies S w' cs x
 keepC:∀ {S w w' cs x},C.lies S w cs x->KeepC S w w'->C.lies S w' cs x
 mono:∀ {S S' w cs x},C.lies S w cs x->(∀k,k<w.heap.size->S k->S' k)->C.lies S' w cs x
def OwnX{α:Type}(C:Ct α)(S:Nat->Prop)(w:Ba)(aa:Nat)(v:Au)(xs:List α):Prop:=
 ∃aD:List (List Au),aD.length=xs.length/\OwnR C.K w aa v xs.length aD.flatten/\∀(i:Nat) (h1:i<aD.length) (h2:i<xs.length),C.lies (fun k=>S k/\v.ownBlock≠J k) w aD[i] xs[i]
theorem uO{s:Nat}:∀(aD:List (List Au)) (_:∀c∈aD,c.length=s) (i:Nat) (hi:i<aD.length) (k:Nat),k<s->aD.flatten[i*s+k]?=aD[i][k]?
 | c::aD,h,0,hi,k,hk=>by
  have:=h c (by simp);rw[PS,LX (by omega)];simp
 | c::aD,h,i+1,hi,k,hk=>by
  have hc:=h c (by simp);have:=uO aD (fun d hd=>h d (by simp[hd])) i (by simpa using hi) k hk;rw[PS,LW (by rw[hc,Pz];omega),hc,show(i+1)*s+k-s=i*s+k by rw[Pz];omega,this]
  rfl
section
variable {α:Type} {C:Ct α} {S S':Nat->Prop} {w w':Ba} {aa:Nat} {v:Au} {xs:List α}
theorem OwnX.nil(C:Ct α)(S:Nat->Prop)(w:Ba)(aa:Nat):OwnX C S w aa (I Z 0 0) []:=⟨[],rfl,OwnR.nil _ _ _,fun i h1 _=>absurd h1 (by simp)⟩
theorem OwnX.lt(h:OwnX C S w aa v xs):∀k,v.ownBlock=J k->aa<=k/\k<w.heap.size:=by
 obtain⟨aD,_,h2,_⟩:=h;exact h2.lt
theorem OwnX.ne{b:Nat}(h:OwnX C S w aa v xs)(hb:b<aa):v.ownBlock≠J b:=fun e=>by
 have:=(h.lt b e).1;omega
theorem OwnX.kept(ok:CtOk C){row:Option Nat}(h:OwnX C S w aa v xs)(hg:w.grownBy w' row)(bt:v.ownBlock=Z\/v.ownBlock≠row)(hS:∀k,row=J k->¬S k\/v.ownBlock=J k):OwnX C S w' aa v xs:=by
 obtain⟨aD,hl,h2,h3⟩:=h;refine⟨aD,hl,h2.kept hg bt,fun i i1 i2=>ok.keep (h3 i i1 i2) (KeepB.of_grown hg fun k hk hs=>?_)⟩;rcases hS k hk with h | h
 . exact h hs.1
 exact hs.2 h
theorem OwnX.keep(ok:CtOk C)(h:OwnX C S w aa v xs)(hk:KeepB S w w')(hv:∀k,v.ownBlock=J k->w'.heap[k]?=w.heap[k]?):OwnX C S w' aa v xs:=by
 obtain⟨aD,hl,h2,h3⟩:=h;refine⟨aD,hl,?_,fun i i1 i2=>ok.keep (h3 i i1 i2) (hk.mono fun k hk=>hk.1)⟩;refine⟨h2.1,?_⟩;rcases h2.2 with hn | ⟨g,cap,cur,nQ,hb,hg,rest⟩
 . exact .inl hn
 exact .inr ⟨g,cap,cur,nQ,hb,(hv g (by rw[nQ];rfl)).trans hg,rest⟩
theorem OwnX.turn(ok:CtOk C)(h:OwnX C S w aa v xs)(hs:w.heap.size<=w'.heap.size)(hc:∀(k:Nat) (o:Obj),w.heap[k]?=J o->o.isCells=Av->w'.heap[k]?=J o):OwnX C S w' aa v xs:=by
 obtain⟨aD,hl,h2,h3⟩:=h;refine⟨aD,hl,?_,fun i i1 i2=>ok.keepC (h3 i i1 i2) (KeepC.of_cells _ hs hc)⟩;refine⟨h2.1,?_⟩;rcases h2.2 with hn | ⟨g,cap,cur,nQ,hb,hg,rest⟩
 . exact .inl hn
 exact .inr ⟨g,cap,cur,nQ,hb,hc g _ hg rfl,rest⟩
theorem OwnX.below(ok:CtOk C){B:Nat}(h:OwnX C S w aa v xs)(hb:Ao B w w')(hB:w.heap.size<=B):OwnX C S w' aa v xs:=
 h.keep ok ⟨hb.size,fun k _ hk=>hb.block k (by omega)⟩ (fun k hk=>hb.block k (by have:=(h.lt k hk).2;omega))
theorem OwnX.mono(ok:CtOk C)(h:OwnX C S w aa v xs)(hm:∀k,k<w.heap.size->S k->S' k):OwnX C S' w aa v xs:=by
 obtain⟨aD,hl,h2,h3⟩:=h;exact⟨aD,hl,h2,fun i i1 i2=>ok.mono (h3 i i1 i2) fun k hk hs=>⟨hm k hk hs.1,hs.2⟩⟩
theorem OwnX.low{base':Nat}(h:OwnX C S w aa v xs)(hb:base'<=aa):OwnX C S w base' v xs:=by
 obtain⟨aD,hl,h2,h3⟩:=h;exact⟨aD,hl,h2.low hb,h3⟩
theorem OwnX.app(ok:CtOk C){g' cap:Nat}{aD:List (List Au)}{x:α}{cs:List Au}(hl:aD.length=xs.length)(h3:∀(i:Nat) (h1:i<aD.length) (h2:i<xs.length),C.lies (fun k=>S k/\v.ownBlock≠J k) w aD[i] xs[i])
  (hx:C.lies (fun k=>S k/\v.ownBlock≠J k) w cs x) (hr:OwnR C.K w' aa (I (J ⟨g',0,Z⟩) (xs.length+1) cap) (xs.length+1) (aD.flatten++cs)) (hg:w.grownBy w' v.ownBlock) (bz:v.ownBlock=J g'\/g'=w.heap.size) :
  OwnX C S w' aa (I (J ⟨g',0,Z⟩) (xs.length+1) cap) (xs++[x]):=by
 have go:∀ {cs x},C.lies (fun k=>S k/\v.ownBlock≠J k) w cs x->C.lies (fun k=>S k/\(I (J ⟨g',0,Z⟩) (xs.length+1) cap).ownBlock≠J k) w' cs x:=fun h=>by
  have h1:=ok.mono (S':=fun k=>S k/\v.ownBlock≠J k/\g'≠k) h fun k hk hs=>⟨hs.1,hs.2,by
   rcases bz with e | e
   . rintro rfl;exact hs.2 e
   . omega⟩
  have h2:=ok.keep h1 (KeepB.of_grown hg fun k hk hs=>hs.2.1 hk);exact ok.mono h2 fun k _ hs=>⟨hs.1,fun e=>hs.2.2 (by simpa[Value.ownBlock] using e)⟩
 refine⟨aD++[cs],by simp[hl],by simpa using hr,fun i i1 i2=>?_⟩
 by_cases hi:i<aD.length
 . have h2:i<xs.length:=by omega
   rw[PW hi,PW h2];exact go (h3 i hi h2)
 have e1:i=aD.length:=by simp at i1;omega
 subst e1;rw[PJ (Lh _),PJ (by omega)];simpa[hl] using go hx
theorem OwnX.form(ok:CtOk C)(h:OwnX C S w aa v xs):∃A cap,v=I A xs.length cap/\xs.length<=cap/\cap<=maxLen/\(0<xs.length->∃g,A=J ⟨g,0,Z⟩/\aa<=g/\g<w.heap.size /\
  ∀(i:Nat) (h2:i<xs.length),∃cs,C.lies (fun k=>S k/\k≠g) w cs xs[i]/\∀j u,cs[j]?=J u->w.cell? ⟨g,i*C.K.size+j,Z⟩=J u):=by
 obtain⟨aD,hl,h2,h3⟩:=h;have ac:=h2.lt;obtain⟨A,cap,rfl,hc,hm,hr⟩:=h2.form;refine⟨A,cap,rfl,hc,hm,fun h0=>?_⟩;obtain⟨g,rfl,hg,cJ,bh⟩:=hr h0;refine⟨g,rfl,(ac g hg).1,cJ,fun i hi=>?_⟩;have ID:i<aD.length:=by omega
 refine⟨aD[i],ok.mono (h3 i ID hi) fun k _ hs=>⟨hs.1,fun e=>hs.2 (by rw[hg,e])⟩,fun j u hu=>?_⟩
 have bq:∀c∈aD,c.length=C.K.size:=fun c hc=>by
  obtain⟨m,hm,rfl⟩:=LU hc;exact ok.len (h3 m hm (by omega))
 have bg:j<C.K.size:=by
  have:=(Lo.1 hu).1;rw[bq _ (Ld ID)] at this;exact this
 exact bh _ u (by rw[uO aD bq i ID j bg];exact hu)
end
end
section
open Go.RowKit
def Own(w:Ba)(aa:Nat)(v:Au)(xs:List Int):Prop:=w.ownsRow aa 3 1 v xs.length (xs.map (O U))
theorem Own.nil(w:Ba)(aa:Nat):Own w aa (I Z 0 0) []:=PK w aa _ 1
theorem Own.kept{w w':Ba}{aa:Nat}{v:Au}{xs:List Int}{row:Option Nat}(h:Own w aa v xs)(hg:w.grownBy w' row)(bt:v.ownBlock=Z\/v.ownBlock≠row):Own w' aa v xs:=Pj h hg bt
theorem Own.alloc{w:Ba}{aa:Nat}{v:Au}{xs:List Int}(h:Own w aa v xs)(o:Obj):Own (w.alloc o) aa v xs:=Pf h o
theorem Own.shut{w w':Ba}{aa B:Nat}{v:Au}{xs:List Int}(h:Own w aa v xs)(hs:Shut B w w'):Own w' aa v xs:=hs.own h
theorem Own.form{w:Ba}{aa:Nat}{v:Au}{xs:List Int}(h:Own w aa v xs):∃A cap,v=I A xs.length cap/\xs.length<=cap/\cap<=maxLen/\IAt w w.heap.size A xs:=by
 rcases h.2 with ⟨rfl,h0⟩ | ⟨g,cap,cur,rfl,_,_,du,iV,_⟩
 . have:xs=[]:=LC h0
   subst this;exact⟨Z,0,rfl,Lh _,Nu _,IAt.nil _ _ _⟩
 exact⟨_,_,rfl,du,iV,IAt.of_own h⟩
theorem Own.low{w:Ba}{aa base':Nat}{v:Au}{xs:List Int}(h:Own w aa v xs)(hb:base'<=aa):Own w base' v xs:=by
 refine⟨h.1,?_⟩;rcases h.2 with h2 | ⟨g,cap,cur,hv,hg,r⟩
 . exact Or.inl h2
 exact Or.inr ⟨g,cap,cur,hv,by omega,r⟩
theorem Own.lt{w:Ba}{aa:Nat}{v:Au}{xs:List Int}(h:Own w aa v xs):∀k,v.ownBlock=J k->aa<=k/\k<w.heap.size:=PY h
theorem wR:(An.info? 3).map (fun i=>(i.zero,i.size,i.bytes))=J (J (O U 0),1,8):=by kernel_rfl
theorem yV{w w':Ba}{o:Obj}{row:Option Nat}(h:(w.alloc o).grownBy w' row):w.grownBy w' row:=
 ⟨h.os,h.tape,h.output,Lx (by simp) h.size,fun k hk bt=>(h.block k (by simp;omega) bt).trans (NZ w o k hk)⟩
theorem kh{ak:Array Oper}{rest:List Oper}{o:Oper}{a:Act}{Q:Exit->Act->Ba->Prop}{W:Ba}(dZ:o.guard=Z)(s x:Operand)
  (sC:o.op=.call { callee:=.builtin .append,args:=#[s,x],argTypes:=#[49,49] }) (aa:Nat) (v:Au) (xs:List Int) (u:Int) (hs:a.eval s=v) (an:Own W aa v xs)
  (hx:a.eval x=I (J ⟨W.heap.size,0,Z⟩) 1 1) (aO:xs.length<8796093022208) (hb:aa<=W.heap.size)
  (h:∀v' w1,Own w1 aa v' (xs++[u])->W.grownBy w1 v.ownBlock->Ao aa W w1->wpList An ak Q rest (a.put o.dst v') w1) :
  wpList An ak Q (o::rest) a (W.alloc (Ah #[O U u] 3)):=by
 obtain⟨i0,hi,cH,bS,cp⟩:=PD wR
 refine NS _ dZ s x 49 sC aa 3 i0 (O U 0) 1 8 Nt hi cH bS cp rfl (by decide) v xs.length _ hs (Pf an _) ⟨W.heap.size,0,Z⟩ 1 1 [O U u] hx rfl (cell_one_new _ _ _)
  (by simp[Value.oneCell']) (by unfold maxLen;omega) (by omega) (by simp;omega) ?_
 intro v' w1 bN aJ _;have hg:=yV aJ;refine h v' w1 ?_ hg ((Lp aa W).grown hg hb fun k hk=>(an.lt k hk).1);unfold Own;rw[Lq,LI];exact bN
theorem jb{F:Fence}{n:Nat}{ak:Array Oper}{rest:List Oper}{o:Oper}{a:Act}{Q:Exit->Act->Ba->Prop}{W:Ba}(dZ:o.guard=Z)(s x:Operand)
  (sC:o.op=.call { callee:=.builtin .append,args:=#[s,x],argTypes:=#[49,49] }) (aa:Nat) (v:Au) (xs:List Int) (u:Int) (hs:a.eval s=v) (an:Own W aa v xs)
  (hx:a.eval x=I (J ⟨W.heap.size,0,Z⟩) 1 1) (aO:xs.length<8796093022208) (hb:aa<=W.heap.size)
  (h:∀v' w1,Own w1 aa v' (xs++[u])->W.grownBy w1 v.ownBlock->Ao aa W w1->wpListIn F n An ak Q rest (a.put o.dst v') w1) :
  wpListIn F n An ak Q (o::rest) a (W.alloc (Ah #[O U u] 3)):=by
 obtain⟨i0,hi,cH,bS,cp⟩:=PD wR
 refine wpListIn_append_own _ dZ s x 49 sC aa 3 i0 (O U 0) 1 8 Nt hi cH bS cp rfl (by decide) v xs.length _ hs (Pf an _) ⟨W.heap.size,0,Z⟩ 1 1 [O U u] hx rfl (cell_one_new _ _ _)
  (by simp[Value.oneCell']) (by unfold maxLen;omega) (by omega) (by simp;omega) ?_
 intro v' w1 bN aJ _;have hg:=yV aJ;refine h v' w1 ?_ hg ((Lp aa W).grown hg hb fun k hk=>(an.lt k hk).1);unfold Own;rw[Lq,LI];exact bN
theorem IAt.up{w w':Ba}{A:Bb}{xs:List Int}(h:IAt w w.heap.size A xs)(hb:Ao w.heap.size w w'):IAt w' w'.heap.size A xs:=(h.keep hb).more hb.size
theorem IAt.box(w:Ba)(x:Int)(t:TypeId):IAt (w.alloc (Ah #[O U x] t)) (w.alloc (Ah #[O U x] t)).heap.size (J ⟨w.heap.size,0,Z⟩) [x]:=fun _=>
 ⟨w.heap.size,0,rfl,by simp,fun i hi=>by
  have:i=0:=by simp at hi;omega
  subst this
  exact za (zh w _) 0 rfl⟩
def Jh(xs:List Int)(w:Ba)(e:Ending)(w':Ba):Prop:=∃v,e=Am v/\Own w' w.heap.size v xs/\Ao w.heap.size w w'
def kRd:Kd:=⟨75,39,7,56,Aj #[O U 0,O U 0,O U 0,O U 0,O U 0,O U 0,O U 0]⟩
theorem ZS:KdOk An kRd:=⟨PN,by kernel_rfl,by rfl,by decide,by decide⟩
def kMv:Kd:=⟨121,119,8,64,Aj #[O U 0,O U 0,O U 0,O U 0,O U 0,O U 0,O U 0,O U 0]⟩
theorem kMv_ok:KdOk An kMv:=⟨PF,by kernel_rfl,by rfl,by decide,by decide⟩
def kWd:Kd:=⟨39,104,1,24,I Z 0 0⟩
theorem X7:KdOk An kWd:=⟨underlying104,by kernel_rfl,by rfl,by decide,by decide⟩
def kIs:Kd:=⟨49,40,1,24,I Z 0 0⟩
theorem X8:KdOk An kIs:=⟨underlying40,by kernel_rfl,by rfl,by decide,by decide⟩
def kMl:Kd:=⟨119,25,1,24,I Z 0 0⟩
theorem kMl_ok:KdOk An kMl:=⟨PQ,by kernel_rfl,by rfl,by decide,by decide⟩
def kCs:Kd:=⟨118,22,3,72,Aj #[I Z 0 0,I Z 0 0,I Z 0 0]⟩
theorem kCs_ok:KdOk An kCs:=⟨PR,by kernel_rfl,by rfl,by decide,by decide⟩
def kXn:Kd:=⟨42,34,3,56,Aj #[O U 0,I Z 0 0,I Z 0 0]⟩
theorem kXn_ok:KdOk An kXn:=⟨underlying34,by kernel_rfl,by rfl,by decide,by decide⟩
def kIn:Kd:=⟨3,49,1,8,O U 0⟩
theorem wQ:KdOk An kIn:=⟨Nt,by kernel_rfl,by rfl,by decide,by decide⟩
def kVw:Kd:=⟨100,31,8,64,Aj #[O U 0,O U 0,O U 0,O U 0,O U 0,O U 0,O U 0,O U 0]⟩
theorem kVw_ok:KdOk An kVw:=⟨PO,by kernel_rfl,by rfl,by decide,by decide⟩
def RetR(K:Kd)(n:Nat)(cs:List Au)(w:Ba)(e:Ending)(w':Ba):Prop:=∃v,e=Am v/\OwnR K w' w.heap.size v n cs/\Ao w.heap.size w w'
theorem Zo(A:Bb)(n cap:Nat)(cs:List Au)(w:Ba)(hl:cs.length=n*7)(hA:Raw w A n cs)(h1:∀u∈cs,u.oneCell'=Av)(hn:n<=1000000) :
  Ap An 52 #[I A n cap] w (RetR kRd n cs w):=by
 have HT:=zH hA;have H1:=zH h1;have HL:=zH hl;have q:∀(w:Ba) (a:Bb) (n c n' c':Nat),(binOp .eql 39 (I a n c) (I Z n' c')).run An w=.ok (Ai a.isNone) w:=fun w a n c n' c'=>NQ w _ _ a n c n' c' PN
 obtain⟨i0,hi,cH,bS,cp⟩:=yF ZS
 cases A with
 | none=>
  have ly:n=0:=by
   rcases L9 n with h | h
   . exact h
   . obtain⟨b,off,e,_⟩:=HT.out h;cases e
  subst ly;have bq:cs=[]:=LC (by have:=HL.out;omega);subst bq;go_enter func52,ntmps52;go_wp2;go_ret;exact⟨_,rfl,OwnR.nil _ _ _,Lp _ _⟩
 | some ad=>
  have HC:As (∀(j:Nat) (u:Au),cs[j]?=J u->(w.alloc (Ah #[] 75)).cell? (ad.add j)=J u):=fun j u hj=>by
   have bg:j<n*7:=by rw[<-HL.out];exact(Lo.1 hj).1
   obtain⟨b,off,e,ac,hc⟩:=HT.out (by omega)
   cases e
   rw[N5];exact NV _ (hc j u hj)
  go_enter func52,ntmps52;go_wp2_with (at_builtin;refine NS _ rfl _ _ 39 rfl w.heap.size 75 i0 _ 7 56 PN hi cH bS cp rfl (by decide) _ _ _ rfl (N2 w #[] 0 (Lh _) (Nu _) rfl) ad n cap cs rfl HL.out HC.out H1.out ?qc4 ?qc5 ?qc6 ?_)
  case qc4=>unfold maxLen;omega
  case qc5=>omega
  case qc6=>simp
  intro v' w1 an aJ ic;go_wp2;go_ret;refine⟨v',rfl,an,?_⟩;exact((Lp _ w).alloc (Lh _) _).grown aJ (by simp) (by intro k hk;simp[Value.ownBlock] at hk;omega)
theorem clone_kCs(A:Bb)(n cap:Nat)(cs:List Au)(w:Ba)(hl:cs.length=n*3)(hA:Raw w A n cs)(h1:∀u∈cs,u.oneCell'=Av)(hn:n<=1000000) :
  Ap An 83 #[I A n cap] w (RetR kCs n cs w):=by
 have HT:=zH hA;have H1:=zH h1;have HL:=zH hl;have q:∀(w:Ba) (a:Bb) (n c n' c':Nat),(binOp .eql 22 (I a n c) (I Z n' c')).run An w=.ok (Ai a.isNone) w:=fun w a n c n' c'=>NQ w _ _ a n c n' c' PR
 obtain⟨i0,hi,cH,bS,cp⟩:=yF kCs_ok
 cases A with
 | none=>
  have ly:n=0:=by
   rcases L9 n with h | h
   . exact h
   . obtain⟨b,off,e,_⟩:=HT.out h;cases e
  subst ly;have bq:cs=[]:=LC (by have:=HL.out;omega);subst bq;go_enter func83,ntmps83;go_wp2;go_ret;exact⟨_,rfl,OwnR.nil _ _ _,Lp _ _⟩
 | some ad=>
  have HC:As (∀(j:Nat) (u:Au),cs[j]?=J u->(w.alloc (Ah #[] 118)).cell? (ad.add j)=J u):=fun j u hj=>by
   have bg:j<n*3:=by rw[<-HL.out];exact(Lo.1 hj).1
   obtain⟨b,off,e,ac,hc⟩:=HT.out (by omega)
   cases e
   rw[N5];exact NV _ (hc j u hj)
  go_enter func83,ntmps83;go_wp2_with (at_builtin;refine NS _ rfl _ _ 22 rfl w.heap.size 118 i0 _ 3 72 PR hi cH bS cp rfl (by decide) _ _ _ rfl (N2 w #[] 0 (Lh _) (Nu _) rfl) ad n cap cs rfl HL.out HC.out H1.out ?qc4 ?qc5 ?qc6 ?_)
  case qc4=>unfold maxLen;omega
  case qc5=>omega
  case qc6=>simp
  intro v' w1 an aJ ic;go_wp2;go_ret;refine⟨v',rfl,an,?_⟩;exact((Lp _ w).alloc (Lh _) _).grown aJ (by simp) (by intro k hk;simp[Value.ownBlock] at hk;omega)
theorem clone_kMv(A:Bb)(n cap:Nat)(cs:List Au)(w:Ba)(hl:cs.length=n*8)(hA:Raw w A n cs)(h1:∀u∈cs,u.oneCell'=Av)(hn:n<=1000000) :
  Ap An 86 #[I A n cap] w (RetR kMv n cs w):=by
 have HT:=zH hA;have H1:=zH h1;have HL:=zH hl;have q:∀(w:Ba) (a:Bb) (n c n' c':Nat),(binOp .eql 119 (I a n c) (I Z n' c')).run An w=.ok (Ai a.isNone) w:=fun w a n c n' c'=>NQ w _ _ a n c n' c' PF
 obtain⟨i0,hi,cH,bS,cp⟩:=yF kMv_ok
 cases A with
 | none=>
  have ly:n=0:=by
   rcases L9 n with h | h
   . exact h
   . obtain⟨b,off,e,_⟩:=HT.out h;cases e
  subst ly;have bq:cs=[]:=LC (by have:=HL.out;omega);subst bq;go_enter func86,ntmps86;go_wp2;go_ret;exact⟨_,rfl,OwnR.nil _ _ _,Lp _ _⟩
 | some ad=>
  have HC:As (∀(j:Nat) (u:Au),cs[j]?=J u->(w.alloc (Ah #[] 121)).cell? (ad.add j)=J u):=fun j u hj=>by
   have bg:j<n*8:=by rw[<-HL.out];exact(Lo.1 hj).1
   obtain⟨b,off,e,ac,hc⟩:=HT.out (by omega)
   cases e
   rw[N5];exact NV _ (hc j u hj)
  go_enter func86,ntmps86;go_wp2_with (at_builtin;refine NS _ rfl _ _ 119 rfl w.heap.size 121 i0 _ 8 64 PF hi cH bS cp rfl (by decide) _ _ _ rfl (N2 w #[] 0 (Lh _) (Nu _) rfl) ad n cap cs rfl HL.out HC.out H1.out ?qc4 ?qc5 ?qc6 ?_)
  case qc4=>unfold maxLen;omega
  case qc5=>omega
  case qc6=>simp
  intro v' w1 an aJ ic;go_wp2;go_ret;refine⟨v',rfl,an,?_⟩;exact((Lp _ w).alloc (Lh _) _).grown aJ (by simp) (by intro k hk;simp[Value.ownBlock] at hk;omega)
theorem clone_kMl(A:Bb)(n cap:Nat)(cs:List Au)(w:Ba)(hl:cs.length=n*1)(hA:Raw w A n cs)(h1:∀u∈cs,u.oneCell'=Av)(hn:n<=1000000) :
  Ap An 85 #[I A n cap] w (RetR kMl n cs w):=by
 have HT:=zH hA;have H1:=zH h1;have HL:=zH hl;have q:∀(w:Ba) (a:Bb) (n c n' c':Nat),(binOp .eql 25 (I a n c) (I Z n' c')).run An w=.ok (Ai a.isNone) w:=fun w a n c n' c'=>NQ w _ _ a n c n' c' PQ
 obtain⟨i0,hi,cH,bS,cp⟩:=yF kMl_ok
 cases A with
 | none=>
  have ly:n=0:=by
   rcases L9 n with h | h
   . exact h
   . obtain⟨b,off,e,_⟩:=HT.out h;cases e
  subst ly;have bq:cs=[]:=LC (by have:=HL.out;omega);subst bq;go_enter func85,ntmps85;go_wp2;go_ret;exact⟨_,rfl,OwnR.nil _ _ _,Lp _ _⟩
 | some ad=>
  have HC:As (∀(j:Nat) (u:Au),cs[j]?=J u->(w.alloc (Ah #[] 119)).cell? (ad.add j)=J u):=fun j u hj=>by
   have bg:j<n*1:=by rw[<-HL.out];exact(Lo.1 hj).1
   obtain⟨b,off,e,ac,hc⟩:=HT.out (by omega)
   cases e
   rw[N5];exact NV _ (hc j u hj)
  go_enter func85,ntmps85;go_wp2_with (at_builtin;refine NS _ rfl _ _ 25 rfl w.heap.size 119 i0 _ 1 24 PQ hi cH bS cp rfl (by decide) _ _ _ rfl (N2 w #[] 0 (Lh _) (Nu _) rfl) ad n cap cs rfl HL.out HC.out H1.out ?qc4 ?qc5 ?qc6 ?_)
  case qc4=>unfold maxLen;omega
  case qc5=>omega
  case qc6=>simp
  intro v' w1 an aJ ic;go_wp2;go_ret;refine⟨v',rfl,an,?_⟩;exact((Lp _ w).alloc (Lh _) _).grown aJ (by simp) (by intro k hk;simp[Value.ownBlock] at hk;omega)
theorem clone_kIn(A:Bb)(n cap:Nat)(cs:List Au)(w:Ba)(hl:cs.length=n*1)(hA:Raw w A n cs)(h1:∀u∈cs,u.oneCell'=Av)(hn:n<=1000000) :
  Ap An 66 #[I A n cap] w (RetR kIn n cs w):=by
 have HT:=zH hA;have H1:=zH h1;have HL:=zH hl;have q:∀(w:Ba) (a:Bb) (n c n' c':Nat),(binOp .eql 49 (I a n c) (I Z n' c')).run An w=.ok (Ai a.isNone) w:=fun w a n c n' c'=>NQ w _ _ a n c n' c' Nt
 obtain⟨i0,hi,cH,bS,cp⟩:=yF wQ
 cases A with
 | none=>
  have ly:n=0:=by
   rcases L9 n with h | h
   . exact h
   . obtain⟨b,off,e,_⟩:=HT.out h;cases e
  subst ly;have bq:cs=[]:=LC (by have:=HL.out;omega);subst bq;go_enter RJ,Rv;go_wp2;go_ret;exact⟨_,rfl,OwnR.nil _ _ _,Lp _ _⟩
 | some ad=>
  have HC:As (∀(j:Nat) (u:Au),cs[j]?=J u->(w.alloc (Ah #[] 3)).cell? (ad.add j)=J u):=fun j u hj=>by
   have bg:j<n*1:=by rw[<-HL.out];exact(Lo.1 hj).1
   obtain⟨b,off,e,ac,hc⟩:=HT.out (by omega)
   cases e
   rw[N5];exact NV _ (hc j u hj)
  go_enter RJ,Rv;go_wp2_with (at_builtin;refine NS _ rfl _ _ 49 rfl w.heap.size 3 i0 _ 1 8 Nt hi cH bS cp rfl (by decide) _ _ _ rfl (N2 w #[] 0 (Lh _) (Nu _) rfl) ad n cap cs rfl HL.out HC.out H1.out ?qc4 ?qc5 ?qc6 ?_)
  case qc4=>unfold maxLen;omega
  case qc5=>omega
  case qc6=>simp
  intro v' w1 an aJ ic;go_wp2;go_ret;refine⟨v',rfl,an,?_⟩;exact((Lp _ w).alloc (Lh _) _).grown aJ (by simp) (by intro k hk;simp[Value.ownBlock] at hk;omega)
end
section
open Go.RowKit
def yj(vs:List Rd):List Au:=vs.flatMap fun x=>x.cells.toList
theorem jk(vs us:List Rd):yj (vs++us)=yj vs++yj us:=by simp[yj]
theorem xf(vs:List Rd):(yj vs).length=vs.length*7:=by
 induction vs with
 | nil=>rfl
 | cons v vs ih=>simp only[yj,List.flatMap_cons,List.length_append,List.length_cons] at *;rw[ih];simp[Rd.cells];omega
theorem vp:∀(vs:List Rd) (i:Nat) (hi:i<vs.length) (k:Nat),k<7->(yj vs)[i*7+k]?=vs[i].cells[k]?
 | v::vs,0,hi,k,hk=>by
  simp only[yj,List.flatMap_cons,List.getElem_cons_zero,Nat.zero_mul,Nat.zero_add];rw[LX (by simp[Rd.cells];omega)];simp
 | v::vs,i+1,hi,k,hk=>by
  have:=vp vs i (by simpa using hi) k hk;simp only[yj,List.flatMap_cons,List.getElem_cons_succ] at *;rw[LW (by simp[Rd.cells];omega),<-this]
  congr 1
  simp[Rd.cells];omega
theorem jA(vs:List Rd):∀u∈yj vs,u.oneCell'=Av:=by
 intro u hu;obtain⟨v,_,hv⟩:=LR.1 hu;simp only[Rd.cells,List.mem_cons,List.not_mem_nil,or_false] at hv;rcases hv with rfl | rfl | rfl | rfl | rfl | rfl | rfl<;>rfl
theorem wD{w:Ba}{A:Bb}{vs:List Rd}(h:RAt w w.heap.size A vs):Raw w A vs.length (yj vs):=fun h0=>by
 obtain⟨b,off,e,ac,hc⟩:=h h0;refine⟨b,off,e,ac,fun j u hj=>?_⟩;have P':j<vs.length*7:=by have:=(Lo.1 hj).1;rwa[xf] at this
 have dq:j / 7<vs.length:=by omega
 have h8:j / 7*7+j % 7=j:=by omega
 rw[<-h8,vp vs (j / 7) dq (j % 7) (by omega)] at hj;have:=hc (j / 7) dq (j % 7) u hj;rwa[Pv,h8] at this
theorem jz{w:Ba}{aa:Nat}{v:Au}{vs:List Rd}(h:OwnR kRd w aa v vs.length (yj vs)):∃A cap,v=I A vs.length cap/\vs.length<=cap/\cap<=maxLen/\RAtS (fun k=>aa<=k) w A vs:=by
 have ac:=h.lt;obtain⟨A,cap,rfl,hc,hm,hr⟩:=h.form;refine⟨A,cap,rfl,hc,hm,fun h0=>?_⟩;obtain⟨g,rfl,hg,cJ,bh⟩:=hr h0;refine⟨g,0,rfl,(ac g hg).1,cJ,fun i hi k u hu=>?_⟩;have hk:k<7:=by have:=(Li.1 hu).1;simpa[Rd.cells] using this
 rw[LM];exact bh _ u (by rw[vp vs i hi k hk];exact hu)
def qA(vs:List Mv):List Au:=vs.flatMap fun x=>x.cells.toList
theorem jn(vs:List Mv):(qA vs).length=vs.length*8:=by
 induction vs with
 | nil=>rfl
 | cons v vs ih=>simp only[qA,List.flatMap_cons,List.length_append,List.length_cons] at *;rw[ih];simp[Mv.cells];omega
theorem vC:∀(vs:List Mv) (i:Nat) (hi:i<vs.length) (k:Nat),k<8->(qA vs)[i*8+k]?=vs[i].cells[k]?
 | v::vs,0,hi,k,hk=>by
  simp only[qA,List.flatMap_cons,List.getElem_cons_zero,Nat.zero_mul,Nat.zero_add];rw[LX (by simp[Mv.cells];omega)];simp
 | v::vs,i+1,hi,k,hk=>by
  have:=vC vs i (by simpa using hi) k hk;simp only[qA,List.flatMap_cons,List.getElem_cons_succ] at *;rw[LW (by simp[Mv.cells];omega),<-this]
  congr 1
  simp[Mv.cells];omega
theorem XL(vs:List Mv):∀u∈qA vs,u.oneCell'=Av:=by
 intro u hu;obtain⟨v,_,hv⟩:=LR.1 hu;simp only[Mv.cells,List.mem_cons,List.not_mem_nil,or_false] at hv;rcases hv with rfl | rfl | rfl | rfl | rfl | rfl | rfl | rfl<;>rfl
theorem XI{w:Ba}{A:Bb}{vs:List Mv}(h:MAt w w.heap.size A vs):Raw w A vs.length (qA vs):=fun h0=>by
 obtain⟨b,off,e,ac,hc⟩:=h h0;refine⟨b,off,e,ac,fun j u hj=>?_⟩;have P':j<vs.length*8:=by have:=(Lo.1 hj).1;rwa[jn] at this
 have dq:j / 8<vs.length:=by omega
 have h8:j / 8*8+j % 8=j:=by omega
 rw[<-h8,vC vs (j / 8) dq (j % 8) (by omega)] at hj;have:=hc (j / 8) dq (j % 8) u hj;rwa[Pv,h8] at this
theorem XJ{w:Ba}{aa:Nat}{v:Au}{vs:List Mv}(h:OwnR kMv w aa v vs.length (qA vs)):∃A cap,v=I A vs.length cap/\vs.length<=cap/\cap<=maxLen/\MAtS (fun k=>aa<=k) w A vs:=by
 have ac:=h.lt;obtain⟨A,cap,rfl,hc,hm,hr⟩:=h.form;refine⟨A,cap,rfl,hc,hm,fun h0=>?_⟩;obtain⟨g,rfl,hg,cJ,bh⟩:=hr h0;refine⟨g,0,rfl,(ac g hg).1,cJ,fun i hi k u hu=>?_⟩;have hk:k<8:=by have:=(Li.1 hu).1;simpa[Mv.cells] using this
 rw[LM];exact bh _ u (by rw[vC vs i hi k hk];exact hu)
def cIs:Ct (List Int):=⟨kIs,fun S w cs xs=>∃A c,cs=[I A xs.length c]/\IAtS S w A xs⟩
theorem yx:CtOk cIs where
 len:=fun ⟨A,c,e,_⟩=>by rw[e];rfl
 one:=fun ⟨A,c,e,_⟩ u hu=>by rw[e] at hu;simp at hu;subst hu;rfl
 keep:=fun ⟨A,c,e,h⟩ hk=>⟨A,c,e,h.keep hk⟩
 keepC:=fun ⟨A,c,e,h⟩ hk=>⟨A,c,e,h.keepC hk⟩
 mono:=fun ⟨A,c,e,h⟩ hm=>⟨A,c,e,h.mono hm⟩
def cWd:Ct (List Rd):=⟨kWd,fun S w cs xs=>∃A c,cs=[I A xs.length c]/\RAtS S w A xs/\xs.length<=c⟩
theorem xL:CtOk cWd where
 len:=fun ⟨A,c,e,_⟩=>by rw[e];rfl
 one:=fun ⟨A,c,e,_⟩ u hu=>by rw[e] at hu;simp at hu;subst hu;rfl
 keep:=fun ⟨A,c,e,h,hc⟩ hk=>⟨A,c,e,h.keep hk,hc⟩
 keepC:=fun ⟨A,c,e,h,hc⟩ hk=>⟨A,c,e,h.keepC hk,hc⟩
 mono:=fun ⟨A,c,e,h,hc⟩ hm=>⟨A,c,e,h.mono hm,hc⟩
def cMl:Ct (List Mv):=⟨kMl,fun S w cs xs=>∃A c,cs=[I A xs.length c]/\MAtS S w A xs⟩
theorem qo:CtOk cMl where
 len:=fun ⟨A,c,e,_⟩=>by rw[e];rfl
 one:=fun ⟨A,c,e,_⟩ u hu=>by rw[e] at hu;simp at hu;subst hu;rfl
 keep:=fun ⟨A,c,e,h⟩ hk=>⟨A,c,e,h.keep hk⟩
 keepC:=fun ⟨A,c,e,h⟩ hk=>⟨A,c,e,h.keepC hk⟩
 mono:=fun ⟨A,c,e,h⟩ hm=>⟨A,c,e,h.mono hm⟩
def cCs:Ct Cs:=⟨kCs,fun S w cs x=>∃A0 c0 A1 c1 A2 c2,cs=[I A0 x.inp.length c0,I A1 x.out.length c1,I A2 x.calm.length c2]/\IAtS S w A0 x.inp/\LAtS S w A1 x.out/\LAtS S w A2 x.calm⟩
theorem xC:CtOk cCs where
 len:=fun ⟨A0,c0,A1,c1,A2,c2,e,_⟩=>by rw[e];rfl
 one:=fun ⟨A0,c0,A1,c1,A2,c2,e,_⟩ u hu=>by rw[e] at hu;simp at hu;rcases hu with rfl | rfl | rfl<;>rfl
 keep:=fun ⟨A0,c0,A1,c1,A2,c2,e,h0,h1,h2⟩ hk=>⟨A0,c0,A1,c1,A2,c2,e,h0.keep hk,h1.keep hk,h2.keep hk⟩
 keepC:=fun ⟨A0,c0,A1,c1,A2,c2,e,h0,h1,h2⟩ hk=>⟨A0,c0,A1,c1,A2,c2,e,h0.keepC hk,h1.keepC hk,h2.keepC hk⟩
 mono:=fun ⟨A0,c0,A1,c1,A2,c2,e,h0,h1,h2⟩ hm=>⟨A0,c0,A1,c1,A2,c2,e,h0.mono hm,h1.mono hm,h2.mono hm⟩
section
variable {S:Nat->Prop} {w:Ba} {aa:Nat} {v:Au}
theorem gu{xs:List (List Rd)}(h:OwnX cWd S w aa v xs):∃A cap,v=I A xs.length cap/\xs.length<=cap/\cap<=maxLen/\WAt w w.heap.size A xs:=by
 obtain⟨A,cap,e,h1,h2,h3⟩:=h.form xL;refine⟨A,cap,e,h1,h2,fun h0=>?_⟩;obtain⟨g,rfl,_,hg,hc⟩:=h3 h0;refine⟨g,0,rfl,hg,fun i hi=>?_⟩;obtain⟨cs,⟨A',c',rfl,hl,_⟩,aP⟩:=hc i hi;refine⟨A',c',?_,hl.rat⟩;have:=aP 0 _ rfl;rw[LM];rwa[show i*cWd.K.size+0=i by show i*1+0=i;omega] at this
theorem YY{xs:List (List Int)}(h:OwnX cIs S w aa v xs):∃A cap,v=I A xs.length cap/\xs.length<=cap/\cap<=maxLen/\LAtS (fun k=>S k\/aa<=k) w A xs:=by
 obtain⟨A,cap,e,h1,h2,h3⟩:=h.form yx;refine⟨A,cap,e,h1,h2,fun h0=>?_⟩;obtain⟨g,rfl,hb,hg,hc⟩:=h3 h0;refine⟨g,0,rfl,.inr hb,hg,fun i hi=>?_⟩;obtain⟨cs,⟨A',c',rfl,hl⟩,aP⟩:=hc i hi;refine⟨A',c',?_,hl.mono fun k _ hs=>.inl hs.1⟩;have:=aP 0 _ rfl;rw[LM];rwa[show i*cIs.K.size+0=i by show i*1+0=i;omega] at this
theorem Zs{xs:List (List Int)}(h:OwnX cIs S w aa v xs):∃A cap,v=I A xs.length cap/\xs.length<=cap/\cap<=maxLen/\LAtS (fun k=>S k\/v.ownBlock=J k) w A xs:=by
 obtain⟨A,cap,e,h1,h2,h3⟩:=h.form yx;refine⟨A,cap,e,h1,h2,fun h0=>?_⟩;obtain⟨g,rfl,hb,hg,hc⟩:=h3 h0;refine⟨g,0,rfl,.inr (by rw[e];rfl),hg,fun i hi=>?_⟩;obtain⟨cs,⟨A',c',rfl,hl⟩,aP⟩:=hc i hi;refine⟨A',c',?_,hl.mono fun k _ hs=>.inl hs.1⟩;have:=aP 0 _ rfl;rw[LM];rwa[show i*cIs.K.size+0=i by show i*1+0=i;omega] at this
end
end
section
open Go.RowKit
def ZW:Ct Exn:=⟨kXn,fun S w cs x=>∃A c A2 c2,cs=[O U x.c,I A x.word.length c,I A2 x.views.length c2]/\RAtS S w A x.word/\LAtS S w A2 x.views/\x.word.length<=c⟩
theorem zy:CtOk ZW where
 len:=fun ⟨A,c,A2,c2,e,_⟩=>by rw[e];rfl
 one:=fun ⟨A,c,A2,c2,e,_⟩ u hu=>by rw[e] at hu;simp at hu;rcases hu with rfl | rfl | rfl<;>rfl
 keep:=fun ⟨A,c,A2,c2,e,h1,h2,h3⟩ hk=>⟨A,c,A2,c2,e,h1.keep hk,h2.keep hk,h3⟩
 keepC:=fun ⟨A,c,A2,c2,e,h1,h2,h3⟩ hk=>⟨A,c,A2,c2,e,h1.keepC hk,h2.keepC hk,h3⟩
 mono:=fun ⟨A,c,A2,c2,e,h1,h2,h3⟩ hm=>⟨A,c,A2,c2,e,h1.mono hm,h2.mono hm,h3⟩
def XCap(w:Ba)(A:Bb)(xs:List Exn):Prop:=∀b o q,A=J ⟨b,o,q⟩->∀(i:Nat) (_:i<xs.length) (B:Bb) (n c:Nat),w.cell? ⟨b,o+i*3+1,Z⟩=J (I B n c)->n<=c
section
variable {S:Nat->Prop} {w:Ba} {aa:Nat} {v:Au}
theorem kV{xs:List Exn}(h:OwnX ZW S w aa v xs):∃A cap,v=I A xs.length cap/\xs.length<=cap/\cap<=maxLen/\XAt w w.heap.size A xs/\XCap w A xs:=by
 obtain⟨A,cap,e,h1,h2,h3⟩:=h.form zy
 have key:∀g,A=J ⟨g,0,Z⟩->∀(i:Nat) (hi:i<xs.length),∃A' c' A2 c2,w.cell? ⟨g,i*3,Z⟩=J (O U xs[i].c)/\w.cell? ⟨g,i*3+1,Z⟩=J (I A' xs[i].word.length c')/\w.cell? ⟨g,i*3+2,Z⟩=J (I A2 xs[i].views.length c2)/\RAt w w.heap.size A' xs[i].word/\LAt w w.heap.size A2 xs[i].views/\xs[i].word.length<=c':=by
  intro g eg i hi;obtain⟨g',Td,_,hg,hc⟩:=h3 (by omega);rw[eg] at Td
  cases Td
  obtain⟨cs,⟨A',c',A2,c2,rfl,hr,hl,hw⟩,aP⟩:=hc i hi;have h0:=aP 0 _ rfl;have h1:=aP 1 _ rfl;have h2:=aP 2 _ rfl;change w.cell? ⟨g,i*3+0,Z⟩=_ at h0;change w.cell? ⟨g,i*3+1,Z⟩=_ at h1;change w.cell? ⟨g,i*3+2,Z⟩=_ at h2;exact⟨A',c',A2,c2,by simpa using h0,by simpa using h1,by simpa using h2,hr.rat,hl.lat,hw⟩
 refine⟨A,cap,e,h1,h2,fun h0=>?_,fun b o q eA i hi B n c aP=>?_⟩
 . obtain⟨g,rfl,_,hg,_⟩:=h3 h0
   refine⟨g,0,rfl,hg,fun i hi=>?_⟩;obtain⟨A',c',A2,c2,k0,k1,k2,hr,hl,_⟩:=key g rfl i hi;refine⟨_,_,_,?_,?_,?_,rfl,⟨A',c',rfl,hr⟩,⟨A2,c2,rfl,hl⟩⟩
   . simpa using k0
   . simpa using k1
   simpa using k2
 obtain⟨g,eg,_,hg,_⟩:=h3 (by omega);have WU:=eg;rw[eA] at eg
 cases eg
 obtain⟨A',c',A2,c2,k0,k1,k2,hr,hl,hw⟩:=key _ WU i hi;rw[LM] at aP;rw[k1] at aP
 cases aP
 exact hw
end
end
section
open Go.RowKit
structure KeyOk{κ:Type}(P:Program)(kt:TypeId)(enc:κ->Au):Prop where
 inj:∀a b,enc a=enc b->a=b
 check:∀(w:Ba) (em:Bool) (a:κ),(Instr.checkKey em 10000 kt (enc a)).run P w=.ok () w
 equal:∀(w:Ba) (a b:κ),(Op.equal kt (enc a) (enc b)).run P w=.ok (@decide (enc a=enc b) (Classical.propDecidable _)) w
 now:∀(d:TypeDesc),P.underlying kt=J d->(∀a b:κ,Instr.sameNow d (enc a) (enc b)=J (@decide (enc a=enc b) (Classical.propDecidable _)))\/(∀a b:κ,Instr.sameNow d (enc a) (enc b)=Z)
 stays:∀a:κ,Instr.sameBits 10000 (enc a) (enc a)=Av
 kind:∃d,P.underlying kt=J d
section
variable {κ:Type} {P:Program} {kt:TypeId} {enc:κ->Au}
open Classical
theorem ur{d:TypeDesc}(h:∀a b:κ,Instr.sameNow d (enc a) (enc b)=J (decide (enc a=enc b)))(x:κ):∀(es:List MapEntry) (i:Nat),(∀e∈es,∃k,e.key=enc k) ->
  (Instr.findNow d (enc x) es i=J Z/\∀e∈es,e.key≠enc x)\/∃j e,Instr.findNow d (enc x) es i=J (J (i+j,e.val))/\es[j]?=J e/\e.key=enc x
 | [],i,_=>.inl ⟨rfl,fun _ h=>by cases h⟩
 | e::es,i,hk=>by
  obtain⟨k,lR⟩:=hk e (by simp)
  by_cases he:enc x=enc k
  . refine .inr ⟨0,e,?_,rfl,by rw[lR,he]⟩
    simp[Instr.findNow,lR,h,he]
  . rcases ur h x es (i+1) (fun e he=>hk e (by simp[he])) with ⟨h1,h2⟩ | ⟨j,e',h1,h2,h3⟩
    . refine .inl ⟨by simp[Instr.findNow,lR,h,he,h1],fun e' pj=>?_⟩
      rcases LT.1 pj with rfl | pj
      . rw[lR];exact fun e2=>he e2.symm
      . exact h2 e' pj
    . exact .inr ⟨j+1,e',by simp[Instr.findNow,lR,h,he,h1];omega,by simpa using h2,h3⟩
theorem kB(K:KeyOk P kt enc)(w:Ba)(x:κ):∀(es:List MapEntry) (i:Nat),(∀e∈es,∃k,e.key=enc k) ->
  ((Instr.findAsking kt (enc x) es i).run P w=.ok Z w/\∀e∈es,e.key≠enc x)\/∃j e,(Instr.findAsking kt (enc x) es i).run P w=.ok (J (i+j,e.val)) w/\es[j]?=J e/\e.key=enc x
 | [],i,_=>.inl ⟨rfl,fun _ h=>by cases h⟩
 | e::es,i,hk=>by
  obtain⟨k,lR⟩:=hk e (by simp)
  by_cases he:enc x=enc k
  . refine .inr ⟨0,e,?_,rfl,by rw[lR,he]⟩
    simp[Instr.findAsking,lR,K.equal,he,Result.andThen]
  . rcases kB K w x es (i+1) (fun e he=>hk e (by simp[he])) with ⟨h1,h2⟩ | ⟨j,e',h1,h2,h3⟩
    . refine .inl ⟨by simp[Instr.findAsking,lR,K.equal,he,h1,Result.andThen],fun e' pj=>?_⟩
      rcases LT.1 pj with rfl | pj
      . rw[lR];exact fun e2=>he e2.symm
      . exact h2 e' pj
    . exact .inr ⟨j+1,e',by simp[Instr.findAsking,lR,K.equal,he,h1,Result.andThen];omega,by simpa using h2,h3⟩
theorem wX{d:TypeDesc}(h:∀a b:κ,Instr.sameNow d (enc a) (enc b)=Z)(x:κ)(es:List MapEntry)(hk:∀e∈es,∃k,e.key=enc k) :
  es=[]\/Instr.findNow d (enc x) es 0=Z:=by
 cases es with
 | nil=>exact .inl rfl
 | cons e es=>
  obtain⟨k,lR⟩:=hk e (by simp);exact .inr (by simp[Instr.findNow,lR,h])
theorem wW(K:KeyOk P kt enc)(w:Ba)(x:κ)(es:List MapEntry)(hk:∀e∈es,∃k,e.key=enc k) :
  ((Instr.findKey kt (enc x) es).run P w=.ok Z w/\∀e∈es,e.key≠enc x)\/∃j e,(Instr.findKey kt (enc x) es).run P w=.ok (J (j,e.val)) w/\es[j]?=J e/\e.key=enc x:=by
 obtain⟨d,hd⟩:=K.kind;rcases K.now d hd with h | h
 . rcases ur h x es 0 hk with ⟨h1,h2⟩ | ⟨j,e,h1,h2,h3⟩
   . exact .inl ⟨by simp[Instr.findKey,run_underlying hd,h1],h2⟩
   exact .inr ⟨j,e,by simp[Instr.findKey,run_underlying hd,h1],h2,h3⟩
 rcases wX h x es hk with rfl | hn
 . exact .inl ⟨by simp[Instr.findKey,run_underlying hd,Instr.findNow],fun _ h=>by cases h⟩
 rcases kB K w x es 0 hk with ⟨h1,h2⟩ | ⟨j,e,h1,h2,h3⟩
 . exact .inl ⟨by simp[Instr.findKey,run_underlying hd,hn,h1],h2⟩
 exact .inr ⟨j,e,by simp[Instr.findKey,run_underlying hd,hn,h1],h2,h3⟩
def MapOf(enc:κ->Au)(w:Ba)(b n:Nat)(f:κ->Option Au):Prop:=
 ∃es cP,w.heap[b]?=J (.map es cP)/\es.size<=n/\(es.toList.Pairwise fun x y=>x.key≠y.key)/\(∀e∈es.toList,∃k,e.key=enc k/\f k=J e.val)/\(∀k v,f k=J v->∃e∈es.toList,e.key=enc k/\e.val=v)
theorem MapOf.made(w:Ba):MapOf enc (w.alloc (.map #[] 0)) w.heap.size 0 (fun _=>Z):=
 ⟨#[],0,heap_alloc_new w _,Lh _,List.Pairwise.nil,fun e h=>by simp at h,fun k v h=>by cases h⟩
theorem MapOf.same{w w':Ba}{b n:Nat}{f:κ->Option Au}(h:MapOf enc w b n f)(hs:w'.heap[b]?=w.heap[b]?):MapOf enc w' b n f:=by
 obtain⟨es,cP,hb,r⟩:=h;exact⟨es,cP,hs.trans hb,r⟩
theorem MapOf.lt{w:Ba}{b n:Nat}{f:κ->Option Au}(h:MapOf enc w b n f):b<w.heap.size:=by
 obtain⟨es,cP,hb,r⟩:=h;exact(Li.1 hb).1
theorem MapOf.look{w:Ba}{b n:Nat}{f:κ->Option Au}{t e:TypeId}{z:Au}(h:MapOf enc w b n f)(K:KeyOk P kt enc)(ht:P.underlying t=J (.map kt e))(hz:(zeroValue e).run P w=.ok z w)(k:κ) :
  (Instr.lookup t (.map (J b)) (enc k) Ax).run P w=.ok ((f k).getD z) w:=by
 obtain⟨es,cP,hb,_,_,h1,h2⟩:=h;rcases wW K w k es.toList (fun e he=>by obtain⟨k,hk,_⟩:=h1 e he;exact⟨k,hk⟩) with ⟨r1,r2⟩ | ⟨j,e0,r1,r2,r3⟩
 · have hf : f k = Z := by
    cases hf:f k with
    | none=>rfl
    | some v=>obtain⟨e,he,hk,_⟩:=h2 k v hf;exact absurd hk (r2 e he)
   simp[Instr.lookup,run_underlying ht,MapKept.run_getObj_map hb,K.check w _ k,r1,hz,Result.andThen,hf]
 obtain⟨k',cY,hf⟩:=h1 e0 (PA r2);have:k=k':=K.inj _ _ (r3.symm.trans cY);subst this;simp[Instr.lookup,run_underlying ht,MapKept.run_getObj_map hb,K.check w _ k,r1,Result.andThen,hf]
theorem MapOf.look2{w:Ba}{b n:Nat}{f:κ->Option Au}{t e:TypeId}{z:Au}(h:MapOf enc w b n f)(K:KeyOk P kt enc)(ht:P.underlying t=J (.map kt e))(hz:(zeroValue e).run P w=.ok z w)(k:κ) :
  (Instr.lookup t (.map (J b)) (enc k) Av).run P w=.ok (.tuple #[(f k).getD z,Ai (f k).isSome]) w:=by
 obtain⟨es,cP,hb,_,_,h1,h2⟩:=h;rcases wW K w k es.toList (fun e he=>by obtain⟨k,hk,_⟩:=h1 e he;exact⟨k,hk⟩) with ⟨r1,r2⟩ | ⟨j,e0,r1,r2,r3⟩
 · have hf : f k = Z := by
    cases hf:f k with
    | none=>rfl
    | some v=>obtain⟨e,he,hk,_⟩:=h2 k v hf;exact absurd hk (r2 e he)
   simp[Instr.lookup,run_underlying ht,MapKept.run_getObj_map hb,K.check w _ k,r1,hz,Result.andThen,hf]
 obtain⟨k',cY,hf⟩:=h1 e0 (PA r2);have:k=k':=K.inj _ _ (r3.symm.trans cY);subst this;simp[Instr.lookup,run_underlying ht,MapKept.run_getObj_map hb,K.check w _ k,r1,Result.andThen,hf]
def uA[DecidableEq κ](f:κ->Option Au)(k:κ)(v:Au):κ->Option Au:=fun x=>if x=k then J v else f x
theorem kb{P:Program}{w:Ba}{b:Nat}{es Tc:Array MapEntry}{c c':Nat}(hb:w.heap[b]?=J (.map es c)) :
  (setObj b (.map Tc c')).run P w=.ok () { w with heap:=w.heap.setIfInBounds b (.map Tc c') }:=by
 simp[setObj,Sem.run,hb]
theorem pw_key{l:List MapEntry}(h:l.Pairwise fun x y=>x.key≠y.key){i j:Nat}{a b:MapEntry}(hi:l[i]?=J a)(hj:l[j]?=J b)(he:a.key=b.key):i=j:=by
 obtain⟨pd,rfl⟩:=Lo.1 hi;obtain⟨bg,rfl⟩:=Lo.1 hj;rcases Nat.lt_trichotomy i j with ac | h' | ac
 . exact absurd he (Pe.1 h i j pd bg ac)
 . exact h'
 exact absurd he.symm (Pe.1 h j i bg pd ac)
theorem pw_set{l:List MapEntry}(h:l.Pairwise fun x y=>x.key≠y.key){j:Nat}{a a':MapEntry}(hj:l[j]?=J a)(he:a.key=a'.key):(l.set j a').Pairwise fun x y=>x.key≠y.key:=by
 obtain⟨bg,rfl⟩:=Lo.1 hj;rw[Pe] at h ⊢;intro i k hi hk IC;simp only[List.length_set] at hi hk;simp only[List.getElem_set]
 split
 . rename_i h1;subst h1
   split
   . omega
   rw[<-he];exact h _ _ hi hk IC
 split
 . rename_i h1;subst h1
   rw[<-he];exact h _ _ hi hk IC
 exact h _ _ hi hk IC
theorem MapOf.put[DecidableEq κ]{w:Ba}{b n:Nat}{f:κ->Option Au}{t e:TypeId}(h:MapOf enc w b n f)(K:KeyOk P kt enc)(ht:P.underlying t=J (.map kt e))(k:κ)(v:Au) :
  ∃w',(Instr.mapUpdate t (.map (J b)) (enc k) v).run P w=.ok () w'/\MapOf enc w' b (n+1) (uA f k v)/\w.grownBy w' (J b):=by
 obtain⟨es,cP,hb,hn,oV,h1,h2⟩:=h;have aA:=(Li.1 hb).1
 have grown:∀o,w.grownBy { w with heap:=w.heap.setIfInBounds b o } (J b):=fun o=>
  ⟨rfl,rfl,rfl,by simp,fun i _ hi=>by simp only;rw[LY (fun e=>hi (by rw[e]))]⟩
 have at_:∀o,({ w with heap:=w.heap.setIfInBounds b o }:Ba).heap[b]?=J o:=fun o=>by simp[aA]
 rcases wW K w k es.toList (fun e he=>by obtain⟨k,hk,_⟩:=h1 e he;exact⟨k,hk⟩) with ⟨r1,r2⟩ | ⟨j,e0,r1,r2,r3⟩
 . refine⟨_,?_,⟨es.push { key:=enc k,val:=v,born:=cP },cP+1,at_ _,by simp;omega,?_,?_,?_⟩,grown _⟩
   . simp[Instr.mapUpdate,run_underlying ht,MapKept.run_getObj_map hb,K.check w Ax k,r1,kb hb,Result.andThen]
   . rw[Array.toList_push]
     exact List.pairwise_append.2 ⟨oV,List.pairwise_singleton _ _,fun a ha c hc=>by simp only[List.mem_singleton] at hc;subst hc;exact r2 a ha⟩
   . intro e he
     simp only[Array.toList_push,List.mem_append,List.mem_singleton] at he;rcases he with he | rfl
     . obtain⟨k',cY,hf⟩:=h1 e he
       refine⟨k',cY,?_⟩;have:k'≠k:=fun e2=>r2 e he (by rw[cY,e2])
       simp[uA,this,hf]
     exact⟨k,rfl,by simp[uA]⟩
   intro k' v' hf;unfold uA at hf
   split at hf
   . rename_i hk;subst hk
     cases hf
     exact⟨_,by simp;exact .inr rfl,rfl,rfl⟩
   obtain⟨e,he,hk,hv⟩:=h2 k' v' hf;exact⟨e,by simp;exact .inl (by simpa using he),hk,hv⟩
 have Iq:es[j]?=J e0:=by simpa using r2
 have hs:(Instr.keyThatStays e0.key (enc k)).run P w=.ok (enc k) w:=by simp[Instr.keyThatStays,r3,K.stays]
 have bg:j<es.toList.length:=(Lo.1 r2).1
 have dG:(es.modify j (fun e'=>{ e' with key:=enc k,val:=v })).toList=es.toList.set j { e0 with key:=enc k,val:=v }:=by
  rw[Array.toList_modify,ChangeMaps.modify_eq_set _ _ _ _ r2]
 refine⟨_,?_,⟨es.modify j (fun e'=>{ e' with key:=enc k,val:=v }),cP,at_ _,by simp;omega,?_,?_,?_⟩,grown _⟩
 . simp[Instr.mapUpdate,run_underlying ht,MapKept.run_getObj_map hb,K.check w Ax k,r1,Iq,hs,kb hb,Result.andThen]
 . rw[dG]
   exact pw_set oV r2 (by simpa using r3)
 . intro e he
   rw[dG] at he;obtain⟨i,hi,rfl⟩:=LU he;rw[P1]
   split
   . exact⟨k,rfl,by simp[uA]⟩
   rename_i bt;have dq:i<es.toList.length:=by simpa using hi
   obtain⟨k',cY,hf⟩:=h1 _ (Ld dq);refine⟨k',cY,?_⟩
   by_cases e2:k'=k
   . exact absurd (cY.trans ((congrArg enc e2).trans r3.symm)) (fun e3=>bt (pw_key oV r2 (Lg dq) e3.symm))
   simp[uA,e2,hf]
 intro k' v' hf;unfold uA at hf
 split at hf
 . rename_i hk;subst hk
   cases hf
   refine⟨{ e0 with key:=enc k',val:=v },?_,rfl,rfl⟩;rw[dG];exact Nz.2 ⟨j,by simpa using bg,by simp⟩
 rename_i hk;obtain⟨e,he,Pp,hv⟩:=h2 k' v' hf;refine⟨e,?_,Pp,hv⟩;rw[dG];obtain⟨i,hi,rfl⟩:=LU he
 have Bn:j≠i:=by
  rintro rfl;rw[Lg bg] at r2
  cases r2
  exact hk (K.inj _ _ (Pp.symm.trans r3))
 exact Nz.2 ⟨i,by simpa using hi,by simp[Bn]⟩
theorem Xb[DecidableEq κ](w:Ba){ak:Array Oper}{rest:List Oper}{o:Oper}{a:Act}{Q:Exit->Act->Ba->Prop}
  (hg:o.guard=Z) (m x v:Operand) (t e:TypeId) (sC:o.op=Op.mapUpdate t m x v) (K:KeyOk P kt enc) (ht:P.underlying t=J (.map kt e)) (b n:Nat) (f:κ->Option Au)
  (an:MapOf enc w b n f) (k:κ) (val:Au) (hm:a.eval m=.map (J b)) (hx:a.eval x=enc k) (hv:a.eval v=val)
  (hK:∀w',MapOf enc w' b (n+1) (uA f k val)->w.grownBy w' (J b)->wpList P ak Q rest (a.put o.dst undef) w') :
  wpList P ak Q (o::rest) a w:=by
 refine LJ hg fun K' ae=>?_
 obtain⟨w',dt,r1,r2⟩:=an.put K ht k val;unfold Oper.wp;simp[execOp,sC,hm,hx,hv,dt,Result.andThen];exact ae _ _ (hK w' r1 r2)
def Ya[DecidableEq κ](S:List κ):κ->Option Au:=fun k=>if k∈S then J (Ai Av) else Z
theorem setF_nil[DecidableEq κ]:Ya ([]:List κ)=fun _=>Z:=by funext k;simp[Ya]
theorem setF_put[DecidableEq κ](S:List κ)(k:κ):uA (Ya S) k (Ai Av)=Ya (k::S):=by
 funext x
 unfold uA Ya
 by_cases h:x=k<;>simp[h]
theorem setF_get[DecidableEq κ](S:List κ)(k:κ):(Ya S k).getD (Ai Ax)=Ai (decide (k∈S)):=by
 unfold Ya
 split<;>simp_all
def SetAt[DecidableEq κ](enc:κ->Au)(w:Ba)(b:Nat)(S:List κ):Prop:=∃n,MapOf enc w b n (Ya S)
theorem SetAt.made[DecidableEq κ](enc:κ->Au)(w:Ba):SetAt enc (w.alloc (.map #[] 0)) w.heap.size []:=⟨0,by rw[setF_nil];exact MapOf.made w⟩
theorem SetAt.kept[DecidableEq κ]{w w':Ba}{b B:Nat}{S:List κ}(h:SetAt enc w b S)(hb:Ao B w w')(ac:b<B):SetAt enc w' b S:=by
 obtain⟨n,h⟩:=h;exact⟨n,h.same (hb.block b ac)⟩
theorem SetAt.same[DecidableEq κ]{w w':Ba}{b:Nat}{S:List κ}(h:SetAt enc w b S)(hb:w'.heap[b]?=w.heap[b]?):SetAt enc w' b S:=by
 obtain⟨n,h⟩:=h;exact⟨n,h.same hb⟩
theorem SetAt.lt[DecidableEq κ]{w:Ba}{b:Nat}{S:List κ}(h:SetAt enc w b S):b<w.heap.size:=by
 obtain⟨n,h⟩:=h;exact h.lt
theorem SetAt.look[DecidableEq κ]{w:Ba}{b:Nat}{S:List κ}{t e:TypeId}(h:SetAt enc w b S)(K:KeyOk P kt enc)(ht:P.underlying t=J (.map kt e))(hz:∀w:Ba,(zeroValue e).run P w=.ok (Ai Ax) w)(k:κ) :
  (Instr.lookup t (.map (J b)) (enc k) Ax).run P w=.ok (Ai (decide (k∈S))) w:=by
 obtain⟨n,h⟩:=h;rw[h.look K ht (hz w) k,setF_get]
theorem jr[DecidableEq κ](w:Ba){ak:Array Oper}{rest:List Oper}{o:Oper}{a:Act}{Q:Exit->Act->Ba->Prop}
  (hg:o.guard=Z) (m x v:Operand) (t e:TypeId) (sC:o.op=Op.mapUpdate t m x v) (K:KeyOk P kt enc) (ht:P.underlying t=J (.map kt e)) (b:Nat) (S:List κ)
  (an:SetAt enc w b S) (k:κ) (hm:a.eval m=.map (J b)) (hx:a.eval x=enc k) (hv:a.eval v=Ai Av)
  (hK:∀w',SetAt enc w' b (k::S)->w.grownBy w' (J b)->wpList P ak Q rest (a.put o.dst undef) w') :
  wpList P ak Q (o::rest) a w:=by
 obtain⟨n,an⟩:=an;exact Xb w hg m x v t e sC K ht b n _ an k _ hm hx hv fun w' h1 h2=>hK w' ⟨n+1,by rw[<-setF_put];exact h1⟩ h2
end
end
section
open Go.RowKit
open Classical in
theorem ZT:KeyOk An 3 (O U) where
 inj:=fun a b h=>by injection h
 check:=fun w em a=>by
  have hi:An.underlying 3=J (.int U):=LB;unfold Instr.checkKey;simp[run_underlying hi,Result.andThen]
 equal:=fun w a b=>by
  have hi:An.underlying 3=J (.int U):=LB;unfold Op.equal Op.maxDepth;rw[Np w _ 3 _ _ _ _ hi]
  by_cases h:a=b<;>simp[h]
 now:=fun d hd=>.inl fun a b=>by
  have hi:An.underlying 3=J (.int U):=LB;rw[hi] at hd
  cases hd
  by_cases h:a=b<;>simp[Instr.sameNow,h]
 stays:=fun a=>by simp[Instr.sameBits]
 kind:=⟨_,LB⟩
theorem Z4(a b:Vw)(h:Aj a.cells=.agg b.cells):a=b:=by
 injection h with h
 obtain⟨a0,a1,a2,a3,a4,a5,a6,a7⟩:=a;obtain⟨b0,b1,b2,b3,b4,b5,b6,b7⟩:=b;simpa[Vw.cells] using h
theorem vI(w:Ba)(em:Bool)(n:Nat)(a:Int):(Instr.checkKey em (n+1) 3 (O U a)).run An w=.ok () w:=by
 have hi:An.underlying 3=J (.int U):=LB;unfold Instr.checkKey;simp[run_underlying hi,Result.andThen]
theorem check_arr(w:Ba)(em:Bool)(n:Nat)(a b c d e:Int):(Instr.checkKey em (n+2) 43 (Aj #[O U a,O U b,O U c,O U d,O U e])).run An w=.ok () w:=by
 have hu:An.underlying 43=J (.array 5 3):=Ru;have hs:(sizeOf 3).run An w=.ok 1 w:=by kernel_rfl
 have p0:=fun x0 x1 x2 x3 x4=>zL #[x0,x1,x2,x3,x4] 0 x0 rfl w
 have p1:=fun x0 x1 x2 x3 x4=>zL #[x0,x1,x2,x3,x4] 1 x1 rfl w
 have p2:=fun x0 x1 x2 x3 x4=>zL #[x0,x1,x2,x3,x4] 2 x2 rfl w
 have p3:=fun x0 x1 x2 x3 x4=>zL #[x0,x1,x2,x3,x4] 3 x3 rfl w
 have p4:=fun x0 x1 x2 x3 x4=>zL #[x0,x1,x2,x3,x4] 4 x4 rfl w
 unfold Instr.checkKey;simp only[Sem.run_bind,run_underlying hu,Result.andThen_ok,hs,Std.Legacy.Range.forIn_eq_forIn_range',Std.Legacy.Range.size,Nat.sub_zero,Nat.add_sub_cancel,Nat.div_one,show List.range' 0 5 1=[0,1,2,3,4] from rfl,List.forIn_cons,List.forIn_nil,p0,p1,p2,p3,p4,Nat.mul_one,vI,Sem.run_pure]
open Classical in
theorem jO:KeyOk An 100 (fun v:Vw=>.agg v.cells) where
 inj:=Z4
 check:=fun w em v=>by
  have hu:An.underlying 100=J (.struct (An.fieldsOf 100)):=by kernel_rfl
  have hf : (An.fieldsOf 100).toList.map (fun f => (f.name, f.type, f.offset)) = [("Proc", 3, 0), ("Round", 3, 1), ("Input", 3, 2), ("Heard", 43, 3)] := by kernel_rfl
  have p0:∀x:Vw,(part 3 x.cells 0).run An w=.ok (O U x.p) w:=fun x=>zL _ 0 _ rfl w
  have p1:∀x:Vw,(part 3 x.cells 1).run An w=.ok (O U x.r) w:=fun x=>zL _ 1 _ rfl w
  have p2:∀x:Vw,(part 3 x.cells 2).run An w=.ok (O U x.i) w:=fun x=>zL _ 2 _ rfl w
  have p3:∀x:Vw,(part 43 x.cells 3).run An w=.ok (Aj #[O U x.h0,O U x.h1,O U x.h2,O U x.h3,O U x.h4]) w:=fun x=>by unfold Vw.cells;kernel_rfl
  unfold Instr.checkKey;simp only[Sem.run_bind,run_underlying hu,Result.andThen_ok];rw[<-Array.forIn_toList]
  generalize (An.fieldsOf 100).toList=fs at hf
  obtain⟨f0,f1,f2,f3,rfl⟩:∃f0 f1 f2 f3,fs=[f0,f1,f2,f3]:=by
   have hl:fs.length=4:=by simpa using congrArg List.length hf
   rcases fs with _ | ⟨f0,_ | ⟨f1,_ | ⟨f2,_ | ⟨f3,_ | ⟨f4,r⟩⟩⟩⟩⟩<;>simp at hl
   exact⟨_,_,_,_,rfl⟩
  simp only[List.map_cons,List.map_nil,List.cons.injEq,Prod.mk.injEq,and_true] at hf;obtain⟨⟨n0,t0,o0⟩,⟨n1,t1,o1⟩,⟨n2,t2,o2⟩,⟨n3,t3,o3⟩⟩:=hf;simp only[List.forIn_cons,List.forIn_nil,n0,n1,n2,n3,t0,t1,t2,t3,o0,o1,o2,o3,p0,p1,p2,p3,Sem.run_bind,Result.andThen_ok,vI,check_arr,ne_eq,String.reduceEq,not_false_eq_true,if_true,Sem.run_pure]
 equal:=fun w a b=>by
  unfold Op.equal Op.maxDepth;rw[jI 9997 a b w]
  by_cases h:a=b
  . simp[h]
  . have:¬(Aj a.cells=.agg b.cells):=fun e=>h (Z4 a b e)
    rw[Lm h,Lm this]
 now:=fun d hd=>.inr fun a b=>by
  have hu:An.underlying 100=J (.struct (An.fieldsOf 100)):=by kernel_rfl
  rw[hu] at hd
  cases hd
  simp[Instr.sameNow]
 stays:=fun a=>by simp[Instr.sameBits,Vw.cells]
 kind := ⟨_, by have hu : An.underlying 100 = J (.struct (An.fieldsOf 100)) := by kernel_rfl
                exact hu⟩
end
section
open Go.RowKit
structure TArg(w:Ba)(A:Bb)(cap:Nat)(vs:List Vw):Prop where
 rows:VAt w w.heap.size A vs
 lec:vs.length<=cap
 lem:cap<=maxLen
 few:vs.length<=100000
theorem TArg.keep{w w':Ba}{A:Bb}{cap:Nat}{vs:List Vw}(h:TArg w A cap vs)(hb:Ao w.heap.size w w'):TArg w' A cap vs:=
 ⟨(h.rows.keep hb).more hb.size,h.lec,h.lem,h.few⟩
def yi(vs:List Vw):List Au:=vs.flatMap fun x=>x.cells.toList
theorem jf(vs us:List Vw):yi (vs++us)=yi vs++yi us:=by simp[yi]
theorem je(vs:List Vw):(yi vs).length=vs.length*8:=by
 induction vs with
 | nil=>rfl
 | cons v vs ih=>simp only[yi,List.flatMap_cons,List.length_append,List.length_cons] at *;rw[ih];simp[Vw.cells];omega
theorem vg:∀(vs:List Vw) (i:Nat) (hi:i<vs.length) (k:Nat),k<8->(yi vs)[i*8+k]?=vs[i].cells[k]?
 | v::vs,0,hi,k,hk=>by
  simp only[yi,List.flatMap_cons,List.getElem_cons_zero,Nat.zero_mul,Nat.zero_add];rw[LX (by simp[Vw.cells];omega)];simp
 | v::vs,i+1,hi,k,hk=>by
  have:=vg vs i (by simpa using hi) k hk;simp only[yi,List.flatMap_cons,List.getElem_cons_succ] at *;rw[LW (by simp[Vw.cells];omega),<-this]
  congr 1
  simp[Vw.cells];omega
def OwnV(w:Ba)(aa:Nat)(v:Au)(vs:List Vw):Prop:=w.ownsRow aa 100 8 v vs.length (yi vs)
theorem OwnV.nil(w:Ba)(aa:Nat):OwnV w aa (I Z 0 0) []:=PK w aa _ 8
theorem OwnV.form{w:Ba}{aa:Nat}{v:Au}{vs:List Vw}(h:OwnV w aa v vs)(hf:vs.length<=100000):∃A cap,v=I A vs.length cap/\TArg w A cap vs:=by
 rcases h.2 with ⟨rfl,h0⟩ | ⟨g,cap,cur,rfl,_,hg,du,iV,_⟩
 . have:vs=[]:=LC h0
   subst this;exact⟨Z,0,rfl,fun h=>absurd h (by simp),Lh _,Nu _,hf⟩
 refine⟨_,_,rfl,fun _=>⟨g,0,rfl,(Li.1 hg).1,fun i hi k u hk=>?_⟩,du,iV,hf⟩;have PM:k<8:=by have:=(Li.1 hk).1;simpa[Vw.cells] using this
 have:=h.cells (g:=g) rfl (i*8+k) u (by rw[vg vs i hi k PM];exact hk);rw[show(⟨g,0,Z⟩:Addr).add (i*8+k)=⟨g,0+i*8+k,Z⟩ from by unfold Addr.add;split<;>simp_all] at this;exact this
theorem OwnV.low{w:Ba}{aa base':Nat}{v:Au}{xs:List Vw}(h:OwnV w aa v xs)(hb:base'<=aa):OwnV w base' v xs:=by
 refine⟨h.1,?_⟩;rcases h.2 with h2 | ⟨g,cap,cur,hv,hg,r⟩
 . exact Or.inl h2
 exact Or.inr ⟨g,cap,cur,hv,by omega,r⟩
theorem OwnV.lt{w:Ba}{aa:Nat}{v:Au}{xs:List Vw}(h:OwnV w aa v xs):∀k,v.ownBlock=J k->aa<=k/\k<w.heap.size:=PY h
theorem vE:(An.info? 100).map (fun i=>(i.zero,i.size,i.bytes))=J (J (.agg (⟨0,0,0,0,0,0,0,0⟩:Vw).cells),8,64):=by kernel_rfl
theorem vJ(v:Vw):∀u∈v.cells.toList,u.oneCell'=Av:=by
 intro u hu;simp only[Vw.cells,List.mem_cons,List.not_mem_nil,or_false] at hu;rcases hu with rfl | rfl | rfl | rfl | rfl | rfl | rfl | rfl<;>rfl
theorem Xg(vs:List Vw):∀u∈yi vs,u.oneCell'=Av:=by
 intro u hu;obtain⟨v,_,hv⟩:=LR.1 hu;exact vJ v u hv
theorem gH(c:Nat)(ty:TypeId)(W:Ba):(Builtin.append_ #[31,31] ty #[I Z 0 0,I Z 0 c]).run An W=.ok (I Z 0 0) W:=by
 obtain⟨i0,hi,_⟩:=PD vE;simp[Builtin.append_,run_underlying underlying31,sizeOf,typeInfo,hi,Builtin.lenOf,Builtin.firstCells]
theorem TArg.news{w:Ba}{ad:Addr}{cap:Nat}{vs:List Vw}(h:TArg w (J ad) cap vs):∀j u,(yi vs)[j]?=J u->w.cell? (ad.add j)=J u:=by
 intro j u hj;have P':j<vs.length*8:=by have:=(Lo.1 hj).1;rwa[je] at this
 obtain⟨b,off,e,ac,hc⟩:=h.rows (by omega)
 cases e
 rw[N5];have dq:j / 8<vs.length:=by omega
 have h8:j / 8*8+j % 8=j:=by omega
 rw[<-h8,vg vs (j / 8) dq (j % 8) (by omega)] at hj;have:=hc (j / 8) dq (j % 8) u hj;rwa[Pv,h8] at this
theorem OwnV.lit{w:Ba}{aa:Nat}{v:Au}{vs:List Vw}(h:OwnV w aa v vs):∃A cap,v=I A vs.length cap:=by
 rcases h.2 with ⟨rfl,h0⟩ | ⟨g,cap,cur,rfl,_⟩
 . exact⟨Z,0,by rw[h0]⟩
 exact⟨_,_,rfl⟩
theorem wp_appv0{o:Oper}{a:Act}{K:Act->Ba->Prop}{Q:Exit->Act->Ba->Prop}{W:Ba}(s x:Operand)
  (ho:o.op=.call { callee:=.builtin .append,args:=#[s,x],argTypes:=#[31,31] }) (aa:Nat) (hs:a.eval s=I Z 0 0) (A:Bb) (cap:Nat) (vs:List Vw)
  (hx:a.eval x=I A vs.length cap) (hT:TArg W A cap vs) (hb:aa<=W.heap.size)
  (h:∀A' aF w1,OwnV w1 aa (I A' vs.length aF) vs->W.grownBy w1 Z->K (a.put o.dst (I A' vs.length aF)) w1):o.wp An a W K Q:=by
 obtain⟨i0,hi,cH,bS,cp⟩:=PD vE
 cases A with
 | none=>
  have ly:vs=[]:=by
   rcases L9 vs.length with h | h
   . exact LC h
   . obtain⟨b,off,e,_⟩:=hT.rows h;cases e
  subst ly;have dt:=gH cap o.type W;unfold Oper.wp execOp;simp only[ho,resolve,invoke,builtin,Sem.run_bind,Sem.run_pure,Result.andThen_ok,List.map_toArray,List.map_cons,List.map_nil,hs,hx,List.length_nil,dt];exact h Z 0 W (OwnV.nil _ _) (Pk _ _)
 | some ad=>
  refine wp_append_own W s x 31 ho aa 100 i0 _ 8 64 PO hi cH bS cp rfl (by decide) _ 0 [] hs (PK W aa _ 8) ad vs.length cap (yi vs) hx (je vs) hT.news (Xg vs) (by have:=hT.few;unfold maxLen;omega) (by have:=hT.few;omega) hb ?_;intro v' w1 an aJ _;have cM:OwnV w1 aa v' vs:=by unfold OwnV;simpa using an
  obtain⟨A',aF,rfl⟩:=cM.lit;exact h A' aF w1 cM aJ
theorem wp_appv1{o:Oper}{a:Act}{K:Act->Ba->Prop}{Q:Exit->Act->Ba->Prop}{W:Ba}(s x:Operand)
  (ho:o.op=.call { callee:=.builtin .append,args:=#[s,x],argTypes:=#[31,31] }) (aa:Nat) (V:Au) (vs:List Vw) (v:Vw) (hs:a.eval s=V) (an:OwnV W aa V vs) (hf:vs.length<=100000)
  (g:Nat) (hx:a.eval x=I (J ⟨g,0,Z⟩) 1 1) (hg:W.heap[g]?=J (Ah v.cells 100 (0,0))) (hb:aa<=W.heap.size)
  (h:∀A' aF w1,OwnV w1 aa (I A' (vs.length+1) aF) (vs++[v])->W.grownBy w1 V.ownBlock->K (a.put o.dst (I A' (vs.length+1) aF)) w1):o.wp An a W K Q:=by
 obtain⟨i0,hi,cH,bS,cp⟩:=PD vE
 refine wp_append_lies W s x 31 ho aa 100 i0 _ 8 64 PO hi cH bS cp rfl (by decide) V vs.length (yi vs) hs an ⟨g,0,Z⟩ 1 1 v.cells.toList hx (by simp[Vw.cells])
  (Rj hg) (vJ v) (by omega) (by unfold maxLen;omega) (by omega) hb _ rfl ?_
 intro g' cap w1 cM aJ _ _;refine h _ cap w1 ?_ aJ;unfold OwnV;rw[Lq,jf];simpa[yi] using cM
theorem Xk{ak:Array Oper}{o:Oper}{a:Act}{K:Act->Ba->Prop}{Q:Exit->Act->Ba->Prop}{E:Prop}{W:Ba}(dZ:o.guard=Z)(s x:Operand)
  (ho:o.op=.call { callee:=.builtin .append,args:=#[s,x],argTypes:=#[31,31] }) (aa:Nat) (hs:a.eval s=I Z 0 0) (A:Bb) (cap:Nat) (vs:List Vw)
  (hx:a.eval x=I A vs.length cap) (hT:TArg W A cap vs) (hb:aa<=W.heap.size)
  (h:∀A' aF w1,OwnV w1 aa (I A' vs.length aF) vs->W.grownBy w1 Z->K (a.put o.dst (I A' vs.length aF)) w1) :
  if Region.wanted o (yielded ak a.tmps)=Av then Oper.wp An o a W K Q else E:=by
 have hw:Region.wanted o (yielded ak a.tmps)=Av:=by simp[Region.wanted,dZ]
 rw[Ln hw];exact wp_appv0 s x ho aa hs A cap vs hx hT hb h
theorem wg{ak:Array Oper}{o:Oper}{a:Act}{K:Act->Ba->Prop}{Q:Exit->Act->Ba->Prop}{E:Prop}{W:Ba}(dZ:o.guard=Z)(s x:Operand)
  (ho:o.op=.call { callee:=.builtin .append,args:=#[s,x],argTypes:=#[31,31] }) (aa:Nat) (V:Au) (vs:List Vw) (v:Vw) (hs:a.eval s=V) (an:OwnV W aa V vs) (hf:vs.length<=100000)
  (g:Nat) (hx:a.eval x=I (J ⟨g,0,Z⟩) 1 1) (hg:W.heap[g]?=J (Ah v.cells 100 (0,0))) (hb:aa<=W.heap.size)
  (h:∀A' aF w1,OwnV w1 aa (I A' (vs.length+1) aF) (vs++[v])->W.grownBy w1 V.ownBlock->K (a.put o.dst (I A' (vs.length+1) aF)) w1) :
  if Region.wanted o (yielded ak a.tmps)=Av then Oper.wp An o a W K Q else E:=by
 have hw:Region.wanted o (yielded ak a.tmps)=Av:=by simp[Region.wanted,dZ]
 rw[Ln hw];exact wp_appv1 s x ho aa V vs v hs an hf g hx hg hb h
theorem zO{W w1:Ba}{row:Option Nat}{b o:Nat}{u:Au}(hg:W.grownBy w1 row)(h:W.cell? ⟨b,o,Z⟩=J u)(bt:row≠J b):w1.cell? ⟨b,o,Z⟩=J u:=by
 obtain⟨ob,ho,_⟩:=Ro h;rw[L7 ((hg.block b (Li.1 ho).1 (fun e=>bt e.symm)))];exact h
theorem jF(w:Ba)(g k:Nat)(v':Au):w.grownBy (w.setCell ⟨g,k,Z⟩ v') (J g):=
 ⟨rfl,rfl,rfl,by simp[World.setCell],fun j _ hj=>Lf w ⟨g,k,Z⟩ v' j (fun e=>hj (by rw[e]))⟩
theorem Qe{W w1:Ba}{row:Option Nat}{b:Nat}{o:Obj}(hg:W.grownBy w1 row)(h:W.heap[b]?=J o)(bt:row≠J b):w1.heap[b]?=J o:=
 (hg.block b (Li.1 h).1 (fun e=>bt e.symm)).trans h
theorem OwnV.kept{w w':Ba}{aa:Nat}{v:Au}{vs:List Vw}{row:Option Nat}(h:OwnV w aa v vs)(hg:w.grownBy w' row)(bt:v.ownBlock=Z\/v.ownBlock≠row):OwnV w' aa v vs:=Pj h hg bt
theorem OwnV.alloc{w:Ba}{aa:Nat}{v:Au}{vs:List Vw}(h:OwnV w aa v vs)(o:Obj):OwnV (w.alloc o) aa v vs:=Pf h o
theorem OwnV.drew{w:Ba}{aa:Nat}{v:Au}{vs:List Vw}(h:OwnV w aa v vs):OwnV w.drew aa v vs:=h
theorem OwnV.below{w w':Ba}{aa B:Nat}{v:Au}{xs:List Vw}(h:OwnV w aa v xs)(hb:Ao B w w')(hB:w.heap.size<=B):OwnV w' aa v xs:=
 Pj (row:=Z) h ⟨hb.os,hb.tape,hb.output,hb.size,fun k hk _=>hb.block k (by omega)⟩ (by cases v.ownBlock<;>simp)
theorem jG{W w1:Ba}{row:Option Nat}{b o:Nat}(hg:W.grownBy w1 row)(h:W.frozen? ⟨b,o,Z⟩=Ax)(ac:b<W.heap.size)(bt:row≠J b):w1.frozen? ⟨b,o,Z⟩=Ax:=
 (World.grownBy.frozen_far hg ⟨b,o,Z⟩ ac (fun e=>bt e.symm)).trans h
theorem OwnV.ne{w:Ba}{aa b:Nat}{v:Au}{xs:List Vw}(h:OwnV w aa v xs)(hb:b<aa):v.ownBlock≠J b:=fun e=>by
 have:=(h.lt b e).1;omega
def RetPut(n:Int)(A:Bb)(cap:Nat)(vs:List Vw)(v:Vw)(w:Ba)(e:Ending)(w':Ba):Prop:=
 Ao w.heap.size w w'/\(v∈vs->e=Am (.tuple #[Aj #[O U n,I A vs.length cap],O U (qq vs v)])) /\
  (v∉vs->∃A3 ey,e=Am (.tuple #[Aj #[O U n,I A3 (vs.length+1) ey],O U vs.length])/\OwnV w' w.heap.size (I A3 (vs.length+1) ey) (vs++[v]))
end
section
open Go.RowKit
section
variable {P:Program} {md:Region.Mode} {ak:Array Oper} {Q:Exit->Act->Ba->Prop} {l n:Nat}
theorem op_round{o:Oper}{a:Act}{w:Ba}{K:Act->Ba->Prop}(hd:∀c,o.op≠.defer c)(h:o.wp P a w K Q):o.wpIn (Fence.wide.inRound l) n P a w K Q:=by
 refine⟨fun _ _=>trivial,?_⟩;show o.uponIn (Fence.wide.inRound l) n P a K Q ((o.semAt (J l) a.eval).run P w);rw[Oper.semAt_some l a.eval o hd];unfold Oper.wp at h
 revert h
 cases (execOp a.eval o).run P w with
 | ok x w'=>
  cases x with
  | value v=>exact fun h=>h
  | skip=>exact fun h=>h
  | defer d=>exact fun h=>h
  | enter f args=>exact fun h=>⟨(fun h'=>Bool.noConfusion (show Ax=Av from h')),RM l (Rs.2 h)⟩
  | row r args=>exact fun h=>⟨(fun h'=>Bool.noConfusion (show Ax=Av from h')),fun b cs _=>by obtain⟨v,pT,hR,hs⟩:=h b cs;exact⟨v,pT,hR,stepsIn_wide.2 hs⟩⟩
  | _=>exact fun h=>h.elim
 | halt s w'=>
  cases s with
  | panic v=>exact fun h=>h
  | _=>exact fun h=>h.elim
def uL(ak:Array Oper):Bool:=ak.toList.all fun o=>match o.op with | .defer _=>Ax | _=>Av
theorem XF(h:uL ak=Av){i:Nat}{o:Oper}(ho:ak[i]?=J o):∀c,o.op≠.defer c:=by
 intro c e;have hm:o∈ak.toList:=by rw[Array.mem_toList_iff];exact Array.mem_of_getElem? ho
 have:=LH.1 h o hm;rw[e] at this
 cases this
theorem qO(hd:uL ak=Av)(fm:¬LetsOut Q):∀(fuel:Nat) (ag:Array Bool) (a:Act) (w:Ba),wpAny P md ak Q fuel ag a w->wpAnyIn (Fence.wide.inRound l) n P md ak Q fuel ag a w
 | 0,_,_,_,h=>h
 | fuel+1,ag,a,w,h=>by
  refine⟨h.1,fun i hi=>?_⟩;have h2:=h.2 i hi;unfold wpOp at h2;unfold wpOpIn
  cases ho:ak[i]? with
  | none=>rw[ho] at h2;exact qO hd fm fuel _ _ _ h2
  | some o=>
   rw[ho] at h2;dsimp only at h2 ⊢
   by_cases hw:Region.wanted o (yielded ak a.tmps)=Av
   . rw[Ln hw] at h2 ⊢
     rcases h2 with h2 | h2
     . exact op_round (XF hd ho) (Oper.wp_mono (fun a' w' hk=>qO hd fm fuel _ _ _ hk) h2)
     . exact absurd h2.2 fm
   . rw[Lj hw] at h2 ⊢
     exact⟨fun _ _=>trivial,qO hd fm fuel _ _ _ h2⟩
theorem any_still{n:Nat}{w:Ba}{a:Act}{xs:List Oper}(hB:Region.lexTailB .any xs.toArray n=Av)
  (h:wpStill P xs.toArray w (fun a'=>wpList P xs.toArray Q (xs.drop n) a' w) (xs.take n) a):wpAny P .any xs.toArray Q xs.toArray.size (Array.replicate xs.toArray.size Ax) a w:=by
 unfold Region.lexTailB at hB;simp only[Bool.and_eq_true,decide_eq_true_eq] at hB;have hn:n<xs.length:=by simpa using hB.1.1.1.2
 have e1:(xs.take n).length=n:=by rw[Nd];omega
 have e2:(xs.drop n).length=xs.toArray.size-n:=by rw[List.length_drop];rfl
 have hI:HeadInv .any xs.toArray n (Array.replicate xs.toArray.size Ax):=
  ⟨by simp,fun _ _ _ hl=>(by rw[Re] at hl;exact Bool.noConfusion hl),fun _ _ ht=>getD_in (by simpa using ht) (Re _ _)⟩
 have H:=wpAnyL_lex (md:=.any) (g:=xs.toArray.size-n) hB.1.1.1.1 hB.1.1.2 hB.1.2 hB.1.1.1.2 (xs.take n) 0 _ a
  (fun j hj=>by
   rw[e1] at hj
   simp[hj]) (by simpa using e1) hI (by rw[e1];exact hB.2) h
 have R:=wpAny_of_head (Q':=Q) (g:=xs.toArray.size-n) (fun ag a' hL=>by
  have T:=wpAny_of_seq (md:=.any) (Q':=Q) (xs.drop n) n ag a' w (fun j=>by simp[List.getElem?_drop]) (by rw[e2];exact hL.1) hL.2
  rwa[e2] at T) _ _ _ H
 rw[e1] at R;have e3:n+(xs.toArray.size-n)=xs.toArray.size:=by have:xs.toArray.size=xs.length:=rfl;omega
 rwa[e3] at R
theorem jy{id k:Nat}{a:Act}{w:Ba}{xs:List Oper}(n:Nat)(hm:P.follows .mixedOrders=Av)(hd:uL xs.toArray=Av)(hB:Region.lexTailB .any xs.toArray n=Av)(fm:¬LetsOut Q)
  (h:wpStill P xs.toArray w.drew (fun a'=>wpList P xs.toArray Q (xs.drop n) a' w.drew) (xs.take n) a):(Code.region id xs.toArray Av).wpIn (Fence.wide.inRound l) k P Q a w:=
 wpIn_region_any hm (qO hd fm _ _ _ _ (any_still hB h))
end
end
section
open Go.RowKit
section
variable {P:Program} {ak:Array Oper} {md:Region.Mode}
def Qf:Exit->Act->Ba->Prop:=fun _ _ _=>False
theorem QS:¬LetsOut Qf:=fun ⟨_,_,h⟩=>h
theorem wp_of_qf{o:Oper}{a:Act}{w:Ba}{K:Act->Ba->Prop}{Q:Exit->Act->Ba->Prop}(hh:o.wp P a w K Qf):o.wp P a w K Q:=by
 unfold Oper.wp at *
 generalize (execOp a.eval o).run P w=r at *
 cases r with
 | ok n w'=>
  cases n<;>simp only[Oper.upon] at hh⊢<;>
   first
    | exact hh
    | exact Calls.mono hh (fun e pT he=>by
      cases e with
      | returned v=>exact he
      | panicked c=>exact False.elim he
      | outgrown=>exact absurd he QS)
 | halt x w'=>cases x<;>simp only[Oper.upon] at hh ⊢<;>exact False.elim hh
def X3(P:Program)(ak:Array Oper)(i:Nat)(K:Act->Ba->Prop)(a:Act)(w:Ba):Prop:=
 ∃o,ak[i]?=J o/\if Region.wanted o (yielded ak a.tmps)=Av then o.wp P a w K Qf else K (a.put o.dst undef) w
theorem Ze{i:Nat}{K K':Act->Ba->Prop}{a:Act}{w:Ba}(h:∀a w,K a w->K' a w)(hh:X3 P ak i K a w):X3 P ak i K' a w:=by
 obtain⟨o,ho,hh⟩:=hh;refine⟨o,ho,?_⟩
 split at hh
 . rename_i hw;rw[Ln hw];exact Oper.wp_mono h hh
 rename_i hw;rw[Lj hw];exact h _ _ hh
def QF(md:Region.Mode)(ak:Array Oper):Nat->Nat->Nat->Bool
 | 0,_,_=>Ax
 | f+1,j,i=>match ak[j]? with
  | some o=>o.after.any fun e=>Region.binds md e&&(e.on==i||QF md ak f e.on i)
  | none=>Ax
def Yd(md:Region.Mode)(ak:Array Oper)(F:List Nat)(j:Nat):Bool:=F.all fun i=>QF md ak ak.size j i
def Closed(md:Region.Mode)(ak:Array Oper)(ag:Array Bool):Prop:=∀(j:Nat) (oj:Oper),ak[j]?=J oj->ag.getD j Ax=Av->∀e∈oj.after,Region.binds md e=Av->ag.getD e.on Ax=Av
theorem Closed.set{ag:Array Bool}(h:Closed md ak ag){i:Nat}(hi:i∈Region.ready md ak ag):Closed md ak (ag.setIfInBounds i Av):=by
 obtain⟨_,oi,Ve,aj⟩:=RF.1 hi;intro j oj hj hl e he hb
 by_cases Bn:i=j
 . subst Bn
   have:oj=oi:=N6 (hj.symm.trans Ve);subst this;exact getD_set_true (aj e he hb)
 rw[getD_set_ne Ax Bn] at hl;exact getD_set_true (h j oj hj hl e he hb)
theorem vV{ag:Array Bool}(h:Closed md ak ag):∀(f j i:Nat),(∀oj,ak[j]?=J oj->∀e∈oj.after,Region.binds md e=Av->ag.getD e.on Ax=Av)->QF md ak f j i=Av->ag.getD i Ax=Av
 | 0,_,_,_,hr=>by cases hr
 | f+1,j,i,hj,hr=>by
  unfold QF at hr
  cases ho:ak[j]? with
  | none=>rw[ho] at hr;cases hr
  | some o=>
   rw[ho] at hr;obtain⟨e,he,hb⟩:=Array.any_eq_true'.1 hr;simp only[Bool.and_eq_true,Bool.or_eq_true,beq_iff_eq] at hb;have hl:=hj o ho e he hb.1;rcases hb.2 with h1 | h1
   . rw[<-h1];exact hl
   . exact vV h f e.on i (fun oj sE e' pj cF=>h e.on oj sE hl e' pj cF) h1
theorem Yc{ag:Array Bool}(h:Closed md ak ag){F:List Nat}{j i:Nat}(hj:j∈Region.ready md ak ag)(hs:Yd md ak F j=Av)(hi:i∈F):ag.getD i Ax=Av:=by
 obtain⟨_,oj,sE,aj⟩:=RF.1 hj;refine vV h ak.size j i (fun o ho e he hb=>?_) (LH.1 hs i hi);have:oj=o:=N6 (sE.symm.trans ho);subst this;exact aj e he hb
def uT(P:Program)(md:Region.Mode)(ak:Array Oper)(F:List Nat)(Q:Act->Ba->Prop):Nat->Array Bool->(Ba->Prop)->Act->Ba->Prop
 | 0,ag,_,a,w=>Region.ready md ak ag=[]/\Q a w
 | fuel+1,ag,Kp,a,w=>(Region.ready md ak ag=[]->Q a w) /\
   ∀i∈Region.ready md ak ag,X3 P ak i (fun a' w'=>∃dU:Ba->Prop,((∀W,dU W->Kp W)\/Yd md ak F i=Av)/\dU w'/\uT P md ak F Q fuel (ag.setIfInBounds i Av) dU a' w') a w
theorem js{F:List Nat}{Q:Exit->Act->Ba->Prop}{Qn:Act->Ba->Prop}(hQ:∀a w,Qn a w->Q .normal a w):∀(fuel:Nat) (ag:Array Bool) (Kp:Ba->Prop) (a:Act) (w:Ba),
  uT P md ak F Qn fuel ag Kp a w->wpAny P md ak Q fuel ag a w
 | 0,_,_,_,_,h=>⟨h.1,hQ _ _ h.2⟩
 | fuel+1,ag,Kp,a,w,h=>by
  refine⟨fun h0=>hQ _ _ (h.1 h0),fun i hi=>?_⟩;obtain⟨o,ho,h2⟩:=h.2 i hi;unfold wpOp;rw[ho];dsimp only
  split at h2
  . rename_i hw
    rw[Ln hw];exact .inl (Oper.wp_mono (fun a' w' ⟨dU,_,_,h3⟩=>js hQ fuel _ dU a' w' h3) (wp_of_qf h2))
  . rename_i hw
    rw[Lj hw];obtain⟨dU,_,_,h3⟩:=h2;exact js hQ fuel _ dU _ _ h3
def FloatTo(P:Program)(ak:Array Oper)(Kp:Ba->Prop)(o:Oper)(a a1:Act):Prop:=∀W,Kp W->∃v,YieldsAt P ak W o v a/\a.put o.dst v=a1
theorem FloatTo.less{Kp dU:Ba->Prop}{o:Oper}{a a1:Act}(h:FloatTo P ak Kp o a a1)(hs:∀W,dU W->Kp W):FloatTo P ak dU o a a1:=fun W hW=>h W (hs W hW)
theorem vr(a:Act)(d:Option Tmp)(v:Au)(x:Deferred):({ a.put d v with defers:=x::(a.put d v).defers }:Act)=({ a with defers:=x::a.defers }:Act).put d v:=by
 cases d<;>rfl
theorem kpOp_put{j:Nat}{oi oj:Oper}{Kp:Ba->Prop}(hj:ak[j]?=J oj)(Wh:oi.apart ak oj=Av)
  (U1:∀cs b,oi.op≠.select cs b) (UZ:∀cs b,oj.op≠.select cs b) {K:Act->Ba->Prop} {a a1:Act} {w:Ba}
  (hy:FloatTo P ak Kp oi a a1) (hk:Kp w) (h:X3 P ak j K a1 w) :
  X3 P ak j (fun a' w'=>∃FY,FloatTo P ak Kp oi a' FY/\K FY w') a w:=by
 obtain⟨h1,h2,h3⟩:=Oper.apart_spec Wh;obtain⟨v,hv,rfl⟩:=hy w hk
 have keep:∀u,FloatTo P ak Kp oi (a.put oj.dst u) ((a.put oi.dst v).put oj.dst u):=fun u W hW=>by
  obtain⟨v',GX,e⟩:=hy W hW;exact⟨v',GX.of_same (execOp_put oi U1 a oj.dst u h3) (wanted_put oi a oj.dst u h3),by rw[<-Act.put_comm a v' u h2,e]⟩
 have Co:∀(x:Deferred) u,FloatTo P ak Kp oi (({ a with defers:=x::a.defers }:Act).put oj.dst u) ((({ a.put oi.dst v with defers:=x::(a.put oi.dst v).defers }:Act)).put oj.dst u):=fun x u W hW=>by
  obtain⟨v',GX,e⟩:=keep u W hW;rw[<-vr a oj.dst u x,<-vr (a.put oi.dst v) oj.dst u x];refine⟨v',GX.of_same rfl rfl,?_⟩;rw[<-vr,e]
 obtain⟨o,ho,h⟩:=h;have:oj=o:=N6 (hj.symm.trans ho);subst this;refine⟨oj,hj,?_⟩;rw[wanted_put oj a oi.dst v h1] at h
 split
 . rename_i hw
   rw[Ln hw] at h;unfold Oper.wp at *;rw[execOp_put oj UZ a oi.dst v h1] at h
   generalize (execOp a.eval oj).run P w=r at *
   cases r with
   | ok n w'=>
    cases n<;>simp only[Oper.upon] at h ⊢
    case value u=>exact⟨_,keep u,h⟩
    case skip=>exact⟨_,keep undef,h⟩
    case defer d=>exact⟨_,Co d undef,h⟩
    case enter f args=>
     exact Calls.mono h (fun e pT he=>by
       cases e with
       | returned u=>exact⟨_,keep u,he⟩
       | panicked c=>exact False.elim he
       | outgrown=>exact absurd he QS)
    case row row args=>exact Rows.mono h (fun u pT he=>⟨_,keep u,he⟩)
   | halt x w'=>cases x<;>simp only[Oper.upon] at h ⊢<;>exact h
 rename_i hw;rw[Lj hw] at h;exact⟨_,keep undef,h⟩
theorem vQ{i:Nat}{o:Oper}{v:Au}{a:Act}{w:Ba}(hi:ak[i]?=J o)(hy:YieldsAt P ak w o v a){K:Act->Ba->Prop}(h:K (a.put o.dst v) w):X3 P ak i K a w:=by
 refine⟨o,hi,?_⟩;rcases hy with ⟨hw,hv | ⟨hv,rfl⟩ | ⟨f,args,hv,hc⟩⟩ | ⟨hw,rfl⟩
 . rw[Ln hw];unfold Oper.wp;rw[hv];exact h
 . rw[Ln hw];unfold Oper.wp;rw[hv];exact h
 . rw[Ln hw];unfold Oper.wp;rw[hv]
   exact hc.mono fun e pT ⟨he,cx⟩=>by subst he;subst cx;exact h
 rw[Lj (by rw[hw];decide)];exact h
theorem Zx{F:List Nat}{Q:Act->Ba->Prop}{i:Nat}{oi:Oper}(hF:i∈F)(hi:ak[i]?=J oi)(CG:∀(j:Nat) (o:Oper) cs b,ak[j]?=J o->o.op≠.select cs b) :
  ∀(fuel:Nat) (ag:Array Bool) (Kp:Ba->Prop) (a a1:Act) (w:Ba),
   (∀j oj,ak[j]?=J oj->j≠i->ag.getD j Av=Ax->(∀e∈oj.after,Region.binds md e=Av->e.on≠i)->oi.apart ak oj=Av) ->
   Closed md ak ag->i∈Region.ready md ak ag->FloatTo P ak Kp oi a a1->Kp w ->
   uT P md ak F Q fuel (ag.setIfInBounds i Av) Kp a1 w->uT P md ak F Q (fuel+1) ag Kp a w:=by
 intro fuel
 induction fuel with
 | zero=>
  intro ag Kp a a1 w _ _ hr hy hk H;refine⟨fun h=>(by rw[h] at hr;cases hr),fun j hj=>?_⟩
  by_cases nT:j=i
  . subst nT
    obtain⟨v,hv,rfl⟩:=hy w hk;exact vQ hi hv ⟨Kp,.inl fun _ h=>h,hk,H⟩
  . have:=ready_mono hj nT
    rw[H.1] at this
    cases this
 | succ fuel ih=>
  intro ag Kp a a1 w rq bh hr hy hk H;refine⟨fun h=>(by rw[h] at hr;cases hr),fun j hj=>?_⟩
  by_cases nT:j=i
  . subst nT
    obtain⟨v,hv,rfl⟩:=hy w hk;exact vQ hi hv ⟨Kp,.inl fun _ h=>h,hk,H⟩
  . have h1:=H.2 j (ready_mono hj nT)
    obtain⟨Db,oj,sE,aj⟩:=RF.1 hj
    have Hz:∀e∈oj.after,Region.binds md e=Av->e.on≠i:=fun e he hb fr=>by
     have h1:=aj e he hb;have h0:=(RF.1 hr).1;rw[fr] at h1;rcases Nat.lt_or_ge i ag.size with h' | h'
     . simp[h'] at h0 h1;rw[h0] at h1;cases h1
     . simp[Array.getElem?_eq_none h'] at h1
    have h2:=kpOp_put sE (rq j oj sE nT Db Hz) (fun cs b=>CG i oi cs b hi) (fun cs b=>CG j oj cs b sE) hy hk h1
    have sY:∀k ok,ak[k]?=J ok->k≠i->(ag.setIfInBounds j Av).getD k Av=Ax ->
      (∀e∈ok.after,Region.binds md e=Av->e.on≠i)->oi.apart ak ok=Av:=fun k ok hk Vt OT fm=>by
     refine rq k ok hk Vt ?_ fm
     by_cases Is:j=k
     . subst Is;exact Db
     . rw[getD_set_ne Av Is] at OT;exact OT
    have Vf:Yd md ak F j=Av->False:=fun Fm=>by
     have h1:=Yc bh hj Fm hF;have h0:=(RF.1 hr).1;rcases Nat.lt_or_ge i ag.size with h' | h'
     . simp[h'] at h0 h1;rw[h0] at h1;cases h1
     . simp[Array.getElem?_eq_none h'] at h1
    refine Ze (fun a' w' ⟨FY,hf,dU,lK,cY,h3⟩=>⟨dU,lK,cY,ih (ag.setIfInBounds j Av) dU a' FY w' sY (bh.set hj) (ready_mono hr (PC nT)) (hf.less (lK.resolve_right Vf)) cY ?_⟩) h2;rw[Array.setIfInBounds_comm _ _ nT];exact h3
def qC(P:Program)(md:Region.Mode)(ak:Array Oper)(F:List Nat)(Q:Act->Ba->Prop):List (Nat×Bool)->(Ba->Prop)->Act->Ba->Prop
 | [],_,a,w=>Q a w
 | (i,Av)::r,Kp,a,w=>∃o a1,ak[i]?=J o/\FloatTo P ak Kp o a a1/\qC P md ak F Q r Kp a1 w
 | (i,Ax)::r,Kp,a,w=>X3 P ak i (fun a' w'=>∃dU:Ba->Prop,((∀W,dU W->Kp W)\/Yd md ak F i=Av)/\dU w'/\qC P md ak F Q r dU a' w') a w
def XH(md:Region.Mode)(ak:Array Oper)(F:List Nat):List (Nat×Bool)->Array Bool->Bool
 | [],ag=>(Region.ready md ak ag).isEmpty
 | (i,Av)::r,ag=>F.contains i&&(Region.ready md ak ag).contains i&&Region.free md ak ag i&&XH md ak F r (ag.setIfInBounds i Av)
 | (i,Ax)::r,ag=>decide (Region.ready md ak ag=[i])&&XH md ak F r (ag.setIfInBounds i Av)
theorem jt{F:List Nat}{Q:Act->Ba->Prop}(hs:Region.noSelect ak=Av):∀(l:List (Nat×Bool)) (ag:Array Bool) (Kp:Ba->Prop) (a:Act) (w:Ba),
  XH md ak F l ag=Av->Closed md ak ag->Kp w->qC P md ak F Q l Kp a w->uT P md ak F Q l.length ag Kp a w
 | [],_,_,_,_,hB,_,_,h=>⟨by simpa[XH] using hB,h⟩
 | (i,Av)::l,ag,Kp,a,w,hB,bh,hk,h=>by
  simp only[XH,Bool.and_eq_true] at hB;obtain⟨o,a1,ho,hf,h⟩:=h;have hr:i∈Region.ready md ak ag:=by simpa using hB.1.1.2
  exact Zx (by simpa using hB.1.1.1) ho (Region.noSelect_spec hs) l.length ag Kp a a1 w (Region.free_spec ho hB.1.2) bh hr hf hk (jt hs l _ Kp a1 w hB.2 (bh.set hr) hk h)
 | (i,Ax)::l,ag,Kp,a,w,hB,bh,hk,h=>by
  simp only[XH,Bool.and_eq_true,decide_eq_true_eq] at hB;refine⟨fun h1=>(by rw[hB.1] at h1;cases h1),fun j hj=>?_⟩;rw[hB.1] at hj;have nT:j=i:=by simpa using hj
  subst nT;exact Ze (fun a' w' ⟨dU,lK,cY,h3⟩=>⟨dU,lK,cY,jt hs l _ dU a' w' hB.2 (bh.set (by rw[hB.1];simp)) cY h3⟩) h
def j7(l:List (Nat×Bool)):List Nat:=l.filterMap fun x=>if x.2 then J x.1 else Z
theorem YV:Closed md ak (Array.replicate ak.size Ax):=fun j _ _ h=>by rw[Re] at h;cases h
def ZO(md:Region.Mode)(ak:Array Oper)(l:List (Nat×Bool)):Bool:=Region.noSelect ak&&XH md ak (j7 l) l (Array.replicate ak.size Ax)&&l.length==ak.size
theorem Jd{Q:Exit->Act->Ba->Prop}{a:Act}{w:Ba}{xs:List Oper}(l:List (Nat×Bool))(Kp:Ba->Prop)(hB:ZO .any xs.toArray l=Av)
  (h0:Kp w) (h:qC P .any xs.toArray (j7 l) (fun a' w'=>Q .normal a' w') l Kp a w):wpAny P .any xs.toArray Q xs.toArray.size (Array.replicate xs.toArray.size Ax) a w:=by
 unfold ZO at hB;simp only[Bool.and_eq_true,beq_iff_eq] at hB;have:=jt (md:=.any) hB.1.1 l _ Kp a w hB.1.2 YV h0 h;rw[hB.2] at this;exact js (fun _ _ h=>h) _ _ _ _ _ this
theorem zz{id:Nat}{Q:Exit->Act->Ba->Prop}{a:Act}{w:Ba}{xs:List Oper}(l:List (Nat×Bool))(Kp:Ba->Prop)(hm:P.follows .mixedOrders=Av)(hB:ZO .any xs.toArray l=Av)
  (h0:Kp w.drew) (h:qC P .any xs.toArray (j7 l) (fun a' w'=>Q .normal a' w') l Kp a w.drew):(Code.region id xs.toArray Av).wp P Q a w:=
 wp_region_any hm (Jd l Kp hB h0 h)
theorem vo{id k l0:Nat}{Q:Exit->Act->Ba->Prop}{a:Act}{w:Ba}{xs:List Oper}(l:List (Nat×Bool))(Kp:Ba->Prop)(hm:P.follows .mixedOrders=Av)(hd:uL xs.toArray=Av)(hB:ZO .any xs.toArray l=Av)(fm:¬LetsOut Q)
  (h0:Kp w.drew) (h:qC P .any xs.toArray (j7 l) (fun a' w'=>Q .normal a' w') l Kp a w.drew):(Code.region id xs.toArray Av).wpIn (Fence.wide.inRound l0) k P Q a w:=
 wpIn_region_any hm (qO hd fm _ _ _ _ (Jd l Kp hB h0 h))
theorem zg{F:List Nat}{Q:Act->Ba->Prop}{i:Nat}{r:List (Nat×Bool)}{Kp:Ba->Prop}{a a1:Act}{w:Ba}{o:Oper}(ho:ak[i]?=J o)
  (h:∀(K:Act->Prop),K a1->∀W,Kp W->if Region.wanted o (yielded ak a.tmps)=Av then o.still P a W K else K (a.put o.dst undef))
  (k:qC P md ak F Q r Kp a1 w):qC P md ak F Q ((i,Av)::r) Kp a w:=by
 refine⟨o,a1,ho,fun W hW=>?_,k⟩;have h2:=h (fun x=>x=a1) rfl W hW;have h3:stOp P ak W i (fun x=>x=a1) a:=by unfold stOp;simp only[ho];exact h2
 obtain⟨v,hv,he⟩:=yieldsAt_of_stOp ho h3;exact⟨v,hv,he⟩
theorem zE{F:List Nat}{Q:Act->Ba->Prop}{i:Nat}{r:List (Nat×Bool)}{Kp:Ba->Prop}{a:Act}{w:Ba}{o:Oper}(ho:ak[i]?=J o)
  (h:∀K:Act->Ba->Prop,(∀a' w',Kp w'->qC P md ak F Q r Kp a' w'->K a' w')->if Region.wanted o (yielded ak a.tmps)=Av then o.wp P a w K Qf else K (a.put o.dst undef) w):qC P md ak F Q ((i,Ax)::r) Kp a w:=
 ⟨o,ho,h _ fun _ _ hk h3=>⟨Kp,.inl fun _ h=>h,hk,h3⟩⟩
theorem ya{F:List Nat}{Q:Act->Ba->Prop}{Kp:Ba->Prop}{a:Act}{w:Ba}(h:Q a w):qC P md ak F Q [] Kp a w:=h
theorem xh{F:List Nat}{Q:Act->Ba->Prop}{i:Nat}{r:List (Nat×Bool)}{Kp:Ba->Prop}{a:Act}{w:Ba}{o:Oper}(ho:ak[i]?=J o)(hs:Yd md ak F i=Av)
  (h:∀K:Act->Ba->Prop,(∀(dU:Ba->Prop) a' w',dU w'->qC P md ak F Q r dU a' w'->K a' w')->if Region.wanted o (yielded ak a.tmps)=Av then o.wp P a w K Qf else K (a.put o.dst undef) w):qC P md ak F Q ((i,Ax)::r) Kp a w:=
 ⟨o,ho,h _ fun dU _ _ hk h2=>⟨dU,.inr hs,hk,h2⟩⟩
end
end
section
open Go.RowKit
def zG(a:Ad):Nat->Int->Nat
 | 0,_=>1
 | k+1,s=>((a.at_ s).map fun m=>zG a k m.to).sum
def yz(L x:Nat):Nat:=min x (L+1)
def cl(a:Ad)(L k s:Nat):List Int:=(List.range s).map fun (j:Nat)=>((yz L (zG a k (j:Int)):Nat):Int)
theorem qW(a:Ad)(L k s:Nat):(cl a L k s).length=s:=by unfold cl;simp
theorem Q4(a:Ad)(L k s:Nat):cl a L k (s+1)=cl a L k s++[((yz L (zG a k (s:Int)):Nat):Int)]:=by
 unfold cl;rw[NF,LI];rfl
theorem gh(a:Ad)(L k s j:Nat)(h:j<(cl a L k s).length):(cl a L k s)[j]=((yz L (zG a k (j:Int)):Nat):Int):=by
 simp[cl]
def qD(a:Ad)(k:Nat)(M:List Mv)(j:Nat):Nat:=((M.take j).map fun m=>zG a k m.to).sum
theorem Xi(a:Ad)(k:Nat)(M:List Mv):qD a k M 0=0:=by unfold qD;rw[LP];rfl
theorem Xj(a:Ad)(k:Nat)(M:List Mv){j:Nat}(h:j<M.length):qD a k M (j+1)=qD a k M j+zG a k M[j].to:=by
 unfold qD;rw[Lu h,LI,RL];simp
theorem Jt(a:Ad)(k:Nat){s:Nat}(h:s<a.sts.length):qD a k a.sts[s] (a.sts[s].length)=zG a (k+1) (s:Int):=by
 unfold qD;rw[zG,LD,show a.at_ (s:Int)=a.sts[s] by unfold Ad.at_;rw[Lv,Le,Lg h];rfl]
theorem vm(L x:Nat):yz L x<=L+1:=Nat.min_le_right _ _
theorem QM(L x y:Nat):min (yz L x+yz L y) (L+1)=yz L (x+y):=by unfold yz;omega
theorem Ye(L:Nat):yz L 0=0:=by unfold yz;omega
theorem QK(L:Nat):yz L 1=1:=by unfold yz;omega
theorem sat_gt(L x:Nat):(L<yz L x)↔L<x:=by unfold yz;omega
theorem Xn{L x:Nat}(h:x<=L):yz L x=x:=by unfold yz;omega
theorem QL(L c x:Nat)(hc:1<=c):(L<c*yz L x)↔L<c*x:=by
 unfold yz
 by_cases h:x<=L+1
 . rw[Ra h]
 rw[Nat.min_eq_right (by omega)];have h1:1*(L+1)<=c*(L+1):=NJ _ hc;have h2:c*(L+1)<=c*x:=Nat.mul_le_mul_left _ (by omega);constructor<;>intro _<;>omega
def zn(a:Ad):Nat->Int->List (List Rd)
 | 0,_=>[[]]
 | k+1,s=>(a.at_ s).flatMap fun m=>(zn a k m.to).map (m.r::·)
theorem yr(a:Ad):∀(k:Nat) (s:Int),(zn a k s).length=zG a k s
 | 0,_=>rfl
 | k+1,s=>by
  rw[zn,zG,List.length_flatMap]
  congr 1
  exact Ph fun m _=>by rw[LG,yr a k m.to]
theorem yQ(a:Ad):∀(k:Nat) (s:Int),∀w∈zn a k s,w.length=k
 | 0,_,w,h=>by simp[zn] at h;subst h;rfl
 | k+1,s,w,h=>by
  rw[zn] at h;obtain⟨m,_,hm⟩:=LR.1 h;obtain⟨w',hw,rfl⟩:=LA.1 hm;rw[Lz,yQ a k m.to w' hw]
theorem at_mem{a:Ad}{s:Int}{m:Mv}(h:m∈a.at_ s):m∈a.mvs:=by
 unfold Ad.at_ at h;unfold Ad.mvs;rw[Le] at h
 cases hc:a.sts[s.toNat]? with
 | none=>rw[hc] at h;cases h
 | some l=>rw[hc] at h;exact NA.2 ⟨l,PA hc,h⟩
theorem qS(a:Ad):∀(k:Nat) (s:Int),∀w∈zn a k s,∀r∈w,∃m∈a.mvs,m.r=r
 | 0,_,w,h,r,hr=>by simp[zn] at h;subst h;cases hr
 | k+1,s,w,h,r,hr=>by
  rw[zn] at h;obtain⟨m,Vk,hm⟩:=LR.1 h;obtain⟨w',hw,rfl⟩:=LA.1 hm;rcases LT.1 hr with rfl | hr
  . exact⟨m,at_mem Vk,rfl⟩
  . exact qS a k m.to w' hw r hr
def zM(r:Rd)(p:Nat)(now:List Int)(q:Nat):Int:=if q<now.length/\(r.h p).toNat.testBit q=Av then now.getD q 0 else -1
def yI(r:Rd)(k p:Nat)(now:List Int):Vw:=⟨p,k,0,zM r p now 0,zM r p now 1,zM r p now 2,zM r p now 3,zM r p now 4⟩
def yw(p:Nat)(i:Int):Vw:=⟨p,0,i,-1,-1,-1,-1,-1⟩
def xu(vs:List Vw)(v:Vw):List Vw×Int:=if v∈vs then (vs,qq vs v) else (vs++[v],vs.length)
theorem Yq{vs:List Vw}{v:Vw}(h:v∈vs):xu vs v=(vs,qq vs v):=Ln h
theorem QT{vs:List Vw}{v:Vw}(h:v∉vs):xu vs v=(vs++[v],(vs.length:Int)):=Lj h
theorem putW_len(vs:List Vw)(v:Vw):(xu vs v).1.length<=vs.length+1:=by
 unfold xu;split<;>simp
def zP(f:Nat->Vw)(vs:List Vw):Nat->List Vw×List Int
 | 0=>(vs,[])
 | p+1=>((xu (zP f vs p).1 (f p)).1,(zP f vs p).2++[(xu (zP f vs p).1 (f p)).2])
theorem xe(f:Nat->Vw)(vs:List Vw):∀p,(zP f vs p).2.length=p
 | 0=>rfl
 | p+1=>by rw[zP,Lq,xe f vs p];rfl
theorem qF(f:Nat->Vw)(vs:List Vw):∀p,(zP f vs p).1.length<=vs.length+p
 | 0=>by simp[zP]
 | p+1=>by
  have h:=qF f vs p;have h2:=putW_len (zP f vs p).1 (f p);rw[zP];dsimp only;omega
def zm(vs:List Vw)(n:Nat)(inp:List Int)(word:List Rd):Nat->List Vw×List (List Int)
 | 0=>((zP (fun p=>yw p (inp.getD p 0)) vs n).1,[(zP (fun p=>yw p (inp.getD p 0)) vs n).2])
 | j+1=>((zP (fun p=>yI (word.getD j default) (j+1) p ((zm vs n inp word j).2.getD j [])) (zm vs n inp word j).1 n).1,
   (zm vs n inp word j).2++[(zP (fun p=>yI (word.getD j default) (j+1) p ((zm vs n inp word j).2.getD j [])) (zm vs n inp word j).1 n).2])
theorem zY(vs:List Vw)(n:Nat)(inp:List Int)(word:List Rd):∀j,(zm vs n inp word j).2.length=j+1
 | 0=>rfl
 | j+1=>by rw[zm,Lq,zY vs n inp word j];rfl
theorem qG(vs:List Vw)(n:Nat)(inp:List Int)(word:List Rd):∀j,(zm vs n inp word j).1.length<=vs.length+(j+1)*n
 | 0=>by rw[zm];have:=qF (fun p=>yw p (inp.getD p 0)) vs n;simpa using this
 | j+1=>by
  have h:=qG vs n inp word j;have h2:=qF (fun p=>yI (word.getD j default) (j+1) p ((zm vs n inp word j).2.getD j [])) (zm vs n inp word j).1 n;rw[zm,Pz (j+1) 1 n];dsimp only;omega
theorem qg(vs:List Vw)(n:Nat)(inp:List Int)(word:List Rd):∀j,∀l∈(zm vs n inp word j).2,l.length=n
 | 0,l,h=>by rw[zm] at h;simp at h;subst h;exact xe _ _ _
 | j+1,l,h=>by
  rw[zm] at h;rcases LS.1 h with h | h
  . exact qg vs n inp word j l h
  . simp at h;subst h;exact xe _ _ _
def zk(p:Pb):List (Nat×List Rd):=(List.range p.t.cases.length).flatMap fun i=>(zn p.a p.k.toNat 0).map fun w=>(i,w)
def zW(p:Pb)(i:Nat):List Int:=(p.t.cases.getD i default).inp
def zo(p:Pb)(l:List (Nat×List Rd)):List Vw×List Exn:=
 l.foldl (fun s x=>((zm s.1 p.t.n.toNat (zW p x.1) x.2 x.2.length).1,s.2++[⟨x.1,x.2,(zm s.1 p.t.n.toNat (zW p x.1) x.2 x.2.length).2⟩])) ([],[])
theorem kj(p:Pb):zo p []=([],[]):=rfl
theorem xI(p:Pb)(l:List (Nat×List Rd))(x:Nat×List Rd):zo p (l++[x]) =
  ((zm (zo p l).1 p.t.n.toNat (zW p x.1) x.2 x.2.length).1,(zo p l).2++[⟨x.1,x.2,(zm (zo p l).1 p.t.n.toNat (zW p x.1) x.2 x.2.length).2⟩]):=by
 unfold zo;rw[List.foldl_append];rfl
def xW:Sy:=⟨⟨⟨0,0,0,[]⟩,⟨0,[]⟩,0⟩,0,[],[]⟩
def zq(p:Pb):Sy:=⟨p,p.t.n,(zo p (zk p)).1,(zo p (zk p)).2⟩
end
section
open Go.RowKit
def RowX{α:Type}(C:Ct α)(S:Nat->Prop)(w:Ba)(g:Nat)(xs:List α):Prop:=
 ∃dr,w.heap[g]?=J (Ah dr C.K.e (0,0))/\∀(i:Nat) (hi:i<xs.length),∃cs,C.lies (fun k=>S k/\k≠g) w cs xs[i]/\∀j u,cs[j]?=J u->dr[i*C.K.size+j]?=J u
section
variable {α:Type} {C:Ct α} {S S':Nat->Prop} {w w':Ba} {g:Nat} {xs:List α}
theorem RowX.keep(ok:CtOk C)(h:RowX C S w g xs)(hk:KeepB (fun k=>S k/\k≠g) w w')(hg:w'.heap[g]?=w.heap[g]?):RowX C S w' g xs:=by
 obtain⟨dr,h1,h2⟩:=h;refine⟨dr,hg.trans h1,fun i hi=>?_⟩;obtain⟨cs,h3,h4⟩:=h2 i hi;exact⟨cs,ok.keep h3 hk,h4⟩
theorem RowX.below(ok:CtOk C){B:Nat}(h:RowX C S w g xs)(hb:Ao B w w')(hB:w.heap.size<=B):RowX C S w' g xs:=
 h.keep ok ⟨hb.size,fun k _ hk=>hb.block k (by omega)⟩ (hb.block g (by obtain⟨dr,h1,_⟩:=h;have:=zd h1;omega))
theorem RowX.mono(ok:CtOk C)(h:RowX C S w g xs)(hm:∀k,k<w.heap.size->S k->S' k):RowX C S' w g xs:=by
 obtain⟨dr,h1,h2⟩:=h;refine⟨dr,h1,fun i hi=>?_⟩;obtain⟨cs,h3,h4⟩:=h2 i hi;exact⟨cs,ok.mono h3 fun k hk hs=>⟨hm k hk hs.1,hs.2⟩,h4⟩
theorem RowX.lt(h:RowX C S w g xs):g<w.heap.size:=by obtain⟨dr,h1,_⟩:=h;exact zd h1
theorem RowX.other(ok:CtOk C)(h:RowX C S w g xs){b:Nat}(o:Nat)(v:Au)(hb:b≠g)(hS:¬S b):RowX C S (w.setCell ⟨b,o,Z⟩ v) g xs:=
 h.keep ok (KeepB.setCell (fun h=>hS h.1) v) (Lf w ⟨b,o,Z⟩ v g (fun e=>hb e.symm))
theorem RowX.of_own(ok:CtOk C){aa n cap:Nat}{v:Au}{cs:List Au}(h:OwnR C.K w aa v n cs)(hv:v=I (J ⟨g,0,Z⟩) n cap)(_hn:xs.length=n)
  (hc:∀(i:Nat) (hi:i<xs.length),∃d,C.lies (fun k=>S k/\k≠g) w d xs[i]/\∀j u,d[j]?=J u->cs[i*C.K.size+j]?=J u):RowX C S w g xs:=by
 have:=ok;subst hv;rcases h.2 with ⟨e,_⟩ | ⟨g',aF,cur,e,_,hg,_,_,_,ht⟩
 . cases e
 cases e
 refine⟨cur,hg,fun i hi=>?_⟩;obtain⟨d,h1,h2⟩:=hc i hi;refine⟨d,h1,fun j u hu=>?_⟩;have h3:=h2 j u hu;rw[<-ht,PI] at h3
 split at h3
 . simpa using h3
 cases h3
end
theorem RowX.set3{S:Nat->Prop}{w:Ba}{g:Nat}{xs:List Cs}(h:RowX cCs S w g xs){i:Nat}(hi:i<xs.length){v0 v1 v2:Au}(hl:cCs.lies (fun k=>S k/\k≠g) w [v0,v1,v2] xs[i]) :
  RowX cCs S (((w.setCell ⟨g,i*3,Z⟩ v0).setCell ⟨g,i*3+1,Z⟩ v1).setCell ⟨g,i*3+2,Z⟩ v2) g xs:=by
 obtain⟨dr,h1,h2⟩:=h;have k1:=Lk w g (i*3) dr _ v0 h1;have k2:=Lk _ g (i*3+1) _ _ v1 k1;have k3:=Lk _ g (i*3+2) _ _ v2 k2
 have hk:KeepB (fun k=>S k/\k≠g) w (((w.setCell ⟨g,i*3,Z⟩ v0).setCell ⟨g,i*3+1,Z⟩ v1).setCell ⟨g,i*3+2,Z⟩ v2):=
  ((KeepB.setCell (a:=⟨g,i*3,Z⟩) (fun h=>h.2 rfl) v0).trans (KeepB.setCell (a:=⟨g,i*3+1,Z⟩) (fun h=>h.2 rfl) v1)).trans (KeepB.setCell (a:=⟨g,i*3+2,Z⟩) (fun h=>h.2 rfl) v2)
 refine⟨_,k3,fun i' dq=>?_⟩
 by_cases e:i'=i
 . subst e
   obtain⟨cs,h3,h4⟩:=h2 i' dq;have aO:=xC.len h3
   have hb:i'*3+2<dr.size:=by
    have hc2:2<cs.length:=by rw[aO];show 2<3;omega
    have:=h4 2 cs[2] (Lg hc2);exact(Li.1 this).1
   refine⟨[v0,v1,v2],xC.keep hl hk,fun j u hu=>?_⟩;change (((dr.setIfInBounds (i'*3) v0).setIfInBounds (i'*3+1) v1).setIfInBounds (i'*3+2) v2)[i'*3+j]?=J u
   match j,hu with
   | 0,hu=>cases hu;rw[LY (by omega),LY (by omega),Pq,NI (by omega)]
   | 1,hu=>cases hu;rw[LY (by omega),NI (by simp;omega)]
   | 2,hu=>cases hu;rw[NI (by simp;omega)]
 obtain⟨cs,h3,h4⟩:=h2 i' dq;refine⟨cs,xC.keep h3 hk,fun j u hu=>?_⟩;have hj:j<3:=by have:=(Lo.1 hu).1;rw[xC.len h3] at this;exact this
 have h5:=h4 j u hu;change dr[i'*3+j]?=J u at h5;change (((dr.setIfInBounds (i*3) v0).setIfInBounds (i*3+1) v1).setIfInBounds (i*3+2) v2)[i'*3+j]?=J u;rw[LY (by omega),LY (by omega),LY (by omega)];exact h5
theorem RowX.set1{α:Type}{C:Ct α}(ok:CtOk C)(FW:C.K.size=1){S:Nat->Prop}{w:Ba}{g:Nat}{xs:List α}(h:RowX C S w g xs){i:Nat}(hi:i<xs.length){v0:Au}(hl:C.lies (fun k=>S k/\k≠g) w [v0] xs[i]) :
  RowX C S (w.setCell ⟨g,i,Z⟩ v0) g xs:=by
 obtain⟨dr,h1,h2⟩:=h;have k1:=Lk w g i dr _ v0 h1;have hk:KeepB (fun k=>S k/\k≠g) w (w.setCell ⟨g,i,Z⟩ v0):=KeepB.setCell (a:=⟨g,i,Z⟩) (fun h=>h.2 rfl) v0;refine⟨_,k1,fun i' dq=>?_⟩;obtain⟨cs,h3,h4⟩:=h2 i' dq;have aO:=ok.len h3;rw[FW] at aO
 by_cases e:i'=i
 . subst e
   have hb:i'<dr.size:=by
    have:=h4 0 cs[0] (Lg (by omega));rw[FW] at this;have:=(Li.1 this).1;omega
   refine⟨[v0],ok.keep hl hk,fun j u hu=>?_⟩;have hj:j=0:=by have:=(Lo.1 hu).1;simp at this;omega
   subst hj
   cases hu
   rw[FW,N0,Pq,NI hb]
 refine⟨cs,ok.keep h3 hk,fun j u hu=>?_⟩;have hj:j=0:=by have:=(Lo.1 hu).1;omega
 subst hj;have h5:=h4 0 u hu;rw[FW,N0,Pq] at h5 ⊢;rw[LY (by omega)];exact h5
theorem RowX.cat{S:Nat->Prop}{w:Ba}{g:Nat}{xs:List Cs}(h:RowX cCs S w g xs):CAt w w.heap.size (J ⟨g,0,Z⟩) xs:=fun _=>by
 obtain⟨dr,h1,h2⟩:=h;refine⟨g,0,rfl,zd h1,fun i hi=>?_⟩;obtain⟨cs,⟨A0,c0,A1,c1,A2,c2,rfl,sT,dP,eH⟩,h4⟩:=h2 i hi;refine⟨_,_,_,?_,?_,?_,⟨A0,c0,rfl,sT.iat⟩,⟨A1,c1,rfl,dP.lat⟩,⟨A2,c2,rfl,eH.lat⟩⟩
 . rw[LM];exact za h1 _ (h4 0 _ rfl)
 . rw[LM];exact za h1 _ (h4 1 _ rfl)
 . rw[LM];exact za h1 _ (h4 2 _ rfl)
theorem RowX.sat{S:Nat->Prop}{w:Ba}{g:Nat}{xs:List (List Mv)}(h:RowX cMl S w g xs):SAt w w.heap.size (J ⟨g,0,Z⟩) xs:=fun _=>by
 obtain⟨dr,h1,h2⟩:=h;refine⟨g,0,rfl,zd h1,fun i hi=>?_⟩;obtain⟨cs,⟨A0,c0,rfl,sT⟩,h4⟩:=h2 i hi;refine⟨A0,c0,?_,sT.mat⟩;have:=h4 0 _ rfl;change dr[i*1+0]?=_ at this;rw[LM];exact za h1 _ (by rw[<-this];congr 1;omega)
theorem CAt.raw{w:Ba}{B:Nat}{A:Bb}{xs:List Cs}(h:CAt w B A xs)(hB:B<=w.heap.size):∃cs:List Au,cs.length=xs.length*3/\Raw w A xs.length cs/\(∀u∈cs,u.oneCell'=Av) /\
  ∀(i:Nat) (hi:i<xs.length),∃d,cCs.lies (fun k=>k<B) w d xs[i]/\∀j u,d[j]?=J u->cs[i*3+j]?=J u:=by
 have key:∀n,n<=xs.length->∃aD:List (List Au),aD.length=n/\(∀c∈aD,c.length=3/\∀u∈c,u.oneCell'=Av)/\∀(i:Nat) (hi:i<n) (hx:i<xs.length),∃d,aD[i]?=J d/\cCs.lies (fun k=>k<B) w d xs[i] /\
   ∀b off,A=J ⟨b,off,Z⟩->∀j u,d[j]?=J u->w.cell? ⟨b,off+(i*3+j),Z⟩=J u:=by
  intro n
  induction n with
  | zero=>exact fun _=>⟨[],rfl,by simp,fun i hi=>absurd hi (by omega)⟩
  | succ n ih=>
   intro hn;obtain⟨aD,c1,c2,c3⟩:=ih (by omega);obtain⟨b,off,A0,k0,A1,k1,A2,k2,e,hb,x0,x1,x2,i0,l1,l2⟩:=h.row n (by omega);refine⟨aD++[[I A0 xs[n].inp.length k0,I A1 xs[n].out.length k1,I A2 xs[n].calm.length k2]],by simp[c1],?_,fun i hi hx=>?_⟩
   . intro c hc
     rcases LS.1 hc with hc | hc
     . exact c2 c hc
     . simp at hc;subst hc
       exact⟨rfl,fun u hu=>by simp at hu;rcases hu with rfl | rfl | rfl<;>rfl⟩
   . by_cases ei:i<n
     . obtain⟨d,d1,d2⟩:=c3 i ei hx
       exact⟨d,by rw[LX (by omega)];exact d1,d2⟩
     . obtain rfl:i=n:=by omega
       refine⟨_,by rw[LW (by omega),c1,NM];rfl,⟨A0,k0,A1,k1,A2,k2,rfl,IAtS.of_iat i0 hB (fun _ h=>h),LAtS.of_lat l1 hB (fun _ h=>h),LAtS.of_lat l2 hB (fun _ h=>h)⟩,fun b' fa e' j u hu=>?_⟩;rw[e] at e';cases e'
       match j,hu with
       | 0,hu=>cases hu;exact x0
       | 1,hu=>cases hu;exact x1
       | 2,hu=>cases hu;exact x2
 obtain⟨aD,c1,c2,c3⟩:=key xs.length (Lh _);have bq:∀c∈aD,c.length=3:=fun c hc=>(c2 c hc).1
 have rr:aD.flatten.length=xs.length*3:=by
  rw[List.length_flatten,<-c1];clear c3 c1
  induction aD with
  | nil=>rfl
  | cons c aD ih=>simp only[List.map_cons,List.sum_cons,List.length_cons];rw[ih (fun d hd=>c2 d (by simp[hd])) (fun d hd=>bq d (by simp[hd])),bq c (by simp)];omega
 refine⟨aD.flatten,rr,fun h0=>?_,fun u hu=>?_,fun i hi=>?_⟩
 . obtain⟨b,off,e,hb,_⟩:=h h0
   refine⟨b,off,e,by omega,fun j u hj=>?_⟩;have bg:j<xs.length*3:=by rw[<-rr];exact(Lo.1 hj).1
   have dq:j / 3<xs.length:=by omega
   obtain⟨d,d1,_,d3⟩:=c3 (j / 3) dq dq;have h8:j / 3*3+j % 3=j:=by omega
   have h9:=uO aD bq (j / 3) (by omega) (j % 3) (by omega);rw[h8,hj] at h9;obtain⟨_,d4⟩:=Lo.1 d1;rw[d4] at h9;have:=d3 b off e (j % 3) u h9.symm;rwa[h8] at this
 . obtain⟨c,hc,hu⟩:=NA.1 hu
   exact(c2 c hc).2 u hu
 obtain⟨d,d1,d2,_⟩:=c3 i hi hi;refine⟨d,d2,fun j u hu=>?_⟩;have hj:j<3:=by have:=(Lo.1 hu).1;rw[xC.len d2] at this;exact this
 obtain⟨d5,d4⟩:=Lo.1 d1;rw[uO aD bq i d5 j hj,d4];exact hu
theorem SAt.raw{w:Ba}{B:Nat}{A:Bb}{xs:List (List Mv)}(h:SAt w B A xs)(hB:B<=w.heap.size):∃cs:List Au,cs.length=xs.length*1/\Raw w A xs.length cs/\(∀u∈cs,u.oneCell'=Av) /\
  ∀(i:Nat) (hi:i<xs.length),∃d,cMl.lies (fun k=>k<B) w d xs[i]/\∀j u,d[j]?=J u->cs[i*1+j]?=J u:=by
 have key:∀n,n<=xs.length->∃cs:List Au,cs.length=n/\(∀u∈cs,u.oneCell'=Av)/\∀(i:Nat) (hi:i<n) (hx:i<xs.length),∃A' c,cs[i]?=J (I A' xs[i].length c)/\MAtS (fun k=>k<B) w A' xs[i] /\
   ∀b off,A=J ⟨b,off,Z⟩->w.cell? ⟨b,off+i,Z⟩=J (I A' xs[i].length c):=by
  intro n
  induction n with
  | zero=>exact fun _=>⟨[],rfl,by simp,fun i hi=>absurd hi (by omega)⟩
  | succ n ih=>
   intro hn;obtain⟨cs,c1,c2,c3⟩:=ih (by omega);obtain⟨b,off,A',c,e,hb,x0,m0⟩:=h.at_ n (by omega);refine⟨cs++[I A' xs[n].length c],by simp[c1],?_,fun i hi hx=>?_⟩
   . intro u hu
     rcases LS.1 hu with hu | hu
     . exact c2 u hu
     . simp at hu;subst hu;rfl
   . by_cases ei:i<n
     . obtain⟨A2,k2,d1,d2⟩:=c3 i ei hx
       exact⟨A2,k2,by rw[LX (by omega)];exact d1,d2⟩
     . obtain rfl:i=n:=by omega
       refine⟨A',c,by rw[LW (by omega),c1,NM];rfl,MAtS.of_mat m0 hB (fun _ h=>h),fun b' fa e'=>?_⟩;rw[e] at e';cases e';exact x0
 obtain⟨cs,c1,c2,c3⟩:=key xs.length (Lh _);refine⟨cs,by omega,fun h0=>?_,c2,fun i hi=>?_⟩
 . obtain⟨b,off,e,hb,_⟩:=h h0
   refine⟨b,off,e,by omega,fun j u hj=>?_⟩;have bg:j<xs.length:=by rw[<-c1];exact(Lo.1 hj).1
   obtain⟨A',c,d1,_,d3⟩:=c3 j bg bg;rw[hj] at d1;cases d1;exact d3 b off e
 obtain⟨A',c,d1,d2,_⟩:=c3 i hi hi;refine⟨[I A' xs[i].length c],⟨A',c,rfl,d2⟩,fun j u hu=>?_⟩;have hj:j=0:=by have:=(Lo.1 hu).1;simp at this;omega
 subst hj
 cases hu
 rw[N0,Pq];exact d1
end
section
open Go.RowKit
def RowAt(w:Ba)(g:Nat)(xs:List Int):Prop:=w.heap[g]?=J (Ah (xs.map (O U)).toArray 3 (0,0))
theorem RowAt.cell{w:Ba}{g:Nat}{xs:List Int}(h:RowAt w g xs)(k:Nat)(hk:k<xs.length):w.cell? ⟨g,k,Z⟩=J (O U xs[k]):=za h k (by simp[hk])
theorem RowAt.froz{w:Ba}{g:Nat}{xs:List Int}(h:RowAt w g xs)(k:Nat):w.frozen? ⟨g,k,Z⟩=Ax:=zb h k
theorem RowAt.lt{w:Ba}{g:Nat}{xs:List Int}(h:RowAt w g xs):g<w.heap.size:=zd h
theorem RowAt.set{w:Ba}{g:Nat}{xs:List Int}(h:RowAt w g xs)(k:Nat)(u:Int):RowAt (w.setCell ⟨g,k,Z⟩ (O U u)) g (xs.set k u):=by
 unfold RowAt at *;rw[World.setCell,N9,Ln rfl,h];simp[List.map_set]
theorem zt(w:Ba)(c1:Array Au)(t1:TypeId):∃W0,w.alloc (Ah c1 t1)=W0/\W0.heap[w.heap.size]?=J (Ah c1 t1 (0,0))/\W0.heap.size=w.heap.size+1/\Ao w.heap.size w W0:=
 ⟨_,rfl,zh _ _,by simp,zw w _⟩
theorem yu(w:Ba)(g k:Nat)(v':Au):w.grownBy (w.setCell ⟨g,k,Z⟩ v') (J g):=
 ⟨rfl,rfl,rfl,by simp[World.setCell],fun j _ hj=>Lf w ⟨g,k,Z⟩ v' j (fun e=>hj (by rw[e]))⟩
end
end Go.Proofs.YtkledihebeidlaaGreatDoor
