/- Merged. -/
import Derived.Test.YtkledihebeidlaaGreatDoorVb
import Derived.SizedLaws
import Derived.OwnWalk
import Derived.Maps.AppendAt
import Derived.Lib.Walk
import Derived.Lib.SliceRun
import Derived.Maps.Own
import Derived.Maps.OwnIn
import Derived.OrdersIn
open Go.Proofs.Tryz
open Go.Value renaming int->O,slice->I,bool->Ai,agg->Aj
open Go.IntKind renaming i64->U
open Option renaming none->Z,some->J
open Go.Obj renaming cells->Ah
open Go.Ending renaming returned->Am
open Go.Proofs.Tryz renaming prog->An,underlying118->PG,underlying22->PR,underlying119->PF,underlying25->PQ,underlying29->PP,underlying31->PO,func66->RJ,ntmps66->Ru
open Go.RowKit renaming Below->Ao,intOf->Aq,Hid->As
open Go renaming Calls->Ap,Value->Au,run_equalIn_int->Nn,getD_replicate_false->Rb,mem_ready->RD
open Bool renaming true->Av,false->Ax
open List renaming mem_range->Re,getElem_append_right->RT
open Nat renaming mul_one->N0
open Go.DataW renaming trod_int->Nh,trod_struct->NX
open Go.World renaming ownsRow_nil->PK,news_of_block->Rh
open Go.World.ownsRow renaming kept->Pi,alloc->Pe,lt->PU
namespace Go.Proofs.YtkledihebeidlaaGreatDoor
abbrev Pq:=@List.take_of_length_le
abbrev N8:=@Nat.mul_le_mul_right
abbrev Nl:=@Nat.zero_le
abbrev Lo:=@List.getElem?_eq_some_iff
abbrev Nw:=@Go.Proofs.Tryz.underlying49
abbrev Nc:=@List.getElem_of_mem
abbrev LD:=@List.eq_nil_of_length_eq_zero
abbrev LN:=@Nat.zero_add
abbrev NZ:=@Nat.mul_le_mul
abbrev LM:=@Go.wpList_plain
abbrev Na:=@Nat.eq_zero_or_pos
abbrev Pj:=@Go.World.grownBy.refl
abbrev RK:=@List.take_append_of_le_length
abbrev P8:=@Nat.min_eq_left
abbrev Py:=@Nat.add_mul
abbrev LX:=@List.getElem?_append_left
abbrev LV:=@List.getElem?_append_right
abbrev PE:=@Go.info_parts
abbrev NV:=@Go.wpList_append_own
abbrev PN:=@Go.Proofs.Tryz.underlying39
abbrev NT:=@Go.Lib.run_eql_slice_nil
abbrev N4:=@Go.Addr.add_lit
abbrev NW:=@Go.Lib.cell?_alloc_some
abbrev N1:=@Go.World.ownsRow_made
abbrev Ns:=@List.mem_flatMap
abbrev N9:=@List.mem_of_getElem?
abbrev Pd:=@List.pairwise_iff_getElem
abbrev PW:=@List.getElem_set
abbrev LY:=@Array.getElem?_setIfInBounds_ne
abbrev PI:=@Array.forIn_toList
abbrev RN:=@Go.CallsIn.inRound
abbrev Ps:=@List.length_take
abbrev NG:=@Option.some.inj
abbrev P7:=@Array.getElem?_eq_none
abbrev PC:=@Ne.symm
abbrev RM:=@List.sum_append
abbrev Pf:=@List.map_congr_left
abbrev Lk:=@Go.heap_setCell_same
abbrev NM:=@Array.getElem?_setIfInBounds_self_of_lt
abbrev NO:=@Nat.sub_self
set_option maxRecDepth 100000
set_option maxHeartbeats 4000000
section
open Go.RowKit
def qp(vs:List Vw)(v:Vw):Int:=if v∈vs then (vs.idxOf v:Int) else -1
theorem Yv{vs:List Vw}{v:Vw}{k:Nat}(hk:k<vs.length)(hv:vs[k]=v)(hn:v∉vs.take k):qp vs v=k:=by
 have hm:v∈vs:=hv▸Ld hk;unfold qp;rw[Ln hm];have h1:vs=vs.take k++vs.drop k:=(Ra k vs).symm;rw[h1,List.idxOf_append,Lj hn];have h2:vs.drop k=v::vs.drop (k+1):=by rw[<-hv];exact Lw hk
 rw[h2,List.idxOf_cons_self];simp;omega
theorem JF{vs:List Vw}{v:Vw}(hn:v∉vs):qp vs v=-1:=by unfold qp;rw[Lj hn]
theorem Yu{vs:List Vw}{v:Vw}(hv:v∈vs):0<=qp vs v:=by unfold qp;rw[Ln hv];omega
theorem Zw{vs:List Vw}{v:Vw}{k:Nat}(hk:k<vs.length)(hv:vs[k]≠v)(hn:v∉vs.take k):v∉vs.take (k+1):=by
 rw[Lu hk,LR,not_or];exact⟨hn,by simpa using fun e=>hv e.symm⟩
theorem JD(n:Int)(A:Bb)(cap:Nat)(vs:List Vw)(v:Vw)(w:Ba)(B:Nat)(hB:B<=w.heap.size)(hA:VAt w B A vs)(hl:vs.length<=2199023255552) :
  Ap An 147 #[Aj #[O U n,I A vs.length cap],.agg v.cells] w fun e w'=>e=Am (O U (qp vs v))/\Ao w.heap.size w w':=by
 have HB:=xT w;have HE:As (∀k (hk:k<vs.length) (X:Ba),(binOp .eql 100 (.agg vs[k].cells) (.agg v.cells)).run An X=.ok (Ai (decide (vs[k]=v))) X):=fun k hk X=>eql_view vs[k] v X
 unfold Vw.cells at HE ⊢;go_enter func147,ntmps147;go_wp2
 go_loopw [5] (fun i wr=>∃k m:Nat,k<=vs.length/\i=O U k/\wr=((w.alloc (Ah #[O U n,I A vs.length cap] 33)).alloc (Ah #[O U v.p,O U v.r,O U v.i,O U v.h0,O U v.h1,O U v.h2,O U v.h3,O U v.h4] 100)).drewN m/\As (v∉vs.take k)) (fun i _=>vs.length-(Aq i).toNat)
 case atStart=>exact⟨0,0,by omega,rfl,rfl,by show v∉vs.take 0;simp⟩
 obtain⟨k,m,hk,rfl,rfl,aj⟩:=hrel
 by_cases ac:k<vs.length
 . obtain⟨b,off,rfl,aJ,c0,c1,c2,c3,c4,c5,c6,c7⟩:=hA.row k ac
   have ae:b<w.heap.size:=by omega
   have fa:=HE.out k ac
   by_cases hv:vs[k]=v
   . have iu:∀X:Ba,_:=fun X=>(fa X).trans (by rw[Lm hv])
     have hz:As (qp vs v=k):=Yv ac hv aj.out;clear fa hv;go_wp2;go_quiet (fail);go_wp2;go_ret;exact⟨zc hz.out.symm,by repeat (first | exact HB _ _ | refine zu ?_ _)⟩
   have iu:∀X:Ba,_:=fun X=>(fa X).trans (by rw[Ll hv])
   have hz:As (v∉vs.take (k+1)):=Zw ac hv aj.out;go_wp2;go_quiet (fail);go_wp2
   go_roundw
   case rel=>exact⟨k+1,_,by omega,by go_num,rfl,hz⟩
   simp[Aq];omega
 have hz:As (qp vs v=-1):=JF (by have:=aj.out;rwa[Pq (by omega)] at this);go_wp2;go_ret;exact⟨zc hz.out.symm,by repeat (first | exact HB _ _ | refine zu ?_ _)⟩
theorem qf{α:Type}{vs us:List α}{k:Nat}(hk:k<vs.length)(cX:k<us.length)(h:vs[k]≠us[k]):vs≠us:=by
 rintro rfl;exact h rfl
theorem qj{α:Type}{vs us:List α}(hl:vs.length=us.length)(h:vs.take vs.length=us.take vs.length):vs=us:=by
 rw[LJ] at h;rw[h,hl,LJ]
theorem j5{α:Type}{vs us:List α}{k:Nat}(hk:k<vs.length)(cX:k<us.length)(h:vs.take k=us.take k)(he:vs[k]=us[k]):vs.take (k+1)=us.take (k+1):=by
 rw[Lu hk,Lu cX,h,he]
theorem same_any(n n':Int)(A A':Bb)(cap aF:Nat)(vs us:List Vw)(w:Ba)(B:Nat)(hB:B<=w.heap.size)(hA:VAt w B A vs)(iH:VAt w B A' us)(hl:vs.length<=2199023255552)(mz:us.length<=2199023255552) :
  Ap An 97 #[Aj #[O U n,I A vs.length cap],Aj #[O U n',I A' us.length aF]] w fun e w'=>e=Am (Ai (decide (n=n'/\vs=us)))/\Ao w.heap.size w w':=by
 have HB:=xT w;have HE:As (∀k (hk:k<vs.length) (cX:k<us.length) (X:Ba),(binOp .neq 100 (.agg vs[k].cells) (.agg us[k].cells)).run An X=.ok (Ai (decide (vs[k]≠us[k]))) X):=fun k hk cX X=>Yk vs[k] us[k] X
 unfold Vw.cells at HE
 by_cases hn:n=n'
 . by_cases aN:vs.length=us.length
   . have H:As (decide (n=n'/\vs=us)=decide (vs=us)):=by show decide (n=n'/\vs=us)=_;simp[hn]
     have HL:=zH aN;rw[H.out];have fE:(n != n')=Ax:=by simp[hn]
     have dK:((vs.length:Int) != (us.length:Int))=Ax:=by simp[aN]
     clear hn aN H;go_enter func97,ntmps97;go_wp2
     go_loopw [5] (fun i wr=>∃k m:Nat,k<=vs.length/\i=O U k/\wr=((w.alloc (Ah #[O U n,I A vs.length cap] 33)).alloc (Ah #[O U n',I A' us.length aF] 33)).drewN m/\As (vs.take k=us.take k)) (fun i _=>vs.length-(Aq i).toNat)
     case atStart=>exact⟨0,0,by omega,rfl,rfl,by show vs.take 0=us.take 0;simp⟩
     obtain⟨k,m,hk,rfl,rfl,aj⟩:=hrel;have dr:k<=us.length:=by have:=HL.out;omega
     by_cases ac:k<vs.length
     . have bQ:k<us.length:=by have:=HL.out;omega
       obtain⟨b,off,rfl,aJ,c0,c1,c2,c3,c4,c5,c6,c7⟩:=hA.row k ac;have ae:b<w.heap.size:=by omega
       obtain⟨b',eF,rfl,iB,d0,d1,d2,d3,d4,d5,d6,d7⟩:=iH.row k bQ;have Uy:b'<w.heap.size:=by omega
       have fa:=HE.out k ac bQ
       by_cases hv:vs[k]=us[k]
       . have iu:∀X:Ba,_:=fun X=>(fa X).trans (by rw[Ll (by simpa using hv)])
         have hz:As (vs.take (k+1)=us.take (k+1)):=j5 ac bQ aj.out hv;clear fa hv;go_wp2;go_quiet (fail);go_wp2
         go_roundw
         case rel=>exact⟨k+1,_,by omega,by go_num,rfl,hz⟩
         simp[Aq];omega
       have iu:∀X:Ba,_:=fun X=>(fa X).trans (by rw[Lm hv])
       have hz:As (decide (vs=us)=Ax):=Ll (qf ac bQ hv);go_wp2;go_quiet (fail);go_wp2;go_ret;exact⟨ze hz.out.symm,by repeat (first | exact HB _ _ | refine zu ?_ _)⟩
     obtain rfl:k=vs.length:=by omega
     have hz:As (decide (vs=us)=Av):=Lm (qj HL.out aj.out);go_wp2;go_ret;exact⟨ze hz.out.symm,by repeat (first | exact HB _ _ | refine zu ?_ _)⟩
   have hz:As (decide (n=n'/\vs=us)=Ax):=Ll (by rintro⟨_,rfl⟩;exact aN rfl);have fE:(n != n')=Ax:=by simp[hn]
   have dK:((vs.length:Int) != (us.length:Int))=Av:=by simp;omega
   go_enter func97,ntmps97;go_wp2;go_ret;exact⟨ze hz.out.symm,by repeat (first | exact HB _ _ | refine zu ?_ _)⟩
 have hz:As (decide (n=n'/\vs=us)=Ax):=Ll (by rintro⟨h,_⟩;exact hn h);have fE:(n != n')=Av:=by simpa using hn
 go_enter func97,ntmps97;go_wp2;go_ret;exact⟨ze hz.out.symm,by repeat (first | exact HB _ _ | refine zu ?_ _)⟩
end
section
open Go.RowKit
attribute [local go_sem] Oper.semAt_some
def Sy.vs_(s:Sy)(A:Bb)(kc:Nat)(SV:Bb)(ks:Nat)(AV:Bb)(kv:Nat)(AX:Bb)(kx:Nat):Array Au:=
 #[O U s.p.t.n,O U s.p.t.ins,O U s.p.t.outs,I A s.p.t.cases.length kc,O U s.p.a.n,I SV s.p.a.sts.length ks,O U s.p.k,O U s.n,I AV s.vs.length kv,I AX s.xs.length kx]
structure LowS(s:Sy):Prop where
 fp:wV s.p
 fv:s.vs.length<=2199023255552
 fx:s.xs.length<=2199023255552
 fe:∀x∈s.xs,ZH x
structure SyAt(w:Ba)(B:Nat)(A SV AV AX:Bb)(s:Sy):Prop where
 fc:CAt w B A s.p.t.cases
 fs:SAt w B SV s.p.a.sts
 fv:VAt w B AV s.vs
 fx:XAt w B AX s.xs
theorem SyAt.keep{w w':Ba}{B:Nat}{A SV AV AX:Bb}{s:Sy}(h:SyAt w B A SV AV AX s)(hb:Ao B w w'):SyAt w' B A SV AV AX s:=⟨h.fc.keep hb,h.fs.keep hb,h.fv.keep hb,h.fx.keep hb⟩
theorem SyAt.more{w:Ba}{B B':Nat}{A SV AV AX:Bb}{s:Sy}(h:SyAt w B A SV AV AX s)(hB:B<=B'):SyAt w B' A SV AV AX s:=⟨h.fc.more hB,h.fs.more hB,h.fv.more hB,h.fx.more hB⟩
theorem SyAt.up{w w':Ba}{A SV AV AX:Bb}{s:Sy}(h:SyAt w w.heap.size A SV AV AX s)(hb:Ao w.heap.size w w'):SyAt w' w'.heap.size A SV AV AX s:=(h.keep hb).more hb.size
theorem sy_eq{a b:Sy}(h1:a.p=b.p)(h2:a.n=b.n/\a.vs=b.vs)(h3:a.xs=b.xs):a=b:=by cases a;cases b;simp_all
theorem Y7(a b:Sy)(ha:LowS a)(hb:LowS b)(A SA AV AX B SB BV BX:Bb)(ca sa av ax cb sb bv bx:Nat)(w:Ba)(hA:SyAt w w.heap.size A SA AV AX a)(hB:SyAt w w.heap.size B SB BV BX b) :
  Ap An 57 #[.agg (a.vs_ A ca SA sa AV av AX ax),.agg (b.vs_ B cb SB sb BV bv BX bx)] w fun e w'=>e=Am (Ai (decide (a=b)))/\Ao w.heap.size w w':=by
 obtain⟨w1,ag,d0,d1,bq,hBw⟩:=zZ w (a.vs_ A ca SA sa AV av AX ax) (b.vs_ B cb SB sb BV bv BX bx) 36 36;have eP:=hA.up hBw;have aw:=hB.up hBw;have E9:=zH (Y8 a.p b.p ha.fp hb.fp A B SA SB ca cb sa sb w1 eP.fc aw.fc eP.fs aw.fs);have mS:=zH (fun (W:Ba) (hW:Ao w1.heap.size w1 W)=>same_any a.n b.n AV BV av bv a.vs b.vs W W.heap.size (Lh _) (eP.up hW).fv (aw.up hW).fv ha.fv hb.fv);have ie:=zH ha.fe;have iI:=zH hb.fe;have hax:=ha.fx;have aL:=hb.fx;have HA:=zH eP.fx;have HB:=zH aw.fx;unfold Pb.vs at E9;unfold Sy.vs_ at ag d0 d1 ⊢;have bh:=zH hBw;have bn:=zH d0;have bN:=zH d1;have al:=zH ag;have q6:=za d1 6 rfl;clear ag d0 d1 hBw hA hB eP aw ha hb;have HT:As (a≠b->decide (a=b)=Ax):=fun h=>Ll h
 have HU:As (a=b->decide (a=b)=Av):=fun h=>Lm h
 obtain⟨r,hr⟩:∃r,decide (a=b)=r:=⟨_,rfl⟩;rw[hr] at HT HU ⊢;clear hr;have HE:=zH (@sy_eq a b);go_enter func57,ntmps57;go_wp2_with fail;rw[al.out];go_wp2_with fail;refine E9.out.mono ?_;rintro e w2 ⟨rfl,ae⟩;have d0:=La ae bn.out;have d1:=La ae bN.out;have aU:=zH ae
 by_cases h1:a.p=b.p
 case neg=>
  have hR:=zH (HT.out (fun h=>h1 (congrArg Sy.p h)));rw[Ll h1];go_wp2_with fail
  all_goals
   go_ret;exact⟨ze hR.out.symm,Lc bh.out aU.out⟩
 case pos=>
 have am:=zH (HE.out h1);rw[Lm h1];have p7:=za d0 7 rfl;have p8:=za d0 8 rfl;have q7:=za d1 7 rfl;have q8:=za d1 8 rfl;go_wp2_with fail;refine(mS.out w2 aU.out).mono ?_;rintro e w3 ⟨rfl,ap⟩;have bE:=zH (Lc aU.out ap);have d0:=La bE.out bn.out;have d1:=La bE.out bN.out
 by_cases h1:a.n=b.n/\a.vs=b.vs
 case neg=>
  have hR:=zH (HT.out (fun h=>h1 ⟨congrArg Sy.n h,congrArg Sy.vs h⟩));rw[Ll h1];go_wp2_with fail
  all_goals
   go_ret;exact⟨ze hR.out.symm,Lc bh.out bE.out⟩
 case pos=>
 have H3:As (a.xs=b.xs->r=Av):=fun h=>HU.out (am.out h1 h)
 have H4:As (a.xs≠b.xs->r=Ax):=fun h=>HT.out (fun e=>h (congrArg Sy.xs e))
 rw[Lm h1];have p9:=za d0 9 rfl;have q9:=za d1 9 rfl
 by_cases h3:a.xs.length=b.xs.length
 case neg=>
  have hR:=zH (H4.out (fun h=>h3 (by rw[h])));have e0:((a.xs.length:Int) != (b.xs.length:Int))=Av:=by simp;omega
  go_wp2_with fail
  all_goals
   go_ret;exact⟨ze hR.out.symm,Lc bh.out bE.out⟩
 case pos=>
 have HL:=zH h3;rw[<-h3] at q9 aL bN ⊢;go_wp2_with fail
 go_loopw [5] (fun i wr=>∃k:Nat,k<=a.xs.length/\i=O U (k:Int)/\As (a.xs.take k=b.xs.take k)/\As (Ao w1.heap.size w1 wr)) (fun i _=>a.xs.length-(Aq i).toNat)
 case atStart=>exact⟨0,by omega,rfl,by rw[As,LO,LO],bE.out⟩
 obtain⟨k,hk,rfl,hp,aB⟩:=hrel;have p9:=za (La aB.out bn.out) 9 rfl;have q9:=za (La aB.out bN.out) 9 rfl
 by_cases ac:k<a.xs.length
 case neg=>
  obtain rfl:k=a.xs.length:=by omega
  have hR:=zH (H3.out (xK HL.out hp.out));go_wp2_with fail;go_ret;exact⟨ze hR.out.symm,Lc bh.out aB.out⟩
 case pos=>
 have dL:k<b.xs.length:=by have:=HL.out;omega
 have im:=aB.out.size;obtain⟨ba,oa,A1,c1,A2,c2,ea,GS,a0,a1,a2,Dd,Dc⟩:=(HA.out.keep aB.out).row k ac;obtain⟨bb,ob,B1,n1,B2,n2,eb,aI,b0,b1,b2,Db,Da⟩:=(HB.out.keep aB.out).row k dL;subst ea;subst eb;have HC:=zH (fun (W:Ba) (hW:Ao wr.heap.size wr W)=>Y5 a.xs[k] b.xs[k] (ie.out _ (Ld ac)) (iI.out _ (Ld dL)) A1 A2 B1 B2 c1 c2 n1 n2 W (((Dd.more im).keep hW).more hW.size) (((Dc.more im).keep hW).more hW.size) (((Db.more im).keep hW).more hW.size) (((Da.more im).keep hW).more hW.size));have h0:As (a.xs[k]=b.xs[k]->a.xs.take (k+1)=b.xs.take (k+1)):=fun he=>yG hp.out ac dL he
 have hN:As (a.xs[k]≠b.xs[k]->r=Ax):=fun he=>H4.out (fun h=>he (by simp only[h]))
 obtain⟨X,hX⟩:=Kh (a.xs[k]);obtain⟨Y,hY⟩:=Kh (b.xs[k]);rw[hX] at a0 a1 a2 h0 hN HC;rw[hY] at b0 b1 b2 h0 hN HC;have cK:(0:Int)<=(k:Int):=by omega
 have bY:(k:Int)<(a.xs.length:Int):=by omega
 go_wp2_with fail
 go_still_tail 10,(by kernel_rfl)
 change wpList _ _ _ _ _ wr.drew;obtain⟨w4,tG⟩:∃w4,w4=wr.drew:=⟨_,rfl⟩;have fB:As (Ao wr.heap.size wr w4):=by rw[tG];exact(Lp _ _).drew
 rw[<-tG];clear tG a0 a1 a2 b0 b1 b2 p9 q9 cK bY;go_wp2_with fail;refine(HC.out w4 fB.out).mono ?_;rintro e w5 ⟨rfl,bZ⟩;have eC:=zH (aB.out.trans ((Lc fB.out bZ).mono im))
 by_cases t1:X=Y
 case neg=>
  have hR:=zH (hN.out t1);rw[Ll t1];go_wp2_with fail;go_ret;exact⟨ze hR.out.symm,Lc bh.out eC.out⟩
 have hR:=zH (h0.out t1);rw[Lm t1];go_wp2_with fail
 go_roundw
 case rel=>exact⟨k+1,by omega,by go_num,hR,eC.out⟩
 simp[Aq];omega
end
section
open Go.ChangeShapes Go.WideShapes Go.ChangeAt Go.RowKit Go.Deep
section
variable {H:Type} {enc:TypeId×Au->H} {P:Program} {W:Ba} {aa:Nat} {spare:Nat->Bool} {aV:Bool}
def qm(P:Program)(t:TypeId)(d:DataW H):Prop:=(d.weights P t).all (·<=reachBytes)=Av
theorem xG{fs:Array Field}{t:TypeId}{pA:List (DataW H)}(ht:P.underlying t=J (.struct fs))(h:qm P t (.agg pA)){j:Nat}{f:Field}{d:DataW H}(hf:fs[j]?=J f)(hd:pA[j]?=J d):qm P f.type d:=by
 unfold qm at h ⊢;refine LK.2 fun n hn=>LK.1 h n ?_
 simp only[DataW.weights,ht];exact DataW.weights_mem_each (j:=j) (by simp[hf]) hd n hn
theorem qU{e:TypeId}:∀ {ds:List (DataW H)} {d:DataW H},d∈ds->∀n∈d.weights P e,n∈DataW.weightsAll P e ds
 | d0::ds,d,hd,n,hn=>by
  simp only[DataW.weightsAll,List.mem_append];rcases LQ.1 hd with rfl | hd
  . exact Or.inl hn
  . exact Or.inr (qU hd n hn)
theorem XQ{t e:TypeId}{el sp:List (DataW H)}(ht:P.underlying t=J (.slice e))(h:qm P t (.slice el sp)):el.length*P.bytesOf e<=reachBytes/\∀d∈el,qm P e d:=by
 unfold qm at h;have h1:=LK.1 h;simp only[DataW.weights,ht] at h1;constructor
 . have h2:=h1 _ (Ro ..)
   have h3:(el.length+sp.length)*P.bytesOf e<=reachBytes:=by simpa using h2
   exact Lz (N8 _ (Nat.le_add_right _ _)) h3
 intro d hd;exact LK.2 fun n hn=>h1 n (Rf _ (Rg _ (qU hd n hn)))
theorem qE{α:Type}[Inhabited α]{t e:TypeId}{fuel:Nat}{cs:List Au}{x:DataW H×List MemPlace}{s:Nat}(L:List Au->α->Prop)(ht:P.underlying t=J (.slice e))(hs:P.cellsOf e=s)(h1:0<s)
  (rd:∀(m:Nat) (cs:List Au) (y:DataW H×List MemPlace),DataW.trod enc P W aa spare aV m e cs=J y->qm P e y.1->∃a,L cs a)
  (h:DataW.trod enc P W aa spare aV fuel t cs=J x) (hw:qm P t x.1) :
  ∃(A:Bb) (le:List α) (cap:Nat),cs=[I A le.length cap]/\le.length<=cap/\cap<=maxLen/\le.length*P.bytesOf e<=reachBytes /\
   (0<le.length->∃b off,A=J ⟨b,off,Z⟩/\b<W.heap.size/\∀(i:Nat) (hi:i<le.length),∃cs,L cs le[i]/\∀(k:Nat) (y:Au),cs[k]?=J y->W.cell? ⟨b,off+i*s+k,Z⟩=J y):=by
 rcases open_slice ht h with ⟨rfl,_⟩ | ⟨a,len,cap,m,n',D,Pl,rfl,_,TL,iw,hm,mi,hi⟩
 . exact⟨Z,[],0,rfl,Lh _,Nl _,by simp,fun h=>absurd h (by simp)⟩
 have MC:len<=m:=by rw[hm];split<;>omega
 rw[mi] at hw;obtain⟨hb,aj⟩:=XQ ht hw
 have j':∀i,i<len->∃(a':α) (cs:List Au),cs.length=s/\L cs a'/\∀(k:Nat) (y:Au),cs[k]?=J y->W.cell? (a.add (i*s+k))=J y:=fun i ac=>by
  obtain⟨lF,hc,Tc⟩:=hi i (by omega);rw[hs] at hc;obtain⟨_,bk,bz⟩:=World.cells?_some hc;obtain⟨u,hu⟩:=rd _ _ _ Tc (aj _ (LG.2 ⟨i,Re.2 ac,rfl⟩));refine⟨u,lF,bk,hu,fun k y hk=>?_⟩;have cX:k<s:=by rw[<-bk];exact(Lo.1 hk).1
  rw[<-Go.Deep.add_add,bz k cX,hk]
 obtain⟨le,GZ,has⟩:∃le:List α,le.length=len/\∀i (hi:i<le.length),∃cs:List Au,cs.length=s/\L cs le[i]/\∀(k:Nat) (y:Au),cs[k]?=J y->W.cell? (a.add (i*s+k))=J y:=by
  refine⟨(List.range len).map fun i=>if h:i<len then Classical.choose (j' i h) else default,by simp,fun i hi=>?_⟩;have dT:i<len:=by simpa using hi
  simp only[List.getElem_map,List.getElem_range,dT,dite_true];exact Classical.choose_spec (j' i dT)
 subst GZ;have cA:le.length*P.bytesOf e<=reachBytes:=by simpa using hb
 refine⟨J a,le,cap,rfl,TL,iw,cA,fun h0=>?_⟩;obtain⟨c0,ir,_,mG⟩:=has 0 h0;have Hw:=mG 0 _ (Lg (by omega));obtain⟨b,off,Ft⟩:=a;have BC:Ft=Z:=by simpa[Addr.add] using World.cell?_spot Hw
 subst BC;refine⟨b,off,rfl,?_,fun i hi=>?_⟩
 . have:=World.block_lt_of_cell? W _ Hw
   simpa[Addr.add] using this
 obtain⟨c1,_,hL,hc1⟩:=has i hi;refine⟨c1,hL,fun k y hk=>?_⟩;have:=hc1 k y hk;rw[add_plain] at this;rw[<-Pu] at this;exact this
end
section
variable {H:Type} {enc:TypeId×Au->H} {W:Ba} {aa:Nat} {spare:Nat->Bool} {aV:Bool}
theorem QP:An.cellsOf 49=1:=by kernel_rfl
theorem YH:An.cellsOf 40=1:=by kernel_rfl
theorem QQ:An.cellsOf 118=3:=by kernel_rfl
theorem cellsCss:An.cellsOf 22=1:=by kernel_rfl
theorem cellsTk:An.cellsOf 24=4:=by kernel_rfl
theorem cellsGr:An.cellsOf 45=6:=by kernel_rfl
theorem QN:An.cellsOf 75=7:=by kernel_rfl
theorem QO:An.cellsOf 121=8:=by kernel_rfl
theorem cellsMl:An.cellsOf 119=1:=by kernel_rfl
theorem cellsMls:An.cellsOf 25=1:=by kernel_rfl
theorem cellsAd:An.cellsOf 27=2:=by kernel_rfl
theorem cellsPb:An.cellsOf 29=7:=by kernel_rfl
theorem bytesI8:An.bytesOf 3=8:=by kernel_rfl
theorem bytesIs:An.bytesOf 49=24:=by kernel_rfl
theorem bytesCs:An.bytesOf 118=72:=by kernel_rfl
theorem bytesMv:An.bytesOf 121=64:=by kernel_rfl
theorem bytesMl:An.bytesOf 119=24:=by kernel_rfl
/-- A slice of integers. -/
theorem QA{m:Nat}{cs:List Au}{y:DataW H×List MemPlace}(h:DataW.trod enc An W aa spare aV m 49 cs=J y)(hw:qm An 49 y.1) :
  ∃(A:Bb) (xs:List Int) (c:Nat),cs=[I A xs.length c]/\xs.length<=17592186044416/\IAt W W.heap.size A xs:=by
 obtain⟨A,xs,c,e,_,_,hb,hA⟩:=qE (α:=Int) (fun cs i=>cs=[O U i]) Nw xt (by decide) (fun m cs y h _=>by obtain⟨i,e,_⟩:=Nh LA h;exact⟨i,e⟩) h hw;refine⟨A,xs,c,e,?_,fun h0=>?_⟩
 . rw[bytesI8] at hb;unfold reachBytes at hb;omega
 obtain⟨b,off,e,ac,hc⟩:=hA h0;refine⟨b,off,e,ac,fun i hi=>?_⟩;obtain⟨cs,rfl,h2⟩:=hc i hi;simpa using h2 0 _ rfl
/-- A slice of slices of integers. -/
theorem Z9{m:Nat}{cs:List Au}{y:DataW H×List MemPlace}(h:DataW.trod enc An W aa spare aV m 40 cs=J y)(hw:qm An 40 y.1) :
  ∃(A:Bb) (xs:List (List Int)) (c:Nat),cs=[I A xs.length c]/\xs.length<=17592186044416/\(∀v∈xs,v.length<=17592186044416)/\LAt W W.heap.size A xs:=by
 obtain⟨A,xs,c,e,_,_,hb,hA⟩:=qE (α:=List Int) (fun cs v=>∃A c,cs=[I A v.length c]/\v.length<=17592186044416/\IAt W W.heap.size A v) underlying40 QP (by decide)
  (fun m cs y h hw=>by obtain⟨A,xs,c,e,h1,h2⟩:=QA h hw;exact⟨xs,A,c,e,h1,h2⟩) h hw
 refine⟨A,xs,c,e,?_,?_,fun h0=>?_⟩
 . rw[bytesIs] at hb;unfold reachBytes at hb;omega
 . intro v hv
   obtain⟨i,hi,rfl⟩:=Nc hv;obtain⟨b,off,_,_,hc⟩:=hA (by omega);obtain⟨cs,⟨A,c,_,h1,_⟩,_⟩:=hc i hi;exact h1
 obtain⟨b,off,e,ac,hc⟩:=hA h0;refine⟨b,off,e,ac,fun i hi=>?_⟩;obtain⟨cs,⟨A,c,rfl,_,h3⟩,h2⟩:=hc i hi;exact⟨A,c,by simpa using h2 0 _ rfl,h3⟩
/-- A case. -/
theorem rd_case{m:Nat}{cs:List Au}{y:DataW H×List MemPlace}(h:DataW.trod enc An W aa spare aV m 118 cs=J y)(hw:qm An 118 y.1) :
  ∃x:Cs,LowC x/\∃v0 v1 v2,cs=[v0,v1,v2]/\CsV W W.heap.size v0 v1 v2 x:=by
 obtain⟨xs,n,rfl,rfl,hl,fh,hf⟩:=NX PG h;rw[QQ] at hl;have ik:xs.length=3:=fh
 match cs,hl with
 | [c0,c1,c2],_=>
  have f0:=hf 0 _ rfl;have f1:=hf 1 _ rfl;have f2:=hf 2 _ rfl
  match xs,ik with
  | [x0,x1,x2],_=>
   have g0:DataW.trod enc An W aa spare aV n 49 [c0]=J x0:=by simpa[QP] using f0
   have g1:DataW.trod enc An W aa spare aV n 40 [c1]=J x1:=by simpa[YH] using f1
   have g2:DataW.trod enc An W aa spare aV n 40 [c2]=J x2:=by simpa[YH] using f2
   have w0:qm An 49 x0.1:=xG PG hw (j:=0) rfl rfl;have w1:qm An 40 x1.1:=xG PG hw (j:=1) rfl rfl;have w2:qm An 40 x2.1:=xG PG hw (j:=2) rfl rfl;obtain⟨A0,y0,k0,e0,l0,r0⟩:=QA g0 w0;obtain⟨A1,y1,k1,e1,l1,m1,r1⟩:=Z9 g1 w1;obtain⟨A2,y2,k2,e2,l2,m2,r2⟩:=Z9 g2 w2
   cases e0;cases e1;cases e2
   exact⟨⟨y0,y1,y2⟩,⟨l0,l1,l2,m1,m2⟩,_,_,_,rfl,⟨A0,k0,rfl,r0⟩,⟨A1,k1,rfl,r1⟩,⟨A2,k2,rfl,r2⟩⟩
/-- A slice of cases. -/
theorem rd_cases{m:Nat}{cs:List Au}{y:DataW H×List MemPlace}(h:DataW.trod enc An W aa spare aV m 22 cs=J y)(hw:qm An 22 y.1) :
  ∃(A:Bb) (xs:List Cs) (c:Nat),cs=[I A xs.length c]/\xs.length<=17592186044416/\(∀v∈xs,LowC v)/\CAt W W.heap.size A xs:=by
 obtain⟨A,xs,c,e,_,_,hb,hA⟩:=qE (α:=Cs) (fun cs x=>LowC x/\∃v0 v1 v2,cs=[v0,v1,v2]/\CsV W W.heap.size v0 v1 v2 x) PR QQ (by decide)
  (fun m cs y h hw=>rd_case h hw) h hw
 refine⟨A,xs,c,e,?_,?_,fun h0=>?_⟩
 . rw[bytesCs] at hb;unfold reachBytes at hb;omega
 . intro v hv
   obtain⟨i,hi,rfl⟩:=Nc hv;obtain⟨b,off,_,_,hc⟩:=hA (by omega);obtain⟨cs,⟨h1,_⟩,_⟩:=hc i hi;exact h1
 obtain⟨b,off,e,ac,hc⟩:=hA h0;refine⟨b,off,e,ac,fun i hi=>?_⟩;obtain⟨cs,⟨_,v0,v1,v2,rfl,h3⟩,h2⟩:=hc i hi;exact⟨v0,v1,v2,h2 0 _ rfl,h2 1 _ rfl,h2 2 _ rfl,h3⟩
/-- A round. -/
theorem rd_round{m:Nat}{cs:List Au}{y:DataW H×List MemPlace}(h:DataW.trod enc An W aa spare aV m 75 cs=J y):∃x:Rd,cs=x.cells.toList:=by
 obtain⟨xs,n,rfl,rfl,hl,fh,hf⟩:=NX underlying75 h;rw[QN] at hl;have ik:xs.length=2:=fh
 match cs,hl with
 | [c0,c1,c2,c3,c4,c5,c6],_=>
  have f0:=hf 0 _ rfl;have f1:=hf 1 _ rfl
  match xs,ik with
  | [x0,x1],_=>
   have g0:DataW.trod enc An W aa spare aV n 45 [c0,c1,c2,c3,c4,c5]=J x0:=by simpa[cellsGr] using f0
   have g1:DataW.trod enc An W aa spare aV n 3 [c6]=J x1:=by simpa[xt] using f1
   obtain⟨i6,e6,_,_⟩:=Nh LA g1;obtain⟨ys,k,rfl,rfl,_,cu,hg⟩:=NX underlying45 g0;have FE:ys.length=2:=cu;have q0:=hg 0 _ rfl;have q1:=hg 1 _ rfl
   match ys,FE with
   | [y0,y1],_=>
    have r0:DataW.trod enc An W aa spare aV k 3 [c0]=J y0:=by simpa[xt] using q0
    have r1:DataW.trod enc An W aa spare aV k 43 [c1,c2,c3,c4,c5]=J y1:=by simpa[cells5] using q1
    obtain⟨i0,e0,_,_⟩:=Nh LA r0;obtain⟨zs,m,rfl,_,_,FB,hi⟩:=DataW.trod_array Rt r1;have k0:=hi 0 (by decide);have k1:=hi 1 (by decide);have k2:=hi 2 (by decide);have k3:=hi 3 (by decide);have k4:=hi 4 (by decide)
    match zs,FB with
    | [z0,z1,z2,z3,z4],_=>
     have j0:DataW.trod enc An W aa spare aV m 3 [c1]=J z0:=by simpa[xt] using k0
     have j1:DataW.trod enc An W aa spare aV m 3 [c2]=J z1:=by simpa[xt] using k1
     have j2:DataW.trod enc An W aa spare aV m 3 [c3]=J z2:=by simpa[xt] using k2
     have j3:DataW.trod enc An W aa spare aV m 3 [c4]=J z3:=by simpa[xt] using k3
     have j4:DataW.trod enc An W aa spare aV m 3 [c5]=J z4:=by simpa[xt] using k4
     obtain⟨a0,b0,_,_⟩:=Nh LA j0;obtain⟨a1,b1,_,_⟩:=Nh LA j1;obtain⟨a2,b2,_,_⟩:=Nh LA j2;obtain⟨a3,b3,_,_⟩:=Nh LA j3;obtain⟨a4,b4,_,_⟩:=Nh LA j4
     cases e0;cases e6;cases b0;cases b1;cases b2;cases b3;cases b4
     exact⟨⟨i0,a0,a1,a2,a3,a4,i6⟩,rfl⟩
/-- A move. -/
theorem rd_move{m:Nat}{cs:List Au}{y:DataW H×List MemPlace}(h:DataW.trod enc An W aa spare aV m 121 cs=J y):∃x:Mv,cs=x.cells.toList:=by
 obtain⟨xs,n,rfl,rfl,hl,fh,hf⟩:=NX underlying121 h;rw[QO] at hl;have ik:xs.length=2:=fh
 match cs,hl with
 | [c0,c1,c2,c3,c4,c5,c6,c7],_=>
  have f0:=hf 0 _ rfl;have f1:=hf 1 _ rfl
  match xs,ik with
  | [x0,x1],_=>
   have g0:DataW.trod enc An W aa spare aV n 75 [c0,c1,c2,c3,c4,c5,c6]=J x0:=by simpa[QN] using f0
   have g1:DataW.trod enc An W aa spare aV n 3 [c7]=J x1:=by simpa[xt] using f1
   obtain⟨r,e0⟩:=rd_round g0;obtain⟨i7,e7,_,_⟩:=Nh LA g1
   cases e7
   refine⟨⟨r,i7⟩,?_⟩;simp only[Rd.cells,List.cons.injEq] at e0;obtain⟨rfl,rfl,rfl,rfl,rfl,rfl,rfl,_⟩:=e0
   rfl
/-- A slice of moves. -/
theorem rd_moves{m:Nat}{cs:List Au}{y:DataW H×List MemPlace}(h:DataW.trod enc An W aa spare aV m 119 cs=J y)(hw:qm An 119 y.1) :
  ∃(A:Bb) (xs:List Mv) (c:Nat),cs=[I A xs.length c]/\xs.length<=17592186044416/\MAt W W.heap.size A xs:=by
 obtain⟨A,xs,c,e,_,_,hb,hA⟩:=qE (α:=Mv) (fun cs x=>cs=x.cells.toList) PF QO (by decide) (fun m cs y h _=>rd_move h) h hw;refine⟨A,xs,c,e,?_,fun h0=>?_⟩
 . rw[bytesMv] at hb;unfold reachBytes at hb;omega
 obtain⟨b,off,e,ac,hc⟩:=hA h0;refine⟨b,off,e,ac,fun i hi k u hk=>?_⟩;obtain⟨cs,rfl,h2⟩:=hc i hi;exact h2 k u (by simpa using hk)
/-- A slice of slices of moves. -/
theorem Jo{m:Nat}{cs:List Au}{y:DataW H×List MemPlace}(h:DataW.trod enc An W aa spare aV m 25 cs=J y)(hw:qm An 25 y.1) :
  ∃(A:Bb) (xs:List (List Mv)) (c:Nat),cs=[I A xs.length c]/\xs.length<=17592186044416/\(∀v∈xs,v.length<=17592186044416)/\SAt W W.heap.size A xs:=by
 obtain⟨A,xs,c,e,_,_,hb,hA⟩:=qE (α:=List Mv) (fun cs v=>∃A c,cs=[I A v.length c]/\v.length<=17592186044416/\MAt W W.heap.size A v) PQ cellsMl (by decide)
  (fun m cs y h hw=>by obtain⟨A,xs,c,e,h1,h2⟩:=rd_moves h hw;exact⟨xs,A,c,e,h1,h2⟩) h hw
 refine⟨A,xs,c,e,?_,?_,fun h0=>?_⟩
 . rw[bytesMl] at hb;unfold reachBytes at hb;omega
 . intro v hv
   obtain⟨i,hi,rfl⟩:=Nc hv;obtain⟨b,off,_,_,hc⟩:=hA (by omega);obtain⟨cs,⟨A,c,_,h1,_⟩,_⟩:=hc i hi;exact h1
 obtain⟨b,off,e,ac,hc⟩:=hA h0;refine⟨b,off,e,ac,fun i hi=>?_⟩;obtain⟨cs,⟨A,c,rfl,_,h3⟩,h2⟩:=hc i hi;exact⟨A,c,by simpa using h2 0 _ rfl,h3⟩
/-- A problem. -/
theorem rd_prob{m:Nat}{cs:List Au}{y:DataW H×List MemPlace}(h:DataW.trod enc An W aa spare aV m 29 cs=J y)(hw:qm An 29 y.1) :
  ∃(p:Pb) (A:Bb) (kc:Nat) (SV:Bb) (ks:Nat),cs=(p.vs A kc SV ks).toList/\wV p/\CAt W W.heap.size A p.t.cases/\SAt W W.heap.size SV p.a.sts:=by
 obtain⟨xs,n,rfl,rfl,hl,fh,hf⟩:=NX PP h;rw[cellsPb] at hl;have ik:xs.length=3:=fh
 match cs,hl with
 | [c0,c1,c2,c3,c4,c5,c6],_=>
  have f0:=hf 0 _ rfl;have f1:=hf 1 _ rfl;have f2:=hf 2 _ rfl
  match xs,ik with
  | [x0,x1,x2],_=>
   have g0:DataW.trod enc An W aa spare aV n 24 [c0,c1,c2,c3]=J x0:=by simpa[cellsTk] using f0
   have g1:DataW.trod enc An W aa spare aV n 27 [c4,c5]=J x1:=by simpa[cellsAd] using f1
   have g2:DataW.trod enc An W aa spare aV n 3 [c6]=J x2:=by simpa[xt] using f2
   have w0:qm An 24 x0.1:=xG PP hw (j:=0) rfl rfl;have w1:qm An 27 x1.1:=xG PP hw (j:=1) rfl rfl;obtain⟨i6,e6,_,_⟩:=Nh LA g2;obtain⟨ys,k,rfl,nn,_,cu,hg⟩:=NX underlying24 g0;rw[nn] at w0;have FD:ys.length=4:=cu;have q0:=hg 0 _ rfl;have q1:=hg 1 _ rfl;have q2:=hg 2 _ rfl;have q3:=hg 3 _ rfl
   match ys,FD with
   | [y0,y1,y2,y3],_=>
    have r0:DataW.trod enc An W aa spare aV k 3 [c0]=J y0:=by simpa[xt] using q0
    have r1:DataW.trod enc An W aa spare aV k 3 [c1]=J y1:=by simpa[xt] using q1
    have r2:DataW.trod enc An W aa spare aV k 3 [c2]=J y2:=by simpa[xt] using q2
    have r3:DataW.trod enc An W aa spare aV k 22 [c3]=J y3:=by simpa[cellsCss] using q3
    have v3:qm An 22 y3.1:=xG underlying24 w0 (j:=3) rfl rfl;obtain⟨i0,e0,_,_⟩:=Nh LA r0;obtain⟨i1,e1,_,_⟩:=Nh LA r1;obtain⟨i2,e2,_,_⟩:=Nh LA r2;obtain⟨A,us,kc,e3,lu,hu,hA⟩:=rd_cases r3 v3;obtain⟨zs,k',cX,mi,_,FB,ex⟩:=NX underlying27 g1;rw[mi] at w1;have FA:zs.length=2:=FB;have s0:=ex 0 _ rfl;have s1:=ex 1 _ rfl
    match zs,FA with
    | [z0,z1],_=>
     have t0:DataW.trod enc An W aa spare aV k' 3 [c4]=J z0:=by simpa[xt] using s0
     have t1:DataW.trod enc An W aa spare aV k' 25 [c5]=J z1:=by simpa[cellsMls] using s1
     have u1:qm An 25 z1.1:=xG underlying27 w1 (j:=1) rfl rfl;obtain⟨i4,e4,_,_⟩:=Nh LA t0;obtain⟨SV,ss,ks,e5,ls,hs,hS⟩:=Jo t1 u1
     cases e0;cases e1;cases e2;cases e3;cases e4;cases e5;cases e6
     exact⟨⟨⟨i0,i1,i2,us⟩,⟨i4,ss⟩,i6⟩,A,kc,SV,ks,rfl,⟨⟨lu,hu⟩,ls,hs⟩,hA,hS⟩
/-- A problem that is handed over by value. -/
theorem Zu{b0:Nat}{v:Au}{d:DataW H}{ps:List MemPlace}(hv:Value.okWide An W .any b0 29 v)(h:DataW.Trod enc An W aa spare aV 29 v d ps)(hw:qm An 29 d) :
  ∃(p:Pb) (A:Bb) (kc:Nat) (SV:Bb) (ks:Nat),v=.agg (p.vs A kc SV ks)/\wV p/\CAt W W.heap.size A p.t.cases/\SAt W W.heap.size SV p.a.sts:=by
 obtain⟨cs,rfl,_⟩:=okWide_struct PP hv;obtain⟨fuel,hf⟩:=h;obtain⟨p,A,kc,SV,ks,e,h1,h2,h3⟩:=rd_prob hf hw;refine⟨p,A,kc,SV,ks,?_,h1,h2,h3⟩;have e':cs.toList=(p.vs A kc SV ks).toList:=e;rw[Array.toList_inj.1 e']
end
end
section
open Go.RowKit
attribute [local go_sem] Oper.semAt_some
theorem jO(A A':Bb)(cap aF:Nat)(xs ys:List Int)(w:Ba)(B:Nat)(hA:IAt w B A xs)(iH:IAt w B A' ys)(hl:xs.length<=17592186044416)(mz:ys.length<=17592186044416) :
  Ap An 32 #[I A xs.length cap,I A' ys.length aF] w fun e w'=>e=Am (Ai (decide (xs=ys)))/\∃n,w'=w.drewN n:=by
 by_cases aN:xs.length=ys.length
 . by_cases h0:xs.length=0
   . have e1:xs=[]:=LD h0
     have e2:ys=[]:=LD (by omega);subst e1;subst e2;exact(Tryz.slices_Equal_int_empty A A' cap 0 aF w (by omega)).mono fun e w' h=>⟨by simpa using h.1,0,h.2⟩
   obtain⟨b,o,rfl,hb,hc⟩:=hA (by omega);obtain⟨b',o',rfl,cA,Ul⟩:=iH (by omega);refine(Tryz.slices_Equal_int b o xs.length cap b' o' ys.length aF xs ys w (Lh _) (Lh _) (by omega) (by omega) (fun j hj=>?_) (fun j hj=>?_)).mono fun e w' h=>⟨?_,h.2⟩
   . rw[Lf,Lg hj];exact hc j hj
   . rw[Lf,Lg hj];exact Ul j hj
   rw[h.1,LJ,LJ];exact ze (by rw[Nq];simp)
 exact(Tryz.slices_Equal_int_lens A A' xs.length cap ys.length aF w aN).mono fun e w' h=>⟨by rw[h.1,Ll (by rintro rfl;exact aN rfl)],0,h.2⟩
theorem eqV_any(A A':Bb)(cap aF:Nat)(vs us:List Vw)(w:Ba)(B:Nat)(_hB:B<=w.heap.size)(hA:VAt w B A vs)(iH:VAt w B A' us)(_hl:vs.length<=2199023255552)(mz:us.length<=2199023255552) :
  Ap An 45 #[I A vs.length cap,I A' us.length aF] w fun e w'=>e=Am (Ai (decide (vs=us)))/\∃n,w'=w.drewN n:=by
 have HE:As (∀k (hk:k<vs.length) (cX:k<us.length) (X:Ba),(binOp .neq 100 (.agg vs[k].cells) (.agg us[k].cells)).run An X=.ok (Ai (decide (vs[k]≠us[k]))) X):=fun k hk cX X=>Yk vs[k] us[k] X
 unfold Vw.cells at HE
 by_cases aN:vs.length=us.length
 . have HL:=zH aN
   have dK:((vs.length:Int) != (us.length:Int))=Ax:=by simp[aN]
   go_enter func45,ntmps45;go_wp2
   go_loopw [13] (fun i wr=>∃k m:Nat,k<=vs.length/\i=O U k/\wr=w.drewN m/\As (vs.take k=us.take k)) (fun i _=>vs.length-(Aq i).toNat)
   case atStart=>exact⟨0,0,by omega,rfl,rfl,by show vs.take 0=us.take 0;simp⟩
   obtain⟨k,m,hk,rfl,rfl,aj⟩:=hrel;have dr:k<=us.length:=by have:=HL.out;omega
   by_cases ac:k<vs.length
   . have bQ:k<us.length:=by have:=HL.out;omega
     obtain⟨b,off,rfl,aJ,c0,c1,c2,c3,c4,c5,c6,c7⟩:=hA.row k ac;obtain⟨b',eF,rfl,iB,d0,d1,d2,d3,d4,d5,d6,d7⟩:=iH.row k bQ;have fa:=HE.out k ac bQ
     by_cases hv:vs[k]=us[k]
     . have iu:∀X:Ba,_:=fun X=>(fa X).trans (by rw[Ll (by simpa using hv)])
       have hz:As (vs.take (k+1)=us.take (k+1)):=j5 ac bQ aj.out hv;clear fa hv;go_wp2;go_quiet (fail);go_wp2
       go_roundw
       case rel=>exact⟨k+1,_,by omega,by go_num,rfl,hz⟩
       simp[Aq];omega
     have iu:∀X:Ba,_:=fun X=>(fa X).trans (by rw[Lm hv])
     have hz:As (decide (vs=us)=Ax):=Ll (qf ac bQ hv);go_wp2;go_quiet (fail);go_wp2;go_ret;exact⟨ze hz.out.symm,_,kr _ _ _⟩
   obtain rfl:k=vs.length:=by omega
   have hz:As (decide (vs=us)=Av):=Lm (qj HL.out aj.out);go_wp2;go_ret;exact⟨ze hz.out.symm,_,rfl⟩
 have hz:As (decide (vs=us)=Ax):=Ll (by rintro rfl;exact aN rfl);have dK:((vs.length:Int) != (us.length:Int))=Av:=by simp;omega
 go_enter func45,ntmps45;go_wp2;go_ret;exact⟨ze hz.out.symm,0,rfl⟩
theorem QK(A A':Bb)(cap aF:Nat)(vs us:List Rd)(w:Ba)(B:Nat)(_hB:B<=w.heap.size)(hA:RAt w B A vs)(iH:RAt w B A' us)(_hl:vs.length<=17592186044416)(mz:us.length<=17592186044416) :
  Ap An 38 #[I A vs.length cap,I A' us.length aF] w fun e w'=>e=Am (Ai (decide (vs=us)))/\∃n,w'=w.drewN n:=by
 have HE:As (∀k (hk:k<vs.length) (cX:k<us.length) (X:Ba),(binOp .neq 75 (.agg vs[k].cells) (.agg us[k].cells)).run An X=.ok (Ai (decide (vs[k]≠us[k]))) X):=fun k hk cX X=>gG vs[k] us[k] X
 unfold Rd.cells at HE
 by_cases aN:vs.length=us.length
 . have HL:=zH aN
   have dK:((vs.length:Int) != (us.length:Int))=Ax:=by simp[aN]
   go_enter func38,ntmps38;go_wp2
   go_loopw [13] (fun i wr=>∃k m:Nat,k<=vs.length/\i=O U k/\wr=w.drewN m/\As (vs.take k=us.take k)) (fun i _=>vs.length-(Aq i).toNat)
   case atStart=>exact⟨0,0,by omega,rfl,rfl,by show vs.take 0=us.take 0;simp⟩
   obtain⟨k,m,hk,rfl,rfl,aj⟩:=hrel;have dr:k<=us.length:=by have:=HL.out;omega
   by_cases ac:k<vs.length
   . have bQ:k<us.length:=by have:=HL.out;omega
     obtain⟨b,off,rfl,aJ,c0,c1,c2,c3,c4,c5,c6⟩:=hA.row k ac;obtain⟨b',eF,rfl,iB,d0,d1,d2,d3,d4,d5,d6⟩:=iH.row k bQ;have fa:=HE.out k ac bQ
     by_cases hv:vs[k]=us[k]
     . have iu:∀X:Ba,_:=fun X=>(fa X).trans (by rw[Ll (by simpa using hv)])
       have hz:As (vs.take (k+1)=us.take (k+1)):=j5 ac bQ aj.out hv;clear fa hv;go_wp2;go_quiet (fail);go_wp2
       go_roundw
       case rel=>exact⟨k+1,_,by omega,by go_num,rfl,hz⟩
       simp[Aq];omega
     have iu:∀X:Ba,_:=fun X=>(fa X).trans (by rw[Lm hv])
     have hz:As (decide (vs=us)=Ax):=Ll (qf ac bQ hv);go_wp2;go_quiet (fail);go_wp2;go_ret;exact⟨ze hz.out.symm,_,kr _ _ _⟩
   obtain rfl:k=vs.length:=by omega
   have hz:As (decide (vs=us)=Av):=Lm (qj HL.out aj.out);go_wp2;go_ret;exact⟨ze hz.out.symm,_,rfl⟩
 have hz:As (decide (vs=us)=Ax):=Ll (by rintro rfl;exact aN rfl);have dK:((vs.length:Int) != (us.length:Int))=Av:=by simp;omega
 go_enter func38,ntmps38;go_wp2;go_ret;exact⟨ze hz.out.symm,0,rfl⟩
theorem eqLL_any(A A':Bb)(cap aF:Nat)(vs us:List (List Int))(w:Ba)(B:Nat)(_hB:B<=w.heap.size)(hA:LAt w B A vs)(iH:LAt w B A' us)(hl:vs.length<=17592186044416)(mz:us.length<=17592186044416)
  (hv:∀v∈vs,v.length<=17592186044416) (hu:∀v∈us,v.length<=17592186044416) :
  Ap An 80 #[I A vs.length cap,I A' us.length aF,.func (.func 32) #[] #[]] w fun e w'=>e=Am (Ai (decide (vs=us)))/\∃n,w'=w.drewN n:=by
 have HV:=zH hv;have HU:=zH hu
 by_cases aN:vs.length=us.length
 . have HL:=zH aN
   have dK:((vs.length:Int) != (us.length:Int))=Ax:=by simp[aN]
   clear aN;go_enter func80,ntmps80;go_wp2_with fail
   go_loopw [17] (fun i wr=>∃k m:Nat,k<=vs.length/\i=O U k/\wr=w.drewN m/\As (vs.take k=us.take k)) (fun i _=>vs.length-(Aq i).toNat)
   case atStart=>exact⟨0,0,by omega,rfl,rfl,by show vs.take 0=us.take 0;simp⟩
   obtain⟨k,m,hk,rfl,rfl,aj⟩:=hrel;have dr:k<=us.length:=by have:=HL.out;omega
   by_cases ac:k<vs.length
   . have bQ:k<us.length:=by have:=HL.out;omega
     obtain⟨b,off,A1,c1,rfl,aJ,x0,hI⟩:=hA.at_ k ac;obtain⟨b',eF,A2,c2,rfl,iB,y0,Az⟩:=iH.at_ k bQ;have HC:=zH (jO A1 A2 c1 c2 vs[k] us[k] (w.drewN m) B hI Az (HV.out _ (Ld ac)) (HU.out _ (Ld bQ)));have x1:(w.drewN m).cell? ⟨b,off+k,Z⟩=J (I A1 vs[k].length c1):=x0;have y1:(w.drewN m).cell? ⟨b',eF+k,Z⟩=J (I A2 us[k].length c2):=y0;clear hA iH x0 y0 hI Az;have cK:(0:Int)<=(k:Int):=by omega
     have bY:(k:Int)<(vs.length:Int):=by omega
     have ib:(k:Int)<(us.length:Int):=by omega
     go_wp2_with fail;refine HC.out.mono ?_;rintro e w' ⟨rfl,n,rfl⟩
     by_cases hv:vs[k]=us[k]
     . have hz:As (vs.take (k+1)=us.take (k+1)):=yG aj.out ac bQ hv
       rw[Lm hv];clear hv HC x1 y1;go_wp2_with fail
       go_roundw
       case rel=>exact⟨k+1,_,by omega,by go_num,rfl,hz⟩
       simp[Aq];omega
     have hz:As (decide (vs=us)=Ax):=Ll (qf ac bQ hv);rw[Ll hv];go_wp2_with fail;go_ret;exact⟨ze hz.out.symm,_,rfl⟩
   obtain rfl:k=vs.length:=by omega
   have hz:As (decide (vs=us)=Av):=Lm (qj HL.out aj.out);go_wp2_with fail;go_ret;exact⟨ze hz.out.symm,_,rfl⟩
 have hz:As (decide (vs=us)=Ax):=Ll (by rintro rfl;exact aN rfl);have dK:((vs.length:Int) != (us.length:Int))=Av:=by simp;omega
 go_enter func80,ntmps80;go_wp2_with fail;go_ret;exact⟨ze hz.out.symm,0,rfl⟩
theorem QX(x y:Exn)(hx:ZH x)(hy:ZH y)(A1 A2 B1 B2:Bb)(a1 a2 b1 b2:Nat)(w:Ba)(eP:RAt w w.heap.size A1 x.word)(CY:LAt w w.heap.size A2 x.views)(aw:RAt w w.heap.size B1 y.word)(aO:LAt w w.heap.size B2 y.views) :
  Ap An 47 #[Aj #[O U x.c,I A1 x.word.length a1,I A2 x.views.length a2],Aj #[O U y.c,I B1 y.word.length b1,I B2 y.views.length b2]] w fun e w'=>e=Am (Ai (decide (x=y)))/\Ao w.heap.size w w':=by
 obtain⟨w1,ag,d0,d1,bq,hB⟩:=zZ w #[O U x.c,I A1 x.word.length a1,I A2 x.views.length a2] #[O U y.c,I B1 y.word.length b1,I B2 y.views.length b2] 42 42;have HR:=zH (QK A1 B1 a1 b1 x.word y.word w1 w.heap.size (by omega) (eP.keep hB) (aw.keep hB) hx.1 hy.1);have HL:=zH (fun n=>eqLL_any A2 B2 a2 b2 x.views y.views (w1.drewN n) w.heap.size (by show w.heap.size<=w1.heap.size;omega) (CY.keep (zu hB n)) (aO.keep (zu hB n)) hx.2.1 hy.2.1 hx.2.2 hy.2.2);have al:=zH ag;have HB:=zH hB;have bn:=zH d0;have bN:=zH d1;obtain⟨p0,p1,p2,_⟩:=Kc d0;obtain⟨q0,q1,q2,_⟩:=Kc d1;have HE:=zH (@exn_eq x y);have AI:As (x≠y->decide (x=y)=Ax):=fun h=>Ll h
 have EY:As (x=y->decide (x=y)=Av):=fun h=>Lm h
 obtain⟨r,hr⟩:∃r,decide (x=y)=r:=⟨_,rfl⟩;rw[hr] at AI EY ⊢;clear hr ag d0 d1 hB eP CY aw aO hx hy;go_enter func47,ntmps47
 by_cases h1:x.c=y.c
 case neg=>
  have hR:=zH (AI.out (fun h=>h1 (congrArg Exn.c h)));have e0:(x.c==y.c)=Ax:=by simpa using h1
  clear AI EY HE h1 HR HL;go_wp2_with fail;rw[al.out];go_wp2_with fail
  all_goals
   go_ret;exact⟨ze hR.out.symm,HB.out⟩
 case pos=>
 have e0:(x.c==y.c)=Av:=by simpa using h1
 have HC:=zH h1;clear h1;go_wp2_with fail;rw[al.out];go_wp2_with fail;refine HR.out.mono ?_;rintro e w2 ⟨rfl,n,rfl⟩;have p2:(w1.drewN n).cell? ⟨w.heap.size,2,Z⟩=J (I A2 x.views.length a2):=za bn.out 2 rfl;have q2:(w1.drewN n).cell? ⟨w.heap.size+1,2,Z⟩=J (I B2 y.views.length b2):=za bN.out 2 rfl
 by_cases h2:x.word=y.word
 case neg=>
  have hR:=zH (AI.out (fun h=>h2 (congrArg Exn.word h)));rw[Ll h2];clear AI EY HE h2 HR HL;go_wp2_with fail
  all_goals
   go_ret;exact⟨ze hR.out.symm,zu HB.out n⟩
 case pos=>
 rw[Lm h2];have HW:=zH h2;clear h2;go_wp2_with fail;refine(HL.out n).mono ?_;rintro e w3 ⟨rfl,m,rfl⟩
 have hR:As (decide (x.views=y.views)=r):=by
  by_cases h3:x.views=y.views
  . exact(Lm h3).trans (EY.out (HE.out HC.out HW.out h3)).symm
  exact(Ll h3).trans (AI.out (fun h=>h3 (congrArg Exn.views h))).symm
 rw[hR.out];go_wp2_with fail
 all_goals
  go_ret;exact⟨rfl,zu HB.out _⟩
theorem eqX_any(A A':Bb)(cap aF:Nat)(vs us:List Exn)(w:Ba)(hA:XAt w w.heap.size A vs)(iH:XAt w w.heap.size A' us)(hl:vs.length<=17592186044416)(mz:us.length<=17592186044416)
  (hv:∀v∈vs,ZH v) (hu:∀v∈us,ZH v) :
  Ap An 46 #[I A vs.length cap,I A' us.length aF,.func (.func 47) #[] #[]] w fun e w'=>e=Am (Ai (decide (vs=us)))/\Ao w.heap.size w w':=by
 have HV:=zH hv;have HU:=zH hu;have HA:=zH hA;have Wv:=zH iH;clear hv hu hA iH
 by_cases aN:vs.length=us.length
 . have HL:=zH aN
   have dK:((vs.length:Int) != (us.length:Int))=Ax:=by simp[aN]
   clear aN;go_enter func46,ntmps46;go_wp2_with fail
   go_loopw [17] (fun i wr=>∃k:Nat,k<=vs.length/\i=O U k/\As (Ao w.heap.size w wr)/\As (vs.take k=us.take k)) (fun i _=>vs.length-(Aq i).toNat)
   case atStart=>exact⟨0,by omega,rfl,Lp _ _,by show vs.take 0=us.take 0;simp⟩
   obtain⟨k,hk,rfl,hb,aj⟩:=hrel;have dr:k<=us.length:=by have:=HL.out;omega
   by_cases ac:k<vs.length
   . have bQ:k<us.length:=by have:=HL.out;omega
     obtain⟨b,off,A1,c1,A2,c2,eA,aJ,x0,x1,x2,hW,hI⟩:=(HA.out.keep hb.out).row k ac;obtain⟨b',eF,B1,d1,B2,d2,eB,iB,y0,y1,y2,lY,Az⟩:=(Wv.out.keep hb.out).row k bQ;subst eA;subst eB;obtain⟨x,hx⟩:=Kh (vs[k]);obtain⟨y,hy⟩:=Kh (us[k]);have fh:=HV.out _ (Ld ac);have cu:=HU.out _ (Ld bQ);have bG:=zH (fun (h:x≠y)=>(Ll (qf ac bQ (by rw[hx,hy];exact h)):decide (vs=us)=Ax));have El:=zH (fun (h:x=y)=>yG aj.out ac bQ (by rw[hx,hy];exact h));rw[hx] at x0 x1 x2 hW hI fh;rw[hy] at y0 y1 y2 lY Az cu;have aZ:=hb.out.size;have b9:b<wr.heap.size:=by omega
     have Uo:b'<wr.heap.size:=by omega
     obtain⟨W2,dx,d0,OL,dq,aO⟩:=zZ wr #[O U x.c,I A1 x.word.length c1,I A2 x.views.length c2] #[O U y.c,I B1 y.word.length d1,I B2 y.views.length d2] 42 42;have HC:=zH (QX x y fh cu A1 A2 B1 B2 c1 c2 d1 d2 W2 (((hW.more aZ).keep aO).more aO.size) (((hI.more aZ).keep aO).more aO.size) (((lY.more aZ).keep aO).more aO.size) (((Az.more aZ).keep aO).more aO.size));have aU:=zH (hb.out.trans (aO.mono aZ));have Iv:=zH dx;obtain⟨p0,p1,p2,_⟩:=Kc d0;obtain⟨q0,q1,q2,_⟩:=Kc OL;clear hW hI lY Az fh cu dx d0 OL aO hx hy aj;have cK:(0:Int)<=(k:Int):=by omega
     have bY:(k:Int)<(vs.length:Int):=by omega
     have ib:(k:Int)<(us.length:Int):=by omega
     go_wp2_with fail;rw[Iv.out];go_wp2_with fail;refine HC.out.mono ?_;rintro e w3 ⟨rfl,ap⟩;have bE:=zH (Lc aU.out ap);clear ap HC p0 p1 p2 q0 q1 q2 x0 x1 x2 y0 y1 y2
     by_cases hv:x=y
     . have hz:=zH (El.out hv)
       rw[Lm hv];clear hv El bG;go_wp2_with fail
       go_roundw
       case rel=>exact⟨k+1,by omega,by go_num,bE,hz⟩
       simp[Aq];omega
     have hz:=zH (bG.out hv);rw[Ll hv];go_wp2_with fail;go_ret;exact⟨ze hz.out.symm,bE.out⟩
   obtain rfl:k=vs.length:=by omega
   have hz:As (decide (vs=us)=Av):=Lm (qj HL.out aj.out);go_wp2_with fail;go_ret;exact⟨ze hz.out.symm,hb.out⟩
 have hz:As (decide (vs=us)=Ax):=Ll (by rintro rfl;exact aN rfl);have dK:((vs.length:Int) != (us.length:Int))=Av:=by simp;omega
 clear aN;go_enter func46,ntmps46;go_wp2_with fail;go_ret;exact⟨ze hz.out.symm,Lp _ _⟩
end
section
open Go.RowKit
structure Kd where
 e:TypeId
 s:TypeId
 size:Nat
 bytes:Nat
 z:Au
structure KdOk(P:Program)(K:Kd):Prop where
 under:P.underlying K.s=J (.slice K.e)
 info:(P.info? K.e).map (fun i=>(i.zero,i.size,i.bytes))=J (J K.z,K.size,K.bytes)
 zs:K.z.cells.size=K.size
 pos:0<K.size
 small:K.bytes<=1024
def Raw(w:Ba)(A:Bb)(n:Nat)(cs:List Au):Prop:=0<n->∃b off,A=J ⟨b,off,Z⟩/\b<w.heap.size/\∀(j:Nat) (u:Au),cs[j]?=J u->w.cell? ⟨b,off+j,Z⟩=J u
def OwnR(K:Kd)(w:Ba)(aa:Nat)(v:Au)(n:Nat)(cs:List Au):Prop:=w.ownsRow aa K.e K.size v n cs
section
variable {P:Program} {K:Kd} {w w':Ba} {aa:Nat} {v:Au} {n:Nat} {cs:List Au}
theorem OwnR.nil(K:Kd)(w:Ba)(aa:Nat):OwnR K w aa (I Z 0 0) 0 []:=PK w aa _ _
theorem OwnR.kept{row:Option Nat}(h:OwnR K w aa v n cs)(hg:w.grownBy w' row)(bG:v.ownBlock=Z\/v.ownBlock≠row):OwnR K w' aa v n cs:=Pi h hg bG
theorem OwnR.alloc(h:OwnR K w aa v n cs)(o:Obj):OwnR K (w.alloc o) aa v n cs:=Pe h o
theorem OwnR.lt(h:OwnR K w aa v n cs):∀k,v.ownBlock=J k->aa<=k/\k<w.heap.size:=PU h
theorem OwnR.below{B:Nat}(h:OwnR K w aa v n cs)(hb:Ao B w w')(hB:w.heap.size<=B):OwnR K w' aa v n cs:=
 Pi (row:=Z) h ⟨hb.os,hb.tape,hb.output,hb.size,fun k hk _=>hb.block k (by omega)⟩ (by cases v.ownBlock<;>simp)
theorem OwnR.low{base':Nat}(h:OwnR K w aa v n cs)(hb:base'<=aa):OwnR K w base' v n cs:=by
 refine⟨h.1,?_⟩;rcases h.2 with h2 | ⟨g,cap,cur,hv,hg,r⟩
 . exact Or.inl h2
 exact Or.inr ⟨g,cap,cur,hv,by omega,r⟩
theorem OwnR.form(h:OwnR K w aa v n cs):∃A cap,v=I A n cap/\n<=cap/\cap<=maxLen/\(0<n->∃g,A=J ⟨g,0,Z⟩/\v.ownBlock=J g/\g<w.heap.size/\∀j u,cs[j]?=J u->w.cell? ⟨g,j,Z⟩=J u):=by
 rcases h.2 with ⟨rfl,h0⟩ | ⟨g,cap,cur,rfl,_,hg,dr,iw,_⟩
 . exact⟨Z,0,by rw[h0],by omega,by omega,fun hn=>by omega⟩
 refine⟨_,_,rfl,dr,iw,fun _=>⟨g,rfl,rfl,(Li.1 hg).1,fun j u hu=>?_⟩⟩;have:=World.ownsRow.cells h (g:=g) rfl j u hu;rwa[show(⟨g,0,Z⟩:Addr).add j=⟨g,j,Z⟩ from by unfold Addr.add;split<;>simp_all] at this
theorem OwnR.ne{b:Nat}(h:OwnR K w aa v n cs)(hb:b<aa):v.ownBlock≠J b:=fun e=>by
 have:=(h.lt b e).1;omega
theorem OwnR.raw(h:OwnR K w aa v n cs):∃A cap,v=I A n cap/\n<=cap/\cap<=maxLen/\Raw w A n cs:=by
 obtain⟨A,cap,e,h1,h2,h3⟩:=h.form;refine⟨A,cap,e,h1,h2,fun h0=>?_⟩;obtain⟨g,hA,_,hg,hc⟩:=h3 h0;exact⟨g,0,hA,hg,fun j u hu=>by rw[LN];exact hc j u hu⟩
theorem yx(ok:KdOk P K):∃i:TypeInfo,P.info? K.e=J i/\i.zero=J K.z/\i.size=K.size/\i.bytes=K.bytes:=by
 have h:=ok.info
 cases hi:P.info? K.e with
 | none=>rw[hi] at h;cases h
 | some i=>
  rw[hi] at h;simp only[Option.map_some,Option.some.injEq,Prod.mk.injEq] at h;exact⟨i,rfl,h.1,h.2.1,h.2.2⟩
theorem uq(ok:KdOk P K){o:Oper}{a:Act}{KK:Act->Ba->Prop}{Q:Exit->Act->Ba->Prop}{W:Ba}(s x:Operand)
  (ho:o.op=.call { callee:=.builtin .append,args:=#[s,x],argTypes:=#[K.s,K.s] }) (aa:Nat) (V:Au) (n:Nat) (cs:List Au) (hs:a.eval s=V) (aq:OwnR K W aa V n cs)
  (g:Nat) (dV:Array Au) (hx:a.eval x=I (J ⟨g,0,Z⟩) 1 1) (hg:W.heap[g]?=J (Ah dV K.e (0,0))) (hn:dV.size=K.size) (h1:∀u∈dV.toList,u.oneCell'=Av) (hl:n<=1000000000) (hb:aa<=W.heap.size) (H:Nat) (hH:W.heap.size=H)
  (h:∀g' cap w1,OwnR K w1 aa (I (J ⟨g',0,Z⟩) (n+1) cap) (n+1) (cs++dV.toList)->W.grownBy w1 V.ownBlock->(V.ownBlock=J g'\/g'=H)->g'<w1.heap.size->KK (a.put o.dst (I (J ⟨g',0,Z⟩) (n+1) cap)) w1):o.wp P a W KK Q:=by
 obtain⟨i0,hi,cq,bK,cf⟩:=yx ok
 refine wp_append_lies W s x K.s ho aa K.e i0 K.z K.size K.bytes ok.under hi cq bK cf ok.zs ok.pos V n cs hs aq ⟨g,0,Z⟩ 1 1 dV.toList hx (by simp[hn])
  (Rh hg) h1 (by omega) (by unfold maxLen;omega) ?_ hb H hH h
 have:=NZ (show n+1<=1000000001 by omega) ok.small;omega
theorem yg(ok:KdOk P K){ak:Array Oper}{rest:List Oper}{o:Oper}{a:Act}{Q:Exit->Act->Ba->Prop}{W:Ba}(dU:o.guard=Z)(s x:Operand)
  (ho:o.op=.call { callee:=.builtin .append,args:=#[s,x],argTypes:=#[K.s,K.s] }) (aa:Nat) (V:Au) (n:Nat) (cs:List Au) (hs:a.eval s=V) (aq:OwnR K W aa V n cs)
  (g:Nat) (dV:Array Au) (hx:a.eval x=I (J ⟨g,0,Z⟩) 1 1) (hg:W.heap[g]?=J (Ah dV K.e (0,0))) (hn:dV.size=K.size) (h1:∀u∈dV.toList,u.oneCell'=Av) (hl:n<=1000000000) (hb:aa<=W.heap.size) (H:Nat) (hH:W.heap.size=H)
  (h:∀g' cap w1,OwnR K w1 aa (I (J ⟨g',0,Z⟩) (n+1) cap) (n+1) (cs++dV.toList)->W.grownBy w1 V.ownBlock->(V.ownBlock=J g'\/g'=H)->g'<w1.heap.size->wpList P ak Q rest (a.put o.dst (I (J ⟨g',0,Z⟩) (n+1) cap)) w1):wpList P ak Q (o::rest) a W:=
 LM dU fun _ hK=>uq ok s x ho aa V n cs hs aq g dV hx hg hn h1 hl hb H hH fun g' cap w1 h1 h2 h3 h4=>hK _ _ (h g' cap w1 h1 h2 h3 h4)
theorem Jd(ok:KdOk P K){ak:Array Oper}{o:Oper}{a:Act}{KK:Act->Ba->Prop}{Q:Exit->Act->Ba->Prop}{E:Prop}{W:Ba}(dU:o.guard=Z)(s x:Operand)
  (ho:o.op=.call { callee:=.builtin .append,args:=#[s,x],argTypes:=#[K.s,K.s] }) (aa:Nat) (V:Au) (n:Nat) (cs:List Au) (hs:a.eval s=V) (aq:OwnR K W aa V n cs)
  (g:Nat) (dV:Array Au) (hx:a.eval x=I (J ⟨g,0,Z⟩) 1 1) (hg:W.heap[g]?=J (Ah dV K.e (0,0))) (hn:dV.size=K.size) (h1:∀u∈dV.toList,u.oneCell'=Av) (hl:n<=1000000000) (hb:aa<=W.heap.size) (H:Nat) (hH:W.heap.size=H)
  (h:∀g' cap w1,OwnR K w1 aa (I (J ⟨g',0,Z⟩) (n+1) cap) (n+1) (cs++dV.toList)->W.grownBy w1 V.ownBlock->(V.ownBlock=J g'\/g'=H)->g'<w1.heap.size->KK (a.put o.dst (I (J ⟨g',0,Z⟩) (n+1) cap)) w1) :
  if Region.wanted o (yielded ak a.tmps)=Av then Oper.wp P o a W KK Q else E:=by
 have hw:Region.wanted o (yielded ak a.tmps)=Av:=by simp[Region.wanted,dU]
 rw[Ln hw];exact uq ok s x ho aa V n cs hs aq g dV hx hg hn h1 hl hb H hH h
theorem wp_fitR(ok:KdOk P K){o:Oper}{a:Act}{KK:Act->Ba->Prop}{Q:Exit->Act->Ba->Prop}{W:Ba}(s x:Operand)
  (ho:o.op=.call { callee:=.builtin .append,args:=#[s,x],argTypes:=#[K.s,K.s] }) (aa g n cap:Nat) (cs:List Au) (hs:a.eval s=I (J ⟨g,0,Z⟩) n cap) (aq:OwnR K W aa (I (J ⟨g,0,Z⟩) n cap) n cs)
  (h:Nat) (dV:Array Au) (hx:a.eval x=I (J ⟨h,0,Z⟩) 1 1) (hg:W.heap[h]?=J (Ah dV K.e (0,0))) (hn:dV.size=K.size) (h1:∀u∈dV.toList,u.oneCell'=Av) (dr:n+1<=cap)
  (hK:∀w1,OwnR K w1 aa (I (J ⟨g,0,Z⟩) (n+1) cap) (n+1) (cs++dV.toList)->W.grownBy w1 (J g)->KK (a.put o.dst (I (J ⟨g,0,Z⟩) (n+1) cap)) w1):o.wp P a W KK Q:=by
 obtain⟨i0,hi,cq,bK,cf⟩:=yx ok;obtain⟨w',cV,r1,r2⟩:=run_append_fits (P:=P) W aa K.s o.type K.e i0 K.size ok.under hi bK g n cap cs aq ⟨h,0,Z⟩ 1 1 dV.toList (by simp[hn]) (Rh hg) h1 dr;unfold Oper.wp execOp;simp only[ho,resolve,invoke,builtin,Sem.run_bind,Sem.run_pure,Result.andThen_ok,List.map_toArray,List.map_cons,List.map_nil,hs,hx,cV];exact hK w' r1 r2
theorem j8(ok:KdOk P K)(A:Bb)(n cap c:Nat)(ty:TypeId)(W:Ba)(hn:n<=cap):(Builtin.append_ #[K.s,K.s] ty #[I A n cap,I Z 0 c]).run P W=.ok (I A n cap) W:=by
 obtain⟨i0,hi,cq,bK,cf⟩:=yx ok
 cases A with
 | none=>simp[Builtin.append_,run_underlying ok.under,sizeOf,typeInfo,hi,Builtin.lenOf,Builtin.firstCells,hn,Result.andThen]
 | some ad=>simp[Builtin.append_,run_underlying ok.under,sizeOf,typeInfo,hi,Builtin.lenOf,Builtin.firstCells,hn,Result.andThen,storeCells]
theorem run_appN(ok:KdOk P K)(W:Ba)(ty:TypeId)(aa:Nat)(v:Au)(n:Nat)(cs:List Au)(aq:OwnR K W aa v n cs)(A:Bb)(m c:Nat)(news:List Au)(hl:news.length=m*K.size)(hA:Raw W A m news)
  (h1:∀u∈news,u.oneCell'=Av) (hm:n+m<=1000000000) (hb:aa<=W.heap.size) :
  ∃v' w',(Builtin.append_ #[K.s,K.s] ty #[v,I A m c]).run P W=.ok v' w'/\OwnR K w' aa v' (n+m) (cs++news)/\W.grownBy w' v.ownBlock/\(v'.ownBlock=v.ownBlock\/v'.ownBlock=J W.heap.size):=by
 obtain⟨i0,hi,cq,bK,cf⟩:=yx ok
 cases A with
 | none=>
  have lR:m=0:=by
   rcases Na m with h | h
   . exact h
   . obtain⟨b,off,e,_⟩:=hA h;cases e
  subst lR;have Mz:news=[]:=LD (by omega);subst Mz;obtain⟨A,cap,rfl,hc,_⟩:=aq.form;exact⟨_,W,j8 ok A n cap c ty W hc,by simpa using aq,Pj _ _,.inl rfl⟩
 | some ad=>
  have aI:=NZ hm ok.small
  obtain⟨v',w',hr,r1,r2,_,r4⟩:=run_append_own_at (P:=P) W aa K.s ty K.e i0 K.z K.size K.bytes ok.under hi cq bK cf ok.zs ok.pos v n cs aq ad m c news hl (fun j u hj=>by
    have bg:j<m*K.size:=by rw[<-hl];exact(Lo.1 hj).1
    have lR:0<m:=by rcases Na m with h | h;(· subst h;omega);(· exact h)
    obtain⟨b,off,e,_,hc⟩:=hA lR
    cases e
    rw[show(⟨b,off,Z⟩:Addr).add j=⟨b,off+j,Z⟩ from by unfold Addr.add;split<;>simp_all]
    exact hc j u hj) h1 (by unfold maxLen;omega) (by omega) hb
  exact⟨v',w',hr,r1,r2,r4⟩
theorem wp_appN(ok:KdOk P K){o:Oper}{a:Act}{KK:Act->Ba->Prop}{Q:Exit->Act->Ba->Prop}{W:Ba}(s x:Operand)
  (ho:o.op=.call { callee:=.builtin .append,args:=#[s,x],argTypes:=#[K.s,K.s] }) (aa:Nat) (v:Au) (n:Nat) (cs:List Au) (hs:a.eval s=v) (aq:OwnR K W aa v n cs) (A:Bb) (m c:Nat) (news:List Au) (hx:a.eval x=I A m c)
  (hl:news.length=m*K.size) (hA:Raw W A m news) (h1:∀u∈news,u.oneCell'=Av) (hm:n+m<=1000000000) (hb:aa<=W.heap.size)
  (h:∀v' w1,OwnR K w1 aa v' (n+m) (cs++news)->W.grownBy w1 v.ownBlock->(v'.ownBlock=v.ownBlock\/v'.ownBlock=J W.heap.size)->KK (a.put o.dst v') w1):o.wp P a W KK Q:=by
 obtain⟨v',w',cV,r1,r2,r3⟩:=run_appN ok W o.type aa v n cs aq A m c news hl hA h1 hm hb;unfold Oper.wp execOp;simp only[ho,resolve,invoke,builtin,Sem.run_bind,Sem.run_pure,Result.andThen_ok,List.map_toArray,List.map_cons,List.map_nil,hs,hx,cV];exact h v' w' r1 r2 r3
theorem ZL(ok:KdOk P K){ak:Array Oper}{rest:List Oper}{o:Oper}{a:Act}{Q:Exit->Act->Ba->Prop}{W:Ba}(dU:o.guard=Z)(s x:Operand)
  (ho:o.op=.call { callee:=.builtin .append,args:=#[s,x],argTypes:=#[K.s,K.s] }) (aa:Nat) (v:Au) (n:Nat) (cs:List Au) (hs:a.eval s=v) (aq:OwnR K W aa v n cs) (A:Bb) (m c:Nat) (news:List Au) (hx:a.eval x=I A m c)
  (hl:news.length=m*K.size) (hA:Raw W A m news) (h1:∀u∈news,u.oneCell'=Av) (hm:n+m<=1000000000) (hb:aa<=W.heap.size)
  (h:∀v' w1,OwnR K w1 aa v' (n+m) (cs++news)->W.grownBy w1 v.ownBlock->(v'.ownBlock=v.ownBlock\/v'.ownBlock=J W.heap.size)->wpList P ak Q rest (a.put o.dst v') w1):wpList P ak Q (o::rest) a W:=
 LM dU fun _ hK=>wp_appN ok s x ho aa v n cs hs aq A m c news hx hl hA h1 hm hb fun v' w1 h1 h2 h3=>hK _ _ (h v' w1 h1 h2 h3)
theorem OwnR.of_block{g:Nat}{cur:Array Au}(h:w.heap[g]?=J (Ah cur K.e (0,0)))(hb:aa<=g)(hc:cur.size=n*K.size)(hn:n<=maxLen):OwnR K w aa (I (J ⟨g,0,Z⟩) n n) n cur.toList:=
 ⟨by simpa using hc,.inr ⟨g,n,cur,rfl,hb,h,Lh _,hn,hc,by rw[Pq (by simp[hc])]⟩⟩
theorem OwnR.pop{g m cap:Nat}{lF:List Au}(h:OwnR K w aa (I (J ⟨g,0,Z⟩) (n+m) cap) (n+m) (cs++lF))(hl:cs.length=n*K.size):OwnR K w aa (I (J ⟨g,0,Z⟩) n cap) n cs:=by
 refine⟨hl,.inr ?_⟩;rcases h.2 with ⟨e,_⟩ | ⟨g',aF,cur,e,hb,hg,dr,hm,hs,ht⟩
 . cases e
 injection e with e1 e2 e3
 injection e1 with e1
 injection e1 with e1
 subst e1;subst e3;refine⟨g,cap,cur,rfl,hb,hg,by omega,hm,hs,?_⟩;have h2:=congrArg (List.take (n*K.size)) ht;rw[RQ,RK (by omega),<-hl,LJ,P8 (by rw[hl,Py];omega)] at h2;rw[<-hl];exact h2
end
section
variable {S S':Nat->Prop} {w w':Ba} {A:Bb}
theorem xZ{b o:Nat}{u:Au}(h:KeepB S w w')(hb:S b)(hc:w.cell? ⟨b,o,Z⟩=J u):w'.cell? ⟨b,o,Z⟩=J u:=by
 obtain⟨ob,ho,_⟩:=Rl hc;rw[L6 (h.same b hb (Li.1 ho).1)];exact hc
structure KeepC(S:Nat->Prop)(w w':Ba):Prop where
 size:w.heap.size<=w'.heap.size
 cell:∀k o v,S k->w.cell? ⟨k,o,Z⟩=J v->w'.cell? ⟨k,o,Z⟩=J v
theorem KeepC.of_cells(S:Nat->Prop)(hs:w.heap.size<=w'.heap.size)(h:∀(k:Nat) (o:Obj),w.heap[k]?=J o->o.isCells=Av->w'.heap[k]?=J o):KeepC S w w':=
 ⟨hs,fun k o v _ hc=>by
  obtain⟨ob,ho,ix⟩:=Rl hc;rw[L6 ((h k ob ho ix).trans ho.symm)]
  exact hc⟩
def IAtS(S:Nat->Prop)(w:Ba)(A:Bb)(xs:List Int):Prop:=
 0<xs.length->∃b off,A=J ⟨b,off,Z⟩/\S b/\b<w.heap.size/\∀(i:Nat) (hi:i<xs.length),w.cell? ⟨b,off+i,Z⟩=J (O U xs[i])
theorem IAtS.keep{xs:List Int}(h:IAtS S w A xs)(hk:KeepB S w w'):IAtS S w' A xs:=fun h0=>by
 obtain⟨b,off,e,hs,hb,hc⟩:=h h0;exact⟨b,off,e,hs,LF hb hk.size,fun i hi=>xZ hk hs (hc i hi)⟩
theorem IAtS.keepC{xs:List Int}(h:IAtS S w A xs)(hk:KeepC S w w'):IAtS S w' A xs:=fun h0=>by
 obtain⟨b,off,e,hs,hb,hc⟩:=h h0;exact⟨b,off,e,hs,LF hb hk.size,fun i hi=>hk.cell _ _ _ hs (hc i hi)⟩
theorem IAtS.mono{xs:List Int}(h:IAtS S w A xs)(hm:∀k,k<w.heap.size->S k->S' k):IAtS S' w A xs:=fun h0=>by
 obtain⟨b,off,e,hs,hb,hc⟩:=h h0;exact⟨b,off,e,hm b hb hs,hb,hc⟩
theorem IAtS.on{xs:List Int}(h:IAtS S w A xs)(hb:Ao w.heap.size w w'):IAtS S w' A xs:=
 ((h.mono (S':=fun k=>S k/\k<w.heap.size) fun _ hk hs=>⟨hs,hk⟩).keep ⟨hb.size,fun k hk _=>hb.block k hk.2⟩).mono fun _ _ hs=>hs.1
theorem IAtS.iat{xs:List Int}(h:IAtS S w A xs):IAt w w.heap.size A xs:=fun h0=>by
 obtain⟨b,off,e,hs,hb,hc⟩:=h h0;exact⟨b,off,e,hb,hc⟩
theorem IAtS.of_iat{xs:List Int}{B:Nat}(h:IAt w B A xs)(hB:B<=w.heap.size)(hS:∀k,k<B->S k):IAtS S w A xs:=fun h0=>by
 obtain⟨b,off,e,hb,hc⟩:=h h0;exact⟨b,off,e,hS b hb,by omega,hc⟩
def RAtS(S:Nat->Prop)(w:Ba)(A:Bb)(rs:List Rd):Prop:=
 0<rs.length->∃b off,A=J ⟨b,off,Z⟩/\S b/\b<w.heap.size/\∀(i:Nat) (hi:i<rs.length) (k:Nat) (u:Au),rs[i].cells[k]?=J u->w.cell? ⟨b,off+i*7+k,Z⟩=J u
theorem RAtS.keep{xs:List Rd}(h:RAtS S w A xs)(hk:KeepB S w w'):RAtS S w' A xs:=fun h0=>by
 obtain⟨b,off,e,hs,hb,hc⟩:=h h0;exact⟨b,off,e,hs,LF hb hk.size,fun i hi k u hu=>xZ hk hs (hc i hi k u hu)⟩
theorem RAtS.keepC{xs:List Rd}(h:RAtS S w A xs)(hk:KeepC S w w'):RAtS S w' A xs:=fun h0=>by
 obtain⟨b,off,e,hs,hb,hc⟩:=h h0;exact⟨b,off,e,hs,LF hb hk.size,fun i hi k u hu=>hk.cell _ _ _ hs (hc i hi k u hu)⟩
theorem RAtS.mono{xs:List Rd}(h:RAtS S w A xs)(hm:∀k,k<w.heap.size->S k->S' k):RAtS S' w A xs:=fun h0=>by
 obtain⟨b,off,e,hs,hb,hc⟩:=h h0;exact⟨b,off,e,hm b hb hs,hb,hc⟩
theorem RAtS.on{xs:List Rd}(h:RAtS S w A xs)(hb:Ao w.heap.size w w'):RAtS S w' A xs:=
 ((h.mono (S':=fun k=>S k/\k<w.heap.size) fun _ hk hs=>⟨hs,hk⟩).keep ⟨hb.size,fun k hk _=>hb.block k hk.2⟩).mono fun _ _ hs=>hs.1
theorem RAtS.rat{xs:List Rd}(h:RAtS S w A xs):RAt w w.heap.size A xs:=fun h0=>by
 obtain⟨b,off,e,hs,hb,hc⟩:=h h0;exact⟨b,off,e,hb,hc⟩
theorem RAtS.nil(S:Nat->Prop)(w:Ba)(A:Bb):RAtS S w A []:=fun h=>absurd h (by simp)
def LAtS(S:Nat->Prop)(w:Ba)(A:Bb)(xss:List (List Int)):Prop:=
 0<xss.length->∃b off,A=J ⟨b,off,Z⟩/\S b/\b<w.heap.size/\∀(i:Nat) (hi:i<xss.length),∃A' c,w.cell? ⟨b,off+i,Z⟩=J (I A' xss[i].length c)/\IAtS S w A' xss[i]
theorem LAtS.keep{xs:List (List Int)}(h:LAtS S w A xs)(hk:KeepB S w w'):LAtS S w' A xs:=fun h0=>by
 obtain⟨b,off,e,hs,hb,hc⟩:=h h0;refine⟨b,off,e,hs,LF hb hk.size,fun i hi=>?_⟩;obtain⟨A',c,h1,h2⟩:=hc i hi;exact⟨A',c,xZ hk hs h1,h2.keep hk⟩
theorem LAtS.keepC{xs:List (List Int)}(h:LAtS S w A xs)(hk:KeepC S w w'):LAtS S w' A xs:=fun h0=>by
 obtain⟨b,off,e,hs,hb,hc⟩:=h h0;refine⟨b,off,e,hs,LF hb hk.size,fun i hi=>?_⟩;obtain⟨A',c,h1,h2⟩:=hc i hi;exact⟨A',c,hk.cell _ _ _ hs h1,h2.keepC hk⟩
theorem LAtS.mono{xs:List (List Int)}(h:LAtS S w A xs)(hm:∀k,k<w.heap.size->S k->S' k):LAtS S' w A xs:=fun h0=>by
 obtain⟨b,off,e,hs,hb,hc⟩:=h h0;refine⟨b,off,e,hm b hb hs,hb,fun i hi=>?_⟩;obtain⟨A',c,h1,h2⟩:=hc i hi;exact⟨A',c,h1,h2.mono hm⟩
theorem LAtS.on{xs:List (List Int)}(h:LAtS S w A xs)(hb:Ao w.heap.size w w'):LAtS S w' A xs:=
 ((h.mono (S':=fun k=>S k/\k<w.heap.size) fun _ hk hs=>⟨hs,hk⟩).keep ⟨hb.size,fun k hk _=>hb.block k hk.2⟩).mono fun _ _ hs=>hs.1
theorem LAtS.lat{xs:List (List Int)}(h:LAtS S w A xs):LAt w w.heap.size A xs:=fun h0=>by
 obtain⟨b,off,e,hs,hb,hc⟩:=h h0;refine⟨b,off,e,hb,fun i hi=>?_⟩;obtain⟨A',c,h1,h2⟩:=hc i hi;exact⟨A',c,h1,h2.iat⟩
theorem LAtS.of_lat{xs:List (List Int)}{B:Nat}(h:LAt w B A xs)(hB:B<=w.heap.size)(hS:∀k,k<B->S k):LAtS S w A xs:=fun h0=>by
 obtain⟨b,off,e,hb,hc⟩:=h h0;refine⟨b,off,e,hS b hb,by omega,fun i hi=>?_⟩;obtain⟨A',c,h1,h2⟩:=hc i hi;exact⟨A',c,h1,IAtS.of_iat h2 hB hS⟩
def MAtS(S:Nat->Prop)(w:Ba)(A:Bb)(ms:List Mv):Prop:=
 0<ms.length->∃b off,A=J ⟨b,off,Z⟩/\S b/\b<w.heap.size/\∀(i:Nat) (hi:i<ms.length) (k:Nat) (u:Au),ms[i].cells[k]?=J u->w.cell? ⟨b,off+i*8+k,Z⟩=J u
theorem MAtS.keep{xs:List Mv}(h:MAtS S w A xs)(hk:KeepB S w w'):MAtS S w' A xs:=fun h0=>by
 obtain⟨b,off,e,hs,hb,hc⟩:=h h0;exact⟨b,off,e,hs,LF hb hk.size,fun i hi k u hu=>xZ hk hs (hc i hi k u hu)⟩
theorem MAtS.keepC{xs:List Mv}(h:MAtS S w A xs)(hk:KeepC S w w'):MAtS S w' A xs:=fun h0=>by
 obtain⟨b,off,e,hs,hb,hc⟩:=h h0;exact⟨b,off,e,hs,LF hb hk.size,fun i hi k u hu=>hk.cell _ _ _ hs (hc i hi k u hu)⟩
theorem MAtS.mono{xs:List Mv}(h:MAtS S w A xs)(hm:∀k,k<w.heap.size->S k->S' k):MAtS S' w A xs:=fun h0=>by
 obtain⟨b,off,e,hs,hb,hc⟩:=h h0;exact⟨b,off,e,hm b hb hs,hb,hc⟩
theorem MAtS.mat{xs:List Mv}(h:MAtS S w A xs):MAt w w.heap.size A xs:=fun h0=>by
 obtain⟨b,off,e,hs,hb,hc⟩:=h h0;exact⟨b,off,e,hb,hc⟩
theorem MAtS.of_mat{xs:List Mv}{B:Nat}(h:MAt w B A xs)(hB:B<=w.heap.size)(hS:∀k,k<B->S k):MAtS S w A xs:=fun h0=>by
 obtain⟨b,off,e,hb,hc⟩:=h h0;exact⟨b,off,e,hS b hb,by omega,hc⟩
end
structure Ct(α:Type) where
 K:Kd
 lies:(Nat->Prop)->Ba->List Au->α->Prop
structure CtOk{α:Type}(C:Ct α):Prop where
 len:∀ {S w cs x},C.lies S w cs x->cs.length=C.K.size
 one:∀ {S w cs x},C.lies S w cs x->∀u∈cs,u.oneCell'=Av
 keep:∀ {S w w' cs x},C.lies S w cs x->KeepB S w w'->C.lies S w' cs x
 keepC:∀ {S w w' cs x},C.lies S w cs x->KeepC S w w'->C.lies S w' cs x
 mono:∀ {S S' w cs x},C.lies S w cs x->(∀k,k<w.heap.size->S k->S' k)->C.lies S' w cs x
def OwnX{α:Type}(C:Ct α)(S:Nat->Prop)(w:Ba)(aa:Nat)(v:Au)(xs:List α):Prop:=
 ∃aD:List (List Au),aD.length=xs.length/\OwnR C.K w aa v xs.length aD.flatten/\∀(i:Nat) (h1:i<aD.length) (h2:i<xs.length),C.lies (fun k=>S k/\v.ownBlock≠J k) w aD[i] xs[i]
theorem uw{s:Nat}:∀(aD:List (List Au)) (_:∀c∈aD,c.length=s) (i:Nat) (hi:i<aD.length) (k:Nat),k<s->aD.flatten[i*s+k]?=aD[i][k]?
 | c::aD,h,0,hi,k,hk=>by
  have:=h c (by simp);rw[PS,LX (by omega)];simp
 | c::aD,h,i+1,hi,k,hk=>by
  have hc:=h c (by simp);have:=uw aD (fun d hd=>h d (by simp[hd])) i (by simpa using hi) k hk;rw[PS,LV (by rw[hc,Py];omega),hc,show(i+1)*s+k-s=i*s+k by rw[Py];omega,this]
  rfl
section
variable {α:Type} {C:Ct α} {S S':Nat->Prop} {w w':Ba} {aa:Nat} {v:Au} {xs:List α}
theorem OwnX.nil(C:Ct α)(S:Nat->Prop)(w:Ba)(aa:Nat):OwnX C S w aa (I Z 0 0) []:=⟨[],rfl,OwnR.nil _ _ _,fun i h1 _=>absurd h1 (by simp)⟩
theorem OwnX.lt(h:OwnX C S w aa v xs):∀k,v.ownBlock=J k->aa<=k/\k<w.heap.size:=by
 obtain⟨aD,_,h2,_⟩:=h;exact h2.lt
theorem OwnX.ne{b:Nat}(h:OwnX C S w aa v xs)(hb:b<aa):v.ownBlock≠J b:=fun e=>by
 have:=(h.lt b e).1;omega
theorem OwnX.kept(ok:CtOk C){row:Option Nat}(h:OwnX C S w aa v xs)(hg:w.grownBy w' row)(bG:v.ownBlock=Z\/v.ownBlock≠row)(hS:∀k,row=J k->¬S k\/v.ownBlock=J k):OwnX C S w' aa v xs:=by
 obtain⟨aD,hl,h2,h3⟩:=h;refine⟨aD,hl,h2.kept hg bG,fun i i1 i2=>ok.keep (h3 i i1 i2) (KeepB.of_grown hg fun k hk hs=>?_)⟩;rcases hS k hk with h | h
 . exact h hs.1
 exact hs.2 h
theorem OwnX.keep(ok:CtOk C)(h:OwnX C S w aa v xs)(hk:KeepB S w w')(hv:∀k,v.ownBlock=J k->w'.heap[k]?=w.heap[k]?):OwnX C S w' aa v xs:=by
 obtain⟨aD,hl,h2,h3⟩:=h;refine⟨aD,hl,?_,fun i i1 i2=>ok.keep (h3 i i1 i2) (hk.mono fun k hk=>hk.1)⟩;refine⟨h2.1,?_⟩;rcases h2.2 with hn | ⟨g,cap,cur,ns,hb,hg,rest⟩
 . exact .inl hn
 exact .inr ⟨g,cap,cur,ns,hb,(hv g (by rw[ns];rfl)).trans hg,rest⟩
theorem OwnX.turn(ok:CtOk C)(h:OwnX C S w aa v xs)(hs:w.heap.size<=w'.heap.size)(hc:∀(k:Nat) (o:Obj),w.heap[k]?=J o->o.isCells=Av->w'.heap[k]?=J o):OwnX C S w' aa v xs:=by
 obtain⟨aD,hl,h2,h3⟩:=h;refine⟨aD,hl,?_,fun i i1 i2=>ok.keepC (h3 i i1 i2) (KeepC.of_cells _ hs hc)⟩;refine⟨h2.1,?_⟩;rcases h2.2 with hn | ⟨g,cap,cur,ns,hb,hg,rest⟩
 . exact .inl hn
 exact .inr ⟨g,cap,cur,ns,hb,hc g _ hg rfl,rest⟩
theorem OwnX.below(ok:CtOk C){B:Nat}(h:OwnX C S w aa v xs)(hb:Ao B w w')(hB:w.heap.size<=B):OwnX C S w' aa v xs:=
 h.keep ok ⟨hb.size,fun k _ hk=>hb.block k (by omega)⟩ (fun k hk=>hb.block k (by have:=(h.lt k hk).2;omega))
theorem OwnX.mono(ok:CtOk C)(h:OwnX C S w aa v xs)(hm:∀k,k<w.heap.size->S k->S' k):OwnX C S' w aa v xs:=by
 obtain⟨aD,hl,h2,h3⟩:=h;exact⟨aD,hl,h2,fun i i1 i2=>ok.mono (h3 i i1 i2) fun k hk hs=>⟨hm k hk hs.1,hs.2⟩⟩
theorem OwnX.low{base':Nat}(h:OwnX C S w aa v xs)(hb:base'<=aa):OwnX C S w base' v xs:=by
 obtain⟨aD,hl,h2,h3⟩:=h;exact⟨aD,hl,h2.low hb,h3⟩
theorem OwnX.app(ok:CtOk C){g' cap:Nat}{aD:List (List Au)}{x:α}{cs:List Au}(hl:aD.length=xs.length)(h3:∀(i:Nat) (h1:i<aD.length) (h2:i<xs.length),C.lies (fun k=>S k/\v.ownBlock≠J k) w aD[i] xs[i])
  (hx:C.lies (fun k=>S k/\v.ownBlock≠J k) w cs x) (hr:OwnR C.K w' aa (I (J ⟨g',0,Z⟩) (xs.length+1) cap) (xs.length+1) (aD.flatten++cs)) (hg:w.grownBy w' v.ownBlock) (bz:v.ownBlock=J g'\/g'=w.heap.size) :
  OwnX C S w' aa (I (J ⟨g',0,Z⟩) (xs.length+1) cap) (xs++[x]):=by
 have go:∀ {cs x},C.lies (fun k=>S k/\v.ownBlock≠J k) w cs x->C.lies (fun k=>S k/\(I (J ⟨g',0,Z⟩) (xs.length+1) cap).ownBlock≠J k) w' cs x:=fun h=>by
  have h1:=ok.mono (S':=fun k=>S k/\v.ownBlock≠J k/\g'≠k) h fun k hk hs=>⟨hs.1,hs.2,by
   rcases bz with e | e
   . rintro rfl;exact hs.2 e
   . omega⟩
  have h2:=ok.keep h1 (KeepB.of_grown hg fun k hk hs=>hs.2.1 hk);exact ok.mono h2 fun k _ hs=>⟨hs.1,fun e=>hs.2.2 (by simpa[Value.ownBlock] using e)⟩
 refine⟨aD++[cs],by simp[hl],by simpa using hr,fun i i1 i2=>?_⟩
 by_cases hi:i<aD.length
 . have h2:i<xs.length:=by omega
   rw[List.getElem_append_left hi,List.getElem_append_left h2];exact go (h3 i hi h2)
 have e1:i=aD.length:=by simp at i1;omega
 subst e1;rw[RT (Lh _),RT (by omega)];simpa[hl] using go hx
theorem OwnX.form(ok:CtOk C)(h:OwnX C S w aa v xs):∃A cap,v=I A xs.length cap/\xs.length<=cap/\cap<=maxLen/\(0<xs.length->∃g,A=J ⟨g,0,Z⟩/\aa<=g/\g<w.heap.size /\
  ∀(i:Nat) (h2:i<xs.length),∃cs,C.lies (fun k=>S k/\k≠g) w cs xs[i]/\∀j u,cs[j]?=J u->w.cell? ⟨g,i*C.K.size+j,Z⟩=J u):=by
 obtain⟨aD,hl,h2,h3⟩:=h;have ac:=h2.lt;obtain⟨A,cap,rfl,hc,hm,hr⟩:=h2.form;refine⟨A,cap,rfl,hc,hm,fun h0=>?_⟩;obtain⟨g,rfl,hg,cy,bk⟩:=hr h0;refine⟨g,rfl,(ac g hg).1,cy,fun i hi=>?_⟩;have Gw:i<aD.length:=by omega
 refine⟨aD[i],ok.mono (h3 i Gw hi) fun k _ hs=>⟨hs.1,fun e=>hs.2 (by rw[hg,e])⟩,fun j u hu=>?_⟩
 have bj:∀c∈aD,c.length=C.K.size:=fun c hc=>by
  obtain⟨m,hm,rfl⟩:=Nc hc;exact ok.len (h3 m hm (by omega))
 have bg:j<C.K.size:=by
  have:=(Lo.1 hu).1;rw[bj _ (Ld Gw)] at this;exact this
 exact bk _ u (by rw[uw aD bj i Gw j bg];exact hu)
end
end
section
open Go.RowKit
def Own(w:Ba)(aa:Nat)(v:Au)(xs:List Int):Prop:=w.ownsRow aa 3 1 v xs.length (xs.map (O U))
theorem Own.nil(w:Ba)(aa:Nat):Own w aa (I Z 0 0) []:=PK w aa _ 1
theorem Own.kept{w w':Ba}{aa:Nat}{v:Au}{xs:List Int}{row:Option Nat}(h:Own w aa v xs)(hg:w.grownBy w' row)(bG:v.ownBlock=Z\/v.ownBlock≠row):Own w' aa v xs:=Pi h hg bG
theorem Own.alloc{w:Ba}{aa:Nat}{v:Au}{xs:List Int}(h:Own w aa v xs)(o:Obj):Own (w.alloc o) aa v xs:=Pe h o
theorem Own.shut{w w':Ba}{aa B:Nat}{v:Au}{xs:List Int}(h:Own w aa v xs)(hs:Shut B w w'):Own w' aa v xs:=hs.own h
theorem Own.form{w:Ba}{aa:Nat}{v:Au}{xs:List Int}(h:Own w aa v xs):∃A cap,v=I A xs.length cap/\xs.length<=cap/\cap<=maxLen/\IAt w w.heap.size A xs:=by
 rcases h.2 with ⟨rfl,h0⟩ | ⟨g,cap,cur,rfl,_,_,dr,iw,_⟩
 . have:xs=[]:=LD h0
   subst this;exact⟨Z,0,rfl,Lh _,Nl _,IAt.nil _ _ _⟩
 exact⟨_,_,rfl,dr,iw,IAt.of_own h⟩
theorem Own.low{w:Ba}{aa base':Nat}{v:Au}{xs:List Int}(h:Own w aa v xs)(hb:base'<=aa):Own w base' v xs:=by
 refine⟨h.1,?_⟩;rcases h.2 with h2 | ⟨g,cap,cur,hv,hg,r⟩
 . exact Or.inl h2
 exact Or.inr ⟨g,cap,cur,hv,by omega,r⟩
theorem Own.lt{w:Ba}{aa:Nat}{v:Au}{xs:List Int}(h:Own w aa v xs):∀k,v.ownBlock=J k->aa<=k/\k<w.heap.size:=PU h
theorem wl:(An.info? 3).map (fun i=>(i.zero,i.size,i.bytes))=J (J (O U 0),1,8):=by kernel_rfl
theorem yO{w w':Ba}{o:Obj}{row:Option Nat}(h:(w.alloc o).grownBy w' row):w.grownBy w' row:=
 ⟨h.os,h.tape,h.output,Lz (by simp) h.size,fun k hk bG=>(h.block k (by simp;omega) bG).trans (NR w o k hk)⟩
theorem kb{ak:Array Oper}{rest:List Oper}{o:Oper}{a:Act}{Q:Exit->Act->Ba->Prop}{W:Ba}(dU:o.guard=Z)(s x:Operand)
  (rY:o.op=.call { callee:=.builtin .append,args:=#[s,x],argTypes:=#[49,49] }) (aa:Nat) (v:Au) (xs:List Int) (u:Int) (hs:a.eval s=v) (aq:Own W aa v xs)
  (hx:a.eval x=I (J ⟨W.heap.size,0,Z⟩) 1 1) (aC:xs.length<8796093022208) (hb:aa<=W.heap.size)
  (h:∀v' w1,Own w1 aa v' (xs++[u])->W.grownBy w1 v.ownBlock->Ao aa W w1->wpList An ak Q rest (a.put o.dst v') w1) :
  wpList An ak Q (o::rest) a (W.alloc (Ah #[O U u] 3)):=by
 obtain⟨i0,hi,cq,bK,cf⟩:=PE wl
 refine NV _ dU s x 49 rY aa 3 i0 (O U 0) 1 8 Nw hi cq bK cf rfl (by decide) v xs.length _ hs (Pe aq _) ⟨W.heap.size,0,Z⟩ 1 1 [O U u] hx rfl (cell_one_new _ _ _)
  (by simp[Value.oneCell']) (by unfold maxLen;omega) (by omega) (by simp;omega) ?_
 intro v' w1 bL aK _;have hg:=yO aK;refine h v' w1 ?_ hg ((Lp aa W).grown hg hb fun k hk=>(aq.lt k hk).1);unfold Own;rw[Lq,LH];exact bL
theorem kQ{F:Fence}{n:Nat}{ak:Array Oper}{rest:List Oper}{o:Oper}{a:Act}{Q:Exit->Act->Ba->Prop}{W:Ba}(dU:o.guard=Z)(s x:Operand)
  (rY:o.op=.call { callee:=.builtin .append,args:=#[s,x],argTypes:=#[49,49] }) (aa:Nat) (v:Au) (xs:List Int) (u:Int) (hs:a.eval s=v) (aq:Own W aa v xs)
  (hx:a.eval x=I (J ⟨W.heap.size,0,Z⟩) 1 1) (aC:xs.length<8796093022208) (hb:aa<=W.heap.size)
  (h:∀v' w1,Own w1 aa v' (xs++[u])->W.grownBy w1 v.ownBlock->Ao aa W w1->wpListIn F n An ak Q rest (a.put o.dst v') w1) :
  wpListIn F n An ak Q (o::rest) a (W.alloc (Ah #[O U u] 3)):=by
 obtain⟨i0,hi,cq,bK,cf⟩:=PE wl
 refine wpListIn_append_own _ dU s x 49 rY aa 3 i0 (O U 0) 1 8 Nw hi cq bK cf rfl (by decide) v xs.length _ hs (Pe aq _) ⟨W.heap.size,0,Z⟩ 1 1 [O U u] hx rfl (cell_one_new _ _ _)
  (by simp[Value.oneCell']) (by unfold maxLen;omega) (by omega) (by simp;omega) ?_
 intro v' w1 bL aK _;have hg:=yO aK;refine h v' w1 ?_ hg ((Lp aa W).grown hg hb fun k hk=>(aq.lt k hk).1);unfold Own;rw[Lq,LH];exact bL
theorem IAt.up{w w':Ba}{A:Bb}{xs:List Int}(h:IAt w w.heap.size A xs)(hb:Ao w.heap.size w w'):IAt w' w'.heap.size A xs:=(h.keep hb).more hb.size
theorem IAt.box(w:Ba)(x:Int)(t:TypeId):IAt (w.alloc (Ah #[O U x] t)) (w.alloc (Ah #[O U x] t)).heap.size (J ⟨w.heap.size,0,Z⟩) [x]:=fun _=>
 ⟨w.heap.size,0,rfl,by simp,fun i hi=>by
  have:i=0:=by simp at hi;omega
  subst this
  exact za (zg w _) 0 rfl⟩
def QW(xs:List Int)(w:Ba)(e:Ending)(w':Ba):Prop:=∃v,e=Am v/\Own w' w.heap.size v xs/\Ao w.heap.size w w'
def kRd:Kd:=⟨75,39,7,56,Aj #[O U 0,O U 0,O U 0,O U 0,O U 0,O U 0,O U 0]⟩
theorem ZC:KdOk An kRd:=⟨PN,by kernel_rfl,by rfl,by decide,by decide⟩
def kMv:Kd:=⟨121,119,8,64,Aj #[O U 0,O U 0,O U 0,O U 0,O U 0,O U 0,O U 0,O U 0]⟩
theorem kMv_ok:KdOk An kMv:=⟨PF,by kernel_rfl,by rfl,by decide,by decide⟩
def kWd:Kd:=⟨39,104,1,24,I Z 0 0⟩
theorem Xy:KdOk An kWd:=⟨underlying104,by kernel_rfl,by rfl,by decide,by decide⟩
def kIs:Kd:=⟨49,40,1,24,I Z 0 0⟩
theorem Xz:KdOk An kIs:=⟨underlying40,by kernel_rfl,by rfl,by decide,by decide⟩
def kMl:Kd:=⟨119,25,1,24,I Z 0 0⟩
theorem kMl_ok:KdOk An kMl:=⟨PQ,by kernel_rfl,by rfl,by decide,by decide⟩
def kCs:Kd:=⟨118,22,3,72,Aj #[I Z 0 0,I Z 0 0,I Z 0 0]⟩
theorem kCs_ok:KdOk An kCs:=⟨PR,by kernel_rfl,by rfl,by decide,by decide⟩
def kXn:Kd:=⟨42,34,3,56,Aj #[O U 0,I Z 0 0,I Z 0 0]⟩
theorem kXn_ok:KdOk An kXn:=⟨underlying34,by kernel_rfl,by rfl,by decide,by decide⟩
def kIn:Kd:=⟨3,49,1,8,O U 0⟩
theorem wk:KdOk An kIn:=⟨Nw,by kernel_rfl,by rfl,by decide,by decide⟩
def kVw:Kd:=⟨100,31,8,64,Aj #[O U 0,O U 0,O U 0,O U 0,O U 0,O U 0,O U 0,O U 0]⟩
theorem kVw_ok:KdOk An kVw:=⟨PO,by kernel_rfl,by rfl,by decide,by decide⟩
def RetR(K:Kd)(n:Nat)(cs:List Au)(w:Ba)(e:Ending)(w':Ba):Prop:=∃v,e=Am v/\OwnR K w' w.heap.size v n cs/\Ao w.heap.size w w'
theorem gV(A:Bb)(n cap:Nat)(cs:List Au)(w:Ba)(hl:cs.length=n*7)(hA:Raw w A n cs)(h1:∀u∈cs,u.oneCell'=Av)(hn:n<=1000000) :
  Ap An 52 #[I A n cap] w (RetR kRd n cs w):=by
 have HT:=zH hA;have H1:=zH h1;have HL:=zH hl;have q:∀(w:Ba) (a:Bb) (n c n' c':Nat),(binOp .eql 39 (I a n c) (I Z n' c')).run An w=.ok (Ai a.isNone) w:=fun w a n c n' c'=>NT w _ _ a n c n' c' PN
 obtain⟨i0,hi,cq,bK,cf⟩:=yx ZC
 cases A with
 | none=>
  have iX:n=0:=by
   rcases Na n with h | h
   . exact h
   . obtain⟨b,off,e,_⟩:=HT.out h;cases e
  subst iX;have bj:cs=[]:=LD (by have:=HL.out;omega);subst bj;go_enter func52,ntmps52;go_wp2;go_ret;exact⟨_,rfl,OwnR.nil _ _ _,Lp _ _⟩
 | some ad=>
  have HC:As (∀(j:Nat) (u:Au),cs[j]?=J u->(w.alloc (Ah #[] 75)).cell? (ad.add j)=J u):=fun j u hj=>by
   have bg:j<n*7:=by rw[<-HL.out];exact(Lo.1 hj).1
   obtain⟨b,off,e,ac,hc⟩:=HT.out (by omega)
   cases e
   rw[N4];exact NW _ (hc j u hj)
  go_enter func52,ntmps52;go_wp2_with (at_builtin;refine NV _ rfl _ _ 39 rfl w.heap.size 75 i0 _ 7 56 PN hi cq bK cf rfl (by decide) _ _ _ rfl (N1 w #[] 0 (Lh _) (Nl _) rfl) ad n cap cs rfl HL.out HC.out H1.out ?qc4 ?qc5 ?qc6 ?_)
  case qc4=>unfold maxLen;omega
  case qc5=>omega
  case qc6=>simp
  intro v' w1 aq aK fM;go_wp2;go_ret;refine⟨v',rfl,aq,?_⟩;exact((Lp _ w).alloc (Lh _) _).grown aK (by simp) (by intro k hk;simp[Value.ownBlock] at hk;omega)
theorem JZ(A:Bb)(n cap:Nat)(cs:List Au)(w:Ba)(hl:cs.length=n*3)(hA:Raw w A n cs)(h1:∀u∈cs,u.oneCell'=Av)(hn:n<=1000000) :
  Ap An 83 #[I A n cap] w (RetR kCs n cs w):=by
 have HT:=zH hA;have H1:=zH h1;have HL:=zH hl;have q:∀(w:Ba) (a:Bb) (n c n' c':Nat),(binOp .eql 22 (I a n c) (I Z n' c')).run An w=.ok (Ai a.isNone) w:=fun w a n c n' c'=>NT w _ _ a n c n' c' PR
 obtain⟨i0,hi,cq,bK,cf⟩:=yx kCs_ok
 cases A with
 | none=>
  have iX:n=0:=by
   rcases Na n with h | h
   . exact h
   . obtain⟨b,off,e,_⟩:=HT.out h;cases e
  subst iX;have bj:cs=[]:=LD (by have:=HL.out;omega);subst bj;go_enter func83,ntmps83;go_wp2;go_ret;exact⟨_,rfl,OwnR.nil _ _ _,Lp _ _⟩
 | some ad=>
  have HC:As (∀(j:Nat) (u:Au),cs[j]?=J u->(w.alloc (Ah #[] 118)).cell? (ad.add j)=J u):=fun j u hj=>by
   have bg:j<n*3:=by rw[<-HL.out];exact(Lo.1 hj).1
   obtain⟨b,off,e,ac,hc⟩:=HT.out (by omega)
   cases e
   rw[N4];exact NW _ (hc j u hj)
  go_enter func83,ntmps83;go_wp2_with (at_builtin;refine NV _ rfl _ _ 22 rfl w.heap.size 118 i0 _ 3 72 PR hi cq bK cf rfl (by decide) _ _ _ rfl (N1 w #[] 0 (Lh _) (Nl _) rfl) ad n cap cs rfl HL.out HC.out H1.out ?qc4 ?qc5 ?qc6 ?_)
  case qc4=>unfold maxLen;omega
  case qc5=>omega
  case qc6=>simp
  intro v' w1 aq aK fM;go_wp2;go_ret;refine⟨v',rfl,aq,?_⟩;exact((Lp _ w).alloc (Lh _) _).grown aK (by simp) (by intro k hk;simp[Value.ownBlock] at hk;omega)
theorem JW(A:Bb)(n cap:Nat)(cs:List Au)(w:Ba)(hl:cs.length=n*8)(hA:Raw w A n cs)(h1:∀u∈cs,u.oneCell'=Av)(hn:n<=1000000) :
  Ap An 86 #[I A n cap] w (RetR kMv n cs w):=by
 have HT:=zH hA;have H1:=zH h1;have HL:=zH hl;have q:∀(w:Ba) (a:Bb) (n c n' c':Nat),(binOp .eql 119 (I a n c) (I Z n' c')).run An w=.ok (Ai a.isNone) w:=fun w a n c n' c'=>NT w _ _ a n c n' c' PF
 obtain⟨i0,hi,cq,bK,cf⟩:=yx kMv_ok
 cases A with
 | none=>
  have iX:n=0:=by
   rcases Na n with h | h
   . exact h
   . obtain⟨b,off,e,_⟩:=HT.out h;cases e
  subst iX;have bj:cs=[]:=LD (by have:=HL.out;omega);subst bj;go_enter func86,ntmps86;go_wp2;go_ret;exact⟨_,rfl,OwnR.nil _ _ _,Lp _ _⟩
 | some ad=>
  have HC:As (∀(j:Nat) (u:Au),cs[j]?=J u->(w.alloc (Ah #[] 121)).cell? (ad.add j)=J u):=fun j u hj=>by
   have bg:j<n*8:=by rw[<-HL.out];exact(Lo.1 hj).1
   obtain⟨b,off,e,ac,hc⟩:=HT.out (by omega)
   cases e
   rw[N4];exact NW _ (hc j u hj)
  go_enter func86,ntmps86;go_wp2_with (at_builtin;refine NV _ rfl _ _ 119 rfl w.heap.size 121 i0 _ 8 64 PF hi cq bK cf rfl (by decide) _ _ _ rfl (N1 w #[] 0 (Lh _) (Nl _) rfl) ad n cap cs rfl HL.out HC.out H1.out ?qc4 ?qc5 ?qc6 ?_)
  case qc4=>unfold maxLen;omega
  case qc5=>omega
  case qc6=>simp
  intro v' w1 aq aK fM;go_wp2;go_ret;refine⟨v',rfl,aq,?_⟩;exact((Lp _ w).alloc (Lh _) _).grown aK (by simp) (by intro k hk;simp[Value.ownBlock] at hk;omega)
theorem JX(A:Bb)(n cap:Nat)(cs:List Au)(w:Ba)(hl:cs.length=n*1)(hA:Raw w A n cs)(h1:∀u∈cs,u.oneCell'=Av)(hn:n<=1000000) :
  Ap An 85 #[I A n cap] w (RetR kMl n cs w):=by
 have HT:=zH hA;have H1:=zH h1;have HL:=zH hl;have q:∀(w:Ba) (a:Bb) (n c n' c':Nat),(binOp .eql 25 (I a n c) (I Z n' c')).run An w=.ok (Ai a.isNone) w:=fun w a n c n' c'=>NT w _ _ a n c n' c' PQ
 obtain⟨i0,hi,cq,bK,cf⟩:=yx kMl_ok
 cases A with
 | none=>
  have iX:n=0:=by
   rcases Na n with h | h
   . exact h
   . obtain⟨b,off,e,_⟩:=HT.out h;cases e
  subst iX;have bj:cs=[]:=LD (by have:=HL.out;omega);subst bj;go_enter func85,ntmps85;go_wp2;go_ret;exact⟨_,rfl,OwnR.nil _ _ _,Lp _ _⟩
 | some ad=>
  have HC:As (∀(j:Nat) (u:Au),cs[j]?=J u->(w.alloc (Ah #[] 119)).cell? (ad.add j)=J u):=fun j u hj=>by
   have bg:j<n*1:=by rw[<-HL.out];exact(Lo.1 hj).1
   obtain⟨b,off,e,ac,hc⟩:=HT.out (by omega)
   cases e
   rw[N4];exact NW _ (hc j u hj)
  go_enter func85,ntmps85;go_wp2_with (at_builtin;refine NV _ rfl _ _ 25 rfl w.heap.size 119 i0 _ 1 24 PQ hi cq bK cf rfl (by decide) _ _ _ rfl (N1 w #[] 0 (Lh _) (Nl _) rfl) ad n cap cs rfl HL.out HC.out H1.out ?qc4 ?qc5 ?qc6 ?_)
  case qc4=>unfold maxLen;omega
  case qc5=>omega
  case qc6=>simp
  intro v' w1 aq aK fM;go_wp2;go_ret;refine⟨v',rfl,aq,?_⟩;exact((Lp _ w).alloc (Lh _) _).grown aK (by simp) (by intro k hk;simp[Value.ownBlock] at hk;omega)
theorem JY(A:Bb)(n cap:Nat)(cs:List Au)(w:Ba)(hl:cs.length=n*1)(hA:Raw w A n cs)(h1:∀u∈cs,u.oneCell'=Av)(hn:n<=1000000) :
  Ap An 66 #[I A n cap] w (RetR kIn n cs w):=by
 have HT:=zH hA;have H1:=zH h1;have HL:=zH hl;have q:∀(w:Ba) (a:Bb) (n c n' c':Nat),(binOp .eql 49 (I a n c) (I Z n' c')).run An w=.ok (Ai a.isNone) w:=fun w a n c n' c'=>NT w _ _ a n c n' c' Nw
 obtain⟨i0,hi,cq,bK,cf⟩:=yx wk
 cases A with
 | none=>
  have iX:n=0:=by
   rcases Na n with h | h
   . exact h
   . obtain⟨b,off,e,_⟩:=HT.out h;cases e
  subst iX;have bj:cs=[]:=LD (by have:=HL.out;omega);subst bj;go_enter RJ,Ru;go_wp2;go_ret;exact⟨_,rfl,OwnR.nil _ _ _,Lp _ _⟩
 | some ad=>
  have HC:As (∀(j:Nat) (u:Au),cs[j]?=J u->(w.alloc (Ah #[] 3)).cell? (ad.add j)=J u):=fun j u hj=>by
   have bg:j<n*1:=by rw[<-HL.out];exact(Lo.1 hj).1
   obtain⟨b,off,e,ac,hc⟩:=HT.out (by omega)
   cases e
   rw[N4];exact NW _ (hc j u hj)
  go_enter RJ,Ru;go_wp2_with (at_builtin;refine NV _ rfl _ _ 49 rfl w.heap.size 3 i0 _ 1 8 Nw hi cq bK cf rfl (by decide) _ _ _ rfl (N1 w #[] 0 (Lh _) (Nl _) rfl) ad n cap cs rfl HL.out HC.out H1.out ?qc4 ?qc5 ?qc6 ?_)
  case qc4=>unfold maxLen;omega
  case qc5=>omega
  case qc6=>simp
  intro v' w1 aq aK fM;go_wp2;go_ret;refine⟨v',rfl,aq,?_⟩;exact((Lp _ w).alloc (Lh _) _).grown aK (by simp) (by intro k hk;simp[Value.ownBlock] at hk;omega)
end
section
open Go.RowKit
def yf(vs:List Rd):List Au:=vs.flatMap fun x=>x.cells.toList
theorem kZ(vs us:List Rd):yf (vs++us)=yf vs++yf us:=by simp[yf]
theorem yZ(vs:List Rd):(yf vs).length=vs.length*7:=by
 induction vs with
 | nil=>rfl
 | cons v vs ih=>simp only[yf,List.flatMap_cons,List.length_append,List.length_cons] at *;rw[ih];simp[Rd.cells];omega
theorem vb:∀(vs:List Rd) (i:Nat) (hi:i<vs.length) (k:Nat),k<7->(yf vs)[i*7+k]?=vs[i].cells[k]?
 | v::vs,0,hi,k,hk=>by
  simp only[yf,List.flatMap_cons,List.getElem_cons_zero,Nat.zero_mul,Nat.zero_add];rw[LX (by simp[Rd.cells];omega)];simp
 | v::vs,i+1,hi,k,hk=>by
  have:=vb vs i (by simpa using hi) k hk;simp only[yf,List.flatMap_cons,List.getElem_cons_succ] at *;rw[LV (by simp[Rd.cells];omega),<-this]
  congr 1
  simp[Rd.cells];omega
theorem jm(vs:List Rd):∀u∈yf vs,u.oneCell'=Av:=by
 intro u hu;obtain⟨v,_,hv⟩:=Ns.1 hu;simp only[Rd.cells,List.mem_cons,List.not_mem_nil,or_false] at hv;rcases hv with rfl | rfl | rfl | rfl | rfl | rfl | rfl<;>rfl
theorem uU{w:Ba}{A:Bb}{vs:List Rd}(h:RAt w w.heap.size A vs):Raw w A vs.length (yf vs):=fun h0=>by
 obtain⟨b,off,e,ac,hc⟩:=h h0;refine⟨b,off,e,ac,fun j u hj=>?_⟩;have ML:j<vs.length*7:=by have:=(Lo.1 hj).1;rwa[yZ] at this
 have dT:j / 7<vs.length:=by omega
 have h8:j / 7*7+j % 7=j:=by omega
 rw[<-h8,vb vs (j / 7) dT (j % 7) (by omega)] at hj;have:=hc (j / 7) dT (j % 7) u hj;rwa[Pu,h8] at this
theorem jl{w:Ba}{aa:Nat}{v:Au}{vs:List Rd}(h:OwnR kRd w aa v vs.length (yf vs)):∃A cap,v=I A vs.length cap/\vs.length<=cap/\cap<=maxLen/\RAtS (fun k=>aa<=k) w A vs:=by
 have ac:=h.lt;obtain⟨A,cap,rfl,hc,hm,hr⟩:=h.form;refine⟨A,cap,rfl,hc,hm,fun h0=>?_⟩;obtain⟨g,rfl,hg,cy,bk⟩:=hr h0;refine⟨g,0,rfl,(ac g hg).1,cy,fun i hi k u hu=>?_⟩;have hk:k<7:=by have:=(Li.1 hu).1;simpa[Rd.cells] using this
 rw[LN];exact bk _ u (by rw[vb vs i hi k hk];exact hu)
def qw(vs:List Mv):List Au:=vs.flatMap fun x=>x.cells.toList
theorem jd(vs:List Mv):(qw vs).length=vs.length*8:=by
 induction vs with
 | nil=>rfl
 | cons v vs ih=>simp only[qw,List.flatMap_cons,List.length_append,List.length_cons] at *;rw[ih];simp[Mv.cells];omega
theorem vm:∀(vs:List Mv) (i:Nat) (hi:i<vs.length) (k:Nat),k<8->(qw vs)[i*8+k]?=vs[i].cells[k]?
 | v::vs,0,hi,k,hk=>by
  simp only[qw,List.flatMap_cons,List.getElem_cons_zero,Nat.zero_mul,Nat.zero_add];rw[LX (by simp[Mv.cells];omega)];simp
 | v::vs,i+1,hi,k,hk=>by
  have:=vm vs i (by simpa using hi) k hk;simp only[qw,List.flatMap_cons,List.getElem_cons_succ] at *;rw[LV (by simp[Mv.cells];omega),<-this]
  congr 1
  simp[Mv.cells];omega
theorem Xr(vs:List Mv):∀u∈qw vs,u.oneCell'=Av:=by
 intro u hu;obtain⟨v,_,hv⟩:=Ns.1 hu;simp only[Mv.cells,List.mem_cons,List.not_mem_nil,or_false] at hv;rcases hv with rfl | rfl | rfl | rfl | rfl | rfl | rfl | rfl<;>rfl
theorem Xp{w:Ba}{A:Bb}{vs:List Mv}(h:MAt w w.heap.size A vs):Raw w A vs.length (qw vs):=fun h0=>by
 obtain⟨b,off,e,ac,hc⟩:=h h0;refine⟨b,off,e,ac,fun j u hj=>?_⟩;have ML:j<vs.length*8:=by have:=(Lo.1 hj).1;rwa[jd] at this
 have dT:j / 8<vs.length:=by omega
 have h8:j / 8*8+j % 8=j:=by omega
 rw[<-h8,vm vs (j / 8) dT (j % 8) (by omega)] at hj;have:=hc (j / 8) dT (j % 8) u hj;rwa[Pu,h8] at this
theorem Xq{w:Ba}{aa:Nat}{v:Au}{vs:List Mv}(h:OwnR kMv w aa v vs.length (qw vs)):∃A cap,v=I A vs.length cap/\vs.length<=cap/\cap<=maxLen/\MAtS (fun k=>aa<=k) w A vs:=by
 have ac:=h.lt;obtain⟨A,cap,rfl,hc,hm,hr⟩:=h.form;refine⟨A,cap,rfl,hc,hm,fun h0=>?_⟩;obtain⟨g,rfl,hg,cy,bk⟩:=hr h0;refine⟨g,0,rfl,(ac g hg).1,cy,fun i hi k u hu=>?_⟩;have hk:k<8:=by have:=(Li.1 hu).1;simpa[Mv.cells] using this
 rw[LN];exact bk _ u (by rw[vm vs i hi k hk];exact hu)
def cIs:Ct (List Int):=⟨kIs,fun S w cs xs=>∃A c,cs=[I A xs.length c]/\IAtS S w A xs⟩
theorem yr:CtOk cIs where
 len:=fun ⟨A,c,e,_⟩=>by rw[e];rfl
 one:=fun ⟨A,c,e,_⟩ u hu=>by rw[e] at hu;simp at hu;subst hu;rfl
 keep:=fun ⟨A,c,e,h⟩ hk=>⟨A,c,e,h.keep hk⟩
 keepC:=fun ⟨A,c,e,h⟩ hk=>⟨A,c,e,h.keepC hk⟩
 mono:=fun ⟨A,c,e,h⟩ hm=>⟨A,c,e,h.mono hm⟩
def cWd:Ct (List Rd):=⟨kWd,fun S w cs xs=>∃A c,cs=[I A xs.length c]/\RAtS S w A xs/\xs.length<=c⟩
theorem xH:CtOk cWd where
 len:=fun ⟨A,c,e,_⟩=>by rw[e];rfl
 one:=fun ⟨A,c,e,_⟩ u hu=>by rw[e] at hu;simp at hu;subst hu;rfl
 keep:=fun ⟨A,c,e,h,hc⟩ hk=>⟨A,c,e,h.keep hk,hc⟩
 keepC:=fun ⟨A,c,e,h,hc⟩ hk=>⟨A,c,e,h.keepC hk,hc⟩
 mono:=fun ⟨A,c,e,h,hc⟩ hm=>⟨A,c,e,h.mono hm,hc⟩
def cMl:Ct (List Mv):=⟨kMl,fun S w cs xs=>∃A c,cs=[I A xs.length c]/\MAtS S w A xs⟩
theorem ql:CtOk cMl where
 len:=fun ⟨A,c,e,_⟩=>by rw[e];rfl
 one:=fun ⟨A,c,e,_⟩ u hu=>by rw[e] at hu;simp at hu;subst hu;rfl
 keep:=fun ⟨A,c,e,h⟩ hk=>⟨A,c,e,h.keep hk⟩
 keepC:=fun ⟨A,c,e,h⟩ hk=>⟨A,c,e,h.keepC hk⟩
 mono:=fun ⟨A,c,e,h⟩ hm=>⟨A,c,e,h.mono hm⟩
def cCs:Ct Cs:=⟨kCs,fun S w cs x=>∃A0 c0 A1 c1 A2 c2,cs=[I A0 x.inp.length c0,I A1 x.out.length c1,I A2 x.calm.length c2]/\IAtS S w A0 x.inp/\LAtS S w A1 x.out/\LAtS S w A2 x.calm⟩
theorem xu:CtOk cCs where
 len:=fun ⟨A0,c0,A1,c1,A2,c2,e,_⟩=>by rw[e];rfl
 one:=fun ⟨A0,c0,A1,c1,A2,c2,e,_⟩ u hu=>by rw[e] at hu;simp at hu;rcases hu with rfl | rfl | rfl<;>rfl
 keep:=fun ⟨A0,c0,A1,c1,A2,c2,e,h0,h1,h2⟩ hk=>⟨A0,c0,A1,c1,A2,c2,e,h0.keep hk,h1.keep hk,h2.keep hk⟩
 keepC:=fun ⟨A0,c0,A1,c1,A2,c2,e,h0,h1,h2⟩ hk=>⟨A0,c0,A1,c1,A2,c2,e,h0.keepC hk,h1.keepC hk,h2.keepC hk⟩
 mono:=fun ⟨A0,c0,A1,c1,A2,c2,e,h0,h1,h2⟩ hm=>⟨A0,c0,A1,c1,A2,c2,e,h0.mono hm,h1.mono hm,h2.mono hm⟩
section
variable {S:Nat->Prop} {w:Ba} {aa:Nat} {v:Au}
theorem wN{xs:List (List Rd)}(h:OwnX cWd S w aa v xs):∃A cap,v=I A xs.length cap/\xs.length<=cap/\cap<=maxLen/\WAt w w.heap.size A xs:=by
 obtain⟨A,cap,e,h1,h2,h3⟩:=h.form xH;refine⟨A,cap,e,h1,h2,fun h0=>?_⟩;obtain⟨g,rfl,_,hg,hc⟩:=h3 h0;refine⟨g,0,rfl,hg,fun i hi=>?_⟩;obtain⟨cs,⟨A',c',rfl,hl,_⟩,aQ⟩:=hc i hi;refine⟨A',c',?_,hl.rat⟩;have:=aQ 0 _ rfl;rw[LN];rwa[show i*cWd.K.size+0=i by show i*1+0=i;omega] at this
theorem YI{xs:List (List Int)}(h:OwnX cIs S w aa v xs):∃A cap,v=I A xs.length cap/\xs.length<=cap/\cap<=maxLen/\LAtS (fun k=>S k\/aa<=k) w A xs:=by
 obtain⟨A,cap,e,h1,h2,h3⟩:=h.form yr;refine⟨A,cap,e,h1,h2,fun h0=>?_⟩;obtain⟨g,rfl,hb,hg,hc⟩:=h3 h0;refine⟨g,0,rfl,.inr hb,hg,fun i hi=>?_⟩;obtain⟨cs,⟨A',c',rfl,hl⟩,aQ⟩:=hc i hi;refine⟨A',c',?_,hl.mono fun k _ hs=>.inl hs.1⟩;have:=aQ 0 _ rfl;rw[LN];rwa[show i*cIs.K.size+0=i by show i*1+0=i;omega] at this
theorem Za{xs:List (List Int)}(h:OwnX cIs S w aa v xs):∃A cap,v=I A xs.length cap/\xs.length<=cap/\cap<=maxLen/\LAtS (fun k=>S k\/v.ownBlock=J k) w A xs:=by
 obtain⟨A,cap,e,h1,h2,h3⟩:=h.form yr;refine⟨A,cap,e,h1,h2,fun h0=>?_⟩;obtain⟨g,rfl,hb,hg,hc⟩:=h3 h0;refine⟨g,0,rfl,.inr (by rw[e];rfl),hg,fun i hi=>?_⟩;obtain⟨cs,⟨A',c',rfl,hl⟩,aQ⟩:=hc i hi;refine⟨A',c',?_,hl.mono fun k _ hs=>.inl hs.1⟩;have:=aQ 0 _ rfl;rw[LN];rwa[show i*cIs.K.size+0=i by show i*1+0=i;omega] at this
end
end
section
open Go.RowKit
def ZG:Ct Exn:=⟨kXn,fun S w cs x=>∃A c A2 c2,cs=[O U x.c,I A x.word.length c,I A2 x.views.length c2]/\RAtS S w A x.word/\LAtS S w A2 x.views/\x.word.length<=c⟩
theorem zy:CtOk ZG where
 len:=fun ⟨A,c,A2,c2,e,_⟩=>by rw[e];rfl
 one:=fun ⟨A,c,A2,c2,e,_⟩ u hu=>by rw[e] at hu;simp at hu;rcases hu with rfl | rfl | rfl<;>rfl
 keep:=fun ⟨A,c,A2,c2,e,h1,h2,h3⟩ hk=>⟨A,c,A2,c2,e,h1.keep hk,h2.keep hk,h3⟩
 keepC:=fun ⟨A,c,A2,c2,e,h1,h2,h3⟩ hk=>⟨A,c,A2,c2,e,h1.keepC hk,h2.keepC hk,h3⟩
 mono:=fun ⟨A,c,A2,c2,e,h1,h2,h3⟩ hm=>⟨A,c,A2,c2,e,h1.mono hm,h2.mono hm,h3⟩
def XCap(w:Ba)(A:Bb)(xs:List Exn):Prop:=∀b o q,A=J ⟨b,o,q⟩->∀(i:Nat) (_:i<xs.length) (B:Bb) (n c:Nat),w.cell? ⟨b,o+i*3+1,Z⟩=J (I B n c)->n<=c
section
variable {S:Nat->Prop} {w:Ba} {aa:Nat} {v:Au}
theorem vu{xs:List Exn}(h:OwnX ZG S w aa v xs):∃A cap,v=I A xs.length cap/\xs.length<=cap/\cap<=maxLen/\XAt w w.heap.size A xs/\XCap w A xs:=by
 obtain⟨A,cap,e,h1,h2,h3⟩:=h.form zy
 have key:∀g,A=J ⟨g,0,Z⟩->∀(i:Nat) (hi:i<xs.length),∃A' c' A2 c2,w.cell? ⟨g,i*3,Z⟩=J (O U xs[i].c)/\w.cell? ⟨g,i*3+1,Z⟩=J (I A' xs[i].word.length c')/\w.cell? ⟨g,i*3+2,Z⟩=J (I A2 xs[i].views.length c2)/\RAt w w.heap.size A' xs[i].word/\LAt w w.heap.size A2 xs[i].views/\xs[i].word.length<=c':=by
  intro g eg i hi;obtain⟨g',OJ,_,hg,hc⟩:=h3 (by omega);rw[eg] at OJ
  cases OJ
  obtain⟨cs,⟨A',c',A2,c2,rfl,hr,hl,hw⟩,aQ⟩:=hc i hi;have h0:=aQ 0 _ rfl;have h1:=aQ 1 _ rfl;have h2:=aQ 2 _ rfl;change w.cell? ⟨g,i*3+0,Z⟩=_ at h0;change w.cell? ⟨g,i*3+1,Z⟩=_ at h1;change w.cell? ⟨g,i*3+2,Z⟩=_ at h2;exact⟨A',c',A2,c2,by simpa using h0,by simpa using h1,by simpa using h2,hr.rat,hl.lat,hw⟩
 refine⟨A,cap,e,h1,h2,fun h0=>?_,fun b o q eA i hi B n c aQ=>?_⟩
 . obtain⟨g,rfl,_,hg,_⟩:=h3 h0
   refine⟨g,0,rfl,hg,fun i hi=>?_⟩;obtain⟨A',c',A2,c2,k0,k1,k2,hr,hl,_⟩:=key g rfl i hi;refine⟨_,_,_,?_,?_,?_,rfl,⟨A',c',rfl,hr⟩,⟨A2,c2,rfl,hl⟩⟩
   . simpa using k0
   . simpa using k1
   simpa using k2
 obtain⟨g,eg,_,hg,_⟩:=h3 (by omega);have U6:=eg;rw[eA] at eg
 cases eg
 obtain⟨A',c',A2,c2,k0,k1,k2,hr,hl,hw⟩:=key _ U6 i hi;rw[LN] at aQ;rw[k1] at aQ
 cases aQ
 exact hw
end
end
section
open Go.RowKit
structure KeyOk{κ:Type}(P:Program)(kt:TypeId)(enc:κ->Au):Prop where
 inj:∀a b,enc a=enc b->a=b
 check:∀(w:Ba) (em:Bool) (a:κ),(Instr.checkKey em 10000 kt (enc a)).run P w=.ok () w
 equal:∀(w:Ba) (a b:κ),(Op.equal kt (enc a) (enc b)).run P w=.ok (@decide (enc a=enc b) (Classical.propDecidable _)) w
 now:∀(d:TypeDesc),P.underlying kt=J d->(∀a b:κ,Instr.sameNow d (enc a) (enc b)=J (@decide (enc a=enc b) (Classical.propDecidable _)))\/(∀a b:κ,Instr.sameNow d (enc a) (enc b)=Z)
 stays:∀a:κ,Instr.sameBits 10000 (enc a) (enc a)=Av
 kind:∃d,P.underlying kt=J d
section
variable {κ:Type} {P:Program} {kt:TypeId} {enc:κ->Au}
open Classical
theorem uc{d:TypeDesc}(h:∀a b:κ,Instr.sameNow d (enc a) (enc b)=J (decide (enc a=enc b)))(x:κ):∀(es:List MapEntry) (i:Nat),(∀e∈es,∃k,e.key=enc k) ->
  (Instr.findNow d (enc x) es i=J Z/\∀e∈es,e.key≠enc x)\/∃j e,Instr.findNow d (enc x) es i=J (J (i+j,e.val))/\es[j]?=J e/\e.key=enc x
 | [],i,_=>.inl ⟨rfl,fun _ h=>by cases h⟩
 | e::es,i,hk=>by
  obtain⟨k,lz⟩:=hk e (by simp)
  by_cases he:enc x=enc k
  . refine .inr ⟨0,e,?_,rfl,by rw[lz,he]⟩
    simp[Instr.findNow,lz,h,he]
  . rcases uc h x es (i+1) (fun e he=>hk e (by simp[he])) with ⟨h1,h2⟩ | ⟨j,e',h1,h2,h3⟩
    . refine .inl ⟨by simp[Instr.findNow,lz,h,he,h1],fun e' oQ=>?_⟩
      rcases LQ.1 oQ with rfl | oQ
      . rw[lz];exact fun e2=>he e2.symm
      . exact h2 e' oQ
    . exact .inr ⟨j+1,e',by simp[Instr.findNow,lz,h,he,h1];omega,by simpa using h2,h3⟩
theorem km(K:KeyOk P kt enc)(w:Ba)(x:κ):∀(es:List MapEntry) (i:Nat),(∀e∈es,∃k,e.key=enc k) ->
  ((Instr.findAsking kt (enc x) es i).run P w=.ok Z w/\∀e∈es,e.key≠enc x)\/∃j e,(Instr.findAsking kt (enc x) es i).run P w=.ok (J (i+j,e.val)) w/\es[j]?=J e/\e.key=enc x
 | [],i,_=>.inl ⟨rfl,fun _ h=>by cases h⟩
 | e::es,i,hk=>by
  obtain⟨k,lz⟩:=hk e (by simp)
  by_cases he:enc x=enc k
  . refine .inr ⟨0,e,?_,rfl,by rw[lz,he]⟩
    simp[Instr.findAsking,lz,K.equal,he,Result.andThen]
  . rcases km K w x es (i+1) (fun e he=>hk e (by simp[he])) with ⟨h1,h2⟩ | ⟨j,e',h1,h2,h3⟩
    . refine .inl ⟨by simp[Instr.findAsking,lz,K.equal,he,h1,Result.andThen],fun e' oQ=>?_⟩
      rcases LQ.1 oQ with rfl | oQ
      . rw[lz];exact fun e2=>he e2.symm
      . exact h2 e' oQ
    . exact .inr ⟨j+1,e',by simp[Instr.findAsking,lz,K.equal,he,h1,Result.andThen];omega,by simpa using h2,h3⟩
theorem wC{d:TypeDesc}(h:∀a b:κ,Instr.sameNow d (enc a) (enc b)=Z)(x:κ)(es:List MapEntry)(hk:∀e∈es,∃k,e.key=enc k) :
  es=[]\/Instr.findNow d (enc x) es 0=Z:=by
 cases es with
 | nil=>exact .inl rfl
 | cons e es=>
  obtain⟨k,lz⟩:=hk e (by simp);exact .inr (by simp[Instr.findNow,lz,h])
theorem wz(K:KeyOk P kt enc)(w:Ba)(x:κ)(es:List MapEntry)(hk:∀e∈es,∃k,e.key=enc k) :
  ((Instr.findKey kt (enc x) es).run P w=.ok Z w/\∀e∈es,e.key≠enc x)\/∃j e,(Instr.findKey kt (enc x) es).run P w=.ok (J (j,e.val)) w/\es[j]?=J e/\e.key=enc x:=by
 obtain⟨d,hd⟩:=K.kind;rcases K.now d hd with h | h
 . rcases uc h x es 0 hk with ⟨h1,h2⟩ | ⟨j,e,h1,h2,h3⟩
   . exact .inl ⟨by simp[Instr.findKey,run_underlying hd,h1],h2⟩
   exact .inr ⟨j,e,by simp[Instr.findKey,run_underlying hd,h1],h2,h3⟩
 rcases wC h x es hk with rfl | hn
 . exact .inl ⟨by simp[Instr.findKey,run_underlying hd,Instr.findNow],fun _ h=>by cases h⟩
 rcases km K w x es 0 hk with ⟨h1,h2⟩ | ⟨j,e,h1,h2,h3⟩
 . exact .inl ⟨by simp[Instr.findKey,run_underlying hd,hn,h1],h2⟩
 exact .inr ⟨j,e,by simp[Instr.findKey,run_underlying hd,hn,h1],h2,h3⟩
def MapOf(enc:κ->Au)(w:Ba)(b n:Nat)(f:κ->Option Au):Prop:=
 ∃es co,w.heap[b]?=J (.map es co)/\es.size<=n/\(es.toList.Pairwise fun x y=>x.key≠y.key)/\(∀e∈es.toList,∃k,e.key=enc k/\f k=J e.val)/\(∀k v,f k=J v->∃e∈es.toList,e.key=enc k/\e.val=v)
theorem MapOf.made(w:Ba):MapOf enc (w.alloc (.map #[] 0)) w.heap.size 0 (fun _=>Z):=
 ⟨#[],0,RO w _,Lh _,List.Pairwise.nil,fun e h=>by simp at h,fun k v h=>by cases h⟩
theorem MapOf.same{w w':Ba}{b n:Nat}{f:κ->Option Au}(h:MapOf enc w b n f)(hs:w'.heap[b]?=w.heap[b]?):MapOf enc w' b n f:=by
 obtain⟨es,co,hb,r⟩:=h;exact⟨es,co,hs.trans hb,r⟩
theorem MapOf.lt{w:Ba}{b n:Nat}{f:κ->Option Au}(h:MapOf enc w b n f):b<w.heap.size:=by
 obtain⟨es,co,hb,r⟩:=h;exact(Li.1 hb).1
theorem MapOf.look{w:Ba}{b n:Nat}{f:κ->Option Au}{t e:TypeId}{z:Au}(h:MapOf enc w b n f)(K:KeyOk P kt enc)(ht:P.underlying t=J (.map kt e))(hz:(zeroValue e).run P w=.ok z w)(k:κ) :
  (Instr.lookup t (.map (J b)) (enc k) Ax).run P w=.ok ((f k).getD z) w:=by
 obtain⟨es,co,hb,_,_,h1,h2⟩:=h;rcases wz K w k es.toList (fun e he=>by obtain⟨k,hk,_⟩:=h1 e he;exact⟨k,hk⟩) with ⟨r1,r2⟩ | ⟨j,e0,r1,r2,r3⟩
 · have hf : f k = Z := by
    cases hf:f k with
    | none=>rfl
    | some v=>obtain⟨e,he,hk,_⟩:=h2 k v hf;exact absurd hk (r2 e he)
   simp[Instr.lookup,run_underlying ht,MapKept.run_getObj_map hb,K.check w _ k,r1,hz,Result.andThen,hf]
 obtain⟨k',cX,hf⟩:=h1 e0 (N9 r2);have:k=k':=K.inj _ _ (r3.symm.trans cX);subst this;simp[Instr.lookup,run_underlying ht,MapKept.run_getObj_map hb,K.check w _ k,r1,Result.andThen,hf]
theorem MapOf.look2{w:Ba}{b n:Nat}{f:κ->Option Au}{t e:TypeId}{z:Au}(h:MapOf enc w b n f)(K:KeyOk P kt enc)(ht:P.underlying t=J (.map kt e))(hz:(zeroValue e).run P w=.ok z w)(k:κ) :
  (Instr.lookup t (.map (J b)) (enc k) Av).run P w=.ok (.tuple #[(f k).getD z,Ai (f k).isSome]) w:=by
 obtain⟨es,co,hb,_,_,h1,h2⟩:=h;rcases wz K w k es.toList (fun e he=>by obtain⟨k,hk,_⟩:=h1 e he;exact⟨k,hk⟩) with ⟨r1,r2⟩ | ⟨j,e0,r1,r2,r3⟩
 · have hf : f k = Z := by
    cases hf:f k with
    | none=>rfl
    | some v=>obtain⟨e,he,hk,_⟩:=h2 k v hf;exact absurd hk (r2 e he)
   simp[Instr.lookup,run_underlying ht,MapKept.run_getObj_map hb,K.check w _ k,r1,hz,Result.andThen,hf]
 obtain⟨k',cX,hf⟩:=h1 e0 (N9 r2);have:k=k':=K.inj _ _ (r3.symm.trans cX);subst this;simp[Instr.lookup,run_underlying ht,MapKept.run_getObj_map hb,K.check w _ k,r1,Result.andThen,hf]
def kO[DecidableEq κ](f:κ->Option Au)(k:κ)(v:Au):κ->Option Au:=fun x=>if x=k then J v else f x
theorem qV{P:Program}{w:Ba}{b:Nat}{es OI:Array MapEntry}{c c':Nat}(hb:w.heap[b]?=J (.map es c)) :
  (setObj b (.map OI c')).run P w=.ok () { w with heap:=w.heap.setIfInBounds b (.map OI c') }:=by
 simp[setObj,Sem.run,hb]
theorem pw_key{l:List MapEntry}(h:l.Pairwise fun x y=>x.key≠y.key){i j:Nat}{a b:MapEntry}(hi:l[i]?=J a)(hj:l[j]?=J b)(he:a.key=b.key):i=j:=by
 obtain⟨oM,rfl⟩:=Lo.1 hi;obtain⟨bg,rfl⟩:=Lo.1 hj;rcases Nat.lt_trichotomy i j with ac | h' | ac
 . exact absurd he (Pd.1 h i j oM bg ac)
 . exact h'
 exact absurd he.symm (Pd.1 h j i bg oM ac)
theorem pw_set{l:List MapEntry}(h:l.Pairwise fun x y=>x.key≠y.key){j:Nat}{a a':MapEntry}(hj:l[j]?=J a)(he:a.key=a'.key):(l.set j a').Pairwise fun x y=>x.key≠y.key:=by
 obtain⟨bg,rfl⟩:=Lo.1 hj;rw[Pd] at h ⊢;intro i k hi hk Gv;simp only[List.length_set] at hi hk;simp only[List.getElem_set]
 split
 . rename_i h1;subst h1
   split
   . omega
   rw[<-he];exact h _ _ hi hk Gv
 split
 . rename_i h1;subst h1
   rw[<-he];exact h _ _ hi hk Gv
 exact h _ _ hi hk Gv
theorem MapOf.put[DecidableEq κ]{w:Ba}{b n:Nat}{f:κ->Option Au}{t e:TypeId}(h:MapOf enc w b n f)(K:KeyOk P kt enc)(ht:P.underlying t=J (.map kt e))(k:κ)(v:Au) :
  ∃w',(Instr.mapUpdate t (.map (J b)) (enc k) v).run P w=.ok () w'/\MapOf enc w' b (n+1) (kO f k v)/\w.grownBy w' (J b):=by
 obtain⟨es,co,hb,hn,oG,h1,h2⟩:=h;have aB:=(Li.1 hb).1
 have grown:∀o,w.grownBy { w with heap:=w.heap.setIfInBounds b o } (J b):=fun o=>
  ⟨rfl,rfl,rfl,by simp,fun i _ hi=>by simp only;rw[LY (fun e=>hi (by rw[e]))]⟩
 have at_:∀o,({ w with heap:=w.heap.setIfInBounds b o }:Ba).heap[b]?=J o:=fun o=>by simp[aB]
 rcases wz K w k es.toList (fun e he=>by obtain⟨k,hk,_⟩:=h1 e he;exact⟨k,hk⟩) with ⟨r1,r2⟩ | ⟨j,e0,r1,r2,r3⟩
 . refine⟨_,?_,⟨es.push { key:=enc k,val:=v,born:=co },co+1,at_ _,by simp;omega,?_,?_,?_⟩,grown _⟩
   . simp[Instr.mapUpdate,run_underlying ht,MapKept.run_getObj_map hb,K.check w Ax k,r1,qV hb,Result.andThen]
   . rw[Array.toList_push]
     exact List.pairwise_append.2 ⟨oG,List.pairwise_singleton _ _,fun a ha c hc=>by simp only[List.mem_singleton] at hc;subst hc;exact r2 a ha⟩
   . intro e he
     simp only[Array.toList_push,List.mem_append,List.mem_singleton] at he;rcases he with he | rfl
     . obtain⟨k',cX,hf⟩:=h1 e he
       refine⟨k',cX,?_⟩;have:k'≠k:=fun e2=>r2 e he (by rw[cX,e2])
       simp[kO,this,hf]
     exact⟨k,rfl,by simp[kO]⟩
   intro k' v' hf;unfold kO at hf
   split at hf
   . rename_i hk;subst hk
     cases hf
     exact⟨_,by simp;exact .inr rfl,rfl,rfl⟩
   obtain⟨e,he,hk,hv⟩:=h2 k' v' hf;exact⟨e,by simp;exact .inl (by simpa using he),hk,hv⟩
 have Gn:es[j]?=J e0:=by simpa using r2
 have hs:(Instr.keyThatStays e0.key (enc k)).run P w=.ok (enc k) w:=by simp[Instr.keyThatStays,r3,K.stays]
 have bg:j<es.toList.length:=(Lo.1 r2).1
 have dG:(es.modify j (fun e'=>{ e' with key:=enc k,val:=v })).toList=es.toList.set j { e0 with key:=enc k,val:=v }:=by
  rw[Array.toList_modify,ChangeMaps.modify_eq_set _ _ _ _ r2]
 refine⟨_,?_,⟨es.modify j (fun e'=>{ e' with key:=enc k,val:=v }),co,at_ _,by simp;omega,?_,?_,?_⟩,grown _⟩
 . simp[Instr.mapUpdate,run_underlying ht,MapKept.run_getObj_map hb,K.check w Ax k,r1,Gn,hs,qV hb,Result.andThen]
 . rw[dG]
   exact pw_set oG r2 (by simpa using r3)
 . intro e he
   rw[dG] at he;obtain⟨i,hi,rfl⟩:=Nc he;rw[PW]
   split
   . exact⟨k,rfl,by simp[kO]⟩
   rename_i bG;have dT:i<es.toList.length:=by simpa using hi
   obtain⟨k',cX,hf⟩:=h1 _ (Ld dT);refine⟨k',cX,?_⟩
   by_cases e2:k'=k
   . exact absurd (cX.trans ((congrArg enc e2).trans r3.symm)) (fun e3=>bG (pw_key oG r2 (Lg dT) e3.symm))
   simp[kO,e2,hf]
 intro k' v' hf;unfold kO at hf
 split at hf
 . rename_i hk;subst hk
   cases hf
   refine⟨{ e0 with key:=enc k',val:=v },?_,rfl,rfl⟩;rw[dG];exact NA.2 ⟨j,by simpa using bg,by simp⟩
 rename_i hk;obtain⟨e,he,ME,hv⟩:=h2 k' v' hf;refine⟨e,?_,ME,hv⟩;rw[dG];obtain⟨i,hi,rfl⟩:=Nc he
 have tU:j≠i:=by
  rintro rfl;rw[Lg bg] at r2
  cases r2
  exact hk (K.inj _ _ (ME.symm.trans r3))
 exact NA.2 ⟨i,by simpa using hi,by simp[tU]⟩
theorem YR[DecidableEq κ](w:Ba){ak:Array Oper}{rest:List Oper}{o:Oper}{a:Act}{Q:Exit->Act->Ba->Prop}
  (hg:o.guard=Z) (m x v:Operand) (t e:TypeId) (rY:o.op=Op.mapUpdate t m x v) (K:KeyOk P kt enc) (ht:P.underlying t=J (.map kt e)) (b n:Nat) (f:κ->Option Au)
  (aq:MapOf enc w b n f) (k:κ) (val:Au) (hm:a.eval m=.map (J b)) (hx:a.eval x=enc k) (hv:a.eval v=val)
  (hK:∀w',MapOf enc w' b (n+1) (kO f k val)->w.grownBy w' (J b)->wpList P ak Q rest (a.put o.dst undef) w') :
  wpList P ak Q (o::rest) a w:=by
 refine LM hg fun K' ai=>?_
 obtain⟨w',cV,r1,r2⟩:=aq.put K ht k val;unfold Oper.wp;simp[execOp,rY,hm,hx,hv,cV,Result.andThen];exact ai _ _ (hK w' r1 r2)
def ZU[DecidableEq κ](S:List κ):κ->Option Au:=fun k=>if k∈S then J (Ai Av) else Z
theorem setF_nil[DecidableEq κ]:ZU ([]:List κ)=fun _=>Z:=by funext k;simp[ZU]
theorem setF_put[DecidableEq κ](S:List κ)(k:κ):kO (ZU S) k (Ai Av)=ZU (k::S):=by
 funext x
 unfold kO ZU
 by_cases h:x=k<;>simp[h]
theorem setF_get[DecidableEq κ](S:List κ)(k:κ):(ZU S k).getD (Ai Ax)=Ai (decide (k∈S)):=by
 unfold ZU
 split<;>simp_all
def SetAt[DecidableEq κ](enc:κ->Au)(w:Ba)(b:Nat)(S:List κ):Prop:=∃n,MapOf enc w b n (ZU S)
theorem SetAt.made[DecidableEq κ](enc:κ->Au)(w:Ba):SetAt enc (w.alloc (.map #[] 0)) w.heap.size []:=⟨0,by rw[setF_nil];exact MapOf.made w⟩
theorem SetAt.kept[DecidableEq κ]{w w':Ba}{b B:Nat}{S:List κ}(h:SetAt enc w b S)(hb:Ao B w w')(ac:b<B):SetAt enc w' b S:=by
 obtain⟨n,h⟩:=h;exact⟨n,h.same (hb.block b ac)⟩
theorem SetAt.same[DecidableEq κ]{w w':Ba}{b:Nat}{S:List κ}(h:SetAt enc w b S)(hb:w'.heap[b]?=w.heap[b]?):SetAt enc w' b S:=by
 obtain⟨n,h⟩:=h;exact⟨n,h.same hb⟩
theorem SetAt.lt[DecidableEq κ]{w:Ba}{b:Nat}{S:List κ}(h:SetAt enc w b S):b<w.heap.size:=by
 obtain⟨n,h⟩:=h;exact h.lt
theorem SetAt.look[DecidableEq κ]{w:Ba}{b:Nat}{S:List κ}{t e:TypeId}(h:SetAt enc w b S)(K:KeyOk P kt enc)(ht:P.underlying t=J (.map kt e))(hz:∀w:Ba,(zeroValue e).run P w=.ok (Ai Ax) w)(k:κ) :
  (Instr.lookup t (.map (J b)) (enc k) Ax).run P w=.ok (Ai (decide (k∈S))) w:=by
 obtain⟨n,h⟩:=h;rw[h.look K ht (hz w) k,setF_get]
theorem jg[DecidableEq κ](w:Ba){ak:Array Oper}{rest:List Oper}{o:Oper}{a:Act}{Q:Exit->Act->Ba->Prop}
  (hg:o.guard=Z) (m x v:Operand) (t e:TypeId) (rY:o.op=Op.mapUpdate t m x v) (K:KeyOk P kt enc) (ht:P.underlying t=J (.map kt e)) (b:Nat) (S:List κ)
  (aq:SetAt enc w b S) (k:κ) (hm:a.eval m=.map (J b)) (hx:a.eval x=enc k) (hv:a.eval v=Ai Av)
  (hK:∀w',SetAt enc w' b (k::S)->w.grownBy w' (J b)->wpList P ak Q rest (a.put o.dst undef) w') :
  wpList P ak Q (o::rest) a w:=by
 obtain⟨n,aq⟩:=aq;exact YR w hg m x v t e rY K ht b n _ aq k _ hm hx hv fun w' h1 h2=>hK w' ⟨n+1,by rw[<-setF_put];exact h1⟩ h2
end
end
section
open Go.RowKit
open Classical in
theorem ZD:KeyOk An 3 (O U) where
 inj:=fun a b h=>by injection h
 check:=fun w em a=>by
  have hi:An.underlying 3=J (.int U):=LA;unfold Instr.checkKey;simp[run_underlying hi,Result.andThen]
 equal:=fun w a b=>by
  have hi:An.underlying 3=J (.int U):=LA;unfold Op.equal Op.maxDepth;rw[Nn w _ 3 _ _ _ _ hi]
  by_cases h:a=b<;>simp[h]
 now:=fun d hd=>.inl fun a b=>by
  have hi:An.underlying 3=J (.int U):=LA;rw[hi] at hd
  cases hd
  by_cases h:a=b<;>simp[Instr.sameNow,h]
 stays:=fun a=>by simp[Instr.sameBits]
 kind:=⟨_,LA⟩
theorem ZN(a b:Vw)(h:Aj a.cells=.agg b.cells):a=b:=by
 injection h with h
 obtain⟨a0,a1,a2,a3,a4,a5,a6,a7⟩:=a;obtain⟨b0,b1,b2,b3,b4,b5,b6,b7⟩:=b;simpa[Vw.cells] using h
theorem qI(w:Ba)(em:Bool)(n:Nat)(a:Int):(Instr.checkKey em (n+1) 3 (O U a)).run An w=.ok () w:=by
 have hi:An.underlying 3=J (.int U):=LA;unfold Instr.checkKey;simp[run_underlying hi,Result.andThen]
theorem gZ(w:Ba)(em:Bool)(n:Nat)(a b c d e:Int):(Instr.checkKey em (n+2) 43 (Aj #[O U a,O U b,O U c,O U d,O U e])).run An w=.ok () w:=by
 have hu:An.underlying 43=J (.array 5 3):=Rt;have hs:(sizeOf 3).run An w=.ok 1 w:=by kernel_rfl
 have p0:=fun x0 x1 x2 x3 x4=>zC #[x0,x1,x2,x3,x4] 0 x0 rfl w
 have p1:=fun x0 x1 x2 x3 x4=>zC #[x0,x1,x2,x3,x4] 1 x1 rfl w
 have p2:=fun x0 x1 x2 x3 x4=>zC #[x0,x1,x2,x3,x4] 2 x2 rfl w
 have p3:=fun x0 x1 x2 x3 x4=>zC #[x0,x1,x2,x3,x4] 3 x3 rfl w
 have p4:=fun x0 x1 x2 x3 x4=>zC #[x0,x1,x2,x3,x4] 4 x4 rfl w
 unfold Instr.checkKey;simp only[Sem.run_bind,run_underlying hu,Result.andThen_ok,hs,Std.Legacy.Range.forIn_eq_forIn_range',Std.Legacy.Range.size,Nat.sub_zero,Nat.add_sub_cancel,Nat.div_one,show List.range' 0 5 1=[0,1,2,3,4] from rfl,List.forIn_cons,List.forIn_nil,p0,p1,p2,p3,p4,Nat.mul_one,qI,Sem.run_pure]
open Classical in
theorem jA:KeyOk An 100 (fun v:Vw=>.agg v.cells) where
 inj:=ZN
 check:=fun w em v=>by
  have hu:An.underlying 100=J (.struct (An.fieldsOf 100)):=by kernel_rfl
  have hf : (An.fieldsOf 100).toList.map (fun f => (f.name, f.type, f.offset)) = [("Proc", 3, 0), ("Round", 3, 1), ("Input", 3, 2), ("Heard", 43, 3)] := by kernel_rfl
  have p0:∀x:Vw,(part 3 x.cells 0).run An w=.ok (O U x.p) w:=fun x=>zC _ 0 _ rfl w
  have p1:∀x:Vw,(part 3 x.cells 1).run An w=.ok (O U x.r) w:=fun x=>zC _ 1 _ rfl w
  have p2:∀x:Vw,(part 3 x.cells 2).run An w=.ok (O U x.i) w:=fun x=>zC _ 2 _ rfl w
  have p3:∀x:Vw,(part 43 x.cells 3).run An w=.ok (Aj #[O U x.h0,O U x.h1,O U x.h2,O U x.h3,O U x.h4]) w:=fun x=>by unfold Vw.cells;kernel_rfl
  unfold Instr.checkKey;simp only[Sem.run_bind,run_underlying hu,Result.andThen_ok];rw[<-PI]
  generalize (An.fieldsOf 100).toList=fs at hf
  obtain⟨f0,f1,f2,f3,rfl⟩:∃f0 f1 f2 f3,fs=[f0,f1,f2,f3]:=by
   have hl:fs.length=4:=by simpa using congrArg List.length hf
   rcases fs with _ | ⟨f0,_ | ⟨f1,_ | ⟨f2,_ | ⟨f3,_ | ⟨f4,r⟩⟩⟩⟩⟩<;>simp at hl
   exact⟨_,_,_,_,rfl⟩
  simp only[List.map_cons,List.map_nil,List.cons.injEq,Prod.mk.injEq,and_true] at hf;obtain⟨⟨n0,t0,o0⟩,⟨n1,t1,o1⟩,⟨n2,t2,o2⟩,⟨n3,t3,o3⟩⟩:=hf;simp only[List.forIn_cons,List.forIn_nil,n0,n1,n2,n3,t0,t1,t2,t3,o0,o1,o2,o3,p0,p1,p2,p3,Sem.run_bind,Result.andThen_ok,qI,gZ,ne_eq,String.reduceEq,not_false_eq_true,if_true,Sem.run_pure]
 equal:=fun w a b=>by
  unfold Op.equal Op.maxDepth;rw[ju 9997 a b w]
  by_cases h:a=b
  . simp[h]
  . have:¬(Aj a.cells=.agg b.cells):=fun e=>h (ZN a b e)
    rw[Ll h,Ll this]
 now:=fun d hd=>.inr fun a b=>by
  have hu:An.underlying 100=J (.struct (An.fieldsOf 100)):=by kernel_rfl
  rw[hu] at hd
  cases hd
  simp[Instr.sameNow]
 stays:=fun a=>by simp[Instr.sameBits,Vw.cells]
 kind := ⟨_, by have hu : An.underlying 100 = J (.struct (An.fieldsOf 100)) := by kernel_rfl
                exact hu⟩
end
section
open Go.RowKit
structure TArg(w:Ba)(A:Bb)(cap:Nat)(vs:List Vw):Prop where
 rows:VAt w w.heap.size A vs
 lec:vs.length<=cap
 lem:cap<=maxLen
 few:vs.length<=100000
theorem TArg.keep{w w':Ba}{A:Bb}{cap:Nat}{vs:List Vw}(h:TArg w A cap vs)(hb:Ao w.heap.size w w'):TArg w' A cap vs:=
 ⟨(h.rows.keep hb).more hb.size,h.lec,h.lem,h.few⟩
def ye(vs:List Vw):List Au:=vs.flatMap fun x=>x.cells.toList
theorem kU(vs us:List Vw):ye (vs++us)=ye vs++ye us:=by simp[ye]
theorem kT(vs:List Vw):(ye vs).length=vs.length*8:=by
 induction vs with
 | nil=>rfl
 | cons v vs ih=>simp only[ye,List.flatMap_cons,List.length_append,List.length_cons] at *;rw[ih];simp[Vw.cells];omega
theorem jZ:∀(vs:List Vw) (i:Nat) (hi:i<vs.length) (k:Nat),k<8->(ye vs)[i*8+k]?=vs[i].cells[k]?
 | v::vs,0,hi,k,hk=>by
  simp only[ye,List.flatMap_cons,List.getElem_cons_zero,Nat.zero_mul,Nat.zero_add];rw[LX (by simp[Vw.cells];omega)];simp
 | v::vs,i+1,hi,k,hk=>by
  have:=jZ vs i (by simpa using hi) k hk;simp only[ye,List.flatMap_cons,List.getElem_cons_succ] at *;rw[LV (by simp[Vw.cells];omega),<-this]
  congr 1
  simp[Vw.cells];omega
def OwnV(w:Ba)(aa:Nat)(v:Au)(vs:List Vw):Prop:=w.ownsRow aa 100 8 v vs.length (ye vs)
theorem OwnV.nil(w:Ba)(aa:Nat):OwnV w aa (I Z 0 0) []:=PK w aa _ 8
theorem OwnV.form{w:Ba}{aa:Nat}{v:Au}{vs:List Vw}(h:OwnV w aa v vs)(hf:vs.length<=100000):∃A cap,v=I A vs.length cap/\TArg w A cap vs:=by
 rcases h.2 with ⟨rfl,h0⟩ | ⟨g,cap,cur,rfl,_,hg,dr,iw,_⟩
 . have:vs=[]:=LD h0
   subst this;exact⟨Z,0,rfl,fun h=>absurd h (by simp),Lh _,Nl _,hf⟩
 refine⟨_,_,rfl,fun _=>⟨g,0,rfl,(Li.1 hg).1,fun i hi k u hk=>?_⟩,dr,iw,hf⟩;have MH:k<8:=by have:=(Li.1 hk).1;simpa[Vw.cells] using this
 have:=h.cells (g:=g) rfl (i*8+k) u (by rw[jZ vs i hi k MH];exact hk);rw[show(⟨g,0,Z⟩:Addr).add (i*8+k)=⟨g,0+i*8+k,Z⟩ from by unfold Addr.add;split<;>simp_all] at this;exact this
theorem OwnV.low{w:Ba}{aa base':Nat}{v:Au}{xs:List Vw}(h:OwnV w aa v xs)(hb:base'<=aa):OwnV w base' v xs:=by
 refine⟨h.1,?_⟩;rcases h.2 with h2 | ⟨g,cap,cur,hv,hg,r⟩
 . exact Or.inl h2
 exact Or.inr ⟨g,cap,cur,hv,by omega,r⟩
theorem OwnV.lt{w:Ba}{aa:Nat}{v:Au}{xs:List Vw}(h:OwnV w aa v xs):∀k,v.ownBlock=J k->aa<=k/\k<w.heap.size:=PU h
theorem vo:(An.info? 100).map (fun i=>(i.zero,i.size,i.bytes))=J (J (.agg (⟨0,0,0,0,0,0,0,0⟩:Vw).cells),8,64):=by kernel_rfl
theorem vt(v:Vw):∀u∈v.cells.toList,u.oneCell'=Av:=by
 intro u hu;simp only[Vw.cells,List.mem_cons,List.not_mem_nil,or_false] at hu;rcases hu with rfl | rfl | rfl | rfl | rfl | rfl | rfl | rfl<;>rfl
theorem YW(vs:List Vw):∀u∈ye vs,u.oneCell'=Av:=by
 intro u hu;obtain⟨v,_,hv⟩:=Ns.1 hu;exact vt v u hv
theorem wZ(c:Nat)(ty:TypeId)(W:Ba):(Builtin.append_ #[31,31] ty #[I Z 0 0,I Z 0 c]).run An W=.ok (I Z 0 0) W:=by
 obtain⟨i0,hi,_⟩:=PE vo;simp[Builtin.append_,run_underlying underlying31,sizeOf,typeInfo,hi,Builtin.lenOf,Builtin.firstCells]
theorem TArg.news{w:Ba}{ad:Addr}{cap:Nat}{vs:List Vw}(h:TArg w (J ad) cap vs):∀j u,(ye vs)[j]?=J u->w.cell? (ad.add j)=J u:=by
 intro j u hj;have ML:j<vs.length*8:=by have:=(Lo.1 hj).1;rwa[kT] at this
 obtain⟨b,off,e,ac,hc⟩:=h.rows (by omega)
 cases e
 rw[N4];have dT:j / 8<vs.length:=by omega
 have h8:j / 8*8+j % 8=j:=by omega
 rw[<-h8,jZ vs (j / 8) dT (j % 8) (by omega)] at hj;have:=hc (j / 8) dT (j % 8) u hj;rwa[Pu,h8] at this
theorem OwnV.lit{w:Ba}{aa:Nat}{v:Au}{vs:List Vw}(h:OwnV w aa v vs):∃A cap,v=I A vs.length cap:=by
 rcases h.2 with ⟨rfl,h0⟩ | ⟨g,cap,cur,rfl,_⟩
 . exact⟨Z,0,by rw[h0]⟩
 exact⟨_,_,rfl⟩
theorem wp_appv0{o:Oper}{a:Act}{K:Act->Ba->Prop}{Q:Exit->Act->Ba->Prop}{W:Ba}(s x:Operand)
  (ho:o.op=.call { callee:=.builtin .append,args:=#[s,x],argTypes:=#[31,31] }) (aa:Nat) (hs:a.eval s=I Z 0 0) (A:Bb) (cap:Nat) (vs:List Vw)
  (hx:a.eval x=I A vs.length cap) (hT:TArg W A cap vs) (hb:aa<=W.heap.size)
  (h:∀A' aF w1,OwnV w1 aa (I A' vs.length aF) vs->W.grownBy w1 Z->K (a.put o.dst (I A' vs.length aF)) w1):o.wp An a W K Q:=by
 obtain⟨i0,hi,cq,bK,cf⟩:=PE vo
 cases A with
 | none=>
  have iX:vs=[]:=by
   rcases Na vs.length with h | h
   . exact LD h
   . obtain⟨b,off,e,_⟩:=hT.rows h;cases e
  subst iX;have cV:=wZ cap o.type W;unfold Oper.wp execOp;simp only[ho,resolve,invoke,builtin,Sem.run_bind,Sem.run_pure,Result.andThen_ok,List.map_toArray,List.map_cons,List.map_nil,hs,hx,List.length_nil,cV];exact h Z 0 W (OwnV.nil _ _) (Pj _ _)
 | some ad=>
  refine wp_append_own W s x 31 ho aa 100 i0 _ 8 64 PO hi cq bK cf rfl (by decide) _ 0 [] hs (PK W aa _ 8) ad vs.length cap (ye vs) hx (kT vs) hT.news (YW vs) (by have:=hT.few;unfold maxLen;omega) (by have:=hT.few;omega) hb ?_;intro v' w1 aq aK _;have cF:OwnV w1 aa v' vs:=by unfold OwnV;simpa using aq
  obtain⟨A',aF,rfl⟩:=cF.lit;exact h A' aF w1 cF aK
theorem wp_appv1{o:Oper}{a:Act}{K:Act->Ba->Prop}{Q:Exit->Act->Ba->Prop}{W:Ba}(s x:Operand)
  (ho:o.op=.call { callee:=.builtin .append,args:=#[s,x],argTypes:=#[31,31] }) (aa:Nat) (V:Au) (vs:List Vw) (v:Vw) (hs:a.eval s=V) (aq:OwnV W aa V vs) (hf:vs.length<=100000)
  (g:Nat) (hx:a.eval x=I (J ⟨g,0,Z⟩) 1 1) (hg:W.heap[g]?=J (Ah v.cells 100 (0,0))) (hb:aa<=W.heap.size)
  (h:∀A' aF w1,OwnV w1 aa (I A' (vs.length+1) aF) (vs++[v])->W.grownBy w1 V.ownBlock->K (a.put o.dst (I A' (vs.length+1) aF)) w1):o.wp An a W K Q:=by
 obtain⟨i0,hi,cq,bK,cf⟩:=PE vo
 refine wp_append_lies W s x 31 ho aa 100 i0 _ 8 64 PO hi cq bK cf rfl (by decide) V vs.length (ye vs) hs aq ⟨g,0,Z⟩ 1 1 v.cells.toList hx (by simp[Vw.cells])
  (Rh hg) (vt v) (by omega) (by unfold maxLen;omega) (by omega) hb _ rfl ?_
 intro g' cap w1 cF aK _ _;refine h _ cap w1 ?_ aK;unfold OwnV;rw[Lq,kU];simpa[ye] using cF
theorem Y1{ak:Array Oper}{o:Oper}{a:Act}{K:Act->Ba->Prop}{Q:Exit->Act->Ba->Prop}{E:Prop}{W:Ba}(dU:o.guard=Z)(s x:Operand)
  (ho:o.op=.call { callee:=.builtin .append,args:=#[s,x],argTypes:=#[31,31] }) (aa:Nat) (hs:a.eval s=I Z 0 0) (A:Bb) (cap:Nat) (vs:List Vw)
  (hx:a.eval x=I A vs.length cap) (hT:TArg W A cap vs) (hb:aa<=W.heap.size)
  (h:∀A' aF w1,OwnV w1 aa (I A' vs.length aF) vs->W.grownBy w1 Z->K (a.put o.dst (I A' vs.length aF)) w1) :
  if Region.wanted o (yielded ak a.tmps)=Av then Oper.wp An o a W K Q else E:=by
 have hw:Region.wanted o (yielded ak a.tmps)=Av:=by simp[Region.wanted,dU]
 rw[Ln hw];exact wp_appv0 s x ho aa hs A cap vs hx hT hb h
theorem uH{ak:Array Oper}{o:Oper}{a:Act}{K:Act->Ba->Prop}{Q:Exit->Act->Ba->Prop}{E:Prop}{W:Ba}(dU:o.guard=Z)(s x:Operand)
  (ho:o.op=.call { callee:=.builtin .append,args:=#[s,x],argTypes:=#[31,31] }) (aa:Nat) (V:Au) (vs:List Vw) (v:Vw) (hs:a.eval s=V) (aq:OwnV W aa V vs) (hf:vs.length<=100000)
  (g:Nat) (hx:a.eval x=I (J ⟨g,0,Z⟩) 1 1) (hg:W.heap[g]?=J (Ah v.cells 100 (0,0))) (hb:aa<=W.heap.size)
  (h:∀A' aF w1,OwnV w1 aa (I A' (vs.length+1) aF) (vs++[v])->W.grownBy w1 V.ownBlock->K (a.put o.dst (I A' (vs.length+1) aF)) w1) :
  if Region.wanted o (yielded ak a.tmps)=Av then Oper.wp An o a W K Q else E:=by
 have hw:Region.wanted o (yielded ak a.tmps)=Av:=by simp[Region.wanted,dU]
 rw[Ln hw];exact wp_appv1 s x ho aa V vs v hs aq hf g hx hg hb h
theorem zM{W w1:Ba}{row:Option Nat}{b o:Nat}{u:Au}(hg:W.grownBy w1 row)(h:W.cell? ⟨b,o,Z⟩=J u)(bG:row≠J b):w1.cell? ⟨b,o,Z⟩=J u:=by
 obtain⟨ob,ho,_⟩:=Rl h;rw[L6 ((hg.block b (Li.1 ho).1 (fun e=>bG e.symm)))];exact h
theorem jr(w:Ba)(g k:Nat)(v':Au):w.grownBy (w.setCell ⟨g,k,Z⟩ v') (J g):=
 ⟨rfl,rfl,rfl,by simp[World.setCell],fun j _ hj=>Le w ⟨g,k,Z⟩ v' j (fun e=>hj (by rw[e]))⟩
theorem XH{W w1:Ba}{row:Option Nat}{b:Nat}{o:Obj}(hg:W.grownBy w1 row)(h:W.heap[b]?=J o)(bG:row≠J b):w1.heap[b]?=J o:=
 (hg.block b (Li.1 h).1 (fun e=>bG e.symm)).trans h
theorem OwnV.kept{w w':Ba}{aa:Nat}{v:Au}{vs:List Vw}{row:Option Nat}(h:OwnV w aa v vs)(hg:w.grownBy w' row)(bG:v.ownBlock=Z\/v.ownBlock≠row):OwnV w' aa v vs:=Pi h hg bG
theorem OwnV.alloc{w:Ba}{aa:Nat}{v:Au}{vs:List Vw}(h:OwnV w aa v vs)(o:Obj):OwnV (w.alloc o) aa v vs:=Pe h o
theorem OwnV.drew{w:Ba}{aa:Nat}{v:Au}{vs:List Vw}(h:OwnV w aa v vs):OwnV w.drew aa v vs:=h
theorem OwnV.below{w w':Ba}{aa B:Nat}{v:Au}{xs:List Vw}(h:OwnV w aa v xs)(hb:Ao B w w')(hB:w.heap.size<=B):OwnV w' aa v xs:=
 Pi (row:=Z) h ⟨hb.os,hb.tape,hb.output,hb.size,fun k hk _=>hb.block k (by omega)⟩ (by cases v.ownBlock<;>simp)
theorem js{W w1:Ba}{row:Option Nat}{b o:Nat}(hg:W.grownBy w1 row)(h:W.frozen? ⟨b,o,Z⟩=Ax)(ac:b<W.heap.size)(bG:row≠J b):w1.frozen? ⟨b,o,Z⟩=Ax:=
 (World.grownBy.frozen_far hg ⟨b,o,Z⟩ ac (fun e=>bG e.symm)).trans h
theorem OwnV.ne{w:Ba}{aa b:Nat}{v:Au}{xs:List Vw}(h:OwnV w aa v xs)(hb:b<aa):v.ownBlock≠J b:=fun e=>by
 have:=(h.lt b e).1;omega
def RetPut(n:Int)(A:Bb)(cap:Nat)(vs:List Vw)(v:Vw)(w:Ba)(e:Ending)(w':Ba):Prop:=
 Ao w.heap.size w w'/\(v∈vs->e=Am (.tuple #[Aj #[O U n,I A vs.length cap],O U (qp vs v)])) /\
  (v∉vs->∃A3 ee,e=Am (.tuple #[Aj #[O U n,I A3 (vs.length+1) ee],O U vs.length])/\OwnV w' w.heap.size (I A3 (vs.length+1) ee) (vs++[v]))
end
section
open Go.RowKit
section
variable {P:Program} {md:Region.Mode} {ak:Array Oper} {Q:Exit->Act->Ba->Prop} {l n:Nat}
theorem op_round{o:Oper}{a:Act}{w:Ba}{K:Act->Ba->Prop}(hd:∀c,o.op≠.defer c)(h:o.wp P a w K Q):o.wpIn (Fence.wide.inRound l) n P a w K Q:=by
 refine⟨fun _ _=>trivial,?_⟩;show o.uponIn (Fence.wide.inRound l) n P a K Q ((o.semAt (J l) a.eval).run P w);rw[Oper.semAt_some l a.eval o hd];unfold Oper.wp at h
 revert h
 cases (execOp a.eval o).run P w with
 | ok x w'=>
  cases x with
  | value v=>exact fun h=>h
  | skip=>exact fun h=>h
  | defer d=>exact fun h=>h
  | enter f args=>exact fun h=>⟨(fun h'=>Bool.noConfusion (show Ax=Av from h')),RN l (Rr.2 h)⟩
  | row r args=>exact fun h=>⟨(fun h'=>Bool.noConfusion (show Ax=Av from h')),fun b cs _=>by obtain⟨v,pz,hR,hs⟩:=h b cs;exact⟨v,pz,hR,stepsIn_wide.2 hs⟩⟩
  | _=>exact fun h=>h.elim
 | halt s w'=>
  cases s with
  | panic v=>exact fun h=>h
  | _=>exact fun h=>h.elim
def ut(ak:Array Oper):Bool:=ak.toList.all fun o=>match o.op with | .defer _=>Ax | _=>Av
theorem Xk(h:ut ak=Av){i:Nat}{o:Oper}(ho:ak[i]?=J o):∀c,o.op≠.defer c:=by
 intro c e;have hm:o∈ak.toList:=by rw[Array.mem_toList_iff];exact Array.mem_of_getElem? ho
 have:=LK.1 h o hm;rw[e] at this
 cases this
theorem qM(hd:ut ak=Av)(eU:¬LetsOut Q):∀(fuel:Nat) (af:Array Bool) (a:Act) (w:Ba),wpAny P md ak Q fuel af a w->wpAnyIn (Fence.wide.inRound l) n P md ak Q fuel af a w
 | 0,_,_,_,h=>h
 | fuel+1,af,a,w,h=>by
  refine⟨h.1,fun i hi=>?_⟩;have h2:=h.2 i hi;unfold wpOp at h2;unfold wpOpIn
  cases ho:ak[i]? with
  | none=>rw[ho] at h2;exact qM hd eU fuel _ _ _ h2
  | some o=>
   rw[ho] at h2;dsimp only at h2 ⊢
   by_cases hw:Region.wanted o (yielded ak a.tmps)=Av
   . rw[Ln hw] at h2 ⊢
     rcases h2 with h2 | h2
     . exact op_round (Xk hd ho) (Oper.wp_mono (fun a' w' hk=>qM hd eU fuel _ _ _ hk) h2)
     . exact absurd h2.2 eU
   . rw[Lj hw] at h2 ⊢
     exact⟨fun _ _=>trivial,qM hd eU fuel _ _ _ h2⟩
theorem any_still{n:Nat}{w:Ba}{a:Act}{xs:List Oper}(hB:Region.lexTailB .any xs.toArray n=Av)
  (h:wpStill P xs.toArray w (fun a'=>wpList P xs.toArray Q (xs.drop n) a' w) (xs.take n) a):wpAny P .any xs.toArray Q xs.toArray.size (Array.replicate xs.toArray.size Ax) a w:=by
 unfold Region.lexTailB at hB;simp only[Bool.and_eq_true,decide_eq_true_eq] at hB;have hn:n<xs.length:=by simpa using hB.1.1.1.2
 have e1:(xs.take n).length=n:=by rw[Ps];omega
 have e2:(xs.drop n).length=xs.toArray.size-n:=by rw[List.length_drop];rfl
 have hI:HeadInv .any xs.toArray n (Array.replicate xs.toArray.size Ax):=
  ⟨by simp,fun _ _ _ hl=>(by rw[Rb] at hl;exact Bool.noConfusion hl),fun _ _ ht=>getD_in (by simpa using ht) (Rb _ _)⟩
 have H:=wpAnyL_lex (md:=.any) (g:=xs.toArray.size-n) hB.1.1.1.1 hB.1.1.2 hB.1.2 hB.1.1.1.2 (xs.take n) 0 _ a
  (fun j hj=>by
   rw[e1] at hj
   simp[hj]) (by simpa using e1) hI (by rw[e1];exact hB.2) h
 have R:=wpAny_of_head (Q':=Q) (g:=xs.toArray.size-n) (fun af a' hL=>by
  have T:=wpAny_of_seq (md:=.any) (Q':=Q) (xs.drop n) n af a' w (fun j=>by simp[List.getElem?_drop]) (by rw[e2];exact hL.1) hL.2
  rwa[e2] at T) _ _ _ H
 rw[e1] at R;have e3:n+(xs.toArray.size-n)=xs.toArray.size:=by have:xs.toArray.size=xs.length:=rfl;omega
 rwa[e3] at R
theorem qc{id k:Nat}{a:Act}{w:Ba}{xs:List Oper}(n:Nat)(hm:P.follows .mixedOrders=Av)(hd:ut xs.toArray=Av)(hB:Region.lexTailB .any xs.toArray n=Av)(eU:¬LetsOut Q)
  (h:wpStill P xs.toArray w.drew (fun a'=>wpList P xs.toArray Q (xs.drop n) a' w.drew) (xs.take n) a):(Code.region id xs.toArray Av).wpIn (Fence.wide.inRound l) k P Q a w:=
 wpIn_region_any hm (qM hd eU _ _ _ _ (any_still hB h))
end
end
section
open Go.RowKit
section
variable {P:Program} {ak:Array Oper} {md:Region.Mode}
def Qf:Exit->Act->Ba->Prop:=fun _ _ _=>False
theorem QB:¬LetsOut Qf:=fun ⟨_,_,h⟩=>h
theorem wp_of_qf{o:Oper}{a:Act}{w:Ba}{K:Act->Ba->Prop}{Q:Exit->Act->Ba->Prop}(hh:o.wp P a w K Qf):o.wp P a w K Q:=by
 unfold Oper.wp at *
 generalize (execOp a.eval o).run P w=r at *
 cases r with
 | ok n w'=>
  cases n<;>simp only[Oper.upon] at hh⊢<;>
   first
    | exact hh
    | exact Calls.mono hh (fun e pz he=>by
      cases e with
      | returned v=>exact he
      | panicked c=>exact False.elim he
      | outgrown=>exact absurd he QB)
 | halt x w'=>cases x<;>simp only[Oper.upon] at hh ⊢<;>exact False.elim hh
def Xw(P:Program)(ak:Array Oper)(i:Nat)(K:Act->Ba->Prop)(a:Act)(w:Ba):Prop:=
 ∃o,ak[i]?=J o/\if Region.wanted o (yielded ak a.tmps)=Av then o.wp P a w K Qf else K (a.put o.dst undef) w
theorem gJ{i:Nat}{K K':Act->Ba->Prop}{a:Act}{w:Ba}(h:∀a w,K a w->K' a w)(hh:Xw P ak i K a w):Xw P ak i K' a w:=by
 obtain⟨o,ho,hh⟩:=hh;refine⟨o,ho,?_⟩
 split at hh
 . rename_i hw;rw[Ln hw];exact Oper.wp_mono h hh
 rename_i hw;rw[Lj hw];exact h _ _ hh
def Qp(md:Region.Mode)(ak:Array Oper):Nat->Nat->Nat->Bool
 | 0,_,_=>Ax
 | f+1,j,i=>match ak[j]? with
  | some o=>o.after.any fun e=>Region.binds md e&&(e.on==i||Qp md ak f e.on i)
  | none=>Ax
def ZX(md:Region.Mode)(ak:Array Oper)(F:List Nat)(j:Nat):Bool:=F.all fun i=>Qp md ak ak.size j i
def Closed(md:Region.Mode)(ak:Array Oper)(af:Array Bool):Prop:=∀(j:Nat) (oj:Oper),ak[j]?=J oj->af.getD j Ax=Av->∀e∈oj.after,Region.binds md e=Av->af.getD e.on Ax=Av
theorem Closed.set{af:Array Bool}(h:Closed md ak af){i:Nat}(hi:i∈Region.ready md ak af):Closed md ak (af.setIfInBounds i Av):=by
 obtain⟨_,oi,TA,aj⟩:=RD.1 hi;intro j oj hj hl e he hb
 by_cases tU:i=j
 . subst tU
   have:oj=oi:=NG (hj.symm.trans TA);subst this;exact getD_set_true (aj e he hb)
 rw[getD_set_ne Ax tU] at hl;exact getD_set_true (h j oj hj hl e he hb)
theorem vG{af:Array Bool}(h:Closed md ak af):∀(f j i:Nat),(∀oj,ak[j]?=J oj->∀e∈oj.after,Region.binds md e=Av->af.getD e.on Ax=Av)->Qp md ak f j i=Av->af.getD i Ax=Av
 | 0,_,_,_,hr=>by cases hr
 | f+1,j,i,hj,hr=>by
  unfold Qp at hr
  cases ho:ak[j]? with
  | none=>rw[ho] at hr;cases hr
  | some o=>
   rw[ho] at hr;obtain⟨e,he,hb⟩:=Array.any_eq_true'.1 hr;simp only[Bool.and_eq_true,Bool.or_eq_true,beq_iff_eq] at hb;have hl:=hj o ho e he hb.1;rcases hb.2 with h1 | h1
   . rw[<-h1];exact hl
   . exact vG h f e.on i (fun oj r8 e' oQ cA=>h e.on oj r8 hl e' oQ cA) h1
theorem ZW{af:Array Bool}(h:Closed md ak af){F:List Nat}{j i:Nat}(hj:j∈Region.ready md ak af)(hs:ZX md ak F j=Av)(hi:i∈F):af.getD i Ax=Av:=by
 obtain⟨_,oj,r8,aj⟩:=RD.1 hj;refine vG h ak.size j i (fun o ho e he hb=>?_) (LK.1 hs i hi);have:oj=o:=NG (r8.symm.trans ho);subst this;exact aj e he hb
def uA(P:Program)(md:Region.Mode)(ak:Array Oper)(F:List Nat)(Q:Act->Ba->Prop):Nat->Array Bool->(Ba->Prop)->Act->Ba->Prop
 | 0,af,_,a,w=>Region.ready md ak af=[]/\Q a w
 | fuel+1,af,Kp,a,w=>(Region.ready md ak af=[]->Q a w) /\
   ∀i∈Region.ready md ak af,Xw P ak i (fun a' w'=>∃dP:Ba->Prop,((∀W,dP W->Kp W)\/ZX md ak F i=Av)/\dP w'/\uA P md ak F Q fuel (af.setIfInBounds i Av) dP a' w') a w
theorem jh{F:List Nat}{Q:Exit->Act->Ba->Prop}{Qn:Act->Ba->Prop}(hQ:∀a w,Qn a w->Q .normal a w):∀(fuel:Nat) (af:Array Bool) (Kp:Ba->Prop) (a:Act) (w:Ba),
  uA P md ak F Qn fuel af Kp a w->wpAny P md ak Q fuel af a w
 | 0,_,_,_,_,h=>⟨h.1,hQ _ _ h.2⟩
 | fuel+1,af,Kp,a,w,h=>by
  refine⟨fun h0=>hQ _ _ (h.1 h0),fun i hi=>?_⟩;obtain⟨o,ho,h2⟩:=h.2 i hi;unfold wpOp;rw[ho];dsimp only
  split at h2
  . rename_i hw
    rw[Ln hw];exact .inl (Oper.wp_mono (fun a' w' ⟨dP,_,_,h3⟩=>jh hQ fuel _ dP a' w' h3) (wp_of_qf h2))
  . rename_i hw
    rw[Lj hw];obtain⟨dP,_,_,h3⟩:=h2;exact jh hQ fuel _ dP _ _ h3
def FloatTo(P:Program)(ak:Array Oper)(Kp:Ba->Prop)(o:Oper)(a a1:Act):Prop:=∀W,Kp W->∃v,YieldsAt P ak W o v a/\a.put o.dst v=a1
theorem FloatTo.less{Kp dP:Ba->Prop}{o:Oper}{a a1:Act}(h:FloatTo P ak Kp o a a1)(hs:∀W,dP W->Kp W):FloatTo P ak dP o a a1:=fun W hW=>h W (hs W hW)
theorem vc(a:Act)(d:Option Tmp)(v:Au)(x:Deferred):({ a.put d v with defers:=x::(a.put d v).defers }:Act)=({ a with defers:=x::a.defers }:Act).put d v:=by
 cases d<;>rfl
theorem kpOp_put{j:Nat}{oi oj:Oper}{Kp:Ba->Prop}(hj:ak[j]?=J oj)(Uz:oi.apart ak oj=Av)
  (Ti:∀cs b,oi.op≠.select cs b) (Th:∀cs b,oj.op≠.select cs b) {K:Act->Ba->Prop} {a a1:Act} {w:Ba}
  (hy:FloatTo P ak Kp oi a a1) (hk:Kp w) (h:Xw P ak j K a1 w) :
  Xw P ak j (fun a' w'=>∃EU,FloatTo P ak Kp oi a' EU/\K EU w') a w:=by
 obtain⟨h1,h2,h3⟩:=Oper.apart_spec Uz;obtain⟨v,hv,rfl⟩:=hy w hk
 have keep:∀u,FloatTo P ak Kp oi (a.put oj.dst u) ((a.put oi.dst v).put oj.dst u):=fun u W hW=>by
  obtain⟨v',FI,e⟩:=hy W hW;exact⟨v',FI.of_same (execOp_put oi Ti a oj.dst u h3) (wanted_put oi a oj.dst u h3),by rw[<-Act.put_comm a v' u h2,e]⟩
 have Bp:∀(x:Deferred) u,FloatTo P ak Kp oi (({ a with defers:=x::a.defers }:Act).put oj.dst u) ((({ a.put oi.dst v with defers:=x::(a.put oi.dst v).defers }:Act)).put oj.dst u):=fun x u W hW=>by
  obtain⟨v',FI,e⟩:=keep u W hW;rw[<-vc a oj.dst u x,<-vc (a.put oi.dst v) oj.dst u x];refine⟨v',FI.of_same rfl rfl,?_⟩;rw[<-vc,e]
 obtain⟨o,ho,h⟩:=h;have:oj=o:=NG (hj.symm.trans ho);subst this;refine⟨oj,hj,?_⟩;rw[wanted_put oj a oi.dst v h1] at h
 split
 . rename_i hw
   rw[Ln hw] at h;unfold Oper.wp at *;rw[execOp_put oj Th a oi.dst v h1] at h
   generalize (execOp a.eval oj).run P w=r at *
   cases r with
   | ok n w'=>
    cases n<;>simp only[Oper.upon] at h ⊢
    case value u=>exact⟨_,keep u,h⟩
    case skip=>exact⟨_,keep undef,h⟩
    case defer d=>exact⟨_,Bp d undef,h⟩
    case enter f args=>
     exact Calls.mono h (fun e pz he=>by
       cases e with
       | returned u=>exact⟨_,keep u,he⟩
       | panicked c=>exact False.elim he
       | outgrown=>exact absurd he QB)
    case row row args=>exact Rows.mono h (fun u pz he=>⟨_,keep u,he⟩)
   | halt x w'=>cases x<;>simp only[Oper.upon] at h ⊢<;>exact h
 rename_i hw;rw[Lj hw] at h;exact⟨_,keep undef,h⟩
theorem vB{i:Nat}{o:Oper}{v:Au}{a:Act}{w:Ba}(hi:ak[i]?=J o)(hy:YieldsAt P ak w o v a){K:Act->Ba->Prop}(h:K (a.put o.dst v) w):Xw P ak i K a w:=by
 refine⟨o,hi,?_⟩;rcases hy with ⟨hw,hv | ⟨hv,rfl⟩ | ⟨f,args,hv,hc⟩⟩ | ⟨hw,rfl⟩
 . rw[Ln hw];unfold Oper.wp;rw[hv];exact h
 . rw[Ln hw];unfold Oper.wp;rw[hv];exact h
 . rw[Ln hw];unfold Oper.wp;rw[hv]
   exact hc.mono fun e pz ⟨he,cx⟩=>by subst he;subst cx;exact h
 rw[Lj (by rw[hw];decide)];exact h
theorem Zg{F:List Nat}{Q:Act->Ba->Prop}{i:Nat}{oi:Oper}(hF:i∈F)(hi:ak[i]?=J oi)(BD:∀(j:Nat) (o:Oper) cs b,ak[j]?=J o->o.op≠.select cs b) :
  ∀(fuel:Nat) (af:Array Bool) (Kp:Ba->Prop) (a a1:Act) (w:Ba),
   (∀j oj,ak[j]?=J oj->j≠i->af.getD j Av=Ax->(∀e∈oj.after,Region.binds md e=Av->e.on≠i)->oi.apart ak oj=Av) ->
   Closed md ak af->i∈Region.ready md ak af->FloatTo P ak Kp oi a a1->Kp w ->
   uA P md ak F Q fuel (af.setIfInBounds i Av) Kp a1 w->uA P md ak F Q (fuel+1) af Kp a w:=by
 intro fuel
 induction fuel with
 | zero=>
  intro af Kp a a1 w _ _ hr hy hk H;refine⟨fun h=>(by rw[h] at hr;cases hr),fun j hj=>?_⟩
  by_cases ny:j=i
  . subst ny
    obtain⟨v,hv,rfl⟩:=hy w hk;exact vB hi hv ⟨Kp,.inl fun _ h=>h,hk,H⟩
  . have:=ready_mono hj ny
    rw[H.1] at this
    cases this
 | succ fuel ih=>
  intro af Kp a a1 w pR bk hr hy hk H;refine⟨fun h=>(by rw[h] at hr;cases hr),fun j hj=>?_⟩
  by_cases ny:j=i
  . subst ny
    obtain⟨v,hv,rfl⟩:=hy w hk;exact vB hi hv ⟨Kp,.inl fun _ h=>h,hk,H⟩
  . have h1:=H.2 j (ready_mono hj ny)
    obtain⟨Ca,oj,r8,aj⟩:=RD.1 hj
    have F8:∀e∈oj.after,Region.binds md e=Av->e.on≠i:=fun e he hb fa=>by
     have h1:=aj e he hb;have h0:=(RD.1 hr).1;rw[fa] at h1;rcases Nat.lt_or_ge i af.size with h' | h'
     . simp[h'] at h0 h1;rw[h0] at h1;cases h1
     . simp[Array.getElem?_eq_none h'] at h1
    have h2:=kpOp_put r8 (pR j oj r8 ny Ca F8) (fun cs b=>BD i oi cs b hi) (fun cs b=>BD j oj cs b r8) hy hk h1
    have sw:∀k ok,ak[k]?=J ok->k≠i->(af.setIfInBounds j Av).getD k Av=Ax ->
      (∀e∈ok.after,Region.binds md e=Av->e.on≠i)->oi.apart ak ok=Av:=fun k ok hk TS Ml eU=>by
     refine pR k ok hk TS ?_ eU
     by_cases Gp:j=k
     . subst Gp;exact Ca
     . rw[getD_set_ne Av Gp] at Ml;exact Ml
    have TC:ZX md ak F j=Av->False:=fun Eg=>by
     have h1:=ZW bk hj Eg hF;have h0:=(RD.1 hr).1;rcases Nat.lt_or_ge i af.size with h' | h'
     . simp[h'] at h0 h1;rw[h0] at h1;cases h1
     . simp[Array.getElem?_eq_none h'] at h1
    refine gJ (fun a' w' ⟨EU,hf,dP,lh,cX,h3⟩=>⟨dP,lh,cX,ih (af.setIfInBounds j Av) dP a' EU w' sw (bk.set hj) (ready_mono hr (PC ny)) (hf.less (lh.resolve_right TC)) cX ?_⟩) h2;rw[Array.setIfInBounds_comm _ _ ny];exact h3
def qy(P:Program)(md:Region.Mode)(ak:Array Oper)(F:List Nat)(Q:Act->Ba->Prop):List (Nat×Bool)->(Ba->Prop)->Act->Ba->Prop
 | [],_,a,w=>Q a w
 | (i,Av)::r,Kp,a,w=>∃o a1,ak[i]?=J o/\FloatTo P ak Kp o a a1/\qy P md ak F Q r Kp a1 w
 | (i,Ax)::r,Kp,a,w=>Xw P ak i (fun a' w'=>∃dP:Ba->Prop,((∀W,dP W->Kp W)\/ZX md ak F i=Av)/\dP w'/\qy P md ak F Q r dP a' w') a w
def Xo(md:Region.Mode)(ak:Array Oper)(F:List Nat):List (Nat×Bool)->Array Bool->Bool
 | [],af=>(Region.ready md ak af).isEmpty
 | (i,Av)::r,af=>F.contains i&&(Region.ready md ak af).contains i&&Region.free md ak af i&&Xo md ak F r (af.setIfInBounds i Av)
 | (i,Ax)::r,af=>decide (Region.ready md ak af=[i])&&Xo md ak F r (af.setIfInBounds i Av)
theorem ji{F:List Nat}{Q:Act->Ba->Prop}(hs:Region.noSelect ak=Av):∀(l:List (Nat×Bool)) (af:Array Bool) (Kp:Ba->Prop) (a:Act) (w:Ba),
  Xo md ak F l af=Av->Closed md ak af->Kp w->qy P md ak F Q l Kp a w->uA P md ak F Q l.length af Kp a w
 | [],_,_,_,_,hB,_,_,h=>⟨by simpa[Xo] using hB,h⟩
 | (i,Av)::l,af,Kp,a,w,hB,bk,hk,h=>by
  simp only[Xo,Bool.and_eq_true] at hB;obtain⟨o,a1,ho,hf,h⟩:=h;have hr:i∈Region.ready md ak af:=by simpa using hB.1.1.2
  exact Zg (by simpa using hB.1.1.1) ho (Region.noSelect_spec hs) l.length af Kp a a1 w (Region.free_spec ho hB.1.2) bk hr hf hk (ji hs l _ Kp a1 w hB.2 (bk.set hr) hk h)
 | (i,Ax)::l,af,Kp,a,w,hB,bk,hk,h=>by
  simp only[Xo,Bool.and_eq_true,decide_eq_true_eq] at hB;refine⟨fun h1=>(by rw[hB.1] at h1;cases h1),fun j hj=>?_⟩;rw[hB.1] at hj;have ny:j=i:=by simpa using hj
  subst ny;exact gJ (fun a' w' ⟨dP,lh,cX,h3⟩=>⟨dP,lh,cX,ji hs l _ dP a' w' hB.2 (bk.set (by rw[hB.1];simp)) cX h3⟩) h
def jL(l:List (Nat×Bool)):List Nat:=l.filterMap fun x=>if x.2 then J x.1 else Z
theorem YE:Closed md ak (Array.replicate ak.size Ax):=fun j _ _ h=>by rw[Rb] at h;cases h
def Zz(md:Region.Mode)(ak:Array Oper)(l:List (Nat×Bool)):Bool:=Region.noSelect ak&&Xo md ak (jL l) l (Array.replicate ak.size Ax)&&l.length==ak.size
theorem QS{Q:Exit->Act->Ba->Prop}{a:Act}{w:Ba}{xs:List Oper}(l:List (Nat×Bool))(Kp:Ba->Prop)(hB:Zz .any xs.toArray l=Av)
  (h0:Kp w) (h:qy P .any xs.toArray (jL l) (fun a' w'=>Q .normal a' w') l Kp a w):wpAny P .any xs.toArray Q xs.toArray.size (Array.replicate xs.toArray.size Ax) a w:=by
 unfold Zz at hB;simp only[Bool.and_eq_true,beq_iff_eq] at hB;have:=ji (md:=.any) hB.1.1 l _ Kp a w hB.1.2 YE h0 h;rw[hB.2] at this;exact jh (fun _ _ h=>h) _ _ _ _ _ this
theorem zE{id:Nat}{Q:Exit->Act->Ba->Prop}{a:Act}{w:Ba}{xs:List Oper}(l:List (Nat×Bool))(Kp:Ba->Prop)(hm:P.follows .mixedOrders=Av)(hB:Zz .any xs.toArray l=Av)
  (h0:Kp w.drew) (h:qy P .any xs.toArray (jL l) (fun a' w'=>Q .normal a' w') l Kp a w.drew):(Code.region id xs.toArray Av).wp P Q a w:=
 wp_region_any hm (QS l Kp hB h0 h)
theorem va{id k l0:Nat}{Q:Exit->Act->Ba->Prop}{a:Act}{w:Ba}{xs:List Oper}(l:List (Nat×Bool))(Kp:Ba->Prop)(hm:P.follows .mixedOrders=Av)(hd:ut xs.toArray=Av)(hB:Zz .any xs.toArray l=Av)(eU:¬LetsOut Q)
  (h0:Kp w.drew) (h:qy P .any xs.toArray (jL l) (fun a' w'=>Q .normal a' w') l Kp a w.drew):(Code.region id xs.toArray Av).wpIn (Fence.wide.inRound l0) k P Q a w:=
 wpIn_region_any hm (qM hd eU _ _ _ _ (QS l Kp hB h0 h))
theorem zX{F:List Nat}{Q:Act->Ba->Prop}{i:Nat}{r:List (Nat×Bool)}{Kp:Ba->Prop}{a a1:Act}{w:Ba}{o:Oper}(ho:ak[i]?=J o)
  (h:∀(K:Act->Prop),K a1->∀W,Kp W->if Region.wanted o (yielded ak a.tmps)=Av then o.still P a W K else K (a.put o.dst undef))
  (k:qy P md ak F Q r Kp a1 w):qy P md ak F Q ((i,Av)::r) Kp a w:=by
 refine⟨o,a1,ho,fun W hW=>?_,k⟩;have h2:=h (fun x=>x=a1) rfl W hW;have h3:stOp P ak W i (fun x=>x=a1) a:=by unfold stOp;simp only[ho];exact h2
 obtain⟨v,hv,he⟩:=yieldsAt_of_stOp ho h3;exact⟨v,hv,he⟩
theorem zG{F:List Nat}{Q:Act->Ba->Prop}{i:Nat}{r:List (Nat×Bool)}{Kp:Ba->Prop}{a:Act}{w:Ba}{o:Oper}(ho:ak[i]?=J o)
  (h:∀K:Act->Ba->Prop,(∀a' w',Kp w'->qy P md ak F Q r Kp a' w'->K a' w')->if Region.wanted o (yielded ak a.tmps)=Av then o.wp P a w K Qf else K (a.put o.dst undef) w):qy P md ak F Q ((i,Ax)::r) Kp a w:=
 ⟨o,ho,h _ fun _ _ hk h3=>⟨Kp,.inl fun _ h=>h,hk,h3⟩⟩
theorem yh{F:List Nat}{Q:Act->Ba->Prop}{Kp:Ba->Prop}{a:Act}{w:Ba}(h:Q a w):qy P md ak F Q [] Kp a w:=h
theorem xb{F:List Nat}{Q:Act->Ba->Prop}{i:Nat}{r:List (Nat×Bool)}{Kp:Ba->Prop}{a:Act}{w:Ba}{o:Oper}(ho:ak[i]?=J o)(hs:ZX md ak F i=Av)
  (h:∀K:Act->Ba->Prop,(∀(dP:Ba->Prop) a' w',dP w'->qy P md ak F Q r dP a' w'->K a' w')->if Region.wanted o (yielded ak a.tmps)=Av then o.wp P a w K Qf else K (a.put o.dst undef) w):qy P md ak F Q ((i,Ax)::r) Kp a w:=
 ⟨o,ho,h _ fun dP _ _ hk h2=>⟨dP,.inr hs,hk,h2⟩⟩
end
end
section
open Go.RowKit
def zI(a:Ad):Nat->Int->Nat
 | 0,_=>1
 | k+1,s=>((a.at_ s).map fun m=>zI a k m.to).sum
def yw(L x:Nat):Nat:=min x (L+1)
def cl(a:Ad)(L k s:Nat):List Int:=(List.range s).map fun (j:Nat)=>((yw L (zI a k (j:Int)):Nat):Int)
theorem qT(a:Ad)(L k s:Nat):(cl a L k s).length=s:=by unfold cl;simp
theorem QM(a:Ad)(L k s:Nat):cl a L k (s+1)=cl a L k s++[((yw L (zI a k (s:Int)):Nat):Int)]:=by
 unfold cl;rw[NH,LH];rfl
theorem wI(a:Ad)(L k s j:Nat)(h:j<(cl a L k s).length):(cl a L k s)[j]=((yw L (zI a k (j:Int)):Nat):Int):=by
 simp[cl]
def qz(a:Ad)(k:Nat)(M:List Mv)(j:Nat):Nat:=((M.take j).map fun m=>zI a k m.to).sum
theorem YZ(a:Ad)(k:Nat)(M:List Mv):qz a k M 0=0:=by unfold qz;rw[LO];rfl
theorem Y0(a:Ad)(k:Nat)(M:List Mv){j:Nat}(h:j<M.length):qz a k M (j+1)=qz a k M j+zI a k M[j].to:=by
 unfold qz;rw[Lu h,LH,RM];simp
theorem Jb(a:Ad)(k:Nat){s:Nat}(h:s<a.sts.length):qz a k a.sts[s] (a.sts[s].length)=zI a (k+1) (s:Int):=by
 unfold qz;rw[zI,LJ,show a.at_ (s:Int)=a.sts[s] by unfold Ad.at_;rw[Lv,Lf,Lg h];rfl]
theorem j7(L x:Nat):yw L x<=L+1:=Nat.min_le_right _ _
theorem Qv(L x y:Nat):min (yw L x+yw L y) (L+1)=yw L (x+y):=by unfold yw;omega
theorem ZY(L:Nat):yw L 0=0:=by unfold yw;omega
theorem Qt(L:Nat):yw L 1=1:=by unfold yw;omega
theorem sat_gt(L x:Nat):(L<yw L x)↔L<x:=by unfold yw;omega
theorem sat_eq{L x:Nat}(h:x<=L):yw L x=x:=by unfold yw;omega
theorem Qu(L c x:Nat)(hc:1<=c):(L<c*yw L x)↔L<c*x:=by
 unfold yw
 by_cases h:x<=L+1
 . rw[P8 h]
 rw[Nat.min_eq_right (by omega)];have h1:1*(L+1)<=c*(L+1):=N8 _ hc;have h2:c*(L+1)<=c*x:=Nat.mul_le_mul_left _ (by omega);constructor<;>intro _<;>omega
def zo(a:Ad):Nat->Int->List (List Rd)
 | 0,_=>[[]]
 | k+1,s=>(a.at_ s).flatMap fun m=>(zo a k m.to).map (m.r::·)
theorem yc(a:Ad):∀(k:Nat) (s:Int),(zo a k s).length=zI a k s
 | 0,_=>rfl
 | k+1,s=>by
  rw[zo,zI,List.length_flatMap]
  congr 1
  exact Pf fun m _=>by rw[LE,yc a k m.to]
theorem yK(a:Ad):∀(k:Nat) (s:Int),∀w∈zo a k s,w.length=k
 | 0,_,w,h=>by simp[zo] at h;subst h;rfl
 | k+1,s,w,h=>by
  rw[zo] at h;obtain⟨m,_,hm⟩:=Ns.1 h;obtain⟨w',hw,rfl⟩:=LG.1 hm;rw[Lx,yK a k m.to w' hw]
theorem at_mem{a:Ad}{s:Int}{m:Mv}(h:m∈a.at_ s):m∈a.mvs:=by
 unfold Ad.at_ at h;unfold Ad.mvs;rw[Lf] at h
 cases hc:a.sts[s.toNat]? with
 | none=>rw[hc] at h;cases h
 | some l=>rw[hc] at h;exact Nr.2 ⟨l,N9 hc,h⟩
theorem qP(a:Ad):∀(k:Nat) (s:Int),∀w∈zo a k s,∀r∈w,∃m∈a.mvs,m.r=r
 | 0,_,w,h,r,hr=>by simp[zo] at h;subst h;cases hr
 | k+1,s,w,h,r,hr=>by
  rw[zo] at h;obtain⟨m,TH,hm⟩:=Ns.1 h;obtain⟨w',hw,rfl⟩:=LG.1 hm;rcases LQ.1 hr with rfl | hr
  . exact⟨m,at_mem TH,rfl⟩
  . exact qP a k m.to w' hw r hr
def zN(r:Rd)(p:Nat)(now:List Int)(q:Nat):Int:=if q<now.length/\(r.h p).toNat.testBit q=Av then now.getD q 0 else -1
def xz(r:Rd)(k p:Nat)(now:List Int):Vw:=⟨p,k,0,zN r p now 0,zN r p now 1,zN r p now 2,zN r p now 3,zN r p now 4⟩
def yq(p:Nat)(i:Int):Vw:=⟨p,0,i,-1,-1,-1,-1,-1⟩
def xF(vs:List Vw)(v:Vw):List Vw×Int:=if v∈vs then (vs,qp vs v) else (vs++[v],vs.length)
theorem Yb{vs:List Vw}{v:Vw}(h:v∈vs):xF vs v=(vs,qp vs v):=Ln h
theorem QC{vs:List Vw}{v:Vw}(h:v∉vs):xF vs v=(vs++[v],(vs.length:Int)):=Lj h
theorem putW_len(vs:List Vw)(v:Vw):(xF vs v).1.length<=vs.length+1:=by
 unfold xF;split<;>simp
def zP(f:Nat->Vw)(vs:List Vw):Nat->List Vw×List Int
 | 0=>(vs,[])
 | p+1=>((xF (zP f vs p).1 (f p)).1,(zP f vs p).2++[(xF (zP f vs p).1 (f p)).2])
theorem yY(f:Nat->Vw)(vs:List Vw):∀p,(zP f vs p).2.length=p
 | 0=>rfl
 | p+1=>by rw[zP,Lq,yY f vs p];rfl
theorem qB(f:Nat->Vw)(vs:List Vw):∀p,(zP f vs p).1.length<=vs.length+p
 | 0=>by simp[zP]
 | p+1=>by
  have h:=qB f vs p;have h2:=putW_len (zP f vs p).1 (f p);rw[zP];dsimp only;omega
def zk(vs:List Vw)(n:Nat)(inp:List Int)(word:List Rd):Nat->List Vw×List (List Int)
 | 0=>((zP (fun p=>yq p (inp.getD p 0)) vs n).1,[(zP (fun p=>yq p (inp.getD p 0)) vs n).2])
 | j+1=>((zP (fun p=>xz (word.getD j default) (j+1) p ((zk vs n inp word j).2.getD j [])) (zk vs n inp word j).1 n).1,
   (zk vs n inp word j).2++[(zP (fun p=>xz (word.getD j default) (j+1) p ((zk vs n inp word j).2.getD j [])) (zk vs n inp word j).1 n).2])
theorem zW(vs:List Vw)(n:Nat)(inp:List Int)(word:List Rd):∀j,(zk vs n inp word j).2.length=j+1
 | 0=>rfl
 | j+1=>by rw[zk,Lq,zW vs n inp word j];rfl
theorem qC(vs:List Vw)(n:Nat)(inp:List Int)(word:List Rd):∀j,(zk vs n inp word j).1.length<=vs.length+(j+1)*n
 | 0=>by rw[zk];have:=qB (fun p=>yq p (inp.getD p 0)) vs n;simpa using this
 | j+1=>by
  have h:=qC vs n inp word j;have h2:=qB (fun p=>xz (word.getD j default) (j+1) p ((zk vs n inp word j).2.getD j [])) (zk vs n inp word j).1 n;rw[zk,Py (j+1) 1 n];dsimp only;omega
theorem qe(vs:List Vw)(n:Nat)(inp:List Int)(word:List Rd):∀j,∀l∈(zk vs n inp word j).2,l.length=n
 | 0,l,h=>by rw[zk] at h;simp at h;subst h;exact yY _ _ _
 | j+1,l,h=>by
  rw[zk] at h;rcases LR.1 h with h | h
  . exact qe vs n inp word j l h
  . simp at h;subst h;exact yY _ _ _
def zl(p:Pb):List (Nat×List Rd):=(List.range p.t.cases.length).flatMap fun i=>(zo p.a p.k.toNat 0).map fun w=>(i,w)
def yA(p:Pb)(i:Nat):List Int:=(p.t.cases.getD i default).inp
def zn(p:Pb)(l:List (Nat×List Rd)):List Vw×List Exn:=
 l.foldl (fun s x=>((zk s.1 p.t.n.toNat (yA p x.1) x.2 x.2.length).1,s.2++[⟨x.1,x.2,(zk s.1 p.t.n.toNat (yA p x.1) x.2 x.2.length).2⟩])) ([],[])
theorem jF(p:Pb):zn p []=([],[]):=rfl
theorem xY(p:Pb)(l:List (Nat×List Rd))(x:Nat×List Rd):zn p (l++[x]) =
  ((zk (zn p l).1 p.t.n.toNat (yA p x.1) x.2 x.2.length).1,(zn p l).2++[⟨x.1,x.2,(zk (zn p l).1 p.t.n.toNat (yA p x.1) x.2 x.2.length).2⟩]):=by
 unfold zn;rw[List.foldl_append];rfl
def xS:Sy:=⟨⟨⟨0,0,0,[]⟩,⟨0,[]⟩,0⟩,0,[],[]⟩
def zL(p:Pb):Sy:=⟨p,p.t.n,(zn p (zl p)).1,(zn p (zl p)).2⟩
end
section
open Go.RowKit
def RowX{α:Type}(C:Ct α)(S:Nat->Prop)(w:Ba)(g:Nat)(xs:List α):Prop:=
 ∃dn,w.heap[g]?=J (Ah dn C.K.e (0,0))/\∀(i:Nat) (hi:i<xs.length),∃cs,C.lies (fun k=>S k/\k≠g) w cs xs[i]/\∀j u,cs[j]?=J u->dn[i*C.K.size+j]?=J u
section
variable {α:Type} {C:Ct α} {S S':Nat->Prop} {w w':Ba} {g:Nat} {xs:List α}
theorem RowX.keep(ok:CtOk C)(h:RowX C S w g xs)(hk:KeepB (fun k=>S k/\k≠g) w w')(hg:w'.heap[g]?=w.heap[g]?):RowX C S w' g xs:=by
 obtain⟨dn,h1,h2⟩:=h;refine⟨dn,hg.trans h1,fun i hi=>?_⟩;obtain⟨cs,h3,h4⟩:=h2 i hi;exact⟨cs,ok.keep h3 hk,h4⟩
theorem RowX.below(ok:CtOk C){B:Nat}(h:RowX C S w g xs)(hb:Ao B w w')(hB:w.heap.size<=B):RowX C S w' g xs:=
 h.keep ok ⟨hb.size,fun k _ hk=>hb.block k (by omega)⟩ (hb.block g (by obtain⟨dn,h1,_⟩:=h;have:=zd h1;omega))
theorem RowX.mono(ok:CtOk C)(h:RowX C S w g xs)(hm:∀k,k<w.heap.size->S k->S' k):RowX C S' w g xs:=by
 obtain⟨dn,h1,h2⟩:=h;refine⟨dn,h1,fun i hi=>?_⟩;obtain⟨cs,h3,h4⟩:=h2 i hi;exact⟨cs,ok.mono h3 fun k hk hs=>⟨hm k hk hs.1,hs.2⟩,h4⟩
theorem RowX.lt(h:RowX C S w g xs):g<w.heap.size:=by obtain⟨dn,h1,_⟩:=h;exact zd h1
theorem RowX.other(ok:CtOk C)(h:RowX C S w g xs){b:Nat}(o:Nat)(v:Au)(hb:b≠g)(hS:¬S b):RowX C S (w.setCell ⟨b,o,Z⟩ v) g xs:=
 h.keep ok (KeepB.setCell (fun h=>hS h.1) v) (Le w ⟨b,o,Z⟩ v g (fun e=>hb e.symm))
theorem RowX.of_own(ok:CtOk C){aa n cap:Nat}{v:Au}{cs:List Au}(h:OwnR C.K w aa v n cs)(hv:v=I (J ⟨g,0,Z⟩) n cap)(_hn:xs.length=n)
  (hc:∀(i:Nat) (hi:i<xs.length),∃d,C.lies (fun k=>S k/\k≠g) w d xs[i]/\∀j u,d[j]?=J u->cs[i*C.K.size+j]?=J u):RowX C S w g xs:=by
 have:=ok;subst hv;rcases h.2 with ⟨e,_⟩ | ⟨g',aF,cur,e,_,hg,_,_,_,ht⟩
 . cases e
 cases e
 refine⟨cur,hg,fun i hi=>?_⟩;obtain⟨d,h1,h2⟩:=hc i hi;refine⟨d,h1,fun j u hu=>?_⟩;have h3:=h2 j u hu;rw[<-ht,Rp] at h3
 split at h3
 . simpa using h3
 cases h3
end
theorem RowX.set3{S:Nat->Prop}{w:Ba}{g:Nat}{xs:List Cs}(h:RowX cCs S w g xs){i:Nat}(hi:i<xs.length){v0 v1 v2:Au}(hl:cCs.lies (fun k=>S k/\k≠g) w [v0,v1,v2] xs[i]) :
  RowX cCs S (((w.setCell ⟨g,i*3,Z⟩ v0).setCell ⟨g,i*3+1,Z⟩ v1).setCell ⟨g,i*3+2,Z⟩ v2) g xs:=by
 obtain⟨dn,h1,h2⟩:=h;have k1:=Lk w g (i*3) dn _ v0 h1;have k2:=Lk _ g (i*3+1) _ _ v1 k1;have k3:=Lk _ g (i*3+2) _ _ v2 k2
 have hk:KeepB (fun k=>S k/\k≠g) w (((w.setCell ⟨g,i*3,Z⟩ v0).setCell ⟨g,i*3+1,Z⟩ v1).setCell ⟨g,i*3+2,Z⟩ v2):=
  ((KeepB.setCell (a:=⟨g,i*3,Z⟩) (fun h=>h.2 rfl) v0).trans (KeepB.setCell (a:=⟨g,i*3+1,Z⟩) (fun h=>h.2 rfl) v1)).trans (KeepB.setCell (a:=⟨g,i*3+2,Z⟩) (fun h=>h.2 rfl) v2)
 refine⟨_,k3,fun i' dT=>?_⟩
 by_cases e:i'=i
 . subst e
   obtain⟨cs,h3,h4⟩:=h2 i' dT;have aC:=xu.len h3
   have hb:i'*3+2<dn.size:=by
    have hc2:2<cs.length:=by rw[aC];show 2<3;omega
    have:=h4 2 cs[2] (Lg hc2);exact(Li.1 this).1
   refine⟨[v0,v1,v2],xu.keep hl hk,fun j u hu=>?_⟩;change (((dn.setIfInBounds (i'*3) v0).setIfInBounds (i'*3+1) v1).setIfInBounds (i'*3+2) v2)[i'*3+j]?=J u
   match j,hu with
   | 0,hu=>cases hu;rw[LY (by omega),LY (by omega),Pp,NM (by omega)]
   | 1,hu=>cases hu;rw[LY (by omega),NM (by simp;omega)]
   | 2,hu=>cases hu;rw[NM (by simp;omega)]
 obtain⟨cs,h3,h4⟩:=h2 i' dT;refine⟨cs,xu.keep h3 hk,fun j u hu=>?_⟩;have hj:j<3:=by have:=(Lo.1 hu).1;rw[xu.len h3] at this;exact this
 have h5:=h4 j u hu;change dn[i'*3+j]?=J u at h5;change (((dn.setIfInBounds (i*3) v0).setIfInBounds (i*3+1) v1).setIfInBounds (i*3+2) v2)[i'*3+j]?=J u;rw[LY (by omega),LY (by omega),LY (by omega)];exact h5
theorem RowX.set1{α:Type}{C:Ct α}(ok:CtOk C)(ES:C.K.size=1){S:Nat->Prop}{w:Ba}{g:Nat}{xs:List α}(h:RowX C S w g xs){i:Nat}(hi:i<xs.length){v0:Au}(hl:C.lies (fun k=>S k/\k≠g) w [v0] xs[i]) :
  RowX C S (w.setCell ⟨g,i,Z⟩ v0) g xs:=by
 obtain⟨dn,h1,h2⟩:=h;have k1:=Lk w g i dn _ v0 h1;have hk:KeepB (fun k=>S k/\k≠g) w (w.setCell ⟨g,i,Z⟩ v0):=KeepB.setCell (a:=⟨g,i,Z⟩) (fun h=>h.2 rfl) v0;refine⟨_,k1,fun i' dT=>?_⟩;obtain⟨cs,h3,h4⟩:=h2 i' dT;have aC:=ok.len h3;rw[ES] at aC
 by_cases e:i'=i
 . subst e
   have hb:i'<dn.size:=by
    have:=h4 0 cs[0] (Lg (by omega));rw[ES] at this;have:=(Li.1 this).1;omega
   refine⟨[v0],ok.keep hl hk,fun j u hu=>?_⟩;have hj:j=0:=by have:=(Lo.1 hu).1;simp at this;omega
   subst hj
   cases hu
   rw[ES,N0,Pp,NM hb]
 refine⟨cs,ok.keep h3 hk,fun j u hu=>?_⟩;have hj:j=0:=by have:=(Lo.1 hu).1;omega
 subst hj;have h5:=h4 0 u hu;rw[ES,N0,Pp] at h5 ⊢;rw[LY (by omega)];exact h5
theorem RowX.cat{S:Nat->Prop}{w:Ba}{g:Nat}{xs:List Cs}(h:RowX cCs S w g xs):CAt w w.heap.size (J ⟨g,0,Z⟩) xs:=fun _=>by
 obtain⟨dn,h1,h2⟩:=h;refine⟨g,0,rfl,zd h1,fun i hi=>?_⟩;obtain⟨cs,⟨A0,c0,A1,c1,A2,c2,rfl,sq,dK,ew⟩,h4⟩:=h2 i hi;refine⟨_,_,_,?_,?_,?_,⟨A0,c0,rfl,sq.iat⟩,⟨A1,c1,rfl,dK.lat⟩,⟨A2,c2,rfl,ew.lat⟩⟩
 . rw[LN];exact za h1 _ (h4 0 _ rfl)
 . rw[LN];exact za h1 _ (h4 1 _ rfl)
 . rw[LN];exact za h1 _ (h4 2 _ rfl)
theorem RowX.sat{S:Nat->Prop}{w:Ba}{g:Nat}{xs:List (List Mv)}(h:RowX cMl S w g xs):SAt w w.heap.size (J ⟨g,0,Z⟩) xs:=fun _=>by
 obtain⟨dn,h1,h2⟩:=h;refine⟨g,0,rfl,zd h1,fun i hi=>?_⟩;obtain⟨cs,⟨A0,c0,rfl,sq⟩,h4⟩:=h2 i hi;refine⟨A0,c0,?_,sq.mat⟩;have:=h4 0 _ rfl;change dn[i*1+0]?=_ at this;rw[LN];exact za h1 _ (by rw[<-this];congr 1;omega)
theorem CAt.raw{w:Ba}{B:Nat}{A:Bb}{xs:List Cs}(h:CAt w B A xs)(hB:B<=w.heap.size):∃cs:List Au,cs.length=xs.length*3/\Raw w A xs.length cs/\(∀u∈cs,u.oneCell'=Av) /\
  ∀(i:Nat) (hi:i<xs.length),∃d,cCs.lies (fun k=>k<B) w d xs[i]/\∀j u,d[j]?=J u->cs[i*3+j]?=J u:=by
 have key:∀n,n<=xs.length->∃aD:List (List Au),aD.length=n/\(∀c∈aD,c.length=3/\∀u∈c,u.oneCell'=Av)/\∀(i:Nat) (hi:i<n) (hx:i<xs.length),∃d,aD[i]?=J d/\cCs.lies (fun k=>k<B) w d xs[i] /\
   ∀b off,A=J ⟨b,off,Z⟩->∀j u,d[j]?=J u->w.cell? ⟨b,off+(i*3+j),Z⟩=J u:=by
  intro n
  induction n with
  | zero=>exact fun _=>⟨[],rfl,by simp,fun i hi=>absurd hi (by omega)⟩
  | succ n ih=>
   intro hn;obtain⟨aD,c1,c2,c3⟩:=ih (by omega);obtain⟨b,off,A0,k0,A1,k1,A2,k2,e,hb,x0,x1,x2,i0,l1,l2⟩:=h.row n (by omega);refine⟨aD++[[I A0 xs[n].inp.length k0,I A1 xs[n].out.length k1,I A2 xs[n].calm.length k2]],by simp[c1],?_,fun i hi hx=>?_⟩
   . intro c hc
     rcases LR.1 hc with hc | hc
     . exact c2 c hc
     . simp at hc;subst hc
       exact⟨rfl,fun u hu=>by simp at hu;rcases hu with rfl | rfl | rfl<;>rfl⟩
   . by_cases ei:i<n
     . obtain⟨d,d1,d2⟩:=c3 i ei hx
       exact⟨d,by rw[LX (by omega)];exact d1,d2⟩
     . obtain rfl:i=n:=by omega
       refine⟨_,by rw[LV (by omega),c1,NO];rfl,⟨A0,k0,A1,k1,A2,k2,rfl,IAtS.of_iat i0 hB (fun _ h=>h),LAtS.of_lat l1 hB (fun _ h=>h),LAtS.of_lat l2 hB (fun _ h=>h)⟩,fun b' eF e' j u hu=>?_⟩;rw[e] at e';cases e'
       match j,hu with
       | 0,hu=>cases hu;exact x0
       | 1,hu=>cases hu;exact x1
       | 2,hu=>cases hu;exact x2
 obtain⟨aD,c1,c2,c3⟩:=key xs.length (Lh _);have bj:∀c∈aD,c.length=3:=fun c hc=>(c2 c hc).1
 have pS:aD.flatten.length=xs.length*3:=by
  rw[List.length_flatten,<-c1];clear c3 c1
  induction aD with
  | nil=>rfl
  | cons c aD ih=>simp only[List.map_cons,List.sum_cons,List.length_cons];rw[ih (fun d hd=>c2 d (by simp[hd])) (fun d hd=>bj d (by simp[hd])),bj c (by simp)];omega
 refine⟨aD.flatten,pS,fun h0=>?_,fun u hu=>?_,fun i hi=>?_⟩
 . obtain⟨b,off,e,hb,_⟩:=h h0
   refine⟨b,off,e,by omega,fun j u hj=>?_⟩;have bg:j<xs.length*3:=by rw[<-pS];exact(Lo.1 hj).1
   have dT:j / 3<xs.length:=by omega
   obtain⟨d,d1,_,d3⟩:=c3 (j / 3) dT dT;have h8:j / 3*3+j % 3=j:=by omega
   have h9:=uw aD bj (j / 3) (by omega) (j % 3) (by omega);rw[h8,hj] at h9;obtain⟨_,d4⟩:=Lo.1 d1;rw[d4] at h9;have:=d3 b off e (j % 3) u h9.symm;rwa[h8] at this
 . obtain⟨c,hc,hu⟩:=Nr.1 hu
   exact(c2 c hc).2 u hu
 obtain⟨d,d1,d2,_⟩:=c3 i hi hi;refine⟨d,d2,fun j u hu=>?_⟩;have hj:j<3:=by have:=(Lo.1 hu).1;rw[xu.len d2] at this;exact this
 obtain⟨d5,d4⟩:=Lo.1 d1;rw[uw aD bj i d5 j hj,d4];exact hu
theorem SAt.raw{w:Ba}{B:Nat}{A:Bb}{xs:List (List Mv)}(h:SAt w B A xs)(hB:B<=w.heap.size):∃cs:List Au,cs.length=xs.length*1/\Raw w A xs.length cs/\(∀u∈cs,u.oneCell'=Av) /\
  ∀(i:Nat) (hi:i<xs.length),∃d,cMl.lies (fun k=>k<B) w d xs[i]/\∀j u,d[j]?=J u->cs[i*1+j]?=J u:=by
 have key:∀n,n<=xs.length->∃cs:List Au,cs.length=n/\(∀u∈cs,u.oneCell'=Av)/\∀(i:Nat) (hi:i<n) (hx:i<xs.length),∃A' c,cs[i]?=J (I A' xs[i].length c)/\MAtS (fun k=>k<B) w A' xs[i] /\
   ∀b off,A=J ⟨b,off,Z⟩->w.cell? ⟨b,off+i,Z⟩=J (I A' xs[i].length c):=by
  intro n
  induction n with
  | zero=>exact fun _=>⟨[],rfl,by simp,fun i hi=>absurd hi (by omega)⟩
  | succ n ih=>
   intro hn;obtain⟨cs,c1,c2,c3⟩:=ih (by omega);obtain⟨b,off,A',c,e,hb,x0,m0⟩:=h.at_ n (by omega);refine⟨cs++[I A' xs[n].length c],by simp[c1],?_,fun i hi hx=>?_⟩
   . intro u hu
     rcases LR.1 hu with hu | hu
     . exact c2 u hu
     . simp at hu;subst hu;rfl
   . by_cases ei:i<n
     . obtain⟨A2,k2,d1,d2⟩:=c3 i ei hx
       exact⟨A2,k2,by rw[LX (by omega)];exact d1,d2⟩
     . obtain rfl:i=n:=by omega
       refine⟨A',c,by rw[LV (by omega),c1,NO];rfl,MAtS.of_mat m0 hB (fun _ h=>h),fun b' eF e'=>?_⟩;rw[e] at e';cases e';exact x0
 obtain⟨cs,c1,c2,c3⟩:=key xs.length (Lh _);refine⟨cs,by omega,fun h0=>?_,c2,fun i hi=>?_⟩
 . obtain⟨b,off,e,hb,_⟩:=h h0
   refine⟨b,off,e,by omega,fun j u hj=>?_⟩;have bg:j<xs.length:=by rw[<-c1];exact(Lo.1 hj).1
   obtain⟨A',c,d1,_,d3⟩:=c3 j bg bg;rw[hj] at d1;cases d1;exact d3 b off e
 obtain⟨A',c,d1,d2,_⟩:=c3 i hi hi;refine⟨[I A' xs[i].length c],⟨A',c,rfl,d2⟩,fun j u hu=>?_⟩;have hj:j=0:=by have:=(Lo.1 hu).1;simp at this;omega
 subst hj
 cases hu
 rw[N0,Pp];exact d1
end
section
open Go.RowKit
def RowAt(w:Ba)(g:Nat)(xs:List Int):Prop:=w.heap[g]?=J (Ah (xs.map (O U)).toArray 3 (0,0))
theorem RowAt.cell{w:Ba}{g:Nat}{xs:List Int}(h:RowAt w g xs)(k:Nat)(hk:k<xs.length):w.cell? ⟨g,k,Z⟩=J (O U xs[k]):=za h k (by simp[hk])
theorem RowAt.froz{w:Ba}{g:Nat}{xs:List Int}(h:RowAt w g xs)(k:Nat):w.frozen? ⟨g,k,Z⟩=Ax:=zb h k
theorem RowAt.lt{w:Ba}{g:Nat}{xs:List Int}(h:RowAt w g xs):g<w.heap.size:=zd h
theorem RowAt.set{w:Ba}{g:Nat}{xs:List Int}(h:RowAt w g xs)(k:Nat)(u:Int):RowAt (w.setCell ⟨g,k,Z⟩ (O U u)) g (xs.set k u):=by
 unfold RowAt at *;rw[World.setCell,N6,Ln rfl,h];simp[List.map_set]
theorem zq(w:Ba)(c1:Array Au)(t1:TypeId):∃W0,w.alloc (Ah c1 t1)=W0/\W0.heap[w.heap.size]?=J (Ah c1 t1 (0,0))/\W0.heap.size=w.heap.size+1/\Ao w.heap.size w W0:=
 ⟨_,rfl,zg _ _,by simp,zt w _⟩
theorem yo(w:Ba)(g k:Nat)(v':Au):w.grownBy (w.setCell ⟨g,k,Z⟩ v') (J g):=
 ⟨rfl,rfl,rfl,by simp[World.setCell],fun j _ hj=>Le w ⟨g,k,Z⟩ v' j (fun e=>hj (by rw[e]))⟩
end
end Go.Proofs.YtkledihebeidlaaGreatDoor
