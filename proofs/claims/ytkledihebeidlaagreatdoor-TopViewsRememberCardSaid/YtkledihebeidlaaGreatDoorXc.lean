/- Merged. -/
import Derived.Test.YtkledihebeidlaaGreatDoorXb
import Derived.SizedLaws
import Derived.Laws.Bits64b
import Derived.OrdersIn
import Derived.OwnWalk
import Derived.Maps.AppendAt
import Derived.Laws.Pointers
import Derived.Deep.RegionLaw
import Derived.Laws.EntriesVeiled
import Derived.Lib.Walk
import Derived.Lib.SliceRun
import Derived.Deep.Cut
import Derived.Maps.Own
import Derived.Maps.OwnIn
open Go.Proofs.Tryz
open Go.Value renaming int->O,slice->I,bool->Ah,agg->Ai,pointer->Aj
open Go.IntKind renaming i64->U
open Option renaming none->Z,some->J
open Go.Obj renaming cells->Ag
open Go.Ending renaming returned->Ak
open Go.Proofs.Tryz renaming prog->Al,underlying118->PK,underlying22->PX,underlying119->PJ,underlying25->PW,underlying29->Pq,underlying31->PV,func66->RY,ntmps66->RF
open Go.RowKit renaming Below->Am,intOf->Ao,Hid->Ap
open Go renaming Calls->An,Value->Aq,run_equalIn_int->Ns,getD_replicate_false->Rl
open Bool renaming true->Ar,false->As
open List renaming mem_range->Ro
open Go.DataW renaming trod_int->Nh,trod_struct->N5
open Go.World renaming ownsRow_nil->PQ,news_of_block->Rr
open Go.World.ownsRow renaming kept->N9,alloc->Pk,lt->P7
open Go.RowKit.Below renaming setCell->Lv
namespace Go.Proofs.YtkledihebeidlaaGreatDoor
abbrev NE:=@List.take_of_length_le
abbrev Rn:=@Nat.mul_le_mul_right
abbrev Nn:=@Nat.zero_le
abbrev Ll:=@List.getElem?_eq_some_iff
abbrev Po:=@Go.World.block_lt_of_cell?
abbrev Ni:=@Go.Proofs.Tryz.underlying49
abbrev Nf:=@List.getElem_of_mem
abbrev N2:=@Go.Proofs.Tryz.underlying45
abbrev RD:=@List.getElem?_drop
abbrev Ry:=@decide_eq_true_iff
abbrev NA:=@Option.some.inj
abbrev RO:=@Go.Proofs.Tryz.underlying5
abbrev R6:=@Go.CallsIn.inRound
abbrev RI:=@Go.Oper.wp_mono
abbrev Ng:=@List.length_take
abbrev Ra:=@List.length_drop
abbrev PG:=@Go.mem_ready
abbrev Ri:=@Array.getElem?_eq_none
abbrev PF:=@Ne.symm
abbrev LO:=@List.eq_nil_of_length_eq_zero
abbrev Rc:=@Go.info_parts
abbrev N0:=@Go.wpList_append_own
abbrev LH:=@Nat.zero_add
abbrev L3:=@List.getElem?_append_left
abbrev LW:=@List.getElem?_append_right
abbrev Nm:=@List.mem_flatMap
abbrev NR:=@Go.Addr.add_lit
abbrev Np:=@Nat.eq_zero_or_pos
abbrev Pa:=@Go.World.grownBy.refl
abbrev Li:=@Go.heap_setCell_same
abbrev N7:=@Nat.mul_le_mul
abbrev Nd:=@Go.wpList_plain
abbrev NL:=@List.take_append_of_le_length
abbrev Rj:=@Nat.min_eq_left
abbrev PY:=@Nat.add_mul
abbrev P5:=@List.getElem_append_left
abbrev PP:=@List.getElem_append_right
abbrev PU:=@Go.Proofs.Tryz.underlying39
abbrev NX:=@Go.Lib.run_eql_slice_nil
abbrev N4:=@Go.Lib.cell?_alloc_some
abbrev N8:=@Go.World.ownsRow_made
abbrev PD:=@List.flatMap_append
abbrev RN:=@Go.results_cell_row
abbrev Pf:=@List.mem_of_getElem?
abbrev Pi:=@List.pairwise_iff_getElem
abbrev RR:=@List.getElem_set
abbrev LR:=@Array.getElem?_setIfInBounds_ne
abbrev R5:=@List.sum_append
abbrev Rs:=@List.map_congr_left
abbrev RK:=@List.foldl_append
set_option maxRecDepth 100000
set_option maxHeartbeats 4000000
section
open Go.RowKit
def qp(vs:List Vw)(v:Vw):Int:=if v∈vs then (vs.idxOf v:Int) else -1
theorem YO{vs:List Vw}{v:Vw}{k:Nat}(hk:k<vs.length)(hv:vs[k]=v)(hn:v∉vs.take k):qp vs v=k:=by
 have hm:v∈vs:=hv▸Le hk;unfold qp;rw[Lm hm];have h1:vs=vs.take k++vs.drop k:=(Rk k vs).symm;rw[h1,List.idxOf_append,Lk hn];have h2:vs.drop k=v::vs.drop (k+1):=by rw[<-hv];exact Lx hk
 rw[h2,List.idxOf_cons_self];simp;omega
theorem JY{vs:List Vw}{v:Vw}(hn:v∉vs):qp vs v=-1:=by unfold qp;rw[Lk hn]
theorem YN{vs:List Vw}{v:Vw}(hv:v∈vs):0<=qp vs v:=by unfold qp;rw[Lm hv];omega
theorem ZH{vs:List Vw}{v:Vw}{k:Nat}(hk:k<vs.length)(hv:vs[k]≠v)(hn:v∉vs.take k):v∉vs.take (k+1):=by
 rw[Ls hk,LM,not_or];exact⟨hn,by simpa using fun e=>hv e.symm⟩
theorem JX(n:Int)(A:Bb)(cap:Nat)(vs:List Vw)(v:Vw)(w:Ba)(B:Nat)(hB:B<=w.heap.size)(hA:VAt w B A vs)(hl:vs.length<=2199023255552) :
  An Al 147 #[Ai #[O U n,I A vs.length cap],.agg v.cells] w fun e w'=>e=Ak (O U (qp vs v))/\Am w.heap.size w w':=by
 have HB:=xk w;have HE:Ap (∀k (hk:k<vs.length) (X:Ba),(binOp .eql 100 (.agg vs[k].cells) (.agg v.cells)).run Al X=.ok (Ah (decide (vs[k]=v))) X):=fun k hk X=>eql_view vs[k] v X
 unfold Vw.cells at HE ⊢;go_enter func147,ntmps147;go_wp2
 go_loopw [5] (fun i wr=>∃k m:Nat,k<=vs.length/\i=O U k/\wr=((w.alloc (Ag #[O U n,I A vs.length cap] 33)).alloc (Ag #[O U v.p,O U v.r,O U v.i,O U v.h0,O U v.h1,O U v.h2,O U v.h3,O U v.h4] 100)).drewN m/\Ap (v∉vs.take k)) (fun i _=>vs.length-(Ao i).toNat)
 case atStart=>exact⟨0,0,by omega,rfl,rfl,by show v∉vs.take 0;simp⟩
 obtain⟨k,m,hk,rfl,rfl,ai⟩:=hrel
 by_cases aa:k<vs.length
 . obtain⟨b,off,rfl,aH,c0,c1,c2,c3,c4,c5,c6,c7⟩:=hA.row k aa
   have ae:b<w.heap.size:=by omega
   have oC:=HE.out k aa
   by_cases hv:vs[k]=v
   . have rU:∀X:Ba,_:=fun X=>(oC X).trans (by rw[Lo hv])
     have hz:Ap (qp vs v=k):=YO aa hv ai.out;clear oC hv;go_wp2;go_quiet (fail);go_wp2;go_ret;exact⟨zc hz.out.symm,by repeat (first | exact HB _ _ | refine zF ?_ _)⟩
   have rU:∀X:Ba,_:=fun X=>(oC X).trans (by rw[Lr hv])
   have hz:Ap (v∉vs.take (k+1)):=ZH aa hv ai.out;go_wp2;go_quiet (fail);go_wp2
   go_roundw
   case rel=>exact⟨k+1,_,by omega,by go_num,rfl,hz⟩
   simp[Ao];omega
 have hz:Ap (qp vs v=-1):=JY (by have:=ai.out;rwa[NE (by omega)] at this);go_wp2;go_ret;exact⟨zc hz.out.symm,by repeat (first | exact HB _ _ | refine zF ?_ _)⟩
theorem XZ{α:Type}{vs us:List α}{k:Nat}(hk:k<vs.length)(cX:k<us.length)(h:vs[k]≠us[k]):vs≠us:=by
 rintro rfl;exact h rfl
theorem Qt{α:Type}{vs us:List α}(hl:vs.length=us.length)(h:vs.take vs.length=us.take vs.length):vs=us:=by
 rw[LC] at h;rw[h,hl,LC]
theorem Jp{α:Type}{vs us:List α}{k:Nat}(hk:k<vs.length)(cX:k<us.length)(h:vs.take k=us.take k)(he:vs[k]=us[k]):vs.take (k+1)=us.take (k+1):=by
 rw[Ls hk,Ls cX,h,he]
theorem same_any(n n':Int)(A A':Bb)(cap aZ:Nat)(vs us:List Vw)(w:Ba)(B:Nat)(hB:B<=w.heap.size)(hA:VAt w B A vs)(GI:VAt w B A' us)(hl:vs.length<=2199023255552)(KT:us.length<=2199023255552) :
  An Al 97 #[Ai #[O U n,I A vs.length cap],Ai #[O U n',I A' us.length aZ]] w fun e w'=>e=Ak (Ah (decide (n=n'/\vs=us)))/\Am w.heap.size w w':=by
 have HB:=xk w;have HE:Ap (∀k (hk:k<vs.length) (cX:k<us.length) (X:Ba),(binOp .neq 100 (.agg vs[k].cells) (.agg us[k].cells)).run Al X=.ok (Ah (decide (vs[k]≠us[k]))) X):=fun k hk cX X=>neq_view vs[k] us[k] X
 unfold Vw.cells at HE
 by_cases hn:n=n'
 . by_cases bq:vs.length=us.length
   . have H:Ap (decide (n=n'/\vs=us)=decide (vs=us)):=by show decide (n=n'/\vs=us)=_;simp[hn]
     have HL:=zH bq;rw[H.out];have dT:(n != n')=As:=by simp[hn]
     have oq:((vs.length:Int) != (us.length:Int))=As:=by simp[bq]
     clear hn bq H;go_enter func97,ntmps97;go_wp2
     go_loopw [5] (fun i wr=>∃k m:Nat,k<=vs.length/\i=O U k/\wr=((w.alloc (Ag #[O U n,I A vs.length cap] 33)).alloc (Ag #[O U n',I A' us.length aZ] 33)).drewN m/\Ap (vs.take k=us.take k)) (fun i _=>vs.length-(Ao i).toNat)
     case atStart=>exact⟨0,0,by omega,rfl,rfl,by show vs.take 0=us.take 0;simp⟩
     obtain⟨k,m,hk,rfl,rfl,ai⟩:=hrel;have dJ:k<=us.length:=by have:=HL.out;omega
     by_cases aa:k<vs.length
     . have fJ:k<us.length:=by have:=HL.out;omega
       obtain⟨b,off,rfl,aH,c0,c1,c2,c3,c4,c5,c6,c7⟩:=hA.row k aa;have ae:b<w.heap.size:=by omega
       obtain⟨b',lU,rfl,TR,d0,d1,d2,d3,d4,d5,d6,d7⟩:=GI.row k fJ;have TQ:b'<w.heap.size:=by omega
       have oC:=HE.out k aa fJ
       by_cases hv:vs[k]=us[k]
       . have rU:∀X:Ba,_:=fun X=>(oC X).trans (by rw[Lr (by simpa using hv)])
         have hz:Ap (vs.take (k+1)=us.take (k+1)):=Jp aa fJ ai.out hv;clear oC hv;go_wp2;go_quiet (fail);go_wp2
         go_roundw
         case rel=>exact⟨k+1,_,by omega,by go_num,rfl,hz⟩
         simp[Ao];omega
       have rU:∀X:Ba,_:=fun X=>(oC X).trans (by rw[Lo hv])
       have hz:Ap (decide (vs=us)=As):=Lr (XZ aa fJ hv);go_wp2;go_quiet (fail);go_wp2;go_ret;exact⟨zg hz.out.symm,by repeat (first | exact HB _ _ | refine zF ?_ _)⟩
     obtain rfl:k=vs.length:=by omega
     have hz:Ap (decide (vs=us)=Ar):=Lo (Qt HL.out ai.out);go_wp2;go_ret;exact⟨zg hz.out.symm,by repeat (first | exact HB _ _ | refine zF ?_ _)⟩
   have hz:Ap (decide (n=n'/\vs=us)=As):=Lr (by rintro⟨_,rfl⟩;exact bq rfl);have dT:(n != n')=As:=by simp[hn]
   have oq:((vs.length:Int) != (us.length:Int))=Ar:=by simp;omega
   go_enter func97,ntmps97;go_wp2;go_ret;exact⟨zg hz.out.symm,by repeat (first | exact HB _ _ | refine zF ?_ _)⟩
 have hz:Ap (decide (n=n'/\vs=us)=As):=Lr (by rintro⟨h,_⟩;exact hn h);have dT:(n != n')=Ar:=by simpa using hn
 go_enter func97,ntmps97;go_wp2;go_ret;exact⟨zg hz.out.symm,by repeat (first | exact HB _ _ | refine zF ?_ _)⟩
end
section
open Go.RowKit
attribute [local go_sem] Oper.semAt_some
def Sy.vs_(s:Sy)(A:Bb)(kc:Nat)(SV:Bb)(ks:Nat)(AV:Bb)(kv:Nat)(AX:Bb)(kx:Nat):Array Aq:=
 #[O U s.p.t.n,O U s.p.t.ins,O U s.p.t.outs,I A s.p.t.cases.length kc,O U s.p.a.n,I SV s.p.a.sts.length ks,O U s.p.k,O U s.n,I AV s.vs.length kv,I AX s.xs.length kx]
structure LowS(s:Sy):Prop where
 fp:gC s.p
 fv:s.vs.length<=2199023255552
 fx:s.xs.length<=2199023255552
 fe:∀x∈s.xs,LowX x
structure SyAt(w:Ba)(B:Nat)(A SV AV AX:Bb)(s:Sy):Prop where
 fc:CAt w B A s.p.t.cases
 fs:SAt w B SV s.p.a.sts
 fv:VAt w B AV s.vs
 fx:XAt w B AX s.xs
theorem SyAt.keep{w w':Ba}{B:Nat}{A SV AV AX:Bb}{s:Sy}(h:SyAt w B A SV AV AX s)(hb:Am B w w'):SyAt w' B A SV AV AX s:=⟨h.fc.keep hb,h.fs.keep hb,h.fv.keep hb,h.fx.keep hb⟩
theorem SyAt.more{w:Ba}{B B':Nat}{A SV AV AX:Bb}{s:Sy}(h:SyAt w B A SV AV AX s)(hB:B<=B'):SyAt w B' A SV AV AX s:=⟨h.fc.more hB,h.fs.more hB,h.fv.more hB,h.fx.more hB⟩
theorem SyAt.up{w w':Ba}{A SV AV AX:Bb}{s:Sy}(h:SyAt w w.heap.size A SV AV AX s)(hb:Am w.heap.size w w'):SyAt w' w'.heap.size A SV AV AX s:=(h.keep hb).more hb.size
theorem sy_eq{a b:Sy}(h1:a.p=b.p)(h2:a.n=b.n/\a.vs=b.vs)(h3:a.xs=b.xs):a=b:=by cases a;cases b;simp_all
theorem Xx(a b:Sy)(ha:LowS a)(hb:LowS b)(A SA AV AX B SB BV BX:Bb)(ca sa av ax cb sb bv bx:Nat)(w:Ba)(hA:SyAt w w.heap.size A SA AV AX a)(hB:SyAt w w.heap.size B SB BV BX b) :
  An Al 57 #[.agg (a.vs_ A ca SA sa AV av AX ax),.agg (b.vs_ B cb SB sb BV bv BX bx)] w fun e w'=>e=Ak (Ah (decide (a=b)))/\Am w.heap.size w w':=by
 obtain⟨w1,af,d0,d1,aW,bE⟩:=yx w (a.vs_ A ca SA sa AV av AX ax) (b.vs_ B cb SB sb BV bv BX bx) 36 36;have mC:=hA.up bE;have ay:=hB.up bE;have Og:=zH (Xy a.p b.p ha.fp hb.fp A B SA SB ca cb sa sb w1 mC.fc ay.fc mC.fs ay.fs);have Hf:=zH (fun (W:Ba) (hW:Am w1.heap.size w1 W)=>same_any a.n b.n AV BV av bv a.vs b.vs W W.heap.size (Lh _) (mC.up hW).fv (ay.up hW).fv ha.fv hb.fv);have sK:=zH ha.fe;have oR:=zH hb.fe;have hax:=ha.fx;have aI:=hb.fx;have HA:=zH mC.fx;have HB:=zH ay.fx;unfold Pb.vs at Og;unfold Sy.vs_ at af d0 d1 ⊢;have aT:=zH bE;have aX:=zH d0;have bH:=zH d1;have au:=zH af;have q6:=za d1 6 rfl;clear af d0 d1 bE hA hB mC ay ha hb;have HT:Ap (a≠b->decide (a=b)=As):=fun h=>Lr h
 have HU:Ap (a=b->decide (a=b)=Ar):=fun h=>Lo h
 obtain⟨r,hr⟩:∃r,decide (a=b)=r:=⟨_,rfl⟩;rw[hr] at HT HU ⊢;clear hr;have HE:=zH (@sy_eq a b);go_enter func57,ntmps57;go_wp2_with fail;rw[au.out];go_wp2_with fail;refine Og.out.mono ?_;rintro e w2 ⟨rfl,ae⟩;have d0:=La ae aX.out;have d1:=La ae bH.out;have aN:=zH ae
 by_cases h1:a.p=b.p
 case neg=>
  have hR:=zH (HT.out (fun h=>h1 (congrArg Sy.p h)));rw[Lr h1];go_wp2_with fail
  all_goals
   go_ret;exact⟨zg hR.out.symm,Lc aT.out aN.out⟩
 case pos=>
 have al:=zH (HE.out h1);rw[Lo h1];have p7:=za d0 7 rfl;have p8:=za d0 8 rfl;have q7:=za d1 7 rfl;have q8:=za d1 8 rfl;go_wp2_with fail;refine(Hf.out w2 aN.out).mono ?_;rintro e w3 ⟨rfl,ak⟩;have cx:=zH (Lc aN.out ak);have d0:=La cx.out aX.out;have d1:=La cx.out bH.out
 by_cases h1:a.n=b.n/\a.vs=b.vs
 case neg=>
  have hR:=zH (HT.out (fun h=>h1 ⟨congrArg Sy.n h,congrArg Sy.vs h⟩));rw[Lr h1];go_wp2_with fail
  all_goals
   go_ret;exact⟨zg hR.out.symm,Lc aT.out cx.out⟩
 case pos=>
 have H3:Ap (a.xs=b.xs->r=Ar):=fun h=>HU.out (al.out h1 h)
 have H4:Ap (a.xs≠b.xs->r=As):=fun h=>HT.out (fun e=>h (congrArg Sy.xs e))
 rw[Lo h1];have p9:=za d0 9 rfl;have q9:=za d1 9 rfl
 by_cases h3:a.xs.length=b.xs.length
 case neg=>
  have hR:=zH (H4.out (fun h=>h3 (by rw[h])));have e0:((a.xs.length:Int) != (b.xs.length:Int))=Ar:=by simp;omega
  go_wp2_with fail
  all_goals
   go_ret;exact⟨zg hR.out.symm,Lc aT.out cx.out⟩
 case pos=>
 have HL:=zH h3;rw[<-h3] at q9 aI bH ⊢;go_wp2_with fail
 go_loopw [5] (fun i wr=>∃k:Nat,k<=a.xs.length/\i=O U (k:Int)/\Ap (a.xs.take k=b.xs.take k)/\Ap (Am w1.heap.size w1 wr)) (fun i _=>a.xs.length-(Ao i).toNat)
 case atStart=>exact⟨0,by omega,rfl,by rw[Ap,LQ,LQ],cx.out⟩
 obtain⟨k,hk,rfl,hp,aD⟩:=hrel;have p9:=za (La aD.out aX.out) 9 rfl;have q9:=za (La aD.out bH.out) 9 rfl
 by_cases aa:k<a.xs.length
 case neg=>
  obtain rfl:k=a.xs.length:=by omega
  have hR:=zH (H3.out (xQ HL.out hp.out));go_wp2_with fail;go_ret;exact⟨zg hR.out.symm,Lc aT.out aD.out⟩
 case pos=>
 have dm:k<b.xs.length:=by have:=HL.out;omega
 have ii:=aD.out.size;obtain⟨ba,oa,A1,c1,A2,c2,ea,Gf,a0,a1,a2,CI,CH⟩:=(HA.out.keep aD.out).row k aa;obtain⟨bb,ob,B1,n1,B2,n2,eb,aL,b0,b1,b2,CG,CF⟩:=(HB.out.keep aD.out).row k dm;subst ea;subst eb;have HC:=zH (fun (W:Ba) (hW:Am wr.heap.size wr W)=>Xv a.xs[k] b.xs[k] (sK.out _ (Le aa)) (oR.out _ (Le dm)) A1 A2 B1 B2 c1 c2 n1 n2 W (((CI.more ii).keep hW).more hW.size) (((CH.more ii).keep hW).more hW.size) (((CG.more ii).keep hW).more hW.size) (((CF.more ii).keep hW).more hW.size));have h0:Ap (a.xs[k]=b.xs[k]->a.xs.take (k+1)=b.xs.take (k+1)):=fun he=>xp hp.out aa dm he
 have hN:Ap (a.xs[k]≠b.xs[k]->r=As):=fun he=>H4.out (fun h=>he (by simp only[h]))
 obtain⟨X,hX⟩:=Kh (a.xs[k]);obtain⟨Y,hY⟩:=Kh (b.xs[k]);rw[hX] at a0 a1 a2 h0 hN HC;rw[hY] at b0 b1 b2 h0 hN HC;have cW:(0:Int)<=(k:Int):=by omega
 have cp:(k:Int)<(a.xs.length:Int):=by omega
 go_wp2_with fail
 go_still_tail 10,(by kernel_rfl)
 change wpList _ _ _ _ _ wr.drew;obtain⟨w4,nO⟩:∃w4,w4=wr.drew:=⟨_,rfl⟩;have eB:Ap (Am wr.heap.size wr w4):=by rw[nO];exact(Ln _ _).drew
 rw[<-nO];clear nO a0 a1 a2 b0 b1 b2 p9 q9 cW cp;go_wp2_with fail;refine(HC.out w4 eB.out).mono ?_;rintro e w5 ⟨rfl,bJ⟩;have ed:=zH (aD.out.trans ((Lc eB.out bJ).mono ii))
 by_cases t1:X=Y
 case neg=>
  have hR:=zH (hN.out t1);rw[Lr t1];go_wp2_with fail;go_ret;exact⟨zg hR.out.symm,Lc aT.out ed.out⟩
 have hR:=zH (h0.out t1);rw[Lo t1];go_wp2_with fail
 go_roundw
 case rel=>exact⟨k+1,by omega,by go_num,hR,ed.out⟩
 simp[Ao];omega
end
section
open Go.ChangeShapes Go.WideShapes Go.ChangeAt Go.RowKit Go.Deep
section
variable {H:Type} {enc:TypeId×Aq->H} {P:Program} {W:Ba} {base:Nat} {aw:Nat->Bool} {aP:Bool}
def qn(P:Program)(t:TypeId)(d:DataW H):Prop:=(d.weights P t).all (·<=reachBytes)=Ar
theorem xL{fs:Array Field}{t:TypeId}{parts:List (DataW H)}(ht:P.underlying t=J (.struct fs))(h:qn P t (.agg parts)){j:Nat}{f:Field}{d:DataW H}(hf:fs[j]?=J f)(hd:parts[j]?=J d):qn P f.type d:=by
 unfold qn at h ⊢;refine Lz.2 fun n hn=>Lz.1 h n ?_
 simp only[DataW.weights,ht];exact DataW.weights_mem_each (j:=j) (by simp[hf]) hd n hn
theorem qZ{e:TypeId}:∀ {ds:List (DataW H)} {d:DataW H},d∈ds->∀n∈d.weights P e,n∈DataW.weightsAll P e ds
 | d0::ds,d,hd,n,hn=>by
  simp only[DataW.weightsAll,List.mem_append];rcases LF.1 hd with rfl | hd
  . exact Or.inl hn
  . exact Or.inr (qZ hd n hn)
theorem Qq{t e:TypeId}{el sp:List (DataW H)}(ht:P.underlying t=J (.slice e))(h:qn P t (.slice el sp)):el.length*P.bytesOf e<=reachBytes/\∀d∈el,qn P e d:=by
 unfold qn at h;have h1:=Lz.1 h;simp only[DataW.weights,ht] at h1;constructor
 . have h2:=h1 _ (PN ..)
   have h3:(el.length+sp.length)*P.bytesOf e<=reachBytes:=by simpa using h2
   exact LE (Rn _ (Nat.le_add_right _ _)) h3
 intro d hd;exact Lz.2 fun n hn=>h1 n (PC _ (Rq _ (qZ hd n hn)))
theorem qG{α:Type}[Inhabited α]{t e:TypeId}{fuel:Nat}{cs:List Aq}{x:DataW H×List MemPlace}{s:Nat}(L:List Aq->α->Prop)(ht:P.underlying t=J (.slice e))(hs:P.cellsOf e=s)(h1:0<s)
  (rd:∀(m:Nat) (cs:List Aq) (y:DataW H×List MemPlace),DataW.trod enc P W base aw aP m e cs=J y->qn P e y.1->∃a,L cs a)
  (h:DataW.trod enc P W base aw aP fuel t cs=J x) (hw:qn P t x.1) :
  ∃(A:Bb) (j':List α) (cap:Nat),cs=[I A j'.length cap]/\j'.length<=cap/\cap<=maxLen/\j'.length*P.bytesOf e<=reachBytes /\
   (0<j'.length->∃b off,A=J ⟨b,off,Z⟩/\b<W.heap.size/\∀(i:Nat) (hi:i<j'.length),∃cs,L cs j'[i]/\∀(k:Nat) (y:Aq),cs[k]?=J y->W.cell? ⟨b,off+i*s+k,Z⟩=J y):=by
 rcases open_slice ht h with ⟨rfl,_⟩ | ⟨a,len,cap,m,n',D,Pl,rfl,_,KR,iy,hm,lX,hi⟩
 . exact⟨Z,[],0,rfl,Lh _,Nn _,by simp,fun h=>absurd h (by simp)⟩
 have KQ:len<=m:=by rw[hm];split<;>omega
 rw[lX] at hw;obtain⟨hb,ai⟩:=Qq ht hw
 have ft:∀i,i<len->∃(a':α) (cs:List Aq),cs.length=s/\L cs a'/\∀(k:Nat) (y:Aq),cs[k]?=J y->W.cell? (a.add (i*s+k))=J y:=fun i aa=>by
  obtain⟨lC,hc,So⟩:=hi i (by omega);rw[hs] at hc;obtain⟨_,bD,bn⟩:=World.cells?_some hc;obtain⟨u,hu⟩:=rd _ _ _ So (ai _ (LZ.2 ⟨i,Ro.2 aa,rfl⟩));refine⟨u,lC,bD,hu,fun k y hk=>?_⟩;have cX:k<s:=by rw[<-bD];exact(Ll.1 hk).1
  rw[<-Go.Deep.add_add,bn k cX,hk]
 obtain⟨j',Ce,has⟩:∃j':List α,j'.length=len/\∀i (hi:i<j'.length),∃cs:List Aq,cs.length=s/\L cs j'[i]/\∀(k:Nat) (y:Aq),cs[k]?=J y->W.cell? (a.add (i*s+k))=J y:=by
  refine⟨(List.range len).map fun i=>if h:i<len then Classical.choose (ft i h) else default,by simp,fun i hi=>?_⟩;have cN:i<len:=by simpa using hi
  simp only[List.getElem_map,List.getElem_range,cN,dite_true];exact Classical.choose_spec (ft i cN)
 subst Ce;have cz:j'.length*P.bytesOf e<=reachBytes:=by simpa using hb
 refine⟨J a,j',cap,rfl,KR,iy,cz,fun h0=>?_⟩;obtain⟨c0,nj,_,tI⟩:=has 0 h0;have MP:=tI 0 _ (Lj (by omega));obtain⟨b,off,EM⟩:=a;have AU:EM=Z:=by simpa[Addr.add] using World.cell?_spot MP
 subst AU;refine⟨b,off,rfl,?_,fun i hi=>?_⟩
 . have:=Po W _ MP
   simpa[Addr.add] using this
 obtain⟨c1,_,hL,nr⟩:=has i hi;refine⟨c1,hL,fun k y hk=>?_⟩;have:=nr k y hk;rw[add_plain] at this;rw[<-Pw] at this;exact this
end
section
variable {H:Type} {enc:TypeId×Aq->H} {W:Ba} {base:Nat} {aw:Nat->Bool} {aP:Bool}
theorem Q8:Al.cellsOf 49=1:=by kernel_rfl
theorem Y5:Al.cellsOf 40=1:=by kernel_rfl
theorem Ja:Al.cellsOf 118=3:=by kernel_rfl
theorem cellsCss:Al.cellsOf 22=1:=by kernel_rfl
theorem cellsTk:Al.cellsOf 24=4:=by kernel_rfl
theorem cellsGr:Al.cellsOf 45=6:=by kernel_rfl
theorem Q5:Al.cellsOf 75=7:=by kernel_rfl
theorem Q7:Al.cellsOf 121=8:=by kernel_rfl
theorem cellsMl:Al.cellsOf 119=1:=by kernel_rfl
theorem cellsMls:Al.cellsOf 25=1:=by kernel_rfl
theorem cellsAd:Al.cellsOf 27=2:=by kernel_rfl
theorem cellsPb:Al.cellsOf 29=7:=by kernel_rfl
theorem bytesI8:Al.bytesOf 3=8:=by kernel_rfl
theorem bytesIs:Al.bytesOf 49=24:=by kernel_rfl
theorem bytesCs:Al.bytesOf 118=72:=by kernel_rfl
theorem bytesMv:Al.bytesOf 121=64:=by kernel_rfl
theorem bytesMl:Al.bytesOf 119=24:=by kernel_rfl
/-- A slice of integers. -/
theorem QP{m:Nat}{cs:List Aq}{y:DataW H×List MemPlace}(h:DataW.trod enc Al W base aw aP m 49 cs=J y)(hw:qn Al 49 y.1) :
  ∃(A:Bb) (xs:List Int) (c:Nat),cs=[I A xs.length c]/\xs.length<=17592186044416/\IAt W W.heap.size A xs:=by
 obtain⟨A,xs,c,e,_,_,hb,hA⟩:=qG (α:=Int) (fun cs i=>cs=[O U i]) Ni xy (by decide) (fun m cs y h _=>by obtain⟨i,e,_⟩:=Nh LB h;exact⟨i,e⟩) h hw;refine⟨A,xs,c,e,?_,fun h0=>?_⟩
 . rw[bytesI8] at hb;unfold reachBytes at hb;omega
 obtain⟨b,off,e,aa,hc⟩:=hA h0;refine⟨b,off,e,aa,fun i hi=>?_⟩;obtain⟨cs,rfl,h2⟩:=hc i hi;simpa using h2 0 _ rfl
/-- A slice of slices of integers. -/
theorem Yo{m:Nat}{cs:List Aq}{y:DataW H×List MemPlace}(h:DataW.trod enc Al W base aw aP m 40 cs=J y)(hw:qn Al 40 y.1) :
  ∃(A:Bb) (xs:List (List Int)) (c:Nat),cs=[I A xs.length c]/\xs.length<=17592186044416/\(∀v∈xs,v.length<=17592186044416)/\LAt W W.heap.size A xs:=by
 obtain⟨A,xs,c,e,_,_,hb,hA⟩:=qG (α:=List Int) (fun cs v=>∃A c,cs=[I A v.length c]/\v.length<=17592186044416/\IAt W W.heap.size A v) underlying40 Q8 (by decide)
  (fun m cs y h hw=>by obtain⟨A,xs,c,e,h1,h2⟩:=QP h hw;exact⟨xs,A,c,e,h1,h2⟩) h hw
 refine⟨A,xs,c,e,?_,?_,fun h0=>?_⟩
 . rw[bytesIs] at hb;unfold reachBytes at hb;omega
 . intro v hv
   obtain⟨i,hi,rfl⟩:=Nf hv;obtain⟨b,off,_,_,hc⟩:=hA (by omega);obtain⟨cs,⟨A,c,_,h1,_⟩,_⟩:=hc i hi;exact h1
 obtain⟨b,off,e,aa,hc⟩:=hA h0;refine⟨b,off,e,aa,fun i hi=>?_⟩;obtain⟨cs,⟨A,c,rfl,_,h3⟩,h2⟩:=hc i hi;exact⟨A,c,by simpa using h2 0 _ rfl,h3⟩
/-- A case. -/
theorem rd_case{m:Nat}{cs:List Aq}{y:DataW H×List MemPlace}(h:DataW.trod enc Al W base aw aP m 118 cs=J y)(hw:qn Al 118 y.1) :
  ∃x:Cs,LowC x/\∃v0 v1 v2,cs=[v0,v1,v2]/\CsV W W.heap.size v0 v1 v2 x:=by
 obtain⟨xs,n,rfl,rfl,hl,eN,hf⟩:=N5 PK h;rw[Ja] at hl;have ig:xs.length=3:=eN
 match cs,hl with
 | [c0,c1,c2],_=>
  have f0:=hf 0 _ rfl;have f1:=hf 1 _ rfl;have f2:=hf 2 _ rfl
  match xs,ig with
  | [x0,x1,x2],_=>
   have g0:DataW.trod enc Al W base aw aP n 49 [c0]=J x0:=by simpa[Q8] using f0
   have g1:DataW.trod enc Al W base aw aP n 40 [c1]=J x1:=by simpa[Y5] using f1
   have g2:DataW.trod enc Al W base aw aP n 40 [c2]=J x2:=by simpa[Y5] using f2
   have w0:qn Al 49 x0.1:=xL PK hw (j:=0) rfl rfl;have w1:qn Al 40 x1.1:=xL PK hw (j:=1) rfl rfl;have w2:qn Al 40 x2.1:=xL PK hw (j:=2) rfl rfl;obtain⟨A0,y0,k0,e0,l0,r0⟩:=QP g0 w0;obtain⟨A1,y1,k1,e1,l1,m1,r1⟩:=Yo g1 w1;obtain⟨A2,y2,k2,e2,l2,m2,r2⟩:=Yo g2 w2
   cases e0;cases e1;cases e2
   exact⟨⟨y0,y1,y2⟩,⟨l0,l1,l2,m1,m2⟩,_,_,_,rfl,⟨A0,k0,rfl,r0⟩,⟨A1,k1,rfl,r1⟩,⟨A2,k2,rfl,r2⟩⟩
/-- A slice of cases. -/
theorem rd_cases{m:Nat}{cs:List Aq}{y:DataW H×List MemPlace}(h:DataW.trod enc Al W base aw aP m 22 cs=J y)(hw:qn Al 22 y.1) :
  ∃(A:Bb) (xs:List Cs) (c:Nat),cs=[I A xs.length c]/\xs.length<=17592186044416/\(∀v∈xs,LowC v)/\CAt W W.heap.size A xs:=by
 obtain⟨A,xs,c,e,_,_,hb,hA⟩:=qG (α:=Cs) (fun cs x=>LowC x/\∃v0 v1 v2,cs=[v0,v1,v2]/\CsV W W.heap.size v0 v1 v2 x) PX Ja (by decide)
  (fun m cs y h hw=>rd_case h hw) h hw
 refine⟨A,xs,c,e,?_,?_,fun h0=>?_⟩
 . rw[bytesCs] at hb;unfold reachBytes at hb;omega
 . intro v hv
   obtain⟨i,hi,rfl⟩:=Nf hv;obtain⟨b,off,_,_,hc⟩:=hA (by omega);obtain⟨cs,⟨h1,_⟩,_⟩:=hc i hi;exact h1
 obtain⟨b,off,e,aa,hc⟩:=hA h0;refine⟨b,off,e,aa,fun i hi=>?_⟩;obtain⟨cs,⟨_,v0,v1,v2,rfl,h3⟩,h2⟩:=hc i hi;exact⟨v0,v1,v2,h2 0 _ rfl,h2 1 _ rfl,h2 2 _ rfl,h3⟩
/-- A round. -/
theorem rd_round{m:Nat}{cs:List Aq}{y:DataW H×List MemPlace}(h:DataW.trod enc Al W base aw aP m 75 cs=J y):∃x:Rd,cs=x.cells.toList:=by
 obtain⟨xs,n,rfl,rfl,hl,eN,hf⟩:=N5 underlying75 h;rw[Q5] at hl;have ig:xs.length=2:=eN
 match cs,hl with
 | [c0,c1,c2,c3,c4,c5,c6],_=>
  have f0:=hf 0 _ rfl;have f1:=hf 1 _ rfl
  match xs,ig with
  | [x0,x1],_=>
   have g0:DataW.trod enc Al W base aw aP n 45 [c0,c1,c2,c3,c4,c5]=J x0:=by simpa[cellsGr] using f0
   have g1:DataW.trod enc Al W base aw aP n 3 [c6]=J x1:=by simpa[xy] using f1
   obtain⟨i6,e6,_,_⟩:=Nh LB g1;obtain⟨ys,k,rfl,rfl,_,fT,hg⟩:=N5 N2 g0;have EZ:ys.length=2:=fT;have q0:=hg 0 _ rfl;have q1:=hg 1 _ rfl
   match ys,EZ with
   | [y0,y1],_=>
    have r0:DataW.trod enc Al W base aw aP k 3 [c0]=J y0:=by simpa[xy] using q0
    have r1:DataW.trod enc Al W base aw aP k 43 [c1,c2,c3,c4,c5]=J y1:=by simpa[cells5] using q1
    obtain⟨i0,e0,_,_⟩:=Nh LB r0;obtain⟨zs,m,rfl,_,_,EW,hi⟩:=DataW.trod_array RE r1;have k0:=hi 0 (by decide);have k1:=hi 1 (by decide);have k2:=hi 2 (by decide);have k3:=hi 3 (by decide);have k4:=hi 4 (by decide)
    match zs,EW with
    | [z0,z1,z2,z3,z4],_=>
     have j0:DataW.trod enc Al W base aw aP m 3 [c1]=J z0:=by simpa[xy] using k0
     have j1:DataW.trod enc Al W base aw aP m 3 [c2]=J z1:=by simpa[xy] using k1
     have j2:DataW.trod enc Al W base aw aP m 3 [c3]=J z2:=by simpa[xy] using k2
     have j3:DataW.trod enc Al W base aw aP m 3 [c4]=J z3:=by simpa[xy] using k3
     have j4:DataW.trod enc Al W base aw aP m 3 [c5]=J z4:=by simpa[xy] using k4
     obtain⟨a0,b0,_,_⟩:=Nh LB j0;obtain⟨a1,b1,_,_⟩:=Nh LB j1;obtain⟨a2,b2,_,_⟩:=Nh LB j2;obtain⟨a3,b3,_,_⟩:=Nh LB j3;obtain⟨a4,b4,_,_⟩:=Nh LB j4
     cases e0;cases e6;cases b0;cases b1;cases b2;cases b3;cases b4
     exact⟨⟨i0,a0,a1,a2,a3,a4,i6⟩,rfl⟩
/-- A move. -/
theorem rd_move{m:Nat}{cs:List Aq}{y:DataW H×List MemPlace}(h:DataW.trod enc Al W base aw aP m 121 cs=J y):∃x:Mv,cs=x.cells.toList:=by
 obtain⟨xs,n,rfl,rfl,hl,eN,hf⟩:=N5 underlying121 h;rw[Q7] at hl;have ig:xs.length=2:=eN
 match cs,hl with
 | [c0,c1,c2,c3,c4,c5,c6,c7],_=>
  have f0:=hf 0 _ rfl;have f1:=hf 1 _ rfl
  match xs,ig with
  | [x0,x1],_=>
   have g0:DataW.trod enc Al W base aw aP n 75 [c0,c1,c2,c3,c4,c5,c6]=J x0:=by simpa[Q5] using f0
   have g1:DataW.trod enc Al W base aw aP n 3 [c7]=J x1:=by simpa[xy] using f1
   obtain⟨r,e0⟩:=rd_round g0;obtain⟨i7,e7,_,_⟩:=Nh LB g1
   cases e7
   refine⟨⟨r,i7⟩,?_⟩;simp only[Rd.cells,List.cons.injEq] at e0;obtain⟨rfl,rfl,rfl,rfl,rfl,rfl,rfl,_⟩:=e0
   rfl
/-- A slice of moves. -/
theorem rd_moves{m:Nat}{cs:List Aq}{y:DataW H×List MemPlace}(h:DataW.trod enc Al W base aw aP m 119 cs=J y)(hw:qn Al 119 y.1) :
  ∃(A:Bb) (xs:List Mv) (c:Nat),cs=[I A xs.length c]/\xs.length<=17592186044416/\MAt W W.heap.size A xs:=by
 obtain⟨A,xs,c,e,_,_,hb,hA⟩:=qG (α:=Mv) (fun cs x=>cs=x.cells.toList) PJ Q7 (by decide) (fun m cs y h _=>rd_move h) h hw;refine⟨A,xs,c,e,?_,fun h0=>?_⟩
 . rw[bytesMv] at hb;unfold reachBytes at hb;omega
 obtain⟨b,off,e,aa,hc⟩:=hA h0;refine⟨b,off,e,aa,fun i hi k u hk=>?_⟩;obtain⟨cs,rfl,h2⟩:=hc i hi;exact h2 k u (by simpa using hk)
/-- A slice of slices of moves. -/
theorem JG{m:Nat}{cs:List Aq}{y:DataW H×List MemPlace}(h:DataW.trod enc Al W base aw aP m 25 cs=J y)(hw:qn Al 25 y.1) :
  ∃(A:Bb) (xs:List (List Mv)) (c:Nat),cs=[I A xs.length c]/\xs.length<=17592186044416/\(∀v∈xs,v.length<=17592186044416)/\SAt W W.heap.size A xs:=by
 obtain⟨A,xs,c,e,_,_,hb,hA⟩:=qG (α:=List Mv) (fun cs v=>∃A c,cs=[I A v.length c]/\v.length<=17592186044416/\MAt W W.heap.size A v) PW cellsMl (by decide)
  (fun m cs y h hw=>by obtain⟨A,xs,c,e,h1,h2⟩:=rd_moves h hw;exact⟨xs,A,c,e,h1,h2⟩) h hw
 refine⟨A,xs,c,e,?_,?_,fun h0=>?_⟩
 . rw[bytesMl] at hb;unfold reachBytes at hb;omega
 . intro v hv
   obtain⟨i,hi,rfl⟩:=Nf hv;obtain⟨b,off,_,_,hc⟩:=hA (by omega);obtain⟨cs,⟨A,c,_,h1,_⟩,_⟩:=hc i hi;exact h1
 obtain⟨b,off,e,aa,hc⟩:=hA h0;refine⟨b,off,e,aa,fun i hi=>?_⟩;obtain⟨cs,⟨A,c,rfl,_,h3⟩,h2⟩:=hc i hi;exact⟨A,c,by simpa using h2 0 _ rfl,h3⟩
/-- A problem. -/
theorem rd_prob{m:Nat}{cs:List Aq}{y:DataW H×List MemPlace}(h:DataW.trod enc Al W base aw aP m 29 cs=J y)(hw:qn Al 29 y.1) :
  ∃(p:Pb) (A:Bb) (kc:Nat) (SV:Bb) (ks:Nat),cs=(p.vs A kc SV ks).toList/\gC p/\CAt W W.heap.size A p.t.cases/\SAt W W.heap.size SV p.a.sts:=by
 obtain⟨xs,n,rfl,rfl,hl,eN,hf⟩:=N5 Pq h;rw[cellsPb] at hl;have ig:xs.length=3:=eN
 match cs,hl with
 | [c0,c1,c2,c3,c4,c5,c6],_=>
  have f0:=hf 0 _ rfl;have f1:=hf 1 _ rfl;have f2:=hf 2 _ rfl
  match xs,ig with
  | [x0,x1,x2],_=>
   have g0:DataW.trod enc Al W base aw aP n 24 [c0,c1,c2,c3]=J x0:=by simpa[cellsTk] using f0
   have g1:DataW.trod enc Al W base aw aP n 27 [c4,c5]=J x1:=by simpa[cellsAd] using f1
   have g2:DataW.trod enc Al W base aw aP n 3 [c6]=J x2:=by simpa[xy] using f2
   have w0:qn Al 24 x0.1:=xL Pq hw (j:=0) rfl rfl;have w1:qn Al 27 x1.1:=xL Pq hw (j:=1) rfl rfl;obtain⟨i6,e6,_,_⟩:=Nh LB g2;obtain⟨ys,k,rfl,iJ,_,fT,hg⟩:=N5 underlying24 g0;rw[iJ] at w0;have EY:ys.length=4:=fT;have q0:=hg 0 _ rfl;have q1:=hg 1 _ rfl;have q2:=hg 2 _ rfl;have q3:=hg 3 _ rfl
   match ys,EY with
   | [y0,y1,y2,y3],_=>
    have r0:DataW.trod enc Al W base aw aP k 3 [c0]=J y0:=by simpa[xy] using q0
    have r1:DataW.trod enc Al W base aw aP k 3 [c1]=J y1:=by simpa[xy] using q1
    have r2:DataW.trod enc Al W base aw aP k 3 [c2]=J y2:=by simpa[xy] using q2
    have r3:DataW.trod enc Al W base aw aP k 22 [c3]=J y3:=by simpa[cellsCss] using q3
    have v3:qn Al 22 y3.1:=xL underlying24 w0 (j:=3) rfl rfl;obtain⟨i0,e0,_,_⟩:=Nh LB r0;obtain⟨i1,e1,_,_⟩:=Nh LB r1;obtain⟨i2,e2,_,_⟩:=Nh LB r2;obtain⟨A,us,kc,e3,lu,hu,hA⟩:=rd_cases r3 v3;obtain⟨zs,k',cX,lX,_,EW,dL⟩:=N5 underlying27 g1;rw[lX] at w1;have EV:zs.length=2:=EW;have s0:=dL 0 _ rfl;have s1:=dL 1 _ rfl
    match zs,EV with
    | [z0,z1],_=>
     have t0:DataW.trod enc Al W base aw aP k' 3 [c4]=J z0:=by simpa[xy] using s0
     have t1:DataW.trod enc Al W base aw aP k' 25 [c5]=J z1:=by simpa[cellsMls] using s1
     have u1:qn Al 25 z1.1:=xL underlying27 w1 (j:=1) rfl rfl;obtain⟨i4,e4,_,_⟩:=Nh LB t0;obtain⟨SV,ss,ks,e5,ls,hs,hS⟩:=JG t1 u1
     cases e0;cases e1;cases e2;cases e3;cases e4;cases e5;cases e6
     exact⟨⟨⟨i0,i1,i2,us⟩,⟨i4,ss⟩,i6⟩,A,kc,SV,ks,rfl,⟨⟨lu,hu⟩,ls,hs⟩,hA,hS⟩
/-- A problem that is handed over by value. -/
theorem ZF{b0:Nat}{v:Aq}{d:DataW H}{ps:List MemPlace}(hv:Value.okWide Al W .any b0 29 v)(h:DataW.Trod enc Al W base aw aP 29 v d ps)(hw:qn Al 29 d) :
  ∃(p:Pb) (A:Bb) (kc:Nat) (SV:Bb) (ks:Nat),v=.agg (p.vs A kc SV ks)/\gC p/\CAt W W.heap.size A p.t.cases/\SAt W W.heap.size SV p.a.sts:=by
 obtain⟨cs,rfl,_⟩:=okWide_struct Pq hv;obtain⟨fuel,hf⟩:=h;obtain⟨p,A,kc,SV,ks,e,h1,h2,h3⟩:=rd_prob hf hw;refine⟨p,A,kc,SV,ks,?_,h1,h2,h3⟩;have e':cs.toList=(p.vs A kc SV ks).toList:=e;rw[Array.toList_inj.1 e']
end
end
section
open Go.RowKit
theorem lt32{x:Nat}(h:x<32):x=0\/x=1\/x=2\/x=3\/x=4\/x=5\/x=6\/x=7\/x=8\/x=9\/x=10\/x=11\/x=12\/x=13\/x=14\/x=15\/x=16\/x=17\/x=18\/x=19\/x=20\/x=21\/x=22\/x=23\/x=24\/x=25\/x=26\/x=27\/x=28\/x=29\/x=30\/x=31:=by omega
def Tab(w:Ba):Prop:=∀j:Nat,j<32->j≠0->w.cell? ⟨2,(IntKind.u64.wrap (bits BinOp.and IntKind.u64 (j:Int) (IntKind.u64.wrap (-(j:Int)))*285870213051353865) / 288230376151711744).toNat,Z⟩=J (.int .u8 (low j:Nat))
theorem Tab.keep{w w':Ba}{B:Nat}(h:Tab w)(hb:Am B w w')(hB:3<=B):Tab w':=fun j hj h0=>(hb.cell (p:=⟨2,_,Z⟩) (by show 2<B;omega)).trans (h j hj h0)
theorem tz64_any(x:Nat)(hx:x<32)(h0:x≠0)(w:Ba)(hT:Tab w):An Al 179 #[.int .u64 x] w fun e w'=>e=Ak (O U (low x:Nat))/\w=w':=by
 have hc:=hT x hx h0;have e0:((x:Int)==0)=As:=by simp;omega
 have hl:low x<5:=(Zp hx h0).2.1
 obtain⟨Ac,hI,h1,h2⟩:∃Ac:Nat,IntKind.u64.wrap (bits BinOp.and IntKind.u64 (x:Int) (IntKind.u64.wrap (-(x:Int)))*285870213051353865) / 288230376151711744=(Ac:Int)/\0<=Ac/\Ac<64:=by
  refine⟨(IntKind.u64.wrap (bits BinOp.and IntKind.u64 (x:Int) (IntKind.u64.wrap (-(x:Int)))*285870213051353865) / 288230376151711744).toNat,?_,Nn _,?_⟩
  all_goals
   clear hc hT e0 hl h0;rcases lt32 hx with rfl | rfl | rfl | rfl | rfl | rfl | rfl | rfl | rfl | rfl | rfl | rfl | rfl | rfl | rfl | rfl | rfl | rfl | rfl | rfl | rfl | rfl | rfl | rfl | rfl | rfl | rfl | rfl | rfl | rfl | rfl | rfl
   all_goals decide +kernel
 rw[hI,Lu] at hc;clear hT h0;go_enter func179,ntmps179;go_wp2;go_ret;exact⟨rfl,rfl⟩
theorem tz_any(x:Nat)(hx:x<32)(h0:x≠0)(w:Ba)(hT:Tab w):An Al 172 #[.int .u64 x] w fun e w'=>e=Ak (O U (low x:Nat))/\w=w':=by
 have hc:=tz64_any x hx h0 w hT;have HC:=zH hc;clear hc hT;go_enter func172,ntmps172;go_wp2_with fail;refine HC.out.mono ?_;rintro e w' ⟨rfl,rfl⟩;go_wp2_with fail;go_ret;exact⟨rfl,rfl⟩
end
section
open Go.ChangeShapes Go.WideShapes Go.ChangeAt Go.RowKit Go.Deep
section
variable {H:Type} {enc:TypeId×Aq->H} {P:Program}
theorem arr_cells{W:Ba}{base:Nat}{sp:Nat->Bool}{hd:Bool}{fuel n:Nat}{T e:TypeId}{k:IntKind}{cs:List Aq}{zs:List Int}{ps:List MemPlace}(hT:P.underlying T=J (.array n e))(he:P.underlying e=J (.int k))(hc:P.cellsOf e=1)
  (h:DataW.trod enc P W base sp hd fuel T cs=J (.agg (zs.map fun z=>.lit (.int k z)),ps)):∀i (hi:i<zs.length),cs[i]?=J (.int k zs[i]):=by
 obtain⟨xs,m,_,hx,_,hn,ft⟩:=DataW.trod_array hT h;intro i hi;simp only[Prod.mk.injEq,DataW.agg.injEq] at hx;have aM:zs.length=xs.length:=by have:=congrArg List.length hx.1;simpa using this
 have E9:=ft i (by omega);rw[hc,NS] at E9;rw[Lj (show i<xs.length by omega)] at E9;obtain⟨z,e1,e2,_⟩:=Nh he E9
 have h3:(zs.map fun z=>(DataW.lit (Lit.int k z):DataW H))[i]'(by simpa using hi)=(xs.map (·.1))[i]'(by simp;omega):=by
  simp only[hx.1]
 simp only[List.getElem_map] at h3;rw[e2] at h3;have hz:zs[i]=z:=by simpa using h3
 rw[hz];have h4:=congrArg (·[0]?) e1;simp only[List.getElem?_take,List.getElem?_drop] at h4;simpa using h4
end
theorem QY{k:IntKind}{i:Int}(hk:k.min=0)(h:(Lit.int k i).wf=true):∃n:Nat,i=(n:Int)/\(n:Int)<=k.max:=by
 unfold Lit.wf at h;simp only[Bool.and_eq_true,decide_eq_true_iff] at h;obtain⟨n,hn⟩:=Lq (by omega:0<=i);exact⟨n,hn,by omega⟩
theorem u8_lt{n:Nat}(h:(n:Int)<=IntKind.max .u8):n<256:=by
 have m8:IntKind.max .u8=255:=by decide
 omega
theorem gTab : Al.globalNamed "math/bits.deBruijn64tab" = J 2 := by kernel_rfl
theorem tTab:(Al.globals[2]?).map (·.type)=J 249:=by kernel_rfl
def tabL:List Int:=[0,1,56,2,57,49,28,3,61,58,42,50,38,29,17,4,62,47,59,36,45,43,51,22,53,39,33,30,24,18,12,5,63,55,48,27,60,41,37,16,46,35,44,21,52,32,23,11,54,26,40,15,34,20,31,10,25,14,19,9,13,8,7,6]
theorem Jr{j:Nat}(hj:j<32)(h0:j≠0):tabL[(IntKind.u64.wrap (bits BinOp.and IntKind.u64 (j:Int) (IntKind.u64.wrap (-(j:Int)))*285870213051353865) / 288230376151711744).toNat]?=J ((low j:Nat):Int):=by
 have h:=qH (p:=fun j=>j==0||decide (tabL[(IntKind.u64.wrap (bits BinOp.and IntKind.u64 (j:Int) (IntKind.u64.wrap (-(j:Int)))*285870213051353865) / 288230376151711744).toNat]?=J ((low j:Nat):Int))) (by decide +kernel) hj;simpa[h0] using h
theorem Zx{W:Ba}(h:∀i (hi:i<tabL.length),W.cell? ⟨2,i,Z⟩=J (.int .u8 tabL[i])):Tab W:=fun j hj h0=>by
 have hp:=Jr hj h0;obtain⟨hi,he⟩:=Ll.1 hp;rw[h _ hi,he]
def laidV : List (String × DataW Unit) := [("math/bits.deBruijn32tab", Rows.laid_math_bits_deBruijn32tab), ("math/bits.deBruijn64tab", Rows.laid_math_bits_deBruijn64tab)]
theorem Z7{W:Ba}(h:laidMetH Al laidV W):Tab W:=by
 rw[MakeChecks.laidMetH_plain _ _ _ (by kernel_rfl)] at h;obtain⟨ps,⟨g0,t0,cs0,f0,p0,q0,BO,nR,Dy,hd0,⟨g1,t1,Vd,f1,p1,q1,dL,nQ,AP,TD,_,_⟩,_⟩,_,_⟩:=h;obtain rfl:=NA (gTab.symm.trans dL);obtain rfl:=NA (tTab.symm.trans nQ);have hd:DataW.trod _ Al W 0 _ As f1 249 Vd.toList=J (.agg (tabL.map fun z=>.lit (.int .u8 z)),p1):=TD;have hc:=arr_cells underlying249 RO (by kernel_rfl) hd;refine Zx fun i hi=>?_
 rw[World.var?_cell dL AP i];have:=hc i hi;simpa using this
theorem Zv{W:Ba}(h:Tab W):3<=W.heap.size:=Po W _ (h 1 (by decide) (by decide))
end
section
open Go.RowKit
section
variable {P:Program} {md:Region.Mode} {ops:Array Oper} {Q:Exit->Act->Ba->Prop} {l n:Nat}
theorem op_round{o:Oper}{a:Act}{w:Ba}{K:Act->Ba->Prop}(hd:∀c,o.op≠.defer c)(h:o.wp P a w K Q):o.wpIn (Fence.wide.inRound l) n P a w K Q:=by
 refine⟨fun _ _=>trivial,?_⟩;show o.uponIn (Fence.wide.inRound l) n P a K Q ((o.semAt (J l) a.eval).run P w);rw[Oper.semAt_some l a.eval o hd];unfold Oper.wp at h
 revert h
 cases (execOp a.eval o).run P w with
 | ok x w'=>
  cases x with
  | value v=>exact fun h=>h
  | skip=>exact fun h=>h
  | defer d=>exact fun h=>h
  | enter f args=>exact fun h=>⟨(fun h'=>Bool.noConfusion (show As=Ar from h')),R6 l (Re.2 h)⟩
  | row r args=>exact fun h=>⟨(fun h'=>Bool.noConfusion (show As=Ar from h')),fun b cs _=>by obtain⟨v,z',hR,hs⟩:=h b cs;exact⟨v,z',hR,stepsIn_wide.2 hs⟩⟩
  | _=>exact fun h=>h.elim
 | halt s w'=>
  cases s with
  | panic v=>exact fun h=>h
  | _=>exact fun h=>h.elim
def uB(ops:Array Oper):Bool:=ops.toList.all fun o=>match o.op with | .defer _=>As | _=>Ar
theorem XV(h:uB ops=Ar){i:Nat}{o:Oper}(ho:ops[i]?=J o):∀c,o.op≠.defer c:=by
 intro c e;have hm:o∈ops.toList:=by rw[Array.mem_toList_iff];exact Array.mem_of_getElem? ho
 have:=Lz.1 h o hm;rw[e] at this
 cases this
theorem qN(hd:uB ops=Ar)(eF:¬LetsOut Q):∀(fuel:Nat) (ac:Array Bool) (a:Act) (w:Ba),wpAny P md ops Q fuel ac a w->wpAnyIn (Fence.wide.inRound l) n P md ops Q fuel ac a w
 | 0,_,_,_,h=>h
 | fuel+1,ac,a,w,h=>by
  refine⟨h.1,fun i hi=>?_⟩;have h2:=h.2 i hi;unfold wpOp at h2;unfold wpOpIn
  cases ho:ops[i]? with
  | none=>rw[ho] at h2;exact qN hd eF fuel _ _ _ h2
  | some o=>
   rw[ho] at h2;dsimp only at h2 ⊢
   by_cases hw:Region.wanted o (yielded ops a.tmps)=Ar
   . rw[Lm hw] at h2 ⊢
     rcases h2 with h2 | h2
     . exact op_round (XV hd ho) (RI (fun a' w' hk=>qN hd eF fuel _ _ _ hk) h2)
     . exact absurd h2.2 eF
   . rw[Lk hw] at h2 ⊢
     exact⟨fun _ _=>trivial,qN hd eF fuel _ _ _ h2⟩
theorem any_still{n:Nat}{w:Ba}{a:Act}{xs:List Oper}(hB:Region.lexTailB .any xs.toArray n=Ar)
  (h:wpStill P xs.toArray w (fun a'=>wpList P xs.toArray Q (xs.drop n) a' w) (xs.take n) a):wpAny P .any xs.toArray Q xs.toArray.size (Array.replicate xs.toArray.size As) a w:=by
 unfold Region.lexTailB at hB;simp only[Bool.and_eq_true,decide_eq_true_eq] at hB;have hn:n<xs.length:=by simpa using hB.1.1.1.2
 have e1:(xs.take n).length=n:=by rw[Ng];omega
 have e2:(xs.drop n).length=xs.toArray.size-n:=by rw[Ra];rfl
 have hI:HeadInv .any xs.toArray n (Array.replicate xs.toArray.size As):=
  ⟨by simp,fun _ _ _ hl=>(by rw[Rl] at hl;exact Bool.noConfusion hl),fun _ _ ht=>getD_in (by simpa using ht) (Rl _ _)⟩
 have H:=wpAnyL_lex (md:=.any) (g:=xs.toArray.size-n) hB.1.1.1.1 hB.1.1.2 hB.1.2 hB.1.1.1.2 (xs.take n) 0 _ a
  (fun j hj=>by
   rw[e1] at hj
   simp[hj]) (by simpa using e1) hI (by rw[e1];exact hB.2) h
 have R:=wpAny_of_head (Q':=Q) (g:=xs.toArray.size-n) (fun ac a' hL=>by
  have T:=wpAny_of_seq (md:=.any) (Q':=Q) (xs.drop n) n ac a' w (fun j=>by simp[List.getElem?_drop]) (by rw[e2];exact hL.1) hL.2
  rwa[e2] at T) _ _ _ H
 rw[e1] at R;have e3:n+(xs.toArray.size-n)=xs.toArray.size:=by have:xs.toArray.size=xs.length:=rfl;omega
 rwa[e3] at R
theorem jl{id k:Nat}{a:Act}{w:Ba}{xs:List Oper}(n:Nat)(hm:P.follows .mixedOrders=Ar)(hd:uB xs.toArray=Ar)(hB:Region.lexTailB .any xs.toArray n=Ar)(eF:¬LetsOut Q)
  (h:wpStill P xs.toArray w.drew (fun a'=>wpList P xs.toArray Q (xs.drop n) a' w.drew) (xs.take n) a):(Code.region id xs.toArray Ar).wpIn (Fence.wide.inRound l) k P Q a w:=
 wpIn_region_any hm (qN hd eF _ _ _ _ (any_still hB h))
end
end
section
open Go.RowKit
section
variable {P:Program} {ops:Array Oper} {md:Region.Mode}
def Qf:Exit->Act->Ba->Prop:=fun _ _ _=>False
theorem QQ:¬LetsOut Qf:=fun ⟨_,_,h⟩=>h
theorem wp_of_qf{o:Oper}{a:Act}{w:Ba}{K:Act->Ba->Prop}{Q:Exit->Act->Ba->Prop}(hh:o.wp P a w K Qf):o.wp P a w K Q:=by
 unfold Oper.wp at *
 generalize (execOp a.eval o).run P w=r at *
 cases r with
 | ok n w'=>
  cases n<;>simp only[Oper.upon] at hh⊢<;>
   first
    | exact hh
    | exact Calls.mono hh (fun e z' he=>by
      cases e with
      | returned v=>exact he
      | panicked c=>exact False.elim he
      | outgrown=>exact absurd he QQ)
 | halt x w'=>cases x<;>simp only[Oper.upon] at hh ⊢<;>exact False.elim hh
def Qa(P:Program)(ops:Array Oper)(i:Nat)(K:Act->Ba->Prop)(a:Act)(w:Ba):Prop:=
 ∃o,ops[i]?=J o/\if Region.wanted o (yielded ops a.tmps)=Ar then o.wp P a w K Qf else K (a.put o.dst undef) w
theorem gY{i:Nat}{K K':Act->Ba->Prop}{a:Act}{w:Ba}(h:∀a w,K a w->K' a w)(hh:Qa P ops i K a w):Qa P ops i K' a w:=by
 obtain⟨o,ho,hh⟩:=hh;refine⟨o,ho,?_⟩
 split at hh
 . rename_i hw;rw[Lm hw];exact RI h hh
 rename_i hw;rw[Lk hw];exact h _ _ hh
def QF(md:Region.Mode)(ops:Array Oper):Nat->Nat->Nat->Bool
 | 0,_,_=>As
 | f+1,j,i=>match ops[j]? with
  | some o=>o.after.any fun e=>Region.binds md e&&(e.on==i||QF md ops f e.on i)
  | none=>As
def Yb(md:Region.Mode)(ops:Array Oper)(F:List Nat)(j:Nat):Bool:=F.all fun i=>QF md ops ops.size j i
def Closed(md:Region.Mode)(ops:Array Oper)(ac:Array Bool):Prop:=∀(j:Nat) (oj:Oper),ops[j]?=J oj->ac.getD j As=Ar->∀e∈oj.after,Region.binds md e=Ar->ac.getD e.on As=Ar
theorem Closed.set{ac:Array Bool}(h:Closed md ops ac){i:Nat}(hi:i∈Region.ready md ops ac):Closed md ops (ac.setIfInBounds i Ar):=by
 obtain⟨_,oi,SN,ai⟩:=PG.1 hi;intro j oj hj hl e he hb
 by_cases pD:i=j
 . subst pD
   have:oj=oi:=NA (hj.symm.trans SN);subst this;exact getD_set_true (ai e he hb)
 rw[getD_set_ne As pD] at hl;exact getD_set_true (h j oj hj hl e he hb)
theorem vM{ac:Array Bool}(h:Closed md ops ac):∀(f j i:Nat),(∀oj,ops[j]?=J oj->∀e∈oj.after,Region.binds md e=Ar->ac.getD e.on As=Ar)->QF md ops f j i=Ar->ac.getD i As=Ar
 | 0,_,_,_,hr=>by cases hr
 | f+1,j,i,hj,hr=>by
  unfold QF at hr
  cases ho:ops[j]? with
  | none=>rw[ho] at hr;cases hr
  | some o=>
   rw[ho] at hr;obtain⟨e,he,hb⟩:=Array.any_eq_true'.1 hr;simp only[Bool.and_eq_true,Bool.or_eq_true,beq_iff_eq] at hb;have hl:=hj o ho e he hb.1;rcases hb.2 with h1 | h1
   . rw[<-h1];exact hl
   . exact vM h f e.on i (fun oj rC e' oD cz=>h e.on oj rC hl e' oD cz) h1
theorem Ya{ac:Array Bool}(h:Closed md ops ac){F:List Nat}{j i:Nat}(hj:j∈Region.ready md ops ac)(hs:Yb md ops F j=Ar)(hi:i∈F):ac.getD i As=Ar:=by
 obtain⟨_,oj,rC,ai⟩:=PG.1 hj;refine vM h ops.size j i (fun o ho e he hb=>?_) (Lz.1 hs i hi);have:oj=o:=NA (rC.symm.trans ho);subst this;exact ai e he hb
def uI(P:Program)(md:Region.Mode)(ops:Array Oper)(F:List Nat)(Q:Act->Ba->Prop):Nat->Array Bool->(Ba->Prop)->Act->Ba->Prop
 | 0,ac,_,a,w=>Region.ready md ops ac=[]/\Q a w
 | fuel+1,ac,Kp,a,w=>(Region.ready md ops ac=[]->Q a w) /\
   ∀i∈Region.ready md ops ac,Qa P ops i (fun a' w'=>∃dE:Ba->Prop,((∀W,dE W->Kp W)\/Yb md ops F i=Ar)/\dE w'/\uI P md ops F Q fuel (ac.setIfInBounds i Ar) dE a' w') a w
theorem ji{F:List Nat}{Q:Exit->Act->Ba->Prop}{Qn:Act->Ba->Prop}(hQ:∀a w,Qn a w->Q .normal a w):∀(fuel:Nat) (ac:Array Bool) (Kp:Ba->Prop) (a:Act) (w:Ba),
  uI P md ops F Qn fuel ac Kp a w->wpAny P md ops Q fuel ac a w
 | 0,_,_,_,_,h=>⟨h.1,hQ _ _ h.2⟩
 | fuel+1,ac,Kp,a,w,h=>by
  refine⟨fun h0=>hQ _ _ (h.1 h0),fun i hi=>?_⟩;obtain⟨o,ho,h2⟩:=h.2 i hi;unfold wpOp;rw[ho];dsimp only
  split at h2
  . rename_i hw
    rw[Lm hw];exact .inl (RI (fun a' w' ⟨dE,_,_,h3⟩=>ji hQ fuel _ dE a' w' h3) (wp_of_qf h2))
  . rename_i hw
    rw[Lk hw];obtain⟨dE,_,_,h3⟩:=h2;exact ji hQ fuel _ dE _ _ h3
def FloatTo(P:Program)(ops:Array Oper)(Kp:Ba->Prop)(o:Oper)(a a1:Act):Prop:=∀W,Kp W->∃v,YieldsAt P ops W o v a/\a.put o.dst v=a1
theorem FloatTo.less{Kp dE:Ba->Prop}{o:Oper}{a a1:Act}(h:FloatTo P ops Kp o a a1)(hs:∀W,dE W->Kp W):FloatTo P ops dE o a a1:=fun W hW=>h W (hs W hW)
theorem vg(a:Act)(d:Option Tmp)(v:Aq)(x:Deferred):({ a.put d v with defers:=x::(a.put d v).defers }:Act)=({ a with defers:=x::a.defers }:Act).put d v:=by
 cases d<;>rfl
theorem kpOp_put{j:Nat}{oi oj:Oper}{Kp:Ba->Prop}(hj:ops[j]?=J oj)(TS:oi.apart ops oj=Ar)
  (Su:∀cs b,oi.op≠.select cs b) (St:∀cs b,oj.op≠.select cs b) {K:Act->Ba->Prop} {a a1:Act} {w:Ba}
  (hy:FloatTo P ops Kp oi a a1) (hk:Kp w) (h:Qa P ops j K a1 w) :
  Qa P ops j (fun a' w'=>∃Ej,FloatTo P ops Kp oi a' Ej/\K Ej w') a w:=by
 obtain⟨h1,h2,h3⟩:=Oper.apart_spec TS;obtain⟨v,hv,rfl⟩:=hy w hk
 have keep:∀u,FloatTo P ops Kp oi (a.put oj.dst u) ((a.put oi.dst v).put oj.dst u):=fun u W hW=>by
  obtain⟨v',E4,e⟩:=hy W hW;exact⟨v',E4.of_same (execOp_put oi Su a oj.dst u h3) (wanted_put oi a oj.dst u h3),by rw[<-Act.put_comm a v' u h2,e]⟩
 have AH:∀(x:Deferred) u,FloatTo P ops Kp oi (({ a with defers:=x::a.defers }:Act).put oj.dst u) ((({ a.put oi.dst v with defers:=x::(a.put oi.dst v).defers }:Act)).put oj.dst u):=fun x u W hW=>by
  obtain⟨v',E4,e⟩:=keep u W hW;rw[<-vg a oj.dst u x,<-vg (a.put oi.dst v) oj.dst u x];refine⟨v',E4.of_same rfl rfl,?_⟩;rw[<-vg,e]
 obtain⟨o,ho,h⟩:=h;have:oj=o:=NA (hj.symm.trans ho);subst this;refine⟨oj,hj,?_⟩;rw[wanted_put oj a oi.dst v h1] at h
 split
 . rename_i hw
   rw[Lm hw] at h;unfold Oper.wp at *;rw[execOp_put oj St a oi.dst v h1] at h
   generalize (execOp a.eval oj).run P w=r at *
   cases r with
   | ok n w'=>
    cases n<;>simp only[Oper.upon] at h ⊢
    case value u=>exact⟨_,keep u,h⟩
    case skip=>exact⟨_,keep undef,h⟩
    case defer d=>exact⟨_,AH d undef,h⟩
    case enter f args=>
     exact Calls.mono h (fun e z' he=>by
       cases e with
       | returned u=>exact⟨_,keep u,he⟩
       | panicked c=>exact False.elim he
       | outgrown=>exact absurd he QQ)
    case row row args=>exact Rows.mono h (fun u z' he=>⟨_,keep u,he⟩)
   | halt x w'=>cases x<;>simp only[Oper.upon] at h ⊢<;>exact h
 rename_i hw;rw[Lk hw] at h;exact⟨_,keep undef,h⟩
theorem vJ{i:Nat}{o:Oper}{v:Aq}{a:Act}{w:Ba}(hi:ops[i]?=J o)(hy:YieldsAt P ops w o v a){K:Act->Ba->Prop}(h:K (a.put o.dst v) w):Qa P ops i K a w:=by
 refine⟨o,hi,?_⟩;rcases hy with ⟨hw,hv | ⟨hv,rfl⟩ | ⟨f,args,hv,hc⟩⟩ | ⟨hw,rfl⟩
 . rw[Lm hw];unfold Oper.wp;rw[hv];exact h
 . rw[Lm hw];unfold Oper.wp;rw[hv];exact h
 . rw[Lm hw];unfold Oper.wp;rw[hv]
   exact hc.mono fun e z' ⟨he,ch⟩=>by subst he;subst ch;exact h
 rw[Lk (by rw[hw];decide)];exact h
theorem Zr{F:List Nat}{Q:Act->Ba->Prop}{i:Nat}{oi:Oper}(hF:i∈F)(hi:ops[i]?=J oi)(AZ:∀(j:Nat) (o:Oper) cs b,ops[j]?=J o->o.op≠.select cs b) :
  ∀(fuel:Nat) (ac:Array Bool) (Kp:Ba->Prop) (a a1:Act) (w:Ba),
   (∀j oj,ops[j]?=J oj->j≠i->ac.getD j Ar=As->(∀e∈oj.after,Region.binds md e=Ar->e.on≠i)->oi.apart ops oj=Ar) ->
   Closed md ops ac->i∈Region.ready md ops ac->FloatTo P ops Kp oi a a1->Kp w ->
   uI P md ops F Q fuel (ac.setIfInBounds i Ar) Kp a1 w->uI P md ops F Q (fuel+1) ac Kp a w:=by
 intro fuel
 induction fuel with
 | zero=>
  intro ac Kp a a1 w _ _ hr hy hk H;refine⟨fun h=>(by rw[h] at hr;cases hr),fun j hj=>?_⟩
  by_cases fY:j=i
  . subst fY
    obtain⟨v,hv,rfl⟩:=hy w hk;exact vJ hi hv ⟨Kp,.inl fun _ h=>h,hk,H⟩
  . have:=ready_mono hj fY
    rw[H.1] at this
    cases this
 | succ fuel ih=>
  intro ac Kp a a1 w pG bD hr hy hk H;refine⟨fun h=>(by rw[h] at hr;cases hr),fun j hj=>?_⟩
  by_cases fY:j=i
  . subst fY
    obtain⟨v,hv,rfl⟩:=hy w hk;exact vJ hi hv ⟨Kp,.inl fun _ h=>h,hk,H⟩
  . have h1:=H.2 j (ready_mono hj fY)
    obtain⟨BF,oj,rC,ai⟩:=PG.1 hj
    have Ft:∀e∈oj.after,Region.binds md e=Ar->e.on≠i:=fun e he hb oC=>by
     have h1:=ai e he hb;have h0:=(PG.1 hr).1;rw[oC] at h1;rcases Nat.lt_or_ge i ac.size with h' | h'
     . simp[h'] at h0 h1;rw[h0] at h1;cases h1
     . simp[Array.getElem?_eq_none h'] at h1
    have h2:=kpOp_put rC (pG j oj rC fY BF Ft) (fun cs b=>AZ i oi cs b hi) (fun cs b=>AZ j oj cs b rC) hy hk h1
    have rT:∀k ok,ops[k]?=J ok->k≠i->(ac.setIfInBounds j Ar).getD k Ar=As ->
      (∀e∈ok.after,Region.binds md e=Ar->e.on≠i)->oi.apart ops ok=Ar:=fun k ok hk Ta Kx eF=>by
     refine pG k ok hk Ta ?_ eF
     by_cases BG:j=k
     . subst BG;exact BF
     . rw[getD_set_ne Ar BG] at Kx;exact Kx
    have SQ:Yb md ops F j=Ar->False:=fun DA=>by
     have h1:=Ya bD hj DA hF;have h0:=(PG.1 hr).1;rcases Nat.lt_or_ge i ac.size with h' | h'
     . simp[h'] at h0 h1;rw[h0] at h1;cases h1
     . simp[Array.getElem?_eq_none h'] at h1
    refine gY (fun a' w' ⟨Ej,hf,dE,nT,cX,h3⟩=>⟨dE,nT,cX,ih (ac.setIfInBounds j Ar) dE a' Ej w' rT (bD.set hj) (ready_mono hr (PF fY)) (hf.less (nT.resolve_right SQ)) cX ?_⟩) h2;rw[Array.setIfInBounds_comm _ _ fY];exact h3
def qz(P:Program)(md:Region.Mode)(ops:Array Oper)(F:List Nat)(Q:Act->Ba->Prop):List (Nat×Bool)->(Ba->Prop)->Act->Ba->Prop
 | [],_,a,w=>Q a w
 | (i,Ar)::r,Kp,a,w=>∃o a1,ops[i]?=J o/\FloatTo P ops Kp o a a1/\qz P md ops F Q r Kp a1 w
 | (i,As)::r,Kp,a,w=>Qa P ops i (fun a' w'=>∃dE:Ba->Prop,((∀W,dE W->Kp W)\/Yb md ops F i=Ar)/\dE w'/\qz P md ops F Q r dE a' w') a w
def X3(md:Region.Mode)(ops:Array Oper)(F:List Nat):List (Nat×Bool)->Array Bool->Bool
 | [],ac=>(Region.ready md ops ac).isEmpty
 | (i,Ar)::r,ac=>F.contains i&&(Region.ready md ops ac).contains i&&Region.free md ops ac i&&X3 md ops F r (ac.setIfInBounds i Ar)
 | (i,As)::r,ac=>decide (Region.ready md ops ac=[i])&&X3 md ops F r (ac.setIfInBounds i Ar)
theorem jj{F:List Nat}{Q:Act->Ba->Prop}(hs:Region.noSelect ops=Ar):∀(l:List (Nat×Bool)) (ac:Array Bool) (Kp:Ba->Prop) (a:Act) (w:Ba),
  X3 md ops F l ac=Ar->Closed md ops ac->Kp w->qz P md ops F Q l Kp a w->uI P md ops F Q l.length ac Kp a w
 | [],_,_,_,_,hB,_,_,h=>⟨by simpa[X3] using hB,h⟩
 | (i,Ar)::l,ac,Kp,a,w,hB,bD,hk,h=>by
  simp only[X3,Bool.and_eq_true] at hB;obtain⟨o,a1,ho,hf,h⟩:=h;have hr:i∈Region.ready md ops ac:=by simpa using hB.1.1.2
  exact Zr (by simpa using hB.1.1.1) ho (Region.noSelect_spec hs) l.length ac Kp a a1 w (Region.free_spec ho hB.1.2) bD hr hf hk (jj hs l _ Kp a1 w hB.2 (bD.set hr) hk h)
 | (i,As)::l,ac,Kp,a,w,hB,bD,hk,h=>by
  simp only[X3,Bool.and_eq_true,decide_eq_true_eq] at hB;refine⟨fun h1=>(by rw[hB.1] at h1;cases h1),fun j hj=>?_⟩;rw[hB.1] at hj;have fY:j=i:=by simpa using hj
  subst fY;exact gY (fun a' w' ⟨dE,nT,cX,h3⟩=>⟨dE,nT,cX,jj hs l _ dE a' w' hB.2 (bD.set (by rw[hB.1];simp)) cX h3⟩) h
def jR(l:List (Nat×Bool)):List Nat:=l.filterMap fun x=>if x.2 then J x.1 else Z
theorem Y0:Closed md ops (Array.replicate ops.size As):=fun j _ _ h=>by rw[Rl] at h;cases h
def ZK(md:Region.Mode)(ops:Array Oper)(l:List (Nat×Bool)):Bool:=Region.noSelect ops&&X3 md ops (jR l) l (Array.replicate ops.size As)&&l.length==ops.size
theorem Je{Q:Exit->Act->Ba->Prop}{a:Act}{w:Ba}{xs:List Oper}(l:List (Nat×Bool))(Kp:Ba->Prop)(hB:ZK .any xs.toArray l=Ar)
  (h0:Kp w) (h:qz P .any xs.toArray (jR l) (fun a' w'=>Q .normal a' w') l Kp a w):wpAny P .any xs.toArray Q xs.toArray.size (Array.replicate xs.toArray.size As) a w:=by
 unfold ZK at hB;simp only[Bool.and_eq_true,beq_iff_eq] at hB;have:=jj (md:=.any) hB.1.1 l _ Kp a w hB.1.2 Y0 h0 h;rw[hB.2] at this;exact ji (fun _ _ h=>h) _ _ _ _ _ this
theorem zI{id:Nat}{Q:Exit->Act->Ba->Prop}{a:Act}{w:Ba}{xs:List Oper}(l:List (Nat×Bool))(Kp:Ba->Prop)(hm:P.follows .mixedOrders=Ar)(hB:ZK .any xs.toArray l=Ar)
  (h0:Kp w.drew) (h:qz P .any xs.toArray (jR l) (fun a' w'=>Q .normal a' w') l Kp a w.drew):(Code.region id xs.toArray Ar).wp P Q a w:=
 wp_region_any hm (Je l Kp hB h0 h)
theorem ve{id k l0:Nat}{Q:Exit->Act->Ba->Prop}{a:Act}{w:Ba}{xs:List Oper}(l:List (Nat×Bool))(Kp:Ba->Prop)(hm:P.follows .mixedOrders=Ar)(hd:uB xs.toArray=Ar)(hB:ZK .any xs.toArray l=Ar)(eF:¬LetsOut Q)
  (h0:Kp w.drew) (h:qz P .any xs.toArray (jR l) (fun a' w'=>Q .normal a' w') l Kp a w.drew):(Code.region id xs.toArray Ar).wpIn (Fence.wide.inRound l0) k P Q a w:=
 wpIn_region_any hm (qN hd eF _ _ _ _ (Je l Kp hB h0 h))
theorem zU{F:List Nat}{Q:Act->Ba->Prop}{i:Nat}{r:List (Nat×Bool)}{Kp:Ba->Prop}{a a1:Act}{w:Ba}{o:Oper}(ho:ops[i]?=J o)
  (h:∀(K:Act->Prop),K a1->∀W,Kp W->if Region.wanted o (yielded ops a.tmps)=Ar then o.still P a W K else K (a.put o.dst undef))
  (k:qz P md ops F Q r Kp a1 w):qz P md ops F Q ((i,Ar)::r) Kp a w:=by
 refine⟨o,a1,ho,fun W hW=>?_,k⟩;have h2:=h (fun x=>x=a1) rfl W hW;have h3:stOp P ops W i (fun x=>x=a1) a:=by unfold stOp;simp only[ho];exact h2
 obtain⟨v,hv,he⟩:=yieldsAt_of_stOp ho h3;exact⟨v,hv,he⟩
theorem zN{F:List Nat}{Q:Act->Ba->Prop}{i:Nat}{r:List (Nat×Bool)}{Kp:Ba->Prop}{a:Act}{w:Ba}{o:Oper}(ho:ops[i]?=J o)
  (h:∀K:Act->Ba->Prop,(∀a' w',Kp w'->qz P md ops F Q r Kp a' w'->K a' w')->if Region.wanted o (yielded ops a.tmps)=Ar then o.wp P a w K Qf else K (a.put o.dst undef) w):qz P md ops F Q ((i,As)::r) Kp a w:=
 ⟨o,ho,h _ fun _ _ hk h3=>⟨Kp,.inl fun _ h=>h,hk,h3⟩⟩
theorem yr{F:List Nat}{Q:Act->Ba->Prop}{Kp:Ba->Prop}{a:Act}{w:Ba}(h:Q a w):qz P md ops F Q [] Kp a w:=h
theorem xv{F:List Nat}{Q:Act->Ba->Prop}{i:Nat}{r:List (Nat×Bool)}{Kp:Ba->Prop}{a:Act}{w:Ba}{o:Oper}(ho:ops[i]?=J o)(hs:Yb md ops F i=Ar)
  (h:∀K:Act->Ba->Prop,(∀(dE:Ba->Prop) a' w',dE w'->qz P md ops F Q r dE a' w'->K a' w')->if Region.wanted o (yielded ops a.tmps)=Ar then o.wp P a w K Qf else K (a.put o.dst undef) w):qz P md ops F Q ((i,As)::r) Kp a w:=
 ⟨o,ho,h _ fun dE _ _ hk h2=>⟨dE,.inr hs,hk,h2⟩⟩
end
end
section
open Go.RowKit
def Own(w:Ba)(base:Nat)(v:Aq)(xs:List Int):Prop:=w.ownsRow base 3 1 v xs.length (xs.map (O U))
theorem Own.nil(w:Ba)(base:Nat):Own w base (I Z 0 0) []:=PQ w base _ 1
theorem Own.drewN{w:Ba}{base:Nat}{v:Aq}{xs:List Int}(h:Own w base v xs)(n:Nat):Own (w.drewN n) base v xs:=h
theorem Own.kept{w w':Ba}{base:Nat}{v:Aq}{xs:List Int}{row:Option Nat}(h:Own w base v xs)(hg:w.grownBy w' row)(bj:v.ownBlock=Z\/v.ownBlock≠row):Own w' base v xs:=N9 h hg bj
theorem Own.alloc{w:Ba}{base:Nat}{v:Aq}{xs:List Int}(h:Own w base v xs)(o:Obj):Own (w.alloc o) base v xs:=Pk h o
theorem Own.below{w w':Ba}{base B:Nat}{v:Aq}{xs:List Int}(h:Own w base v xs)(hb:Am B w w')(hB:w.heap.size<=B):Own w' base v xs:=
 N9 (row:=Z) h ⟨hb.os,hb.tape,hb.output,hb.size,fun k hk _=>hb.block k (by omega)⟩ (by cases v.ownBlock<;>simp)
theorem Own.shut{w w':Ba}{base B:Nat}{v:Aq}{xs:List Int}(h:Own w base v xs)(hs:Shut B w w'):Own w' base v xs:=hs.own h
theorem Own.form{w:Ba}{base:Nat}{v:Aq}{xs:List Int}(h:Own w base v xs):∃A cap,v=I A xs.length cap/\xs.length<=cap/\cap<=maxLen/\IAt w w.heap.size A xs:=by
 rcases h.2 with ⟨rfl,h0⟩ | ⟨g,cap,cur,rfl,_,_,dJ,iy,_⟩
 . have:xs=[]:=LO h0
   subst this;exact⟨Z,0,rfl,Lh _,Nn _,IAt.nil _ _ _⟩
 exact⟨_,_,rfl,dJ,iy,IAt.of_own h⟩
theorem Own.low{w:Ba}{base base':Nat}{v:Aq}{xs:List Int}(h:Own w base v xs)(hb:base'<=base):Own w base' v xs:=by
 refine⟨h.1,?_⟩;rcases h.2 with h2 | ⟨g,cap,cur,hv,hg,r⟩
 . exact Or.inl h2
 exact Or.inr ⟨g,cap,cur,hv,by omega,r⟩
theorem Own.lt{w:Ba}{base:Nat}{v:Aq}{xs:List Int}(h:Own w base v xs):∀k,v.ownBlock=J k->base<=k/\k<w.heap.size:=P7 h
theorem wu:(Al.info? 3).map (fun i=>(i.zero,i.size,i.bytes))=J (J (O U 0),1,8):=by kernel_rfl
theorem yU{w w':Ba}{o:Obj}{row:Option Nat}(h:(w.alloc o).grownBy w' row):w.grownBy w' row:=
 ⟨h.os,h.tape,h.output,LE (by simp) h.size,fun k hk bj=>(h.block k (by simp;omega) bj).trans (NJ w o k hk)⟩
theorem kh{ops:Array Oper}{rest:List Oper}{o:Oper}{a:Act}{Q:Exit->Act->Ba->Prop}{W:Ba}(dn:o.guard=Z)(s x:Operand)
  (rA:o.op=.call { callee:=.builtin .append,args:=#[s,x],argTypes:=#[49,49] }) (base:Nat) (v:Aq) (xs:List Int) (u:Int) (hs:a.eval s=v) (ap:Own W base v xs)
  (hx:a.eval x=I (J ⟨W.heap.size,0,Z⟩) 1 1) (aM:xs.length<8796093022208) (hb:base<=W.heap.size)
  (h:∀v' w1,Own w1 base v' (xs++[u])->W.grownBy w1 v.ownBlock->Am base W w1->wpList Al ops Q rest (a.put o.dst v') w1) :
  wpList Al ops Q (o::rest) a (W.alloc (Ag #[O U u] 3)):=by
 obtain⟨i0,hi,cG,bQ,cB⟩:=Rc wu
 refine N0 _ dn s x 49 rA base 3 i0 (O U 0) 1 8 Ni hi cG bQ cB rfl (by decide) v xs.length _ hs (Pk ap _) ⟨W.heap.size,0,Z⟩ 1 1 [O U u] hx rfl (cell_one_new _ _ _)
  (by simp[Value.oneCell']) (by unfold maxLen;omega) (by omega) (by simp;omega) ?_
 intro v' w1 aY aS _;have hg:=yU aS;refine h v' w1 ?_ hg ((Ln base W).grown hg hb fun k hk=>(ap.lt k hk).1);unfold Own;rw[Lp,LN];exact aY
theorem qv{F:Fence}{n:Nat}{ops:Array Oper}{rest:List Oper}{o:Oper}{a:Act}{Q:Exit->Act->Ba->Prop}{W:Ba}(dn:o.guard=Z)(s x:Operand)
  (rA:o.op=.call { callee:=.builtin .append,args:=#[s,x],argTypes:=#[49,49] }) (base:Nat) (v:Aq) (xs:List Int) (u:Int) (hs:a.eval s=v) (ap:Own W base v xs)
  (hx:a.eval x=I (J ⟨W.heap.size,0,Z⟩) 1 1) (aM:xs.length<8796093022208) (hb:base<=W.heap.size)
  (h:∀v' w1,Own w1 base v' (xs++[u])->W.grownBy w1 v.ownBlock->Am base W w1->wpListIn F n Al ops Q rest (a.put o.dst v') w1) :
  wpListIn F n Al ops Q (o::rest) a (W.alloc (Ag #[O U u] 3)):=by
 obtain⟨i0,hi,cG,bQ,cB⟩:=Rc wu
 refine wpListIn_append_own _ dn s x 49 rA base 3 i0 (O U 0) 1 8 Ni hi cG bQ cB rfl (by decide) v xs.length _ hs (Pk ap _) ⟨W.heap.size,0,Z⟩ 1 1 [O U u] hx rfl (cell_one_new _ _ _)
  (by simp[Value.oneCell']) (by unfold maxLen;omega) (by omega) (by simp;omega) ?_
 intro v' w1 aY aS _;have hg:=yU aS;refine h v' w1 ?_ hg ((Ln base W).grown hg hb fun k hk=>(ap.lt k hk).1);unfold Own;rw[Lp,LN];exact aY
theorem IAt.up{w w':Ba}{A:Bb}{xs:List Int}(h:IAt w w.heap.size A xs)(hb:Am w.heap.size w w'):IAt w' w'.heap.size A xs:=(h.keep hb).more hb.size
theorem IAt.box(w:Ba)(x:Int)(t:TypeId):IAt (w.alloc (Ag #[O U x] t)) (w.alloc (Ag #[O U x] t)).heap.size (J ⟨w.heap.size,0,Z⟩) [x]:=fun _=>
 ⟨w.heap.size,0,rfl,by simp,fun i hi=>by
  have:i=0:=by simp at hi;omega
  subst this
  exact za (ze w _) 0 rfl⟩
theorem own_push{w W w2:Ba}{v:Aq}{xs:List Int}(ho:Own w2 W.heap.size v xs)(hb:Am W.heap.size W w2)(h:Am w.heap.size w W):Own w2 w.heap.size v xs/\Am w.heap.size w w2:=
 ⟨ho.low h.size,Lc h hb⟩
def ZZ(xs:List Int)(w:Ba)(e:Ending)(w':Ba):Prop:=∃v,e=Ak v/\Own w' w.heap.size v xs/\Am w.heap.size w w'
def RowAt(w:Ba)(g:Nat)(xs:List Int):Prop:=w.heap[g]?=J (Ag (xs.map (O U)).toArray 3 (0,0))
theorem RowAt.cell{w:Ba}{g:Nat}{xs:List Int}(h:RowAt w g xs)(k:Nat)(hk:k<xs.length):w.cell? ⟨g,k,Z⟩=J (O U xs[k]):=za h k (by simp[hk])
theorem RowAt.froz{w:Ba}{g:Nat}{xs:List Int}(h:RowAt w g xs)(k:Nat):w.frozen? ⟨g,k,Z⟩=As:=zb h k
theorem RowAt.lt{w:Ba}{g:Nat}{xs:List Int}(h:RowAt w g xs):g<w.heap.size:=zd h
theorem RowAt.set{w:Ba}{g:Nat}{xs:List Int}(h:RowAt w g xs)(k:Nat)(u:Int):RowAt (w.setCell ⟨g,k,Z⟩ (O U u)) g (xs.set k u):=by
 unfold RowAt at *;rw[World.setCell,Pe,Lm rfl,h];simp[List.map_set]
theorem RowAt.own{w:Ba}{g base:Nat}{xs:List Int}(h:RowAt w g xs)(hb:base<=g)(hl:xs.length<=maxLen):Own w base (I (J ⟨g,0,Z⟩) xs.length xs.length) xs:=by
 refine⟨by simp,.inr ⟨g,xs.length,_,rfl,hb,h,Lh _,hl,by simp,by rw[NS];simp[List.take_of_length_le]⟩⟩
theorem zq(w:Ba)(c1:Array Aq)(t1:TypeId):∃W0,w.alloc (Ag c1 t1)=W0/\W0.heap[w.heap.size]?=J (Ag c1 t1 (0,0))/\W0.heap.size=w.heap.size+1/\Am w.heap.size w W0:=
 ⟨_,rfl,ze _ _,by simp,zw w _⟩
theorem yj(w:Ba)(g k:Nat)(v':Aq):w.grownBy (w.setCell ⟨g,k,Z⟩ v') (J g):=
 ⟨rfl,rfl,rfl,by simp[World.setCell],fun j _ hj=>Ld w ⟨g,k,Z⟩ v' j (fun e=>hj (by rw[e]))⟩
structure TArg(w:Ba)(A:Bb)(cap:Nat)(vs:List Vw):Prop where
 rows:VAt w w.heap.size A vs
 lec:vs.length<=cap
 lem:cap<=maxLen
 few:vs.length<=100000
theorem TArg.keep{w w':Ba}{A:Bb}{cap:Nat}{vs:List Vw}(h:TArg w A cap vs)(hb:Am w.heap.size w w'):TArg w' A cap vs:=
 ⟨(h.rows.keep hb).more hb.size,h.lec,h.lem,h.few⟩
def yo(vs:List Vw):List Aq:=vs.flatMap fun x=>x.cells.toList
theorem kX(vs us:List Vw):yo (vs++us)=yo vs++yo us:=by simp[yo]
theorem kW(vs:List Vw):(yo vs).length=vs.length*8:=by
 induction vs with
 | nil=>rfl
 | cons v vs ih=>simp only[yo,List.flatMap_cons,List.length_append,List.length_cons] at *;rw[ih];simp[Vw.cells];omega
theorem j9:∀(vs:List Vw) (i:Nat) (hi:i<vs.length) (k:Nat),k<8->(yo vs)[i*8+k]?=vs[i].cells[k]?
 | v::vs,0,hi,k,hk=>by
  simp only[yo,List.flatMap_cons,List.getElem_cons_zero,Nat.zero_mul,Nat.zero_add];rw[L3 (by simp[Vw.cells];omega)];simp
 | v::vs,i+1,hi,k,hk=>by
  have:=j9 vs i (by simpa using hi) k hk;simp only[yo,List.flatMap_cons,List.getElem_cons_succ] at *;rw[LW (by simp[Vw.cells];omega),<-this]
  congr 1
  simp[Vw.cells];omega
def OwnV(w:Ba)(base:Nat)(v:Aq)(vs:List Vw):Prop:=w.ownsRow base 100 8 v vs.length (yo vs)
theorem OwnV.nil(w:Ba)(base:Nat):OwnV w base (I Z 0 0) []:=PQ w base _ 8
theorem OwnV.form{w:Ba}{base:Nat}{v:Aq}{vs:List Vw}(h:OwnV w base v vs)(hf:vs.length<=100000):∃A cap,v=I A vs.length cap/\TArg w A cap vs:=by
 rcases h.2 with ⟨rfl,h0⟩ | ⟨g,cap,cur,rfl,_,hg,dJ,iy,_⟩
 . have:vs=[]:=LO h0
   subst this;exact⟨Z,0,rfl,fun h=>absurd h (by simp),Lh _,Nn _,hf⟩
 refine⟨_,_,rfl,fun _=>⟨g,0,rfl,(Lf.1 hg).1,fun i hi k u hk=>?_⟩,dJ,iy,hf⟩;have li:k<8:=by have:=(Lf.1 hk).1;simpa[Vw.cells] using this
 have:=h.cells (g:=g) rfl (i*8+k) u (by rw[j9 vs i hi k li];exact hk);rw[show(⟨g,0,Z⟩:Addr).add (i*8+k)=⟨g,0+i*8+k,Z⟩ from by unfold Addr.add;split<;>simp_all] at this;exact this
theorem OwnV.low{w:Ba}{base base':Nat}{v:Aq}{xs:List Vw}(h:OwnV w base v xs)(hb:base'<=base):OwnV w base' v xs:=by
 refine⟨h.1,?_⟩;rcases h.2 with h2 | ⟨g,cap,cur,hv,hg,r⟩
 . exact Or.inl h2
 exact Or.inr ⟨g,cap,cur,hv,by omega,r⟩
theorem OwnV.lt{w:Ba}{base:Nat}{v:Aq}{xs:List Vw}(h:OwnV w base v xs):∀k,v.ownBlock=J k->base<=k/\k<w.heap.size:=P7 h
theorem vu:(Al.info? 100).map (fun i=>(i.zero,i.size,i.bytes))=J (J (.agg (⟨0,0,0,0,0,0,0,0⟩:Vw).cells),8,64):=by kernel_rfl
theorem vF(v:Vw):∀u∈v.cells.toList,u.oneCell'=Ar:=by
 intro u hu;simp only[Vw.cells,List.mem_cons,List.not_mem_nil,or_false] at hu;rcases hu with rfl | rfl | rfl | rfl | rfl | rfl | rfl | rfl<;>rfl
theorem Xm(vs:List Vw):∀u∈yo vs,u.oneCell'=Ar:=by
 intro u hu;obtain⟨v,_,hv⟩:=Nm.1 hu;exact vF v u hv
theorem ge(c:Nat)(ty:TypeId)(W:Ba):(Builtin.append_ #[31,31] ty #[I Z 0 0,I Z 0 c]).run Al W=.ok (I Z 0 0) W:=by
 obtain⟨i0,hi,_⟩:=Rc vu;simp[Builtin.append_,run_underlying underlying31,sizeOf,typeInfo,hi,Builtin.lenOf,Builtin.firstCells]
theorem TArg.news{w:Ba}{ad:Addr}{cap:Nat}{vs:List Vw}(h:TArg w (J ad) cap vs):∀j u,(yo vs)[j]?=J u->w.cell? (ad.add j)=J u:=by
 intro j u hj;have KW:j<vs.length*8:=by have:=(Ll.1 hj).1;rwa[kW] at this
 obtain⟨b,off,e,aa,hc⟩:=h.rows (by omega)
 cases e
 rw[NR];have cN:j / 8<vs.length:=by omega
 have h8:j / 8*8+j % 8=j:=by omega
 rw[<-h8,j9 vs (j / 8) cN (j % 8) (by omega)] at hj;have:=hc (j / 8) cN (j % 8) u hj;rwa[Pw,h8] at this
theorem OwnV.lit{w:Ba}{base:Nat}{v:Aq}{vs:List Vw}(h:OwnV w base v vs):∃A cap,v=I A vs.length cap:=by
 rcases h.2 with ⟨rfl,h0⟩ | ⟨g,cap,cur,rfl,_⟩
 . exact⟨Z,0,by rw[h0]⟩
 exact⟨_,_,rfl⟩
theorem wp_appv0{o:Oper}{a:Act}{K:Act->Ba->Prop}{Q:Exit->Act->Ba->Prop}{W:Ba}(s x:Operand)
  (ho:o.op=.call { callee:=.builtin .append,args:=#[s,x],argTypes:=#[31,31] }) (base:Nat) (hs:a.eval s=I Z 0 0) (A:Bb) (cap:Nat) (vs:List Vw)
  (hx:a.eval x=I A vs.length cap) (hT:TArg W A cap vs) (hb:base<=W.heap.size)
  (h:∀A' aZ w1,OwnV w1 base (I A' vs.length aZ) vs->W.grownBy w1 Z->K (a.put o.dst (I A' vs.length aZ)) w1):o.wp Al a W K Q:=by
 obtain⟨i0,hi,cG,bQ,cB⟩:=Rc vu
 cases A with
 | none=>
  have im:vs=[]:=by
   rcases Np vs.length with h | h
   . exact LO h
   . obtain⟨b,off,e,_⟩:=hT.rows h;cases e
  subst im;have de:=ge cap o.type W;unfold Oper.wp execOp;simp only[ho,resolve,invoke,builtin,Sem.run_bind,Sem.run_pure,Result.andThen_ok,List.map_toArray,List.map_cons,List.map_nil,hs,hx,List.length_nil,de];exact h Z 0 W (OwnV.nil _ _) (Pa _ _)
 | some ad=>
  refine wp_append_own W s x 31 ho base 100 i0 _ 8 64 PV hi cG bQ cB rfl (by decide) _ 0 [] hs (PQ W base _ 8) ad vs.length cap (yo vs) hx (kW vs) hT.news (Xm vs) (by have:=hT.few;unfold maxLen;omega) (by have:=hT.few;omega) hb ?_;intro v' w1 ap aS _;have dl:OwnV w1 base v' vs:=by unfold OwnV;simpa using ap
  obtain⟨A',aZ,rfl⟩:=dl.lit;exact h A' aZ w1 dl aS
theorem wp_appv1{o:Oper}{a:Act}{K:Act->Ba->Prop}{Q:Exit->Act->Ba->Prop}{W:Ba}(s x:Operand)
  (ho:o.op=.call { callee:=.builtin .append,args:=#[s,x],argTypes:=#[31,31] }) (base:Nat) (V:Aq) (vs:List Vw) (v:Vw) (hs:a.eval s=V) (ap:OwnV W base V vs) (hf:vs.length<=100000)
  (g:Nat) (hx:a.eval x=I (J ⟨g,0,Z⟩) 1 1) (hg:W.heap[g]?=J (Ag v.cells 100 (0,0))) (hb:base<=W.heap.size)
  (h:∀A' aZ w1,OwnV w1 base (I A' (vs.length+1) aZ) (vs++[v])->W.grownBy w1 V.ownBlock->K (a.put o.dst (I A' (vs.length+1) aZ)) w1):o.wp Al a W K Q:=by
 obtain⟨i0,hi,cG,bQ,cB⟩:=Rc vu
 refine wp_append_lies W s x 31 ho base 100 i0 _ 8 64 PV hi cG bQ cB rfl (by decide) V vs.length (yo vs) hs ap ⟨g,0,Z⟩ 1 1 v.cells.toList hx (by simp[Vw.cells])
  (Rr hg) (vF v) (by omega) (by unfold maxLen;omega) (by omega) hb _ rfl ?_
 intro g' cap w1 dl aS _ _;refine h _ cap w1 ?_ aS;unfold OwnV;rw[Lp,kX];simpa[yo] using dl
theorem Xq{ops:Array Oper}{o:Oper}{a:Act}{K:Act->Ba->Prop}{Q:Exit->Act->Ba->Prop}{E:Prop}{W:Ba}(dn:o.guard=Z)(s x:Operand)
  (ho:o.op=.call { callee:=.builtin .append,args:=#[s,x],argTypes:=#[31,31] }) (base:Nat) (hs:a.eval s=I Z 0 0) (A:Bb) (cap:Nat) (vs:List Vw)
  (hx:a.eval x=I A vs.length cap) (hT:TArg W A cap vs) (hb:base<=W.heap.size)
  (h:∀A' aZ w1,OwnV w1 base (I A' vs.length aZ) vs->W.grownBy w1 Z->K (a.put o.dst (I A' vs.length aZ)) w1) :
  if Region.wanted o (yielded ops a.tmps)=Ar then Oper.wp Al o a W K Q else E:=by
 have hw:Region.wanted o (yielded ops a.tmps)=Ar:=by simp[Region.wanted,dn]
 rw[Lm hw];exact wp_appv0 s x ho base hs A cap vs hx hT hb h
theorem uM{ops:Array Oper}{o:Oper}{a:Act}{K:Act->Ba->Prop}{Q:Exit->Act->Ba->Prop}{E:Prop}{W:Ba}(dn:o.guard=Z)(s x:Operand)
  (ho:o.op=.call { callee:=.builtin .append,args:=#[s,x],argTypes:=#[31,31] }) (base:Nat) (V:Aq) (vs:List Vw) (v:Vw) (hs:a.eval s=V) (ap:OwnV W base V vs) (hf:vs.length<=100000)
  (g:Nat) (hx:a.eval x=I (J ⟨g,0,Z⟩) 1 1) (hg:W.heap[g]?=J (Ag v.cells 100 (0,0))) (hb:base<=W.heap.size)
  (h:∀A' aZ w1,OwnV w1 base (I A' (vs.length+1) aZ) (vs++[v])->W.grownBy w1 V.ownBlock->K (a.put o.dst (I A' (vs.length+1) aZ)) w1) :
  if Region.wanted o (yielded ops a.tmps)=Ar then Oper.wp Al o a W K Q else E:=by
 have hw:Region.wanted o (yielded ops a.tmps)=Ar:=by simp[Region.wanted,dn]
 rw[Lm hw];exact wp_appv1 s x ho base V vs v hs ap hf g hx hg hb h
theorem zR{W w1:Ba}{row:Option Nat}{b o:Nat}{u:Aq}(hg:W.grownBy w1 row)(h:W.cell? ⟨b,o,Z⟩=J u)(bj:row≠J b):w1.cell? ⟨b,o,Z⟩=J u:=by
 obtain⟨ob,ho,_⟩:=Rv h;rw[LU ((hg.block b (Lf.1 ho).1 (fun e=>bj e.symm)))];exact h
theorem jt(w:Ba)(g k:Nat)(v':Aq):w.grownBy (w.setCell ⟨g,k,Z⟩ v') (J g):=
 ⟨rfl,rfl,rfl,by simp[World.setCell],fun j _ hj=>Ld w ⟨g,k,Z⟩ v' j (fun e=>hj (by rw[e]))⟩
theorem Ql{W w1:Ba}{row:Option Nat}{b:Nat}{o:Obj}(hg:W.grownBy w1 row)(h:W.heap[b]?=J o)(bj:row≠J b):w1.heap[b]?=J o:=
 (hg.block b (Lf.1 h).1 (fun e=>bj e.symm)).trans h
theorem OwnV.kept{w w':Ba}{base:Nat}{v:Aq}{vs:List Vw}{row:Option Nat}(h:OwnV w base v vs)(hg:w.grownBy w' row)(bj:v.ownBlock=Z\/v.ownBlock≠row):OwnV w' base v vs:=N9 h hg bj
theorem OwnV.alloc{w:Ba}{base:Nat}{v:Aq}{vs:List Vw}(h:OwnV w base v vs)(o:Obj):OwnV (w.alloc o) base v vs:=Pk h o
theorem OwnV.drew{w:Ba}{base:Nat}{v:Aq}{vs:List Vw}(h:OwnV w base v vs):OwnV w.drew base v vs:=h
theorem OwnV.below{w w':Ba}{base B:Nat}{v:Aq}{xs:List Vw}(h:OwnV w base v xs)(hb:Am B w w')(hB:w.heap.size<=B):OwnV w' base v xs:=
 N9 (row:=Z) h ⟨hb.os,hb.tape,hb.output,hb.size,fun k hk _=>hb.block k (by omega)⟩ (by cases v.ownBlock<;>simp)
theorem ju{W w1:Ba}{row:Option Nat}{b o:Nat}(hg:W.grownBy w1 row)(h:W.frozen? ⟨b,o,Z⟩=As)(aa:b<W.heap.size)(bj:row≠J b):w1.frozen? ⟨b,o,Z⟩=As:=
 (World.grownBy.frozen_far hg ⟨b,o,Z⟩ aa (fun e=>bj e.symm)).trans h
theorem OwnV.ne{w:Ba}{base b:Nat}{v:Aq}{xs:List Vw}(h:OwnV w base v xs)(hb:b<base):v.ownBlock≠J b:=fun e=>by
 have:=(h.lt b e).1;omega
def RetPut(n:Int)(A:Bb)(cap:Nat)(vs:List Vw)(v:Vw)(w:Ba)(e:Ending)(w':Ba):Prop:=
 Am w.heap.size w w'/\(v∈vs->e=Ak (.tuple #[Ai #[O U n,I A vs.length cap],O U (qp vs v)])) /\
  (v∉vs->∃A3 dN,e=Ak (.tuple #[Ai #[O U n,I A3 (vs.length+1) dN],O U vs.length])/\OwnV w' w.heap.size (I A3 (vs.length+1) dN) (vs++[v]))
theorem xF(w:Ba)(c1 c2 c3:Array Aq)(t1 t2 t3:TypeId):∃W0,((w.alloc (Ag c1 t1)).alloc (Ag c2 t2)).alloc (Ag c3 t3)=W0/\W0.heap[w.heap.size]?=J (Ag c1 t1 (0,0))/\W0.heap[w.heap.size+1]?=J (Ag c2 t2 (0,0)) /\
  W0.heap[w.heap.size+1+1]?=J (Ag c3 t3 (0,0))/\W0.heap.size=w.heap.size+3/\Am w.heap.size w W0:=
 ⟨_,rfl,zC (zC (ze _ _) _) _,zC (by have:=ze (w.alloc (Ag c1 t1)) (Ag c2 t2);rwa[LS] at this) _,
  by have:=ze ((w.alloc (Ag c1 t1)).alloc (Ag c2 t2)) (Ag c3 t3);rwa[LS,LS] at this,by simp,bel3 w _ _ _⟩
def PutCut(n:Int)(vs:List Vw)(v:Vw)(g:Nat)(w1:Ba)(s:Aq)(wx:Ba):Prop:=
 s=Aj (J ⟨g,0,Z⟩)/\∃A cap,wx.cell? ⟨g,0,Z⟩=J (O U n)/\wx.cell? ⟨g,1,Z⟩=J (I A (vs.length+1) cap)/\OwnV wx (g+1) (I A (vs.length+1) cap) (vs++[v])/\Am g w1 wx
theorem put_any(n:Int)(A:Bb)(cap:Nat)(vs:List Vw)(v:Vw)(w:Ba)(hT:TArg w A cap vs)(hl:vs.length<100000) :
  An Al 126 #[Ai #[O U n,I A vs.length cap],.agg v.cells] w (RetPut n A cap vs v w):=by
 have HT:=zH hT;have df:=hT.few;go_enter func126,ntmps126;unfold Vw.cells;go_wp2_with fail;obtain⟨W0,bg,b0,b1,b2,bk,bh⟩:=xF w #[O U n,I A vs.length cap] v.cells #[O U 0,I Z 0 0] 33 100 33;unfold Vw.cells at bg;rw[bg];have c0:W0.heap[w.heap.size+1]?=J (Ag v.cells 100 (0,0)):=b1;have Cl:=HT.out.keep bh;refine(JX n A cap vs v W0 W0.heap.size (Lh _) Cl.rows (by omega)).mono ?_;rintro e w1 ⟨rfl,hb⟩;have HV:Ap (w1.heap[w.heap.size+1]?=J (Ag v.cells 100 (0,0))):=Lb hb (by omega) c0;have d0:=Lb hb (by omega) b0;have d2:=Lb hb (by omega) b2;have D9:=zH (Cl.keep hb);have B1:Ap (Am w.heap.size w w1):=bh.trans (hb.mono (by omega));have l0:w.heap.size+3<=w1.heap.size:=by have:=hb.size;omega
 obtain⟨t0,t1,_⟩:=Ka d0;obtain⟨r0,r1,_⟩:=Ka d2;have f0:=zb d2 0;have f1:=zb d2 1
 by_cases hv:v∈vs
 . have hz:=zH hv
   have h0:0<=qp vs v:=YN hv;go_wp2_with fail;have bu:Ap (Am w.heap.size w ((w1.setCell ⟨w.heap.size+1+1,0,Z⟩ (O U n)).setCell ⟨w.heap.size+1+1,1,Z⟩ (I A vs.length cap))):=(B1.out.setCell (by simp;omega) _).setCell (by simp;omega) _;exact LP (v:=.tuple #[Ai #[O U n,I A vs.length cap],O U (qp vs v)]) (by simp[results,results126,go_sem,r0,r1]) rfl ⟨bu.out,fun _=>rfl,fun h=>absurd hz.out h⟩
 have hz:Ap (v∉vs):=hv;have h0:qp vs v=-1:=by unfold qp;rw[Lk hv]
 have h1:qp vs v<0:=by omega
 go_upto_region 5 with fail
 obtain⟨W2,eZ,g0,eQ,bG⟩:=zq w1 #[O U n,I Z 0 0] 33;rw[eZ];clear eZ;have pO:W2.heap[w.heap.size+1]?=J (Ag v.cells 100 (0,0)):=Lb bG (by omega) HV.out;have D0:W2.heap[w.heap.size]?=J (Ag #[O U n,I A vs.length cap] 33 (0,0)):=Lb bG (by omega) d0;have D2:W2.heap[w.heap.size+1+1]?=J (Ag #[O U 0,I Z 0 0] 33 (0,0)):=Lb bG (by omega) d2;have x0:W2.cell? ⟨w.heap.size+1,0,Z⟩=J (O U v.p):=za pO 0 rfl;have x1:W2.cell? ⟨w.heap.size+1,1,Z⟩=J (O U v.r):=za pO 1 rfl;have x2:W2.cell? ⟨w.heap.size+1,2,Z⟩=J (O U v.i):=za pO 2 rfl;have x3:W2.cell? ⟨w.heap.size+1,3,Z⟩=J (O U v.h0):=za pO 3 rfl;have x4:W2.cell? ⟨w.heap.size+1,4,Z⟩=J (O U v.h1):=za pO 4 rfl;have x5:W2.cell? ⟨w.heap.size+1,5,Z⟩=J (O U v.h2):=za pO 5 rfl;have x6:W2.cell? ⟨w.heap.size+1,6,Z⟩=J (O U v.h3):=za pO 6 rfl;have x7:W2.cell? ⟨w.heap.size+1,7,Z⟩=J (O U v.h4):=za pO 7 rfl;have s1:W2.cell? ⟨w.heap.size,1,Z⟩=J (I A vs.length cap):=za D0 1 rfl;have y1:W2.cell? ⟨w1.heap.size,1,Z⟩=J (I Z 0 0):=za g0 1 rfl;have y0:W2.cell? ⟨w1.heap.size,0,Z⟩=J (O U n):=za g0 0 rfl;have BX:=zH bG;have l3:w.heap.size<W2.heap.size:=by omega
 have z1:=zb g0 1;have l2:w1.heap.size<W2.heap.size:=by omega
 have sm:=zH (D9.out.keep bG);have B2:Ap (Am w.heap.size w W2):=Lc B1.out bG;have aX:=zH d0;have fd:=zH d2;clear d0 d2 t0 t1 r0 r1 f0 f1 bG eQ
 go_cut [7] (fun s7 wx=>PutCut n vs v w1.heap.size w1 s7 wx)
 case first=>
  go_region_law ((first
    | (refine Xq (by rfl) (.tmp 19) (.tmp 21) (by rfl) W2.heap.size (by rfl) A cap vs (by rfl) (by first | exact sm.out.keep (Ln _ _).drew | exact sm.out.keep (zw W2 _).drew) (by simp) ?_;intro A1 CC wA cM bX;have hG:W2.grownBy wA Z:=(by first | exact⟨bX.os,bX.tape,bX.output,bX.size,bX.block⟩ | exact yU (o:=Ag v.cells 100) ⟨bX.os,bX.tape,bX.output,bX.size,bX.block⟩);have e0:=zR hG x0 (by simp);have e1:=zR hG x1 (by simp);have e2:=zR hG x2 (by simp);have e3:=zR hG x3 (by simp);have e4:=zR hG x4 (by simp);have e5:=zR hG x5 (by simp);have e6:=zR hG x6 (by simp);have e7:=zR hG x7 (by simp);have e8:=zR hG y1 (by simp);have e9:=ju hG z1 l2 (by simp);have Va:W2.heap.size<=wA.heap.size:=hG.size)
    | (refine uM (by rfl) (.tmp 22) (.tmp 24) (by rfl) W2.heap.size _ vs v (by rfl) (cM.alloc _) (by omega) wA.heap.size (by rfl) (ze wA _) (by first | omega | (simp;omega)) ?_;intro A3 dN wB me aG;have hH:wA.grownBy wB (I A1 vs.length CC).ownBlock:=(by first | exact⟨aG.os,aG.tape,aG.output,aG.size,aG.block⟩ | exact yU (o:=Ag v.cells 100) ⟨aG.os,aG.tape,aG.output,aG.size,aG.block⟩);have h8:=zR hH e8 (cM.ne (by omega));have h9:=ju hH e9 (by omega) (cM.ne (by omega));have CA:Am w1.heap.size w1 wB:=(BX.out.grown hG (by omega) (by simp)).grown hH (by omega) (fun k hk=>by have:=(cM.lt k hk).1;omega);have MO:=zR hH (zR hG y0 (by simp)) (cM.ne (by omega)))
    | (refine uM (by rfl) (.tmp 22) (.tmp 24) (by rfl) W2.heap.size _ vs v (by rfl) (cM) (by omega) W2.heap.size (by rfl) (Ql bX (ze W2 _) (by simp)) (by first | omega | (simp;omega)) ?_;intro A3 dN wB me aG;have hH:wA.grownBy wB (I A1 vs.length CC).ownBlock:=(by first | exact⟨aG.os,aG.tape,aG.output,aG.size,aG.block⟩ | exact yU (o:=Ag v.cells 100) ⟨aG.os,aG.tape,aG.output,aG.size,aG.block⟩);have h8:=zR hH e8 (cM.ne (by omega));have h9:=ju hH e9 (by omega) (cM.ne (by omega));have CA:Am w1.heap.size w1 wB:=(BX.out.grown hG (by omega) (by simp)).grown hH (by omega) (fun k hk=>by have:=(cM.lt k hk).1;omega);have MO:=zR hH (zR hG y0 (by simp)) (cM.ne (by omega)))))
  all_goals
   go_wp2_with fail
   go_meet
   refine⟨rfl,A3,dN,by simp[go_sem,MO],by simp[go_sem,h8],?_,CA.setCell (by simp) _⟩;exact(OwnV.kept me (jt wB w1.heap.size 1 _) (Or.inr (me.ne l2))).low l2
 obtain⟨rfl,A3,dN,c0,c1,tL,dZ⟩:=hcut;have D0:=Lb dZ (by omega) aX.out;have D2:=Lb dZ (by omega) fd.out;have t1:wc.cell? ⟨w.heap.size,1,Z⟩=J (I A vs.length cap):=za D0 1 rfl;obtain⟨r0,r1,_⟩:=Ka D2;have f0:=zb D2 0;have f1:=zb D2 1;have CP:=zH tL;have cx:Ap (Am w.heap.size w wc):=Lc B1.out dZ;go_wp2_with fail
 go_region
 all_goals
  go_wp2_with fail;have bu:Ap (Am w.heap.size w (((wc.setCell ⟨w.heap.size+1+1,0,Z⟩ (O U n)).setCell ⟨w.heap.size+1+1,1,Z⟩ (I A3 (vs.length+1) dN)).drew)):=((cx.out.setCell (by simp;omega) _).setCell (by simp;omega) _).drew
  have FX:OwnV ((wc.setCell ⟨w.heap.size+1+1,0,Z⟩ (O U n)).setCell ⟨w.heap.size+1+1,1,Z⟩ (I A3 (vs.length+1) dN)) (w1.heap.size+1) (I A3 (vs.length+1) dN) (vs++[v]):=
   (CP.out.kept (jt wc (w.heap.size+1+1) 0 _) (Or.inr (CP.out.ne (by omega)))).kept (jt _ (w.heap.size+1+1) 1 _) (Or.inr (CP.out.ne (by omega)))
  exact LP (v:=.tuple #[Ai #[O U n,I A3 (vs.length+1) dN],O U vs.length]) (by simp[results,results126,go_sem,r0,r1]) rfl ⟨bu.out,fun h=>absurd h hz.out,fun _=>⟨A3,dN,rfl,(OwnV.drew FX).low (by have:=B1.out.size;omega)⟩⟩
end
section
open Go.RowKit
attribute [local go_sem] Oper.semAt_some
def exMv(p:Int):Mv:=⟨⟨2,p,3,0,0,0,0⟩,0⟩
def exC1:Cs:=⟨[0,0],[[0,0]],[]⟩
def exC2:Cs:=⟨[0,1],[[0,0]],[]⟩
def exPb:Pb:=⟨⟨2,2,1,[exC1,exC2]⟩,⟨2,[[exMv 1,exMv 3]]⟩,1⟩
theorem JK{w X:Ba}{g B:Nat}{a0 a1 a2 a3 a4 a5 a6:Aq}(v0 v1 v2 v3 v4 v5 v6:Aq)(hg:X.heap[g]?=J (Ag #[a0,a1,a2,a3,a4,a5,a6] 29 (0,0)))(hB:Am B w X)(h1:B<=g) :
  (((((((X.setCell ⟨g,0,Z⟩ v0).setCell ⟨g,1,Z⟩ v1).setCell ⟨g,2,Z⟩ v2).setCell ⟨g,3,Z⟩ v3).setCell ⟨g,4,Z⟩ v4).setCell ⟨g,5,Z⟩ v5).setCell ⟨g,6,Z⟩ v6).heap[g]?=J (Ag #[v0,v1,v2,v3,v4,v5,v6] 29 (0,0))/\Am B w (((((((X.setCell ⟨g,0,Z⟩ v0).setCell ⟨g,1,Z⟩ v1).setCell ⟨g,2,Z⟩ v2).setCell ⟨g,3,Z⟩ v3).setCell ⟨g,4,Z⟩ v4).setCell ⟨g,5,Z⟩ v5).setCell ⟨g,6,Z⟩ v6)/\(∀k,k≠g->(((((((X.setCell ⟨g,0,Z⟩ v0).setCell ⟨g,1,Z⟩ v1).setCell ⟨g,2,Z⟩ v2).setCell ⟨g,3,Z⟩ v3).setCell ⟨g,4,Z⟩ v4).setCell ⟨g,5,Z⟩ v5).setCell ⟨g,6,Z⟩ v6).heap[k]?=X.heap[k]?)/\(((((((X.setCell ⟨g,0,Z⟩ v0).setCell ⟨g,1,Z⟩ v1).setCell ⟨g,2,Z⟩ v2).setCell ⟨g,3,Z⟩ v3).setCell ⟨g,4,Z⟩ v4).setCell ⟨g,5,Z⟩ v5).setCell ⟨g,6,Z⟩ v6).heap.size=X.heap.size:=by
 have k0:(X.setCell ⟨g,0,Z⟩ v0).heap[g]?=J (Ag #[v0,a1,a2,a3,a4,a5,a6] 29 (0,0)):=Li _ g 0 _ _ v0 hg;have k1:((X.setCell ⟨g,0,Z⟩ v0).setCell ⟨g,1,Z⟩ v1).heap[g]?=J (Ag #[v0,v1,a2,a3,a4,a5,a6] 29 (0,0)):=Li _ g 1 _ _ v1 k0;have k2:(((X.setCell ⟨g,0,Z⟩ v0).setCell ⟨g,1,Z⟩ v1).setCell ⟨g,2,Z⟩ v2).heap[g]?=J (Ag #[v0,v1,v2,a3,a4,a5,a6] 29 (0,0)):=Li _ g 2 _ _ v2 k1;have k3:((((X.setCell ⟨g,0,Z⟩ v0).setCell ⟨g,1,Z⟩ v1).setCell ⟨g,2,Z⟩ v2).setCell ⟨g,3,Z⟩ v3).heap[g]?=J (Ag #[v0,v1,v2,v3,a4,a5,a6] 29 (0,0)):=Li _ g 3 _ _ v3 k2;have k4:(((((X.setCell ⟨g,0,Z⟩ v0).setCell ⟨g,1,Z⟩ v1).setCell ⟨g,2,Z⟩ v2).setCell ⟨g,3,Z⟩ v3).setCell ⟨g,4,Z⟩ v4).heap[g]?=J (Ag #[v0,v1,v2,v3,v4,a5,a6] 29 (0,0)):=Li _ g 4 _ _ v4 k3;have k5:((((((X.setCell ⟨g,0,Z⟩ v0).setCell ⟨g,1,Z⟩ v1).setCell ⟨g,2,Z⟩ v2).setCell ⟨g,3,Z⟩ v3).setCell ⟨g,4,Z⟩ v4).setCell ⟨g,5,Z⟩ v5).heap[g]?=J (Ag #[v0,v1,v2,v3,v4,v5,a6] 29 (0,0)):=Li _ g 5 _ _ v5 k4;have k6:(((((((X.setCell ⟨g,0,Z⟩ v0).setCell ⟨g,1,Z⟩ v1).setCell ⟨g,2,Z⟩ v2).setCell ⟨g,3,Z⟩ v3).setCell ⟨g,4,Z⟩ v4).setCell ⟨g,5,Z⟩ v5).setCell ⟨g,6,Z⟩ v6).heap[g]?=J (Ag #[v0,v1,v2,v3,v4,v5,v6] 29 (0,0)):=Li _ g 6 _ _ v6 k5;refine⟨k6,?_,fun k hk=>?_,by simp⟩
 . refine Lv (p:=⟨g,6,Z⟩) ?_ h1 _
   refine Lv (p:=⟨g,5,Z⟩) ?_ h1 _;refine Lv (p:=⟨g,4,Z⟩) ?_ h1 _;refine Lv (p:=⟨g,3,Z⟩) ?_ h1 _;refine Lv (p:=⟨g,2,Z⟩) ?_ h1 _;refine Lv (p:=⟨g,1,Z⟩) ?_ h1 _;refine Lv (p:=⟨g,0,Z⟩) ?_ h1 _;exact hB
 exact((Ld _ ⟨g,6,Z⟩ v6 k hk).trans ((Ld _ ⟨g,5,Z⟩ v5 k hk).trans ((Ld _ ⟨g,4,Z⟩ v4 k hk).trans ((Ld _ ⟨g,3,Z⟩ v3 k hk).trans ((Ld _ ⟨g,2,Z⟩ v2 k hk).trans ((Ld _ ⟨g,1,Z⟩ v1 k hk).trans (Ld _ ⟨g,0,Z⟩ v0 k hk)))))))
theorem uC{W:Ba}{b:Nat}{xs:List Int}{t:TypeId}(h:W.heap[b]?=J (Ag ((xs.map (O U)).toArray) t (0,0))):IAt W W.heap.size (J ⟨b,0,Z⟩) xs:=fun _=>
 ⟨b,0,rfl,zd h,fun i hi=>by rw[LH];exact za h i (by simp[hi])⟩
theorem QZ{W:Ba}{b:Nat}{v:List Int}{A:Bb}{c:Nat}{t:TypeId}(h:W.heap[b]?=J (Ag #[I A v.length c] t (0,0)))(h2:IAt W W.heap.size A v):LAt W W.heap.size (J ⟨b,0,Z⟩) [v]:=fun _=>
 ⟨b,0,rfl,zd h,fun i hi=>by
  obtain rfl:i=0:=by simpa using hi
  exact⟨A,c,za h 0 rfl,h2⟩⟩
end
section
open Go.RowKit
structure Kd where
 e:TypeId
 s:TypeId
 size:Nat
 bytes:Nat
 z:Aq
structure KdOk(P:Program)(K:Kd):Prop where
 under:P.underlying K.s=J (.slice K.e)
 info:(P.info? K.e).map (fun i=>(i.zero,i.size,i.bytes))=J (J K.z,K.size,K.bytes)
 zs:K.z.cells.size=K.size
 pos:0<K.size
 small:K.bytes<=1024
def Raw(w:Ba)(A:Bb)(n:Nat)(cs:List Aq):Prop:=0<n->∃b off,A=J ⟨b,off,Z⟩/\b<w.heap.size/\∀(j:Nat) (u:Aq),cs[j]?=J u->w.cell? ⟨b,off+j,Z⟩=J u
def OwnR(K:Kd)(w:Ba)(base:Nat)(v:Aq)(n:Nat)(cs:List Aq):Prop:=w.ownsRow base K.e K.size v n cs
section
variable {P:Program} {K:Kd} {w w':Ba} {base:Nat} {v:Aq} {n:Nat} {cs:List Aq}
theorem OwnR.nil(K:Kd)(w:Ba)(base:Nat):OwnR K w base (I Z 0 0) 0 []:=PQ w base _ _
theorem OwnR.kept{row:Option Nat}(h:OwnR K w base v n cs)(hg:w.grownBy w' row)(bj:v.ownBlock=Z\/v.ownBlock≠row):OwnR K w' base v n cs:=N9 h hg bj
theorem OwnR.alloc(h:OwnR K w base v n cs)(o:Obj):OwnR K (w.alloc o) base v n cs:=Pk h o
theorem OwnR.lt(h:OwnR K w base v n cs):∀k,v.ownBlock=J k->base<=k/\k<w.heap.size:=P7 h
theorem OwnR.below{B:Nat}(h:OwnR K w base v n cs)(hb:Am B w w')(hB:w.heap.size<=B):OwnR K w' base v n cs:=
 N9 (row:=Z) h ⟨hb.os,hb.tape,hb.output,hb.size,fun k hk _=>hb.block k (by omega)⟩ (by cases v.ownBlock<;>simp)
theorem OwnR.low{base':Nat}(h:OwnR K w base v n cs)(hb:base'<=base):OwnR K w base' v n cs:=by
 refine⟨h.1,?_⟩;rcases h.2 with h2 | ⟨g,cap,cur,hv,hg,r⟩
 . exact Or.inl h2
 exact Or.inr ⟨g,cap,cur,hv,by omega,r⟩
theorem OwnR.form(h:OwnR K w base v n cs):∃A cap,v=I A n cap/\n<=cap/\cap<=maxLen/\(0<n->∃g,A=J ⟨g,0,Z⟩/\v.ownBlock=J g/\g<w.heap.size/\∀j u,cs[j]?=J u->w.cell? ⟨g,j,Z⟩=J u):=by
 rcases h.2 with ⟨rfl,h0⟩ | ⟨g,cap,cur,rfl,_,hg,dJ,iy,_⟩
 . exact⟨Z,0,by rw[h0],by omega,by omega,fun hn=>by omega⟩
 refine⟨_,_,rfl,dJ,iy,fun _=>⟨g,rfl,rfl,(Lf.1 hg).1,fun j u hu=>?_⟩⟩;have:=World.ownsRow.cells h (g:=g) rfl j u hu;rwa[show(⟨g,0,Z⟩:Addr).add j=⟨g,j,Z⟩ from by unfold Addr.add;split<;>simp_all] at this
theorem OwnR.ne{b:Nat}(h:OwnR K w base v n cs)(hb:b<base):v.ownBlock≠J b:=fun e=>by
 have:=(h.lt b e).1;omega
theorem OwnR.raw(h:OwnR K w base v n cs):∃A cap,v=I A n cap/\n<=cap/\cap<=maxLen/\Raw w A n cs:=by
 obtain⟨A,cap,e,h1,h2,h3⟩:=h.form;refine⟨A,cap,e,h1,h2,fun h0=>?_⟩;obtain⟨g,hA,_,hg,hc⟩:=h3 h0;exact⟨g,0,hA,hg,fun j u hu=>by rw[LH];exact hc j u hu⟩
theorem yT(ok:KdOk P K):∃i:TypeInfo,P.info? K.e=J i/\i.zero=J K.z/\i.size=K.size/\i.bytes=K.bytes:=by
 have h:=ok.info
 cases hi:P.info? K.e with
 | none=>rw[hi] at h;cases h
 | some i=>
  rw[hi] at h;simp only[Option.map_some,Option.some.injEq,Prod.mk.injEq] at h;exact⟨i,rfl,h.1,h.2.1,h.2.2⟩
theorem uA(ok:KdOk P K){o:Oper}{a:Act}{KK:Act->Ba->Prop}{Q:Exit->Act->Ba->Prop}{W:Ba}(s x:Operand)
  (ho:o.op=.call { callee:=.builtin .append,args:=#[s,x],argTypes:=#[K.s,K.s] }) (base:Nat) (V:Aq) (n:Nat) (cs:List Aq) (hs:a.eval s=V) (ap:OwnR K W base V n cs)
  (g:Nat) (new:Array Aq) (hx:a.eval x=I (J ⟨g,0,Z⟩) 1 1) (hg:W.heap[g]?=J (Ag new K.e (0,0))) (hn:new.size=K.size) (h1:∀u∈new.toList,u.oneCell'=Ar) (hl:n<=1000000000) (hb:base<=W.heap.size) (H:Nat) (hH:W.heap.size=H)
  (h:∀g' cap w1,OwnR K w1 base (I (J ⟨g',0,Z⟩) (n+1) cap) (n+1) (cs++new.toList)->W.grownBy w1 V.ownBlock->(V.ownBlock=J g'\/g'=H)->g'<w1.heap.size->KK (a.put o.dst (I (J ⟨g',0,Z⟩) (n+1) cap)) w1):o.wp P a W KK Q:=by
 obtain⟨i0,hi,cG,bQ,cB⟩:=yT ok
 refine wp_append_lies W s x K.s ho base K.e i0 K.z K.size K.bytes ok.under hi cG bQ cB ok.zs ok.pos V n cs hs ap ⟨g,0,Z⟩ 1 1 new.toList hx (by simp[hn])
  (Rr hg) h1 (by omega) (by unfold maxLen;omega) ?_ hb H hH h
 have:=N7 (show n+1<=1000000001 by omega) ok.small;omega
theorem yO(ok:KdOk P K){ops:Array Oper}{rest:List Oper}{o:Oper}{a:Act}{Q:Exit->Act->Ba->Prop}{W:Ba}(dn:o.guard=Z)(s x:Operand)
  (ho:o.op=.call { callee:=.builtin .append,args:=#[s,x],argTypes:=#[K.s,K.s] }) (base:Nat) (V:Aq) (n:Nat) (cs:List Aq) (hs:a.eval s=V) (ap:OwnR K W base V n cs)
  (g:Nat) (new:Array Aq) (hx:a.eval x=I (J ⟨g,0,Z⟩) 1 1) (hg:W.heap[g]?=J (Ag new K.e (0,0))) (hn:new.size=K.size) (h1:∀u∈new.toList,u.oneCell'=Ar) (hl:n<=1000000000) (hb:base<=W.heap.size) (H:Nat) (hH:W.heap.size=H)
  (h:∀g' cap w1,OwnR K w1 base (I (J ⟨g',0,Z⟩) (n+1) cap) (n+1) (cs++new.toList)->W.grownBy w1 V.ownBlock->(V.ownBlock=J g'\/g'=H)->g'<w1.heap.size->wpList P ops Q rest (a.put o.dst (I (J ⟨g',0,Z⟩) (n+1) cap)) w1):wpList P ops Q (o::rest) a W:=
 Nd dn fun _ hK=>uA ok s x ho base V n cs hs ap g new hx hg hn h1 hl hb H hH fun g' cap w1 h1 h2 h3 h4=>hK _ _ (h g' cap w1 h1 h2 h3 h4)
theorem Ju(ok:KdOk P K){ops:Array Oper}{o:Oper}{a:Act}{KK:Act->Ba->Prop}{Q:Exit->Act->Ba->Prop}{E:Prop}{W:Ba}(dn:o.guard=Z)(s x:Operand)
  (ho:o.op=.call { callee:=.builtin .append,args:=#[s,x],argTypes:=#[K.s,K.s] }) (base:Nat) (V:Aq) (n:Nat) (cs:List Aq) (hs:a.eval s=V) (ap:OwnR K W base V n cs)
  (g:Nat) (new:Array Aq) (hx:a.eval x=I (J ⟨g,0,Z⟩) 1 1) (hg:W.heap[g]?=J (Ag new K.e (0,0))) (hn:new.size=K.size) (h1:∀u∈new.toList,u.oneCell'=Ar) (hl:n<=1000000000) (hb:base<=W.heap.size) (H:Nat) (hH:W.heap.size=H)
  (h:∀g' cap w1,OwnR K w1 base (I (J ⟨g',0,Z⟩) (n+1) cap) (n+1) (cs++new.toList)->W.grownBy w1 V.ownBlock->(V.ownBlock=J g'\/g'=H)->g'<w1.heap.size->KK (a.put o.dst (I (J ⟨g',0,Z⟩) (n+1) cap)) w1) :
  if Region.wanted o (yielded ops a.tmps)=Ar then Oper.wp P o a W KK Q else E:=by
 have hw:Region.wanted o (yielded ops a.tmps)=Ar:=by simp[Region.wanted,dn]
 rw[Lm hw];exact uA ok s x ho base V n cs hs ap g new hx hg hn h1 hl hb H hH h
theorem wp_fitR(ok:KdOk P K){o:Oper}{a:Act}{KK:Act->Ba->Prop}{Q:Exit->Act->Ba->Prop}{W:Ba}(s x:Operand)
  (ho:o.op=.call { callee:=.builtin .append,args:=#[s,x],argTypes:=#[K.s,K.s] }) (base g n cap:Nat) (cs:List Aq) (hs:a.eval s=I (J ⟨g,0,Z⟩) n cap) (ap:OwnR K W base (I (J ⟨g,0,Z⟩) n cap) n cs)
  (h:Nat) (new:Array Aq) (hx:a.eval x=I (J ⟨h,0,Z⟩) 1 1) (hg:W.heap[h]?=J (Ag new K.e (0,0))) (hn:new.size=K.size) (h1:∀u∈new.toList,u.oneCell'=Ar) (dJ:n+1<=cap)
  (hK:∀w1,OwnR K w1 base (I (J ⟨g,0,Z⟩) (n+1) cap) (n+1) (cs++new.toList)->W.grownBy w1 (J g)->KK (a.put o.dst (I (J ⟨g,0,Z⟩) (n+1) cap)) w1):o.wp P a W KK Q:=by
 obtain⟨i0,hi,cG,bQ,cB⟩:=yT ok;obtain⟨w',de,r1,r2⟩:=run_append_fits (P:=P) W base K.s o.type K.e i0 K.size ok.under hi bQ g n cap cs ap ⟨h,0,Z⟩ 1 1 new.toList (by simp[hn]) (Rr hg) h1 dJ;unfold Oper.wp execOp;simp only[ho,resolve,invoke,builtin,Sem.run_bind,Sem.run_pure,Result.andThen_ok,List.map_toArray,List.map_cons,List.map_nil,hs,hx,de];exact hK w' r1 r2
theorem vd(ok:KdOk P K)(A:Bb)(n cap c:Nat)(ty:TypeId)(W:Ba)(hn:n<=cap):(Builtin.append_ #[K.s,K.s] ty #[I A n cap,I Z 0 c]).run P W=.ok (I A n cap) W:=by
 obtain⟨i0,hi,cG,bQ,cB⟩:=yT ok
 cases A with
 | none=>simp[Builtin.append_,run_underlying ok.under,sizeOf,typeInfo,hi,Builtin.lenOf,Builtin.firstCells,hn,Result.andThen]
 | some ad=>simp[Builtin.append_,run_underlying ok.under,sizeOf,typeInfo,hi,Builtin.lenOf,Builtin.firstCells,hn,Result.andThen,storeCells]
theorem run_appN(ok:KdOk P K)(W:Ba)(ty:TypeId)(base:Nat)(v:Aq)(n:Nat)(cs:List Aq)(ap:OwnR K W base v n cs)(A:Bb)(m c:Nat)(news:List Aq)(hl:news.length=m*K.size)(hA:Raw W A m news)
  (h1:∀u∈news,u.oneCell'=Ar) (hm:n+m<=1000000000) (hb:base<=W.heap.size) :
  ∃v' w',(Builtin.append_ #[K.s,K.s] ty #[v,I A m c]).run P W=.ok v' w'/\OwnR K w' base v' (n+m) (cs++news)/\W.grownBy w' v.ownBlock/\(v'.ownBlock=v.ownBlock\/v'.ownBlock=J W.heap.size):=by
 obtain⟨i0,hi,cG,bQ,cB⟩:=yT ok
 cases A with
 | none=>
  have iO:m=0:=by
   rcases Np m with h | h
   . exact h
   . obtain⟨b,off,e,_⟩:=hA h;cases e
  subst iO;have Fv:news=[]:=LO (by omega);subst Fv;obtain⟨A,cap,rfl,hc,_⟩:=ap.form;exact⟨_,W,vd ok A n cap c ty W hc,by simpa using ap,Pa _ _,.inl rfl⟩
 | some ad=>
  have aL:=N7 hm ok.small
  obtain⟨v',w',hr,r1,r2,_,r4⟩:=run_append_own_at (P:=P) W base K.s ty K.e i0 K.z K.size K.bytes ok.under hi cG bQ cB ok.zs ok.pos v n cs ap ad m c news hl (fun j u hj=>by
    have bf:j<m*K.size:=by rw[<-hl];exact(Ll.1 hj).1
    have iO:0<m:=by rcases Np m with h | h;(· subst h;omega);(· exact h)
    obtain⟨b,off,e,_,hc⟩:=hA iO
    cases e
    rw[show(⟨b,off,Z⟩:Addr).add j=⟨b,off+j,Z⟩ from by unfold Addr.add;split<;>simp_all]
    exact hc j u hj) h1 (by unfold maxLen;omega) (by omega) hb
  exact⟨v',w',hr,r1,r2,r4⟩
theorem wp_appN(ok:KdOk P K){o:Oper}{a:Act}{KK:Act->Ba->Prop}{Q:Exit->Act->Ba->Prop}{W:Ba}(s x:Operand)
  (ho:o.op=.call { callee:=.builtin .append,args:=#[s,x],argTypes:=#[K.s,K.s] }) (base:Nat) (v:Aq) (n:Nat) (cs:List Aq) (hs:a.eval s=v) (ap:OwnR K W base v n cs) (A:Bb) (m c:Nat) (news:List Aq) (hx:a.eval x=I A m c)
  (hl:news.length=m*K.size) (hA:Raw W A m news) (h1:∀u∈news,u.oneCell'=Ar) (hm:n+m<=1000000000) (hb:base<=W.heap.size)
  (h:∀v' w1,OwnR K w1 base v' (n+m) (cs++news)->W.grownBy w1 v.ownBlock->(v'.ownBlock=v.ownBlock\/v'.ownBlock=J W.heap.size)->KK (a.put o.dst v') w1):o.wp P a W KK Q:=by
 obtain⟨v',w',de,r1,r2,r3⟩:=run_appN ok W o.type base v n cs ap A m c news hl hA h1 hm hb;unfold Oper.wp execOp;simp only[ho,resolve,invoke,builtin,Sem.run_bind,Sem.run_pure,Result.andThen_ok,List.map_toArray,List.map_cons,List.map_nil,hs,hx,de];exact h v' w' r1 r2 r3
theorem Z3(ok:KdOk P K){ops:Array Oper}{rest:List Oper}{o:Oper}{a:Act}{Q:Exit->Act->Ba->Prop}{W:Ba}(dn:o.guard=Z)(s x:Operand)
  (ho:o.op=.call { callee:=.builtin .append,args:=#[s,x],argTypes:=#[K.s,K.s] }) (base:Nat) (v:Aq) (n:Nat) (cs:List Aq) (hs:a.eval s=v) (ap:OwnR K W base v n cs) (A:Bb) (m c:Nat) (news:List Aq) (hx:a.eval x=I A m c)
  (hl:news.length=m*K.size) (hA:Raw W A m news) (h1:∀u∈news,u.oneCell'=Ar) (hm:n+m<=1000000000) (hb:base<=W.heap.size)
  (h:∀v' w1,OwnR K w1 base v' (n+m) (cs++news)->W.grownBy w1 v.ownBlock->(v'.ownBlock=v.ownBlock\/v'.ownBlock=J W.heap.size)->wpList P ops Q rest (a.put o.dst v') w1):wpList P ops Q (o::rest) a W:=
 Nd dn fun _ hK=>wp_appN ok s x ho base v n cs hs ap A m c news hx hl hA h1 hm hb fun v' w1 h1 h2 h3=>hK _ _ (h v' w1 h1 h2 h3)
theorem OwnR.of_block{g:Nat}{cur:Array Aq}(h:w.heap[g]?=J (Ag cur K.e (0,0)))(hb:base<=g)(hc:cur.size=n*K.size)(hn:n<=maxLen):OwnR K w base (I (J ⟨g,0,Z⟩) n n) n cur.toList:=
 ⟨by simpa using hc,.inr ⟨g,n,cur,rfl,hb,h,Lh _,hn,hc,by rw[NE (by simp[hc])]⟩⟩
theorem OwnR.pop{g m cap:Nat}{lC:List Aq}(h:OwnR K w base (I (J ⟨g,0,Z⟩) (n+m) cap) (n+m) (cs++lC))(hl:cs.length=n*K.size):OwnR K w base (I (J ⟨g,0,Z⟩) n cap) n cs:=by
 refine⟨hl,.inr ?_⟩;rcases h.2 with ⟨e,_⟩ | ⟨g',aZ,cur,e,hb,hg,dJ,hm,hs,ht⟩
 . cases e
 injection e with e1 e2 e3
 injection e1 with e1
 injection e1 with e1
 subst e1;subst e3;refine⟨g,cap,cur,rfl,hb,hg,by omega,hm,hs,?_⟩;have h2:=congrArg (List.take (n*K.size)) ht;rw[Sa,NL (by omega),<-hl,LC,Rj (by rw[hl,PY];omega)] at h2;rw[<-hl];exact h2
end
section
variable {S S':Nat->Prop} {w w':Ba} {A:Bb}
theorem qg{b o:Nat}{u:Aq}(h:KeepB S w w')(hb:S b)(hc:w.cell? ⟨b,o,Z⟩=J u):w'.cell? ⟨b,o,Z⟩=J u:=by
 obtain⟨ob,ho,_⟩:=Rv hc;rw[LU (h.same b hb (Lf.1 ho).1)];exact hc
structure KeepC(S:Nat->Prop)(w w':Ba):Prop where
 size:w.heap.size<=w'.heap.size
 cell:∀k o v,S k->w.cell? ⟨k,o,Z⟩=J v->w'.cell? ⟨k,o,Z⟩=J v
theorem KeepC.of_cells(S:Nat->Prop)(hs:w.heap.size<=w'.heap.size)(h:∀(k:Nat) (o:Obj),w.heap[k]?=J o->o.isCells=Ar->w'.heap[k]?=J o):KeepC S w w':=
 ⟨hs,fun k o v _ hc=>by
  obtain⟨ob,ho,dM⟩:=Rv hc;rw[LU ((h k ob ho dM).trans ho.symm)]
  exact hc⟩
def IAtS(S:Nat->Prop)(w:Ba)(A:Bb)(xs:List Int):Prop:=
 0<xs.length->∃b off,A=J ⟨b,off,Z⟩/\S b/\b<w.heap.size/\∀(i:Nat) (hi:i<xs.length),w.cell? ⟨b,off+i,Z⟩=J (O U xs[i])
theorem IAtS.keep{xs:List Int}(h:IAtS S w A xs)(hk:KeepB S w w'):IAtS S w' A xs:=fun h0=>by
 obtain⟨b,off,e,hs,hb,hc⟩:=h h0;exact⟨b,off,e,hs,LD hb hk.size,fun i hi=>qg hk hs (hc i hi)⟩
theorem IAtS.keepC{xs:List Int}(h:IAtS S w A xs)(hk:KeepC S w w'):IAtS S w' A xs:=fun h0=>by
 obtain⟨b,off,e,hs,hb,hc⟩:=h h0;exact⟨b,off,e,hs,LD hb hk.size,fun i hi=>hk.cell _ _ _ hs (hc i hi)⟩
theorem IAtS.mono{xs:List Int}(h:IAtS S w A xs)(hm:∀k,k<w.heap.size->S k->S' k):IAtS S' w A xs:=fun h0=>by
 obtain⟨b,off,e,hs,hb,hc⟩:=h h0;exact⟨b,off,e,hm b hb hs,hb,hc⟩
theorem IAtS.on{xs:List Int}(h:IAtS S w A xs)(hb:Am w.heap.size w w'):IAtS S w' A xs:=
 ((h.mono (S':=fun k=>S k/\k<w.heap.size) fun _ hk hs=>⟨hs,hk⟩).keep ⟨hb.size,fun k hk _=>hb.block k hk.2⟩).mono fun _ _ hs=>hs.1
theorem IAtS.iat{xs:List Int}(h:IAtS S w A xs):IAt w w.heap.size A xs:=fun h0=>by
 obtain⟨b,off,e,hs,hb,hc⟩:=h h0;exact⟨b,off,e,hb,hc⟩
theorem IAtS.of_iat{xs:List Int}{B:Nat}(h:IAt w B A xs)(hB:B<=w.heap.size)(hS:∀k,k<B->S k):IAtS S w A xs:=fun h0=>by
 obtain⟨b,off,e,hb,hc⟩:=h h0;exact⟨b,off,e,hS b hb,by omega,hc⟩
def RAtS(S:Nat->Prop)(w:Ba)(A:Bb)(rs:List Rd):Prop:=
 0<rs.length->∃b off,A=J ⟨b,off,Z⟩/\S b/\b<w.heap.size/\∀(i:Nat) (hi:i<rs.length) (k:Nat) (u:Aq),rs[i].cells[k]?=J u->w.cell? ⟨b,off+i*7+k,Z⟩=J u
theorem RAtS.keep{xs:List Rd}(h:RAtS S w A xs)(hk:KeepB S w w'):RAtS S w' A xs:=fun h0=>by
 obtain⟨b,off,e,hs,hb,hc⟩:=h h0;exact⟨b,off,e,hs,LD hb hk.size,fun i hi k u hu=>qg hk hs (hc i hi k u hu)⟩
theorem RAtS.keepC{xs:List Rd}(h:RAtS S w A xs)(hk:KeepC S w w'):RAtS S w' A xs:=fun h0=>by
 obtain⟨b,off,e,hs,hb,hc⟩:=h h0;exact⟨b,off,e,hs,LD hb hk.size,fun i hi k u hu=>hk.cell _ _ _ hs (hc i hi k u hu)⟩
theorem RAtS.mono{xs:List Rd}(h:RAtS S w A xs)(hm:∀k,k<w.heap.size->S k->S' k):RAtS S' w A xs:=fun h0=>by
 obtain⟨b,off,e,hs,hb,hc⟩:=h h0;exact⟨b,off,e,hm b hb hs,hb,hc⟩
theorem RAtS.on{xs:List Rd}(h:RAtS S w A xs)(hb:Am w.heap.size w w'):RAtS S w' A xs:=
 ((h.mono (S':=fun k=>S k/\k<w.heap.size) fun _ hk hs=>⟨hs,hk⟩).keep ⟨hb.size,fun k hk _=>hb.block k hk.2⟩).mono fun _ _ hs=>hs.1
theorem RAtS.rat{xs:List Rd}(h:RAtS S w A xs):RAt w w.heap.size A xs:=fun h0=>by
 obtain⟨b,off,e,hs,hb,hc⟩:=h h0;exact⟨b,off,e,hb,hc⟩
theorem RAtS.nil(S:Nat->Prop)(w:Ba)(A:Bb):RAtS S w A []:=fun h=>absurd h (by simp)
def LAtS(S:Nat->Prop)(w:Ba)(A:Bb)(xss:List (List Int)):Prop:=
 0<xss.length->∃b off,A=J ⟨b,off,Z⟩/\S b/\b<w.heap.size/\∀(i:Nat) (hi:i<xss.length),∃A' c,w.cell? ⟨b,off+i,Z⟩=J (I A' xss[i].length c)/\IAtS S w A' xss[i]
theorem LAtS.keep{xs:List (List Int)}(h:LAtS S w A xs)(hk:KeepB S w w'):LAtS S w' A xs:=fun h0=>by
 obtain⟨b,off,e,hs,hb,hc⟩:=h h0;refine⟨b,off,e,hs,LD hb hk.size,fun i hi=>?_⟩;obtain⟨A',c,h1,h2⟩:=hc i hi;exact⟨A',c,qg hk hs h1,h2.keep hk⟩
theorem LAtS.keepC{xs:List (List Int)}(h:LAtS S w A xs)(hk:KeepC S w w'):LAtS S w' A xs:=fun h0=>by
 obtain⟨b,off,e,hs,hb,hc⟩:=h h0;refine⟨b,off,e,hs,LD hb hk.size,fun i hi=>?_⟩;obtain⟨A',c,h1,h2⟩:=hc i hi;exact⟨A',c,hk.cell _ _ _ hs h1,h2.keepC hk⟩
theorem LAtS.mono{xs:List (List Int)}(h:LAtS S w A xs)(hm:∀k,k<w.heap.size->S k->S' k):LAtS S' w A xs:=fun h0=>by
 obtain⟨b,off,e,hs,hb,hc⟩:=h h0;refine⟨b,off,e,hm b hb hs,hb,fun i hi=>?_⟩;obtain⟨A',c,h1,h2⟩:=hc i hi;exact⟨A',c,h1,h2.mono hm⟩
theorem LAtS.on{xs:List (List Int)}(h:LAtS S w A xs)(hb:Am w.heap.size w w'):LAtS S w' A xs:=
 ((h.mono (S':=fun k=>S k/\k<w.heap.size) fun _ hk hs=>⟨hs,hk⟩).keep ⟨hb.size,fun k hk _=>hb.block k hk.2⟩).mono fun _ _ hs=>hs.1
theorem LAtS.lat{xs:List (List Int)}(h:LAtS S w A xs):LAt w w.heap.size A xs:=fun h0=>by
 obtain⟨b,off,e,hs,hb,hc⟩:=h h0;refine⟨b,off,e,hb,fun i hi=>?_⟩;obtain⟨A',c,h1,h2⟩:=hc i hi;exact⟨A',c,h1,h2.iat⟩
theorem LAtS.of_lat{xs:List (List Int)}{B:Nat}(h:LAt w B A xs)(hB:B<=w.heap.size)(hS:∀k,k<B->S k):LAtS S w A xs:=fun h0=>by
 obtain⟨b,off,e,hb,hc⟩:=h h0;refine⟨b,off,e,hS b hb,by omega,fun i hi=>?_⟩;obtain⟨A',c,h1,h2⟩:=hc i hi;exact⟨A',c,h1,IAtS.of_iat h2 hB hS⟩
def MAtS(S:Nat->Prop)(w:Ba)(A:Bb)(ms:List Mv):Prop:=
 0<ms.length->∃b off,A=J ⟨b,off,Z⟩/\S b/\b<w.heap.size/\∀(i:Nat) (hi:i<ms.length) (k:Nat) (u:Aq),ms[i].cells[k]?=J u->w.cell? ⟨b,off+i*8+k,Z⟩=J u
theorem MAtS.keep{xs:List Mv}(h:MAtS S w A xs)(hk:KeepB S w w'):MAtS S w' A xs:=fun h0=>by
 obtain⟨b,off,e,hs,hb,hc⟩:=h h0;exact⟨b,off,e,hs,LD hb hk.size,fun i hi k u hu=>qg hk hs (hc i hi k u hu)⟩
theorem MAtS.keepC{xs:List Mv}(h:MAtS S w A xs)(hk:KeepC S w w'):MAtS S w' A xs:=fun h0=>by
 obtain⟨b,off,e,hs,hb,hc⟩:=h h0;exact⟨b,off,e,hs,LD hb hk.size,fun i hi k u hu=>hk.cell _ _ _ hs (hc i hi k u hu)⟩
theorem MAtS.mono{xs:List Mv}(h:MAtS S w A xs)(hm:∀k,k<w.heap.size->S k->S' k):MAtS S' w A xs:=fun h0=>by
 obtain⟨b,off,e,hs,hb,hc⟩:=h h0;exact⟨b,off,e,hm b hb hs,hb,hc⟩
theorem MAtS.mat{xs:List Mv}(h:MAtS S w A xs):MAt w w.heap.size A xs:=fun h0=>by
 obtain⟨b,off,e,hs,hb,hc⟩:=h h0;exact⟨b,off,e,hb,hc⟩
theorem MAtS.of_mat{xs:List Mv}{B:Nat}(h:MAt w B A xs)(hB:B<=w.heap.size)(hS:∀k,k<B->S k):MAtS S w A xs:=fun h0=>by
 obtain⟨b,off,e,hb,hc⟩:=h h0;exact⟨b,off,e,hS b hb,by omega,hc⟩
end
structure Ct(α:Type) where
 K:Kd
 lies:(Nat->Prop)->Ba->List Aq->α->Prop
structure CtOk{α:Type}(C:Ct α):Prop where
 len:∀ {S w cs x},C.lies S w cs x->cs.length=C.K.size
 one:∀ {S w cs x},C.lies S w cs x->∀u∈cs,u.oneCell'=Ar
 keep:∀ {S w w' cs x},C.lies S w cs x->KeepB S w w'->C.lies S w' cs x
 keepC:∀ {S w w' cs x},C.lies S w cs x->KeepC S w w'->C.lies S w' cs x
 mono:∀ {S S' w cs x},C.lies S w cs x->(∀k,k<w.heap.size->S k->S' k)->C.lies S' w cs x
def OwnX{α:Type}(C:Ct α)(S:Nat->Prop)(w:Ba)(base:Nat)(v:Aq)(xs:List α):Prop:=
 ∃aC:List (List Aq),aC.length=xs.length/\OwnR C.K w base v xs.length aC.flatten/\∀(i:Nat) (h1:i<aC.length) (h2:i<xs.length),C.lies (fun k=>S k/\v.ownBlock≠J k) w aC[i] xs[i]
theorem uF{s:Nat}:∀(aC:List (List Aq)) (_:∀c∈aC,c.length=s) (i:Nat) (hi:i<aC.length) (k:Nat),k<s->aC.flatten[i*s+k]?=aC[i][k]?
 | c::aC,h,0,hi,k,hk=>by
  have:=h c (by simp);rw[P1,L3 (by omega)];simp
 | c::aC,h,i+1,hi,k,hk=>by
  have hc:=h c (by simp);have:=uF aC (fun d hd=>h d (by simp[hd])) i (by simpa using hi) k hk;rw[P1,LW (by rw[hc,PY];omega),hc,show(i+1)*s+k-s=i*s+k by rw[PY];omega,this]
  rfl
section
variable {α:Type} {C:Ct α} {S S':Nat->Prop} {w w':Ba} {base:Nat} {v:Aq} {xs:List α}
theorem OwnX.nil(C:Ct α)(S:Nat->Prop)(w:Ba)(base:Nat):OwnX C S w base (I Z 0 0) []:=⟨[],rfl,OwnR.nil _ _ _,fun i h1 _=>absurd h1 (by simp)⟩
theorem OwnX.lt(h:OwnX C S w base v xs):∀k,v.ownBlock=J k->base<=k/\k<w.heap.size:=by
 obtain⟨aC,_,h2,_⟩:=h;exact h2.lt
theorem OwnX.ne{b:Nat}(h:OwnX C S w base v xs)(hb:b<base):v.ownBlock≠J b:=fun e=>by
 have:=(h.lt b e).1;omega
theorem OwnX.kept(ok:CtOk C){row:Option Nat}(h:OwnX C S w base v xs)(hg:w.grownBy w' row)(bj:v.ownBlock=Z\/v.ownBlock≠row)(hS:∀k,row=J k->¬S k\/v.ownBlock=J k):OwnX C S w' base v xs:=by
 obtain⟨aC,hl,h2,h3⟩:=h;refine⟨aC,hl,h2.kept hg bj,fun i i1 i2=>ok.keep (h3 i i1 i2) (KeepB.of_grown hg fun k hk hs=>?_)⟩;rcases hS k hk with h | h
 . exact h hs.1
 exact hs.2 h
theorem OwnX.keep(ok:CtOk C)(h:OwnX C S w base v xs)(hk:KeepB S w w')(hv:∀k,v.ownBlock=J k->w'.heap[k]?=w.heap[k]?):OwnX C S w' base v xs:=by
 obtain⟨aC,hl,h2,h3⟩:=h;refine⟨aC,hl,?_,fun i i1 i2=>ok.keep (h3 i i1 i2) (hk.mono fun k hk=>hk.1)⟩;refine⟨h2.1,?_⟩;rcases h2.2 with hn | ⟨g,cap,cur,mX,hb,hg,rest⟩
 . exact .inl hn
 exact .inr ⟨g,cap,cur,mX,hb,(hv g (by rw[mX];rfl)).trans hg,rest⟩
theorem OwnX.turn(ok:CtOk C)(h:OwnX C S w base v xs)(hs:w.heap.size<=w'.heap.size)(hc:∀(k:Nat) (o:Obj),w.heap[k]?=J o->o.isCells=Ar->w'.heap[k]?=J o):OwnX C S w' base v xs:=by
 obtain⟨aC,hl,h2,h3⟩:=h;refine⟨aC,hl,?_,fun i i1 i2=>ok.keepC (h3 i i1 i2) (KeepC.of_cells _ hs hc)⟩;refine⟨h2.1,?_⟩;rcases h2.2 with hn | ⟨g,cap,cur,mX,hb,hg,rest⟩
 . exact .inl hn
 exact .inr ⟨g,cap,cur,mX,hb,hc g _ hg rfl,rest⟩
theorem OwnX.below(ok:CtOk C){B:Nat}(h:OwnX C S w base v xs)(hb:Am B w w')(hB:w.heap.size<=B):OwnX C S w' base v xs:=
 h.keep ok ⟨hb.size,fun k _ hk=>hb.block k (by omega)⟩ (fun k hk=>hb.block k (by have:=(h.lt k hk).2;omega))
theorem OwnX.mono(ok:CtOk C)(h:OwnX C S w base v xs)(hm:∀k,k<w.heap.size->S k->S' k):OwnX C S' w base v xs:=by
 obtain⟨aC,hl,h2,h3⟩:=h;exact⟨aC,hl,h2,fun i i1 i2=>ok.mono (h3 i i1 i2) fun k hk hs=>⟨hm k hk hs.1,hs.2⟩⟩
theorem OwnX.low{base':Nat}(h:OwnX C S w base v xs)(hb:base'<=base):OwnX C S w base' v xs:=by
 obtain⟨aC,hl,h2,h3⟩:=h;exact⟨aC,hl,h2.low hb,h3⟩
theorem OwnX.app(ok:CtOk C){g' cap:Nat}{aC:List (List Aq)}{x:α}{cs:List Aq}(hl:aC.length=xs.length)(h3:∀(i:Nat) (h1:i<aC.length) (h2:i<xs.length),C.lies (fun k=>S k/\v.ownBlock≠J k) w aC[i] xs[i])
  (hx:C.lies (fun k=>S k/\v.ownBlock≠J k) w cs x) (hr:OwnR C.K w' base (I (J ⟨g',0,Z⟩) (xs.length+1) cap) (xs.length+1) (aC.flatten++cs)) (hg:w.grownBy w' v.ownBlock) (bn:v.ownBlock=J g'\/g'=w.heap.size) :
  OwnX C S w' base (I (J ⟨g',0,Z⟩) (xs.length+1) cap) (xs++[x]):=by
 have go:∀ {cs x},C.lies (fun k=>S k/\v.ownBlock≠J k) w cs x->C.lies (fun k=>S k/\(I (J ⟨g',0,Z⟩) (xs.length+1) cap).ownBlock≠J k) w' cs x:=fun h=>by
  have h1:=ok.mono (S':=fun k=>S k/\v.ownBlock≠J k/\g'≠k) h fun k hk hs=>⟨hs.1,hs.2,by
   rcases bn with e | e
   . rintro rfl;exact hs.2 e
   . omega⟩
  have h2:=ok.keep h1 (KeepB.of_grown hg fun k hk hs=>hs.2.1 hk);exact ok.mono h2 fun k _ hs=>⟨hs.1,fun e=>hs.2.2 (by simpa[Value.ownBlock] using e)⟩
 refine⟨aC++[cs],by simp[hl],by simpa using hr,fun i i1 i2=>?_⟩
 by_cases hi:i<aC.length
 . have h2:i<xs.length:=by omega
   rw[P5 hi,P5 h2];exact go (h3 i hi h2)
 have e1:i=aC.length:=by simp at i1;omega
 subst e1;rw[PP (Lh _),PP (by omega)];simpa[hl] using go hx
theorem OwnX.form(ok:CtOk C)(h:OwnX C S w base v xs):∃A cap,v=I A xs.length cap/\xs.length<=cap/\cap<=maxLen/\(0<xs.length->∃g,A=J ⟨g,0,Z⟩/\base<=g/\g<w.heap.size /\
  ∀(i:Nat) (h2:i<xs.length),∃cs,C.lies (fun k=>S k/\k≠g) w cs xs[i]/\∀j u,cs[j]?=J u->w.cell? ⟨g,i*C.K.size+j,Z⟩=J u):=by
 obtain⟨aC,hl,h2,h3⟩:=h;have aa:=h2.lt;obtain⟨A,cap,rfl,hc,hm,hr⟩:=h2.form;refine⟨A,cap,rfl,hc,hm,fun h0=>?_⟩;obtain⟨g,rfl,hg,cI,bD⟩:=hr h0;refine⟨g,rfl,(aa g hg).1,cI,fun i hi=>?_⟩;have FR:i<aC.length:=by omega
 refine⟨aC[i],ok.mono (h3 i FR hi) fun k _ hs=>⟨hs.1,fun e=>hs.2 (by rw[hg,e])⟩,fun j u hu=>?_⟩
 have bl:∀c∈aC,c.length=C.K.size:=fun c hc=>by
  obtain⟨m,hm,rfl⟩:=Nf hc;exact ok.len (h3 m hm (by omega))
 have bf:j<C.K.size:=by
  have:=(Ll.1 hu).1;rw[bl _ (Le FR)] at this;exact this
 exact bD _ u (by rw[uF aC bl i FR j bf];exact hu)
end
end
section
open Go.RowKit
def kRd:Kd:=⟨75,39,7,56,Ai #[O U 0,O U 0,O U 0,O U 0,O U 0,O U 0,O U 0]⟩
theorem ZO:KdOk Al kRd:=⟨PU,by kernel_rfl,by rfl,by decide,by decide⟩
def kMv:Kd:=⟨121,119,8,64,Ai #[O U 0,O U 0,O U 0,O U 0,O U 0,O U 0,O U 0,O U 0]⟩
theorem kMv_ok:KdOk Al kMv:=⟨PJ,by kernel_rfl,by rfl,by decide,by decide⟩
def kWd:Kd:=⟨39,104,1,24,I Z 0 0⟩
theorem Qd:KdOk Al kWd:=⟨underlying104,by kernel_rfl,by rfl,by decide,by decide⟩
def kIs:Kd:=⟨49,40,1,24,I Z 0 0⟩
theorem Qe:KdOk Al kIs:=⟨underlying40,by kernel_rfl,by rfl,by decide,by decide⟩
def kMl:Kd:=⟨119,25,1,24,I Z 0 0⟩
theorem kMl_ok:KdOk Al kMl:=⟨PW,by kernel_rfl,by rfl,by decide,by decide⟩
def kCs:Kd:=⟨118,22,3,72,Ai #[I Z 0 0,I Z 0 0,I Z 0 0]⟩
theorem kCs_ok:KdOk Al kCs:=⟨PX,by kernel_rfl,by rfl,by decide,by decide⟩
def kXn:Kd:=⟨42,34,3,56,Ai #[O U 0,I Z 0 0,I Z 0 0]⟩
theorem kXn_ok:KdOk Al kXn:=⟨underlying34,by kernel_rfl,by rfl,by decide,by decide⟩
def kIn:Kd:=⟨3,49,1,8,O U 0⟩
theorem kIn_ok:KdOk Al kIn:=⟨Ni,by kernel_rfl,by rfl,by decide,by decide⟩
def kVw:Kd:=⟨100,31,8,64,Ai #[O U 0,O U 0,O U 0,O U 0,O U 0,O U 0,O U 0,O U 0]⟩
theorem kVw_ok:KdOk Al kVw:=⟨PV,by kernel_rfl,by rfl,by decide,by decide⟩
def RetR(K:Kd)(n:Nat)(cs:List Aq)(w:Ba)(e:Ending)(w':Ba):Prop:=∃v,e=Ak v/\OwnR K w' w.heap.size v n cs/\Am w.heap.size w w'
theorem Zh(A:Bb)(n cap:Nat)(cs:List Aq)(w:Ba)(hl:cs.length=n*7)(hA:Raw w A n cs)(h1:∀u∈cs,u.oneCell'=Ar)(hn:n<=1000000) :
  An Al 52 #[I A n cap] w (RetR kRd n cs w):=by
 have HT:=zH hA;have H1:=zH h1;have HL:=zH hl;have q:∀(w:Ba) (a:Bb) (n c n' c':Nat),(binOp .eql 39 (I a n c) (I Z n' c')).run Al w=.ok (Ah a.isNone) w:=fun w a n c n' c'=>NX w _ _ a n c n' c' PU
 obtain⟨i0,hi,cG,bQ,cB⟩:=yT ZO
 cases A with
 | none=>
  have im:n=0:=by
   rcases Np n with h | h
   . exact h
   . obtain⟨b,off,e,_⟩:=HT.out h;cases e
  subst im;have bl:cs=[]:=LO (by have:=HL.out;omega);subst bl;go_enter func52,ntmps52;go_wp2;go_ret;exact⟨_,rfl,OwnR.nil _ _ _,Ln _ _⟩
 | some ad=>
  have HC:Ap (∀(j:Nat) (u:Aq),cs[j]?=J u->(w.alloc (Ag #[] 75)).cell? (ad.add j)=J u):=fun j u hj=>by
   have bf:j<n*7:=by rw[<-HL.out];exact(Ll.1 hj).1
   obtain⟨b,off,e,aa,hc⟩:=HT.out (by omega)
   cases e
   rw[NR];exact N4 _ (hc j u hj)
  go_enter func52,ntmps52;go_wp2_with (at_builtin;refine N0 _ rfl _ _ 39 rfl w.heap.size 75 i0 _ 7 56 PU hi cG bQ cB rfl (by decide) _ _ _ rfl (N8 w #[] 0 (Lh _) (Nn _) rfl) ad n cap cs rfl HL.out HC.out H1.out ?qc4 ?qc5 ?qc6 ?_)
  case qc4=>unfold maxLen;omega
  case qc5=>omega
  case qc6=>simp
  intro v' w1 ap aS mg;go_wp2;go_ret;refine⟨v',rfl,ap,?_⟩;exact((Ln _ w).alloc (Lh _) _).grown aS (by simp) (by intro k hk;simp[Value.ownBlock] at hk;omega)
theorem clone_kCs(A:Bb)(n cap:Nat)(cs:List Aq)(w:Ba)(hl:cs.length=n*3)(hA:Raw w A n cs)(h1:∀u∈cs,u.oneCell'=Ar)(hn:n<=1000000) :
  An Al 83 #[I A n cap] w (RetR kCs n cs w):=by
 have HT:=zH hA;have H1:=zH h1;have HL:=zH hl;have q:∀(w:Ba) (a:Bb) (n c n' c':Nat),(binOp .eql 22 (I a n c) (I Z n' c')).run Al w=.ok (Ah a.isNone) w:=fun w a n c n' c'=>NX w _ _ a n c n' c' PX
 obtain⟨i0,hi,cG,bQ,cB⟩:=yT kCs_ok
 cases A with
 | none=>
  have im:n=0:=by
   rcases Np n with h | h
   . exact h
   . obtain⟨b,off,e,_⟩:=HT.out h;cases e
  subst im;have bl:cs=[]:=LO (by have:=HL.out;omega);subst bl;go_enter func83,ntmps83;go_wp2;go_ret;exact⟨_,rfl,OwnR.nil _ _ _,Ln _ _⟩
 | some ad=>
  have HC:Ap (∀(j:Nat) (u:Aq),cs[j]?=J u->(w.alloc (Ag #[] 118)).cell? (ad.add j)=J u):=fun j u hj=>by
   have bf:j<n*3:=by rw[<-HL.out];exact(Ll.1 hj).1
   obtain⟨b,off,e,aa,hc⟩:=HT.out (by omega)
   cases e
   rw[NR];exact N4 _ (hc j u hj)
  go_enter func83,ntmps83;go_wp2_with (at_builtin;refine N0 _ rfl _ _ 22 rfl w.heap.size 118 i0 _ 3 72 PX hi cG bQ cB rfl (by decide) _ _ _ rfl (N8 w #[] 0 (Lh _) (Nn _) rfl) ad n cap cs rfl HL.out HC.out H1.out ?qc4 ?qc5 ?qc6 ?_)
  case qc4=>unfold maxLen;omega
  case qc5=>omega
  case qc6=>simp
  intro v' w1 ap aS mg;go_wp2;go_ret;refine⟨v',rfl,ap,?_⟩;exact((Ln _ w).alloc (Lh _) _).grown aS (by simp) (by intro k hk;simp[Value.ownBlock] at hk;omega)
theorem clone_kMv(A:Bb)(n cap:Nat)(cs:List Aq)(w:Ba)(hl:cs.length=n*8)(hA:Raw w A n cs)(h1:∀u∈cs,u.oneCell'=Ar)(hn:n<=1000000) :
  An Al 86 #[I A n cap] w (RetR kMv n cs w):=by
 have HT:=zH hA;have H1:=zH h1;have HL:=zH hl;have q:∀(w:Ba) (a:Bb) (n c n' c':Nat),(binOp .eql 119 (I a n c) (I Z n' c')).run Al w=.ok (Ah a.isNone) w:=fun w a n c n' c'=>NX w _ _ a n c n' c' PJ
 obtain⟨i0,hi,cG,bQ,cB⟩:=yT kMv_ok
 cases A with
 | none=>
  have im:n=0:=by
   rcases Np n with h | h
   . exact h
   . obtain⟨b,off,e,_⟩:=HT.out h;cases e
  subst im;have bl:cs=[]:=LO (by have:=HL.out;omega);subst bl;go_enter func86,ntmps86;go_wp2;go_ret;exact⟨_,rfl,OwnR.nil _ _ _,Ln _ _⟩
 | some ad=>
  have HC:Ap (∀(j:Nat) (u:Aq),cs[j]?=J u->(w.alloc (Ag #[] 121)).cell? (ad.add j)=J u):=fun j u hj=>by
   have bf:j<n*8:=by rw[<-HL.out];exact(Ll.1 hj).1
   obtain⟨b,off,e,aa,hc⟩:=HT.out (by omega)
   cases e
   rw[NR];exact N4 _ (hc j u hj)
  go_enter func86,ntmps86;go_wp2_with (at_builtin;refine N0 _ rfl _ _ 119 rfl w.heap.size 121 i0 _ 8 64 PJ hi cG bQ cB rfl (by decide) _ _ _ rfl (N8 w #[] 0 (Lh _) (Nn _) rfl) ad n cap cs rfl HL.out HC.out H1.out ?qc4 ?qc5 ?qc6 ?_)
  case qc4=>unfold maxLen;omega
  case qc5=>omega
  case qc6=>simp
  intro v' w1 ap aS mg;go_wp2;go_ret;refine⟨v',rfl,ap,?_⟩;exact((Ln _ w).alloc (Lh _) _).grown aS (by simp) (by intro k hk;simp[Value.ownBlock] at hk;omega)
theorem clone_kMl(A:Bb)(n cap:Nat)(cs:List Aq)(w:Ba)(hl:cs.length=n*1)(hA:Raw w A n cs)(h1:∀u∈cs,u.oneCell'=Ar)(hn:n<=1000000) :
  An Al 85 #[I A n cap] w (RetR kMl n cs w):=by
 have HT:=zH hA;have H1:=zH h1;have HL:=zH hl;have q:∀(w:Ba) (a:Bb) (n c n' c':Nat),(binOp .eql 25 (I a n c) (I Z n' c')).run Al w=.ok (Ah a.isNone) w:=fun w a n c n' c'=>NX w _ _ a n c n' c' PW
 obtain⟨i0,hi,cG,bQ,cB⟩:=yT kMl_ok
 cases A with
 | none=>
  have im:n=0:=by
   rcases Np n with h | h
   . exact h
   . obtain⟨b,off,e,_⟩:=HT.out h;cases e
  subst im;have bl:cs=[]:=LO (by have:=HL.out;omega);subst bl;go_enter func85,ntmps85;go_wp2;go_ret;exact⟨_,rfl,OwnR.nil _ _ _,Ln _ _⟩
 | some ad=>
  have HC:Ap (∀(j:Nat) (u:Aq),cs[j]?=J u->(w.alloc (Ag #[] 119)).cell? (ad.add j)=J u):=fun j u hj=>by
   have bf:j<n*1:=by rw[<-HL.out];exact(Ll.1 hj).1
   obtain⟨b,off,e,aa,hc⟩:=HT.out (by omega)
   cases e
   rw[NR];exact N4 _ (hc j u hj)
  go_enter func85,ntmps85;go_wp2_with (at_builtin;refine N0 _ rfl _ _ 25 rfl w.heap.size 119 i0 _ 1 24 PW hi cG bQ cB rfl (by decide) _ _ _ rfl (N8 w #[] 0 (Lh _) (Nn _) rfl) ad n cap cs rfl HL.out HC.out H1.out ?qc4 ?qc5 ?qc6 ?_)
  case qc4=>unfold maxLen;omega
  case qc5=>omega
  case qc6=>simp
  intro v' w1 ap aS mg;go_wp2;go_ret;refine⟨v',rfl,ap,?_⟩;exact((Ln _ w).alloc (Lh _) _).grown aS (by simp) (by intro k hk;simp[Value.ownBlock] at hk;omega)
theorem clone_kIn(A:Bb)(n cap:Nat)(cs:List Aq)(w:Ba)(hl:cs.length=n*1)(hA:Raw w A n cs)(h1:∀u∈cs,u.oneCell'=Ar)(hn:n<=1000000) :
  An Al 66 #[I A n cap] w (RetR kIn n cs w):=by
 have HT:=zH hA;have H1:=zH h1;have HL:=zH hl;have q:∀(w:Ba) (a:Bb) (n c n' c':Nat),(binOp .eql 49 (I a n c) (I Z n' c')).run Al w=.ok (Ah a.isNone) w:=fun w a n c n' c'=>NX w _ _ a n c n' c' Ni
 obtain⟨i0,hi,cG,bQ,cB⟩:=yT kIn_ok
 cases A with
 | none=>
  have im:n=0:=by
   rcases Np n with h | h
   . exact h
   . obtain⟨b,off,e,_⟩:=HT.out h;cases e
  subst im;have bl:cs=[]:=LO (by have:=HL.out;omega);subst bl;go_enter RY,RF;go_wp2;go_ret;exact⟨_,rfl,OwnR.nil _ _ _,Ln _ _⟩
 | some ad=>
  have HC:Ap (∀(j:Nat) (u:Aq),cs[j]?=J u->(w.alloc (Ag #[] 3)).cell? (ad.add j)=J u):=fun j u hj=>by
   have bf:j<n*1:=by rw[<-HL.out];exact(Ll.1 hj).1
   obtain⟨b,off,e,aa,hc⟩:=HT.out (by omega)
   cases e
   rw[NR];exact N4 _ (hc j u hj)
  go_enter RY,RF;go_wp2_with (at_builtin;refine N0 _ rfl _ _ 49 rfl w.heap.size 3 i0 _ 1 8 Ni hi cG bQ cB rfl (by decide) _ _ _ rfl (N8 w #[] 0 (Lh _) (Nn _) rfl) ad n cap cs rfl HL.out HC.out H1.out ?qc4 ?qc5 ?qc6 ?_)
  case qc4=>unfold maxLen;omega
  case qc5=>omega
  case qc6=>simp
  intro v' w1 ap aS mg;go_wp2;go_ret;refine⟨v',rfl,ap,?_⟩;exact((Ln _ w).alloc (Lh _) _).grown aS (by simp) (by intro k hk;simp[Value.ownBlock] at hk;omega)
end
section
open Go.RowKit Go.Shelf
attribute [local go_sem] Oper.semAt_some
def lsM(m:Nat):Int:=if m=0 then 1 else 3
def lsC(m:Nat):List Aq:=((List.range m).flatMap fun j=>(exMv (lsM j)).cells.toList)
theorem lsC_succ(m:Nat):lsC (m+1)=lsC m++(exMv (lsM m)).cells.toList:=by unfold lsC;rw[NY,PD];simp
theorem gt(w:Ba):An Al 20 #[O U 1] w fun e w'=>∃A kc SV ks,e=Ak (.agg (exPb.vs A kc SV ks))/\CAt w' w'.heap.size A exPb.t.cases/\SAt w' w'.heap.size SV exPb.a.sts/\Am w.heap.size w w':=by
 obtain⟨a0,tJ,d0,fG,ce⟩:=zq w #[O U 0,O U 0,O U 0,I Z 0 0,O U 0,I Z 0 0,O U 0] 29;obtain⟨a1,dp,d1,aW,aH⟩:=zq a0 #[O U 1,O U 3] 3;rw[fG] at d1;have aX:=zH (Lb aH (by omega) d0);have bH:=zH d1;have cd:=zH (ce.trans (aH.mono (by omega)));have Dl:=zH tJ;have Iz:=zH dp;have hz:a1.heap.size=w.heap.size+2:=by omega
 clear tJ d0 fG ce dp d1 aW aH;go_enter func20,ntmps20;go_upto_region 3 with fail
 rw[Dl.out,Iz.out];go_wp2_with fail
 go_loopw [3,9] (fun s i wr=>∃(m:Nat) (A:Bb) (c:Nat),m<=2/\s=I A m c/\i=O U (m:Int)/\Ap (OwnR kMv wr a1.heap.size (I A m c) m (lsC m))/\Ap (Am a1.heap.size a1 wr)) (fun _ i _=>2-(Ao i).toNat)
 case atStart=>exact⟨0,Z,0,by omega,rfl,rfl,OwnR.nil _ _ _,Ln _ _⟩
 obtain⟨m,A,c,hm,rfl,rfl,hO,hB⟩:=hrel
 by_cases aa:m<2
 . have hmn:(m:Int)<2:=by omega
   have iK:IntKind.i64.wrap ((m:Int)+1)=((m+1:Nat):Int):=by rw[Lw];omega
   have iO:(0:Int)<=(m:Int):=by omega
   have q:wr.cell? ⟨w.heap.size+1,m,Z⟩=J (O U (lsM m)):=by
    have h2:m=0\/m=1:=by omega
    have e:=La hB.out bH.out;rcases h2 with rfl | rfl
    . exact za e 0 rfl
    exact za e 1 rfl
   obtain⟨h,hh⟩:=Kh (lsM m);have f':=zH (lsC_succ m);rw[hh] at q f';obtain⟨W4,lN,d4,fW,bK⟩:=zq wr #[O U 2,O U h,O U 3,O U 0,O U 0,O U 0,O U 0,O U 0] 121;have mY:=hB.out.size;have eB:=zH (hB.out.trans (bK.mono mY));have lE:=zH (hO.out.below bK (Lh _));have En:=zH lN;have De:=zH d4;have fD:=eB.out.size;clear lN bK hO hB hh d4
   go_wp2_with (at_builtin; go_must (rw [En.out]; refine yO kMv_ok rfl _ _ (by rfl) a1.heap.size (I A m c) m (lsC m) (by rfl) lE.out wr.heap.size #[O U 2, O U h, O U 3, O U 0, O U 0, O U 0, O U 0, O U 0] (by rfl) De.out rfl (by simp [Value.oneCell']) (by omega) fD _ rfl ?_); intro g' aZ w5 KI mt Gl Bx
                have Et:=zH KI;have ed:=zH (eB.out.grown mt fD (fun k e=>(lE.out.lt k e).1))
                clear KI mt Gl Bx)
   have VM:Ap (OwnR kMv w5 a1.heap.size (I (J ⟨g',0,Z⟩) (m+1) aZ) (m+1) (lsC (m+1))):=by rw[Ap,f'.out];exact Et.out
   clear Et f' lE
   go_roundw
   case rel=>exact⟨m+1,_,_,by omega,rfl,by go_num,VM,ed⟩
   simp[Ao];omega
 obtain rfl:m=2:=by omega
 obtain⟨b0,ce,e0,fG,cW⟩:=zq wr #[O U 0,O U 0] 3;obtain⟨b1,aH,e1,aW,cp⟩:=zq b0 #[O U 0,O U 0] 3;obtain⟨b2,ae,e2,dk,dz⟩:=zq b1 #[I (J ⟨wr.heap.size+1,0,Z⟩) 2 2] 49;obtain⟨b3,ak,e3,le,eo⟩:=zq b2 #[O U 0,O U 1] 3;obtain⟨b4,bK,e4,fW,tv⟩:=zq b3 #[O U 0,O U 0] 3;obtain⟨b5,bJ,e5,mb,en⟩:=zq b4 #[I (J ⟨wr.heap.size+1+1+1+1,0,Z⟩) 2 2] 49;obtain⟨b6,iU,e6,tk,iu⟩:=zq b5 #[I (J ⟨wr.heap.size,0,Z⟩) 2 2,I (J ⟨wr.heap.size+1+1,0,Z⟩) 1 1,I Z 0 0,I (J ⟨wr.heap.size+1+1+1,0,Z⟩) 2 2,I (J ⟨wr.heap.size+1+1+1+1+1,0,Z⟩) 1 1,I Z 0 0] 118;obtain⟨b7,fZ,e7,fU,oy⟩:=zq b6 #[O U 2,O U 2,O U 1,I (J ⟨wr.heap.size+1+1+1+1+1+1,0,Z⟩) 2 2] 24;obtain⟨b8,pL,e8,tj,li⟩:=zq b7 #[I A 2 c] 119;rw[fG] at e1 aW;rw[aW] at e2 dk;rw[dk] at e3 le;rw[le] at e4 fW;rw[fW] at e5 mb;rw[mb] at e6 tk;rw[tk] at e7 fU;rw[fU] at e8 tj;have D0:Ap (b8.heap[wr.heap.size]?=J (Ag #[O U 0,O U 0] 3 (0,0))):=Lb li (by omega) (Lb oy (by omega) (Lb iu (by omega) (Lb en (by omega) (Lb tv (by omega) (Lb eo (by omega) (Lb dz (by omega) (Lb cp (by omega) (e0))))))))
 have D1:Ap (b8.heap[wr.heap.size+1]?=J (Ag #[O U 0,O U 0] 3 (0,0))):=Lb li (by omega) (Lb oy (by omega) (Lb iu (by omega) (Lb en (by omega) (Lb tv (by omega) (Lb eo (by omega) (Lb dz (by omega) (e1)))))));have D2:Ap (b8.heap[wr.heap.size+1+1]?=J (Ag #[I (J ⟨wr.heap.size+1,0,Z⟩) 2 2] 49 (0,0))):=Lb li (by omega) (Lb oy (by omega) (Lb iu (by omega) (Lb en (by omega) (Lb tv (by omega) (Lb eo (by omega) (e2))))));have D3:Ap (b8.heap[wr.heap.size+1+1+1]?=J (Ag #[O U 0,O U 1] 3 (0,0))):=Lb li (by omega) (Lb oy (by omega) (Lb iu (by omega) (Lb en (by omega) (Lb tv (by omega) (e3)))));have D4:Ap (b8.heap[wr.heap.size+1+1+1+1]?=J (Ag #[O U 0,O U 0] 3 (0,0))):=Lb li (by omega) (Lb oy (by omega) (Lb iu (by omega) (Lb en (by omega) (e4))));have D5:Ap (b8.heap[wr.heap.size+1+1+1+1+1]?=J (Ag #[I (J ⟨wr.heap.size+1+1+1+1,0,Z⟩) 2 2] 49 (0,0))):=Lb li (by omega) (Lb oy (by omega) (Lb iu (by omega) (e5)))
 have D6:Ap (b8.heap[wr.heap.size+1+1+1+1+1+1]?=J (Ag #[I (J ⟨wr.heap.size,0,Z⟩) 2 2,I (J ⟨wr.heap.size+1+1,0,Z⟩) 1 1,I Z 0 0,I (J ⟨wr.heap.size+1+1+1,0,Z⟩) 2 2,I (J ⟨wr.heap.size+1+1+1+1+1,0,Z⟩) 1 1,I Z 0 0] 118 (0,0))):=Lb li (by omega) (Lb oy (by omega) (e6));have D7:Ap (b8.heap[wr.heap.size+1+1+1+1+1+1+1]?=J (Ag #[O U 2,O U 2,O U 1,I (J ⟨wr.heap.size+1+1+1+1+1+1,0,Z⟩) 2 2] 24 (0,0))):=Lb li (by omega) (e7);have D8:Ap (b8.heap[wr.heap.size+1+1+1+1+1+1+1+1]?=J (Ag #[I A 2 c] 119 (0,0))):=e8;have HK:Ap (Am wr.heap.size wr b8):=((((((((cW).trans (cp.mono (by omega))).trans (dz.mono (by omega))).trans (eo.mono (by omega))).trans (tv.mono (by omega))).trans (en.mono (by omega))).trans (iu.mono (by omega))).trans (oy.mono (by omega))).trans (li.mono (by omega));have Dl:=zH ce;have Iz:=zH aH;have y':=zH ae;have u':=zH ak;have t9:=zH bK;have WI:=zH bJ;have WH:=zH iU;have WG:=zH fZ;have OS:=zH pL;have HS:=zH tj;have T7:=e7;obtain⟨x0,x1,x2,x3,_⟩:=Kb T7;have cD:=hB.out.size;have P0:Ap (b8.heap[w.heap.size]?=_):=Lb HK.out (by omega) (Lb hB.out (by omega) aX.out);have y0:=za P0.out 0 rfl;have f0:=zb P0.out 0;have y1:=za P0.out 1 rfl;have f1:=zb P0.out 1;have y2:=za P0.out 2 rfl;have f2:=zb P0.out 2;have y3:=za P0.out 3 rfl;have f3:=zb P0.out 3;have y4:=za P0.out 4 rfl
 have f4:=zb P0.out 4;have y5:=za P0.out 5 rfl;have f5:=zb P0.out 5;have y6:=za P0.out 6 rfl;have f6:=zb P0.out 6;have EH:=zH (cd.out.trans ((hB.out.trans (HK.out.mono cD)).mono (by omega)));clear T7 ce e0 cW aH e1 cp ae e2 dz ak e3 eo bK e4 tv bJ e5 en iU e6 iu fZ e7 oy pL e8 li;go_upto_region 8 with fail
 rw[Dl.out,Iz.out,y'.out,u'.out,t9.out,WI.out,WH.out,WG.out];rw[<-OS.out] at y0 f0 y1 f1 y2 f2 y3 f3 y4 f4 y5 f5 y6 f6;go_wp2_with fail;rw[OS.out];obtain⟨k1,k2,k3,k4⟩:=JK (O U 2) (O U 2) (O U 1) (I (J ⟨wr.heap.size+1+1+1+1+1+1,0,Z⟩) 2 2) (O U 2) (I (J ⟨wr.heap.size+1+1+1+1+1+1+1+1,0,Z⟩) 1 1) (O U 1) P0.out EH.out (Lh _);obtain⟨WF,cK⟩:=Kh ((((((((b8.setCell ⟨w.heap.size,0,Z⟩ (O U 2)).setCell ⟨w.heap.size,1,Z⟩ (O U 2)).setCell ⟨w.heap.size,2,Z⟩ (O U 1)).setCell ⟨w.heap.size,3,Z⟩ (I (J ⟨wr.heap.size+1+1+1+1+1+1,0,Z⟩) 2 2)).setCell ⟨w.heap.size,4,Z⟩ (O U 2)).setCell ⟨w.heap.size,5,Z⟩ (I (J ⟨wr.heap.size+1+1+1+1+1+1+1+1,0,Z⟩) 1 1)).setCell ⟨w.heap.size,6,Z⟩ (O U 1)));rw[cK] at k1 k2 k3 k4 ⊢;have Io:=hO.out.form;obtain⟨A',cap,eA,bD,iy,BN⟩:=Io;obtain⟨g,eg,SO,cI,dM⟩:=BN (by omega);have ep:=(hO.out.lt g SO).1;obtain⟨rfl,-,rfl⟩:A=A'/\True/\c=cap:=by cases eA;exact⟨rfl,trivial,rfl⟩
 have hk:∀k,k≠w.heap.size->WF.heap[k]?=b8.heap[k]?:=k3;have g0:=(hk _ (by omega)).trans D0.out;have g1:=(hk _ (by omega)).trans D1.out;have g2:=(hk _ (by omega)).trans D2.out;have g3:=(hk _ (by omega)).trans D3.out;have g4:=(hk _ (by omega)).trans D4.out;have g5:=(hk _ (by omega)).trans D5.out;have g6:=(hk _ (by omega)).trans D6.out;have g8:=(hk _ (by omega)).trans D8.out
 have TW:∀j,WF.cell? ⟨g,j,Z⟩=wr.cell? ⟨g,j,Z⟩:=fun j=>by
  have e:WF.heap[g]?=wr.heap[g]?:=(hk g (by omega)).trans (HK.out.block g cI);unfold World.cell?;simp only[e]
 refine LP (RN (P:=Al) rfl _ _ w.heap.size 29 _ (0,0) _ rfl k1 Pq rfl (by kernel_rfl)) rfl ?_;have i0:=uC (xs:=[0,0]) g0;have i1:=uC (xs:=[0,0]) g1;have i3:=uC (xs:=[0,1]) g3;have i4:=uC (xs:=[0,0]) g4;have l2:=QZ (v:=[0,0]) g2 i1;have l5:=QZ (v:=[0,0]) g5 i4;refine⟨J ⟨wr.heap.size+1+1+1+1+1+1,0,Z⟩,2,J ⟨wr.heap.size+1+1+1+1+1+1+1+1,0,Z⟩,1,rfl,fun _=>⟨_,0,rfl,zd g6,fun i hi=>?_⟩,fun _=>⟨_,0,rfl,zd g8,fun i hi=>?_⟩,k2⟩
 . have h2:i=0\/i=1:=by have:i<2:=hi;omega
   rcases h2 with rfl | rfl
   . exact⟨_,_,_,za g6 0 rfl,za g6 1 rfl,za g6 2 rfl,⟨_,2,rfl,i0⟩,⟨_,1,rfl,l2⟩,⟨Z,0,rfl,LAt.nil _ _ _⟩⟩
   exact⟨_,_,_,za g6 3 rfl,za g6 4 rfl,za g6 5 rfl,⟨_,2,rfl,i3⟩,⟨_,1,rfl,l5⟩,⟨Z,0,rfl,LAt.nil _ _ _⟩⟩
 have h2:i=0:=by have:i<1:=hi;omega
 subst h2;refine⟨A,c,za g8 0 rfl,fun _=>⟨g,0,eg,by have:=(HK.out.size);omega,fun j hj k u hu=>?_⟩⟩;have h3:j=0\/j=1:=by have:j<2:=hj;omega
 have li:k<8:=by
  rcases h3 with rfl | rfl
  . exact(Lf.1 hu).1
  exact(Lf.1 hu).1
 rw[TW];refine dM _ _ ?_;rw[<-hu];have h8:k=0\/k=1\/k=2\/k=3\/k=4\/k=5\/k=6\/k=7:=by omega
 rcases h3 with rfl | rfl
 . rcases h8 with rfl | rfl | rfl | rfl | rfl | rfl | rfl | rfl<;>rfl
 rcases h8 with rfl | rfl | rfl | rfl | rfl | rfl | rfl | rfl<;>rfl
end
section
open Go.RowKit
def yp(vs:List Rd):List Aq:=vs.flatMap fun x=>x.cells.toList
theorem jc(vs us:List Rd):yp (vs++us)=yp vs++yp us:=by simp[yp]
theorem xe(vs:List Rd):(yp vs).length=vs.length*7:=by
 induction vs with
 | nil=>rfl
 | cons v vs ih=>simp only[yp,List.flatMap_cons,List.length_append,List.length_cons] at *;rw[ih];simp[Rd.cells];omega
theorem vf:∀(vs:List Rd) (i:Nat) (hi:i<vs.length) (k:Nat),k<7->(yp vs)[i*7+k]?=vs[i].cells[k]?
 | v::vs,0,hi,k,hk=>by
  simp only[yp,List.flatMap_cons,List.getElem_cons_zero,Nat.zero_mul,Nat.zero_add];rw[L3 (by simp[Rd.cells];omega)];simp
 | v::vs,i+1,hi,k,hk=>by
  have:=vf vs i (by simpa using hi) k hk;simp only[yp,List.flatMap_cons,List.getElem_cons_succ] at *;rw[LW (by simp[Rd.cells];omega),<-this]
  congr 1
  simp[Rd.cells];omega
theorem jo(vs:List Rd):∀u∈yp vs,u.oneCell'=Ar:=by
 intro u hu;obtain⟨v,_,hv⟩:=Nm.1 hu;simp only[Rd.cells,List.mem_cons,List.not_mem_nil,or_false] at hv;rcases hv with rfl | rfl | rfl | rfl | rfl | rfl | rfl<;>rfl
theorem uX{w:Ba}{A:Bb}{vs:List Rd}(h:RAt w w.heap.size A vs):Raw w A vs.length (yp vs):=fun h0=>by
 obtain⟨b,off,e,aa,hc⟩:=h h0;refine⟨b,off,e,aa,fun j u hj=>?_⟩;have KW:j<vs.length*7:=by have:=(Ll.1 hj).1;rwa[xe] at this
 have cN:j / 7<vs.length:=by omega
 have h8:j / 7*7+j % 7=j:=by omega
 rw[<-h8,vf vs (j / 7) cN (j % 7) (by omega)] at hj;have:=hc (j / 7) cN (j % 7) u hj;rwa[Pw,h8] at this
theorem jn{w:Ba}{base:Nat}{v:Aq}{vs:List Rd}(h:OwnR kRd w base v vs.length (yp vs)):∃A cap,v=I A vs.length cap/\vs.length<=cap/\cap<=maxLen/\RAtS (fun k=>base<=k) w A vs:=by
 have aa:=h.lt;obtain⟨A,cap,rfl,hc,hm,hr⟩:=h.form;refine⟨A,cap,rfl,hc,hm,fun h0=>?_⟩;obtain⟨g,rfl,hg,cI,bD⟩:=hr h0;refine⟨g,0,rfl,(aa g hg).1,cI,fun i hi k u hu=>?_⟩;have hk:k<7:=by have:=(Lf.1 hu).1;simpa[Rd.cells] using this
 rw[LH];exact bD _ u (by rw[vf vs i hi k hk];exact hu)
def qx(vs:List Mv):List Aq:=vs.flatMap fun x=>x.cells.toList
theorem jf(vs:List Mv):(qx vs).length=vs.length*8:=by
 induction vs with
 | nil=>rfl
 | cons v vs ih=>simp only[qx,List.flatMap_cons,List.length_append,List.length_cons] at *;rw[ih];simp[Mv.cells];omega
theorem vr:∀(vs:List Mv) (i:Nat) (hi:i<vs.length) (k:Nat),k<8->(qx vs)[i*8+k]?=vs[i].cells[k]?
 | v::vs,0,hi,k,hk=>by
  simp only[qx,List.flatMap_cons,List.getElem_cons_zero,Nat.zero_mul,Nat.zero_add];rw[L3 (by simp[Mv.cells];omega)];simp
 | v::vs,i+1,hi,k,hk=>by
  have:=vr vs i (by simpa using hi) k hk;simp only[qx,List.flatMap_cons,List.getElem_cons_succ] at *;rw[LW (by simp[Mv.cells];omega),<-this]
  congr 1
  simp[Mv.cells];omega
theorem X7(vs:List Mv):∀u∈qx vs,u.oneCell'=Ar:=by
 intro u hu;obtain⟨v,_,hv⟩:=Nm.1 hu;simp only[Mv.cells,List.mem_cons,List.not_mem_nil,or_false] at hv;rcases hv with rfl | rfl | rfl | rfl | rfl | rfl | rfl | rfl<;>rfl
theorem X4{w:Ba}{A:Bb}{vs:List Mv}(h:MAt w w.heap.size A vs):Raw w A vs.length (qx vs):=fun h0=>by
 obtain⟨b,off,e,aa,hc⟩:=h h0;refine⟨b,off,e,aa,fun j u hj=>?_⟩;have KW:j<vs.length*8:=by have:=(Ll.1 hj).1;rwa[jf] at this
 have cN:j / 8<vs.length:=by omega
 have h8:j / 8*8+j % 8=j:=by omega
 rw[<-h8,vr vs (j / 8) cN (j % 8) (by omega)] at hj;have:=hc (j / 8) cN (j % 8) u hj;rwa[Pw,h8] at this
theorem X5{w:Ba}{base:Nat}{v:Aq}{vs:List Mv}(h:OwnR kMv w base v vs.length (qx vs)):∃A cap,v=I A vs.length cap/\vs.length<=cap/\cap<=maxLen/\MAtS (fun k=>base<=k) w A vs:=by
 have aa:=h.lt;obtain⟨A,cap,rfl,hc,hm,hr⟩:=h.form;refine⟨A,cap,rfl,hc,hm,fun h0=>?_⟩;obtain⟨g,rfl,hg,cI,bD⟩:=hr h0;refine⟨g,0,rfl,(aa g hg).1,cI,fun i hi k u hu=>?_⟩;have hk:k<8:=by have:=(Lf.1 hu).1;simpa[Mv.cells] using this
 rw[LH];exact bD _ u (by rw[vr vs i hi k hk];exact hu)
def cIs:Ct (List Int):=⟨kIs,fun S w cs xs=>∃A c,cs=[I A xs.length c]/\IAtS S w A xs⟩
theorem yy:CtOk cIs where
 len:=fun ⟨A,c,e,_⟩=>by rw[e];rfl
 one:=fun ⟨A,c,e,_⟩ u hu=>by rw[e] at hu;simp at hu;subst hu;rfl
 keep:=fun ⟨A,c,e,h⟩ hk=>⟨A,c,e,h.keep hk⟩
 keepC:=fun ⟨A,c,e,h⟩ hk=>⟨A,c,e,h.keepC hk⟩
 mono:=fun ⟨A,c,e,h⟩ hm=>⟨A,c,e,h.mono hm⟩
def cWd:Ct (List Rd):=⟨kWd,fun S w cs xs=>∃A c,cs=[I A xs.length c]/\RAtS S w A xs/\xs.length<=c⟩
theorem xM:CtOk cWd where
 len:=fun ⟨A,c,e,_⟩=>by rw[e];rfl
 one:=fun ⟨A,c,e,_⟩ u hu=>by rw[e] at hu;simp at hu;subst hu;rfl
 keep:=fun ⟨A,c,e,h,hc⟩ hk=>⟨A,c,e,h.keep hk,hc⟩
 keepC:=fun ⟨A,c,e,h,hc⟩ hk=>⟨A,c,e,h.keepC hk,hc⟩
 mono:=fun ⟨A,c,e,h,hc⟩ hm=>⟨A,c,e,h.mono hm,hc⟩
def cMl:Ct (List Mv):=⟨kMl,fun S w cs xs=>∃A c,cs=[I A xs.length c]/\MAtS S w A xs⟩
theorem qm:CtOk cMl where
 len:=fun ⟨A,c,e,_⟩=>by rw[e];rfl
 one:=fun ⟨A,c,e,_⟩ u hu=>by rw[e] at hu;simp at hu;subst hu;rfl
 keep:=fun ⟨A,c,e,h⟩ hk=>⟨A,c,e,h.keep hk⟩
 keepC:=fun ⟨A,c,e,h⟩ hk=>⟨A,c,e,h.keepC hk⟩
 mono:=fun ⟨A,c,e,h⟩ hm=>⟨A,c,e,h.mono hm⟩
def cCs:Ct Cs:=⟨kCs,fun S w cs x=>∃A0 c0 A1 c1 A2 c2,cs=[I A0 x.inp.length c0,I A1 x.out.length c1,I A2 x.calm.length c2]/\IAtS S w A0 x.inp/\LAtS S w A1 x.out/\LAtS S w A2 x.calm⟩
theorem xz:CtOk cCs where
 len:=fun ⟨A0,c0,A1,c1,A2,c2,e,_⟩=>by rw[e];rfl
 one:=fun ⟨A0,c0,A1,c1,A2,c2,e,_⟩ u hu=>by rw[e] at hu;simp at hu;rcases hu with rfl | rfl | rfl<;>rfl
 keep:=fun ⟨A0,c0,A1,c1,A2,c2,e,h0,h1,h2⟩ hk=>⟨A0,c0,A1,c1,A2,c2,e,h0.keep hk,h1.keep hk,h2.keep hk⟩
 keepC:=fun ⟨A0,c0,A1,c1,A2,c2,e,h0,h1,h2⟩ hk=>⟨A0,c0,A1,c1,A2,c2,e,h0.keepC hk,h1.keepC hk,h2.keepC hk⟩
 mono:=fun ⟨A0,c0,A1,c1,A2,c2,e,h0,h1,h2⟩ hm=>⟨A0,c0,A1,c1,A2,c2,e,h0.mono hm,h1.mono hm,h2.mono hm⟩
section
variable {S:Nat->Prop} {w:Ba} {base:Nat} {v:Aq}
theorem wV{xs:List (List Rd)}(h:OwnX cWd S w base v xs):∃A cap,v=I A xs.length cap/\xs.length<=cap/\cap<=maxLen/\WAt w w.heap.size A xs:=by
 obtain⟨A,cap,e,h1,h2,h3⟩:=h.form xM;refine⟨A,cap,e,h1,h2,fun h0=>?_⟩;obtain⟨g,rfl,_,hg,hc⟩:=h3 h0;refine⟨g,0,rfl,hg,fun i hi=>?_⟩;obtain⟨cs,⟨A',c',rfl,hl,_⟩,aJ⟩:=hc i hi;refine⟨A',c',?_,hl.rat⟩;have:=aJ 0 _ rfl;rw[LH];rwa[show i*cWd.K.size+0=i by show i*1+0=i;omega] at this
theorem Y6{xs:List (List Int)}(h:OwnX cIs S w base v xs):∃A cap,v=I A xs.length cap/\xs.length<=cap/\cap<=maxLen/\LAtS (fun k=>S k\/base<=k) w A xs:=by
 obtain⟨A,cap,e,h1,h2,h3⟩:=h.form yy;refine⟨A,cap,e,h1,h2,fun h0=>?_⟩;obtain⟨g,rfl,hb,hg,hc⟩:=h3 h0;refine⟨g,0,rfl,.inr hb,hg,fun i hi=>?_⟩;obtain⟨cs,⟨A',c',rfl,hl⟩,aJ⟩:=hc i hi;refine⟨A',c',?_,hl.mono fun k _ hs=>.inl hs.1⟩;have:=aJ 0 _ rfl;rw[LH];rwa[show i*cIs.K.size+0=i by show i*1+0=i;omega] at this
theorem Zn{xs:List (List Int)}(h:OwnX cIs S w base v xs):∃A cap,v=I A xs.length cap/\xs.length<=cap/\cap<=maxLen/\LAtS (fun k=>S k\/v.ownBlock=J k) w A xs:=by
 obtain⟨A,cap,e,h1,h2,h3⟩:=h.form yy;refine⟨A,cap,e,h1,h2,fun h0=>?_⟩;obtain⟨g,rfl,hb,hg,hc⟩:=h3 h0;refine⟨g,0,rfl,.inr (by rw[e];rfl),hg,fun i hi=>?_⟩;obtain⟨cs,⟨A',c',rfl,hl⟩,aJ⟩:=hc i hi;refine⟨A',c',?_,hl.mono fun k _ hs=>.inl hs.1⟩;have:=aJ 0 _ rfl;rw[LH];rwa[show i*cIs.K.size+0=i by show i*1+0=i;omega] at this
end
end
section
open Go.RowKit
def ZY:Ct Exn:=⟨kXn,fun S w cs x=>∃A c A2 c2,cs=[O U x.c,I A x.word.length c,I A2 x.views.length c2]/\RAtS S w A x.word/\LAtS S w A2 x.views/\x.word.length<=c⟩
theorem zx:CtOk ZY where
 len:=fun ⟨A,c,A2,c2,e,_⟩=>by rw[e];rfl
 one:=fun ⟨A,c,A2,c2,e,_⟩ u hu=>by rw[e] at hu;simp at hu;rcases hu with rfl | rfl | rfl<;>rfl
 keep:=fun ⟨A,c,A2,c2,e,h1,h2,h3⟩ hk=>⟨A,c,A2,c2,e,h1.keep hk,h2.keep hk,h3⟩
 keepC:=fun ⟨A,c,A2,c2,e,h1,h2,h3⟩ hk=>⟨A,c,A2,c2,e,h1.keepC hk,h2.keepC hk,h3⟩
 mono:=fun ⟨A,c,A2,c2,e,h1,h2,h3⟩ hm=>⟨A,c,A2,c2,e,h1.mono hm,h2.mono hm,h3⟩
def XCap(w:Ba)(A:Bb)(xs:List Exn):Prop:=∀b o q,A=J ⟨b,o,q⟩->∀(i:Nat) (_:i<xs.length) (B:Bb) (n c:Nat),w.cell? ⟨b,o+i*3+1,Z⟩=J (I B n c)->n<=c
section
variable {S:Nat->Prop} {w:Ba} {base:Nat} {v:Aq}
theorem kP{xs:List Exn}(h:OwnX ZY S w base v xs):∃A cap,v=I A xs.length cap/\xs.length<=cap/\cap<=maxLen/\XAt w w.heap.size A xs/\XCap w A xs:=by
 obtain⟨A,cap,e,h1,h2,h3⟩:=h.form zx
 have key:∀g,A=J ⟨g,0,Z⟩->∀(i:Nat) (hi:i<xs.length),∃A' c' A2 c2,w.cell? ⟨g,i*3,Z⟩=J (O U xs[i].c)/\w.cell? ⟨g,i*3+1,Z⟩=J (I A' xs[i].word.length c')/\w.cell? ⟨g,i*3+2,Z⟩=J (I A2 xs[i].views.length c2)/\RAt w w.heap.size A' xs[i].word/\LAt w w.heap.size A2 xs[i].views/\xs[i].word.length<=c':=by
  intro g eg i hi;obtain⟨g',MU,_,hg,hc⟩:=h3 (by omega);rw[eg] at MU
  cases MU
  obtain⟨cs,⟨A',c',A2,c2,rfl,hr,hl,hw⟩,aJ⟩:=hc i hi;have h0:=aJ 0 _ rfl;have h1:=aJ 1 _ rfl;have h2:=aJ 2 _ rfl;change w.cell? ⟨g,i*3+0,Z⟩=_ at h0;change w.cell? ⟨g,i*3+1,Z⟩=_ at h1;change w.cell? ⟨g,i*3+2,Z⟩=_ at h2;exact⟨A',c',A2,c2,by simpa using h0,by simpa using h1,by simpa using h2,hr.rat,hl.lat,hw⟩
 refine⟨A,cap,e,h1,h2,fun h0=>?_,fun b o q eA i hi B n c aJ=>?_⟩
 . obtain⟨g,rfl,_,hg,_⟩:=h3 h0
   refine⟨g,0,rfl,hg,fun i hi=>?_⟩;obtain⟨A',c',A2,c2,k0,k1,k2,hr,hl,_⟩:=key g rfl i hi;refine⟨_,_,_,?_,?_,?_,rfl,⟨A',c',rfl,hr⟩,⟨A2,c2,rfl,hl⟩⟩
   . simpa using k0
   . simpa using k1
   simpa using k2
 obtain⟨g,eg,_,hg,_⟩:=h3 (by omega);have UF:=eg;rw[eA] at eg
 cases eg
 obtain⟨A',c',A2,c2,k0,k1,k2,hr,hl,hw⟩:=key _ UF i hi;rw[LH] at aJ;rw[k1] at aJ
 cases aJ
 exact hw
end
end
section
open Go.RowKit
structure KeyOk{κ:Type}(P:Program)(kt:TypeId)(enc:κ->Aq):Prop where
 inj:∀a b,enc a=enc b->a=b
 check:∀(w:Ba) (em:Bool) (a:κ),(Instr.checkKey em 10000 kt (enc a)).run P w=.ok () w
 equal:∀(w:Ba) (a b:κ),(Op.equal kt (enc a) (enc b)).run P w=.ok (@decide (enc a=enc b) (Classical.propDecidable _)) w
 now:∀(d:TypeDesc),P.underlying kt=J d->(∀a b:κ,Instr.sameNow d (enc a) (enc b)=J (@decide (enc a=enc b) (Classical.propDecidable _)))\/(∀a b:κ,Instr.sameNow d (enc a) (enc b)=Z)
 stays:∀a:κ,Instr.sameBits 10000 (enc a) (enc a)=Ar
 kind:∃d,P.underlying kt=J d
section
variable {κ:Type} {P:Program} {kt:TypeId} {enc:κ->Aq}
open Classical
theorem ui{d:TypeDesc}(h:∀a b:κ,Instr.sameNow d (enc a) (enc b)=J (decide (enc a=enc b)))(x:κ):∀(es:List MapEntry) (i:Nat),(∀e∈es,∃k,e.key=enc k) ->
  (Instr.findNow d (enc x) es i=J Z/\∀e∈es,e.key≠enc x)\/∃j e,Instr.findNow d (enc x) es i=J (J (i+j,e.val))/\es[j]?=J e/\e.key=enc x
 | [],i,_=>.inl ⟨rfl,fun _ h=>by cases h⟩
 | e::es,i,hk=>by
  obtain⟨k,lm⟩:=hk e (by simp)
  by_cases he:enc x=enc k
  . refine .inr ⟨0,e,?_,rfl,by rw[lm,he]⟩
    simp[Instr.findNow,lm,h,he]
  . rcases ui h x es (i+1) (fun e he=>hk e (by simp[he])) with ⟨h1,h2⟩ | ⟨j,e',h1,h2,h3⟩
    . refine .inl ⟨by simp[Instr.findNow,lm,h,he,h1],fun e' oD=>?_⟩
      rcases LF.1 oD with rfl | oD
      . rw[lm];exact fun e2=>he e2.symm
      . exact h2 e' oD
    . exact .inr ⟨j+1,e',by simp[Instr.findNow,lm,h,he,h1];omega,by simpa using h2,h3⟩
theorem kA(K:KeyOk P kt enc)(w:Ba)(x:κ):∀(es:List MapEntry) (i:Nat),(∀e∈es,∃k,e.key=enc k) ->
  ((Instr.findAsking kt (enc x) es i).run P w=.ok Z w/\∀e∈es,e.key≠enc x)\/∃j e,(Instr.findAsking kt (enc x) es i).run P w=.ok (J (i+j,e.val)) w/\es[j]?=J e/\e.key=enc x
 | [],i,_=>.inl ⟨rfl,fun _ h=>by cases h⟩
 | e::es,i,hk=>by
  obtain⟨k,lm⟩:=hk e (by simp)
  by_cases he:enc x=enc k
  . refine .inr ⟨0,e,?_,rfl,by rw[lm,he]⟩
    simp[Instr.findAsking,lm,K.equal,he,Result.andThen]
  . rcases kA K w x es (i+1) (fun e he=>hk e (by simp[he])) with ⟨h1,h2⟩ | ⟨j,e',h1,h2,h3⟩
    . refine .inl ⟨by simp[Instr.findAsking,lm,K.equal,he,h1,Result.andThen],fun e' oD=>?_⟩
      rcases LF.1 oD with rfl | oD
      . rw[lm];exact fun e2=>he e2.symm
      . exact h2 e' oD
    . exact .inr ⟨j+1,e',by simp[Instr.findAsking,lm,K.equal,he,h1,Result.andThen];omega,by simpa using h2,h3⟩
theorem wJ{d:TypeDesc}(h:∀a b:κ,Instr.sameNow d (enc a) (enc b)=Z)(x:κ)(es:List MapEntry)(hk:∀e∈es,∃k,e.key=enc k) :
  es=[]\/Instr.findNow d (enc x) es 0=Z:=by
 cases es with
 | nil=>exact .inl rfl
 | cons e es=>
  obtain⟨k,lm⟩:=hk e (by simp);exact .inr (by simp[Instr.findNow,lm,h])
theorem wI(K:KeyOk P kt enc)(w:Ba)(x:κ)(es:List MapEntry)(hk:∀e∈es,∃k,e.key=enc k) :
  ((Instr.findKey kt (enc x) es).run P w=.ok Z w/\∀e∈es,e.key≠enc x)\/∃j e,(Instr.findKey kt (enc x) es).run P w=.ok (J (j,e.val)) w/\es[j]?=J e/\e.key=enc x:=by
 obtain⟨d,hd⟩:=K.kind;rcases K.now d hd with h | h
 . rcases ui h x es 0 hk with ⟨h1,h2⟩ | ⟨j,e,h1,h2,h3⟩
   . exact .inl ⟨by simp[Instr.findKey,run_underlying hd,h1],h2⟩
   exact .inr ⟨j,e,by simp[Instr.findKey,run_underlying hd,h1],h2,h3⟩
 rcases wJ h x es hk with rfl | hn
 . exact .inl ⟨by simp[Instr.findKey,run_underlying hd,Instr.findNow],fun _ h=>by cases h⟩
 rcases kA K w x es 0 hk with ⟨h1,h2⟩ | ⟨j,e,h1,h2,h3⟩
 . exact .inl ⟨by simp[Instr.findKey,run_underlying hd,hn,h1],h2⟩
 exact .inr ⟨j,e,by simp[Instr.findKey,run_underlying hd,hn,h1],h2,h3⟩
def MapOf(enc:κ->Aq)(w:Ba)(b n:Nat)(f:κ->Option Aq):Prop:=
 ∃es cF,w.heap[b]?=J (.map es cF)/\es.size<=n/\(es.toList.Pairwise fun x y=>x.key≠y.key)/\(∀e∈es.toList,∃k,e.key=enc k/\f k=J e.val)/\(∀k v,f k=J v->∃e∈es.toList,e.key=enc k/\e.val=v)
theorem MapOf.made(w:Ba):MapOf enc (w.alloc (.map #[] 0)) w.heap.size 0 (fun _=>Z):=
 ⟨#[],0,heap_alloc_new w _,Lh _,List.Pairwise.nil,fun e h=>by simp at h,fun k v h=>by cases h⟩
theorem MapOf.same{w w':Ba}{b n:Nat}{f:κ->Option Aq}(h:MapOf enc w b n f)(hs:w'.heap[b]?=w.heap[b]?):MapOf enc w' b n f:=by
 obtain⟨es,cF,hb,r⟩:=h;exact⟨es,cF,hs.trans hb,r⟩
theorem MapOf.lt{w:Ba}{b n:Nat}{f:κ->Option Aq}(h:MapOf enc w b n f):b<w.heap.size:=by
 obtain⟨es,cF,hb,r⟩:=h;exact(Lf.1 hb).1
theorem MapOf.look{w:Ba}{b n:Nat}{f:κ->Option Aq}{t e:TypeId}{z:Aq}(h:MapOf enc w b n f)(K:KeyOk P kt enc)(ht:P.underlying t=J (.map kt e))(hz:(zeroValue e).run P w=.ok z w)(k:κ) :
  (Instr.lookup t (.map (J b)) (enc k) As).run P w=.ok ((f k).getD z) w:=by
 obtain⟨es,cF,hb,_,_,h1,h2⟩:=h;rcases wI K w k es.toList (fun e he=>by obtain⟨k,hk,_⟩:=h1 e he;exact⟨k,hk⟩) with ⟨r1,r2⟩ | ⟨j,e0,r1,r2,r3⟩
 · have hf : f k = Z := by
    cases hf:f k with
    | none=>rfl
    | some v=>obtain⟨e,he,hk,_⟩:=h2 k v hf;exact absurd hk (r2 e he)
   simp[Instr.lookup,run_underlying ht,MapKept.run_getObj_map hb,K.check w _ k,r1,hz,Result.andThen,hf]
 obtain⟨k',cX,hf⟩:=h1 e0 (Pf r2);have:k=k':=K.inj _ _ (r3.symm.trans cX);subst this;simp[Instr.lookup,run_underlying ht,MapKept.run_getObj_map hb,K.check w _ k,r1,Result.andThen,hf]
theorem MapOf.look2{w:Ba}{b n:Nat}{f:κ->Option Aq}{t e:TypeId}{z:Aq}(h:MapOf enc w b n f)(K:KeyOk P kt enc)(ht:P.underlying t=J (.map kt e))(hz:(zeroValue e).run P w=.ok z w)(k:κ) :
  (Instr.lookup t (.map (J b)) (enc k) Ar).run P w=.ok (.tuple #[(f k).getD z,Ah (f k).isSome]) w:=by
 obtain⟨es,cF,hb,_,_,h1,h2⟩:=h;rcases wI K w k es.toList (fun e he=>by obtain⟨k,hk,_⟩:=h1 e he;exact⟨k,hk⟩) with ⟨r1,r2⟩ | ⟨j,e0,r1,r2,r3⟩
 · have hf : f k = Z := by
    cases hf:f k with
    | none=>rfl
    | some v=>obtain⟨e,he,hk,_⟩:=h2 k v hf;exact absurd hk (r2 e he)
   simp[Instr.lookup,run_underlying ht,MapKept.run_getObj_map hb,K.check w _ k,r1,hz,Result.andThen,hf]
 obtain⟨k',cX,hf⟩:=h1 e0 (Pf r2);have:k=k':=K.inj _ _ (r3.symm.trans cX);subst this;simp[Instr.lookup,run_underlying ht,MapKept.run_getObj_map hb,K.check w _ k,r1,Result.andThen,hf]
def uu[DecidableEq κ](f:κ->Option Aq)(k:κ)(v:Aq):κ->Option Aq:=fun x=>if x=k then J v else f x
theorem kd{P:Program}{w:Ba}{b:Nat}{es MT:Array MapEntry}{c c':Nat}(hb:w.heap[b]?=J (.map es c)) :
  (setObj b (.map MT c')).run P w=.ok () { w with heap:=w.heap.setIfInBounds b (.map MT c') }:=by
 simp[setObj,Sem.run,hb]
theorem pw_key{l:List MapEntry}(h:l.Pairwise fun x y=>x.key≠y.key){i j:Nat}{a b:MapEntry}(hi:l[i]?=J a)(hj:l[j]?=J b)(he:a.key=b.key):i=j:=by
 obtain⟨BI,rfl⟩:=Ll.1 hi;obtain⟨bf,rfl⟩:=Ll.1 hj;rcases Nat.lt_trichotomy i j with aa | h' | aa
 . exact absurd he (Pi.1 h i j BI bf aa)
 . exact h'
 exact absurd he.symm (Pi.1 h j i bf BI aa)
theorem pw_set{l:List MapEntry}(h:l.Pairwise fun x y=>x.key≠y.key){j:Nat}{a a':MapEntry}(hj:l[j]?=J a)(he:a.key=a'.key):(l.set j a').Pairwise fun x y=>x.key≠y.key:=by
 obtain⟨bf,rfl⟩:=Ll.1 hj;rw[Pi] at h ⊢;intro i k hi hk FQ;simp only[List.length_set] at hi hk;simp only[List.getElem_set]
 split
 . rename_i h1;subst h1
   split
   . omega
   rw[<-he];exact h _ _ hi hk FQ
 split
 . rename_i h1;subst h1
   rw[<-he];exact h _ _ hi hk FQ
 exact h _ _ hi hk FQ
theorem MapOf.put[DecidableEq κ]{w:Ba}{b n:Nat}{f:κ->Option Aq}{t e:TypeId}(h:MapOf enc w b n f)(K:KeyOk P kt enc)(ht:P.underlying t=J (.map kt e))(k:κ)(v:Aq) :
  ∃w',(Instr.mapUpdate t (.map (J b)) (enc k) v).run P w=.ok () w'/\MapOf enc w' b (n+1) (uu f k v)/\w.grownBy w' (J b):=by
 obtain⟨es,cF,hb,hn,na,h1,h2⟩:=h;have aD:=(Lf.1 hb).1
 have grown:∀o,w.grownBy { w with heap:=w.heap.setIfInBounds b o } (J b):=fun o=>
  ⟨rfl,rfl,rfl,by simp,fun i _ hi=>by simp only;rw[LR (fun e=>hi (by rw[e]))]⟩
 have at_:∀o,({ w with heap:=w.heap.setIfInBounds b o }:Ba).heap[b]?=J o:=fun o=>by simp[aD]
 rcases wI K w k es.toList (fun e he=>by obtain⟨k,hk,_⟩:=h1 e he;exact⟨k,hk⟩) with ⟨r1,r2⟩ | ⟨j,e0,r1,r2,r3⟩
 . refine⟨_,?_,⟨es.push { key:=enc k,val:=v,born:=cF },cF+1,at_ _,by simp;omega,?_,?_,?_⟩,grown _⟩
   . simp[Instr.mapUpdate,run_underlying ht,MapKept.run_getObj_map hb,K.check w As k,r1,kd hb,Result.andThen]
   . rw[Array.toList_push]
     exact List.pairwise_append.2 ⟨na,List.pairwise_singleton _ _,fun a ha c hc=>by simp only[List.mem_singleton] at hc;subst hc;exact r2 a ha⟩
   . intro e he
     simp only[Array.toList_push,List.mem_append,List.mem_singleton] at he;rcases he with he | rfl
     . obtain⟨k',cX,hf⟩:=h1 e he
       refine⟨k',cX,?_⟩;have:k'≠k:=fun e2=>r2 e he (by rw[cX,e2])
       simp[uu,this,hf]
     exact⟨k,rfl,by simp[uu]⟩
   intro k' v' hf;unfold uu at hf
   split at hf
   . rename_i hk;subst hk
     cases hf
     exact⟨_,by simp;exact .inr rfl,rfl,rfl⟩
   obtain⟨e,he,hk,hv⟩:=h2 k' v' hf;exact⟨e,by simp;exact .inl (by simpa using he),hk,hv⟩
 have FK:es[j]?=J e0:=by simpa using r2
 have hs:(Instr.keyThatStays e0.key (enc k)).run P w=.ok (enc k) w:=by simp[Instr.keyThatStays,r3,K.stays]
 have bf:j<es.toList.length:=(Ll.1 r2).1
 have iP:(es.modify j (fun e'=>{ e' with key:=enc k,val:=v })).toList=es.toList.set j { e0 with key:=enc k,val:=v }:=by
  rw[Array.toList_modify,ChangeMaps.modify_eq_set _ _ _ _ r2]
 refine⟨_,?_,⟨es.modify j (fun e'=>{ e' with key:=enc k,val:=v }),cF,at_ _,by simp;omega,?_,?_,?_⟩,grown _⟩
 . simp[Instr.mapUpdate,run_underlying ht,MapKept.run_getObj_map hb,K.check w As k,r1,FK,hs,kd hb,Result.andThen]
 . rw[iP]
   exact pw_set na r2 (by simpa using r3)
 . intro e he
   rw[iP] at he;obtain⟨i,hi,rfl⟩:=Nf he;rw[RR]
   split
   . exact⟨k,rfl,by simp[uu]⟩
   rename_i bj;have cN:i<es.toList.length:=by simpa using hi
   obtain⟨k',cX,hf⟩:=h1 _ (Le cN);refine⟨k',cX,?_⟩
   by_cases e2:k'=k
   . exact absurd (cX.trans ((congrArg enc e2).trans r3.symm)) (fun e3=>bj (pw_key na r2 (Lj cN) e3.symm))
   simp[uu,e2,hf]
 intro k' v' hf;unfold uu at hf
 split at hf
 . rename_i hk;subst hk
   cases hf
   refine⟨{ e0 with key:=enc k',val:=v },?_,rfl,rfl⟩;rw[iP];exact NB.2 ⟨j,by simpa using bf,by simp⟩
 rename_i hk;obtain⟨e,he,KU,hv⟩:=h2 k' v' hf;refine⟨e,?_,KU,hv⟩;rw[iP];obtain⟨i,hi,rfl⟩:=Nf he
 have pD:j≠i:=by
  rintro rfl;rw[Lj bf] at r2
  cases r2
  exact hk (K.inj _ _ (KU.symm.trans r3))
 exact NB.2 ⟨i,by simpa using hi,by simp[pD]⟩
theorem Xi[DecidableEq κ](w:Ba){ops:Array Oper}{rest:List Oper}{o:Oper}{a:Act}{Q:Exit->Act->Ba->Prop}
  (hg:o.guard=Z) (m x v:Operand) (t e:TypeId) (rA:o.op=Op.mapUpdate t m x v) (K:KeyOk P kt enc) (ht:P.underlying t=J (.map kt e)) (b n:Nat) (f:κ->Option Aq)
  (ap:MapOf enc w b n f) (k:κ) (val:Aq) (hm:a.eval m=.map (J b)) (hx:a.eval x=enc k) (hv:a.eval v=val)
  (hK:∀w',MapOf enc w' b (n+1) (uu f k val)->w.grownBy w' (J b)->wpList P ops Q rest (a.put o.dst undef) w') :
  wpList P ops Q (o::rest) a w:=by
 refine Nd hg fun K' ah=>?_
 obtain⟨w',de,r1,r2⟩:=ap.put K ht k val;unfold Oper.wp;simp[execOp,rA,hm,hx,hv,de,Result.andThen];exact ah _ _ (hK w' r1 r2)
def Z9[DecidableEq κ](S:List κ):κ->Option Aq:=fun k=>if k∈S then J (Ah Ar) else Z
theorem setF_nil[DecidableEq κ]:Z9 ([]:List κ)=fun _=>Z:=by funext k;simp[Z9]
theorem setF_put[DecidableEq κ](S:List κ)(k:κ):uu (Z9 S) k (Ah Ar)=Z9 (k::S):=by
 funext x
 unfold uu Z9
 by_cases h:x=k<;>simp[h]
theorem setF_get[DecidableEq κ](S:List κ)(k:κ):(Z9 S k).getD (Ah As)=Ah (decide (k∈S)):=by
 unfold Z9
 split<;>simp_all
def SetAt[DecidableEq κ](enc:κ->Aq)(w:Ba)(b:Nat)(S:List κ):Prop:=∃n,MapOf enc w b n (Z9 S)
theorem SetAt.made[DecidableEq κ](enc:κ->Aq)(w:Ba):SetAt enc (w.alloc (.map #[] 0)) w.heap.size []:=⟨0,by rw[setF_nil];exact MapOf.made w⟩
theorem SetAt.kept[DecidableEq κ]{w w':Ba}{b B:Nat}{S:List κ}(h:SetAt enc w b S)(hb:Am B w w')(aa:b<B):SetAt enc w' b S:=by
 obtain⟨n,h⟩:=h;exact⟨n,h.same (hb.block b aa)⟩
theorem SetAt.same[DecidableEq κ]{w w':Ba}{b:Nat}{S:List κ}(h:SetAt enc w b S)(hb:w'.heap[b]?=w.heap[b]?):SetAt enc w' b S:=by
 obtain⟨n,h⟩:=h;exact⟨n,h.same hb⟩
theorem SetAt.lt[DecidableEq κ]{w:Ba}{b:Nat}{S:List κ}(h:SetAt enc w b S):b<w.heap.size:=by
 obtain⟨n,h⟩:=h;exact h.lt
theorem SetAt.look[DecidableEq κ]{w:Ba}{b:Nat}{S:List κ}{t e:TypeId}(h:SetAt enc w b S)(K:KeyOk P kt enc)(ht:P.underlying t=J (.map kt e))(hz:∀w:Ba,(zeroValue e).run P w=.ok (Ah As) w)(k:κ) :
  (Instr.lookup t (.map (J b)) (enc k) As).run P w=.ok (Ah (decide (k∈S))) w:=by
 obtain⟨n,h⟩:=h;rw[h.look K ht (hz w) k,setF_get]
theorem qP[DecidableEq κ](w:Ba){ops:Array Oper}{rest:List Oper}{o:Oper}{a:Act}{Q:Exit->Act->Ba->Prop}
  (hg:o.guard=Z) (m x v:Operand) (t e:TypeId) (rA:o.op=Op.mapUpdate t m x v) (K:KeyOk P kt enc) (ht:P.underlying t=J (.map kt e)) (b:Nat) (S:List κ)
  (ap:SetAt enc w b S) (k:κ) (hm:a.eval m=.map (J b)) (hx:a.eval x=enc k) (hv:a.eval v=Ah Ar)
  (hK:∀w',SetAt enc w' b (k::S)->w.grownBy w' (J b)->wpList P ops Q rest (a.put o.dst undef) w') :
  wpList P ops Q (o::rest) a w:=by
 obtain⟨n,ap⟩:=ap;exact Xi w hg m x v t e rA K ht b n _ ap k _ hm hx hv fun w' h1 h2=>hK w' ⟨n+1,by rw[<-setF_put];exact h1⟩ h2
end
end
section
open Go.RowKit
open Classical in
theorem jT:KeyOk Al 3 (O U) where
 inj:=fun a b h=>by injection h
 check:=fun w em a=>by
  have hi:Al.underlying 3=J (.int U):=LB;unfold Instr.checkKey;simp[run_underlying hi,Result.andThen]
 equal:=fun w a b=>by
  have hi:Al.underlying 3=J (.int U):=LB;unfold Op.equal Op.maxDepth;rw[Ns w _ 3 _ _ _ _ hi]
  by_cases h:a=b<;>simp[h]
 now:=fun d hd=>.inl fun a b=>by
  have hi:Al.underlying 3=J (.int U):=LB;rw[hi] at hd
  cases hd
  by_cases h:a=b<;>simp[Instr.sameNow,h]
 stays:=fun a=>by simp[Instr.sameBits]
 kind:=⟨_,LB⟩
theorem Z4(a b:Vw)(h:Ai a.cells=.agg b.cells):a=b:=by
 injection h with h
 obtain⟨a0,a1,a2,a3,a4,a5,a6,a7⟩:=a;obtain⟨b0,b1,b2,b3,b4,b5,b6,b7⟩:=b;simpa[Vw.cells] using h
theorem vE(w:Ba)(em:Bool)(n:Nat)(a:Int):(Instr.checkKey em (n+1) 3 (O U a)).run Al w=.ok () w:=by
 have hi:Al.underlying 3=J (.int U):=LB;unfold Instr.checkKey;simp[run_underlying hi,Result.andThen]
theorem check_arr(w:Ba)(em:Bool)(n:Nat)(a b c d e:Int):(Instr.checkKey em (n+2) 43 (Ai #[O U a,O U b,O U c,O U d,O U e])).run Al w=.ok () w:=by
 have hu:Al.underlying 43=J (.array 5 3):=RE;have hs:(sizeOf 3).run Al w=.ok 1 w:=by kernel_rfl
 have p0:=fun x0 x1 x2 x3 x4=>zL #[x0,x1,x2,x3,x4] 0 x0 rfl w
 have p1:=fun x0 x1 x2 x3 x4=>zL #[x0,x1,x2,x3,x4] 1 x1 rfl w
 have p2:=fun x0 x1 x2 x3 x4=>zL #[x0,x1,x2,x3,x4] 2 x2 rfl w
 have p3:=fun x0 x1 x2 x3 x4=>zL #[x0,x1,x2,x3,x4] 3 x3 rfl w
 have p4:=fun x0 x1 x2 x3 x4=>zL #[x0,x1,x2,x3,x4] 4 x4 rfl w
 unfold Instr.checkKey;simp only[Sem.run_bind,run_underlying hu,Result.andThen_ok,hs,Std.Legacy.Range.forIn_eq_forIn_range',Std.Legacy.Range.size,Nat.sub_zero,Nat.add_sub_cancel,Nat.div_one,show List.range' 0 5 1=[0,1,2,3,4] from rfl,List.forIn_cons,List.forIn_nil,p0,p1,p2,p3,p4,Nat.mul_one,vE,Sem.run_pure]
open Classical in
theorem jE:KeyOk Al 100 (fun v:Vw=>.agg v.cells) where
 inj:=Z4
 check:=fun w em v=>by
  have hu:Al.underlying 100=J (.struct (Al.fieldsOf 100)):=by kernel_rfl
  have hf : (Al.fieldsOf 100).toList.map (fun f => (f.name, f.type, f.offset)) = [("Proc", 3, 0), ("Round", 3, 1), ("Input", 3, 2), ("Heard", 43, 3)] := by kernel_rfl
  have p0:∀x:Vw,(part 3 x.cells 0).run Al w=.ok (O U x.p) w:=fun x=>zL _ 0 _ rfl w
  have p1:∀x:Vw,(part 3 x.cells 1).run Al w=.ok (O U x.r) w:=fun x=>zL _ 1 _ rfl w
  have p2:∀x:Vw,(part 3 x.cells 2).run Al w=.ok (O U x.i) w:=fun x=>zL _ 2 _ rfl w
  have p3:∀x:Vw,(part 43 x.cells 3).run Al w=.ok (Ai #[O U x.h0,O U x.h1,O U x.h2,O U x.h3,O U x.h4]) w:=fun x=>by unfold Vw.cells;kernel_rfl
  unfold Instr.checkKey;simp only[Sem.run_bind,run_underlying hu,Result.andThen_ok];rw[<-Array.forIn_toList]
  generalize (Al.fieldsOf 100).toList=fs at hf
  obtain⟨f0,f1,f2,f3,rfl⟩:∃f0 f1 f2 f3,fs=[f0,f1,f2,f3]:=by
   have hl:fs.length=4:=by simpa using congrArg List.length hf
   rcases fs with _ | ⟨f0,_ | ⟨f1,_ | ⟨f2,_ | ⟨f3,_ | ⟨f4,r⟩⟩⟩⟩⟩<;>simp at hl
   exact⟨_,_,_,_,rfl⟩
  simp only[List.map_cons,List.map_nil,List.cons.injEq,Prod.mk.injEq,and_true] at hf;obtain⟨⟨n0,t0,o0⟩,⟨n1,t1,o1⟩,⟨n2,t2,o2⟩,⟨n3,t3,o3⟩⟩:=hf;simp only[List.forIn_cons,List.forIn_nil,n0,n1,n2,n3,t0,t1,t2,t3,o0,o1,o2,o3,p0,p1,p2,p3,Sem.run_bind,Result.andThen_ok,vE,check_arr,ne_eq,String.reduceEq,not_false_eq_true,if_true,Sem.run_pure]
 equal:=fun w a b=>by
  unfold Op.equal Op.maxDepth;rw[jv 9997 a b w]
  by_cases h:a=b
  . simp[h]
  . have:¬(Ai a.cells=.agg b.cells):=fun e=>h (Z4 a b e)
    rw[Lr h,Lr this]
 now:=fun d hd=>.inr fun a b=>by
  have hu:Al.underlying 100=J (.struct (Al.fieldsOf 100)):=by kernel_rfl
  rw[hu] at hd
  cases hd
  simp[Instr.sameNow]
 stays:=fun a=>by simp[Instr.sameBits,Vw.cells]
 kind := ⟨_, by have hu : Al.underlying 100 = J (.struct (Al.fieldsOf 100)) := by kernel_rfl
                exact hu⟩
end
section
open Go.RowKit
def zQ(a:Ad):Nat->Int->Nat
 | 0,_=>1
 | k+1,s=>((a.at_ s).map fun m=>zQ a k m.to).sum
def yA(L x:Nat):Nat:=min x (L+1)
def cl(a:Ad)(L k s:Nat):List Int:=(List.range s).map fun (j:Nat)=>((yA L (zQ a k (j:Int)):Nat):Int)
theorem qX(a:Ad)(L k s:Nat):(cl a L k s).length=s:=by unfold cl;simp
theorem Q4(a:Ad)(L k s:Nat):cl a L k (s+1)=cl a L k s++[((yA L (zQ a k (s:Int)):Nat):Int)]:=by
 unfold cl;rw[NY,LN];rfl
theorem wP(a:Ad)(L k s j:Nat)(h:j<(cl a L k s).length):(cl a L k s)[j]=((yA L (zQ a k (j:Int)):Nat):Int):=by
 simp[cl]
def qA(a:Ad)(k:Nat)(M:List Mv)(j:Nat):Nat:=((M.take j).map fun m=>zQ a k m.to).sum
theorem Xo(a:Ad)(k:Nat)(M:List Mv):qA a k M 0=0:=by unfold qA;rw[LQ];rfl
theorem Xp(a:Ad)(k:Nat)(M:List Mv){j:Nat}(h:j<M.length):qA a k M (j+1)=qA a k M j+zQ a k M[j].to:=by
 unfold qA;rw[Ls h,LN,R5];simp
theorem Js(a:Ad)(k:Nat){s:Nat}(h:s<a.sts.length):qA a k a.sts[s] (a.sts[s].length)=zQ a (k+1) (s:Int):=by
 unfold qA;rw[zQ,LC,show a.at_ (s:Int)=a.sts[s] by unfold Ad.at_;rw[Lu,Lg,Lj h];rfl]
theorem vc(L x:Nat):yA L x<=L+1:=Nat.min_le_right _ _
theorem QL(L x y:Nat):min (yA L x+yA L y) (L+1)=yA L (x+y):=by unfold yA;omega
theorem Yc(L:Nat):yA L 0=0:=by unfold yA;omega
theorem QJ(L:Nat):yA L 1=1:=by unfold yA;omega
theorem sat_gt(L x:Nat):(L<yA L x)↔L<x:=by unfold yA;omega
theorem sat_eq{L x:Nat}(h:x<=L):yA L x=x:=by unfold yA;omega
theorem QK(L c x:Nat)(hc:1<=c):(L<c*yA L x)↔L<c*x:=by
 unfold yA
 by_cases h:x<=L+1
 . rw[Rj h]
 rw[Nat.min_eq_right (by omega)];have h1:1*(L+1)<=c*(L+1):=Rn _ hc;have h2:c*(L+1)<=c*x:=Nat.mul_le_mul_left _ (by omega);constructor<;>intro _<;>omega
def zn(a:Ad):Nat->Int->List (List Rd)
 | 0,_=>[[]]
 | k+1,s=>(a.at_ s).flatMap fun m=>(zn a k m.to).map (m.r::·)
theorem yu(a:Ad):∀(k:Nat) (s:Int),(zn a k s).length=zQ a k s
 | 0,_=>rfl
 | k+1,s=>by
  rw[zn,zQ,List.length_flatMap]
  congr 1
  exact Rs fun m _=>by rw[LT,yu a k m.to]
theorem yP(a:Ad):∀(k:Nat) (s:Int),∀w∈zn a k s,w.length=k
 | 0,_,w,h=>by simp[zn] at h;subst h;rfl
 | k+1,s,w,h=>by
  rw[zn] at h;obtain⟨m,_,hm⟩:=Nm.1 h;obtain⟨w',hw,rfl⟩:=LZ.1 hm;rw[Ly,yP a k m.to w' hw]
theorem at_mem{a:Ad}{s:Int}{m:Mv}(h:m∈a.at_ s):m∈a.mvs:=by
 unfold Ad.at_ at h;unfold Ad.mvs;rw[Lg] at h
 cases hc:a.sts[s.toNat]? with
 | none=>rw[hc] at h;cases h
 | some l=>rw[hc] at h;exact Nu.2 ⟨l,Pf hc,h⟩
theorem qQ(a:Ad):∀(k:Nat) (s:Int),∀w∈zn a k s,∀r∈w,∃m∈a.mvs,m.r=r
 | 0,_,w,h,r,hr=>by simp[zn] at h;subst h;cases hr
 | k+1,s,w,h,r,hr=>by
  rw[zn] at h;obtain⟨m,SU,hm⟩:=Nm.1 h;obtain⟨w',hw,rfl⟩:=LZ.1 hm;rcases LF.1 hr with rfl | hr
  . exact⟨m,at_mem SU,rfl⟩
  . exact qQ a k m.to w' hw r hr
def zE(r:Rd)(p:Nat)(now:List Int)(q:Nat):Int:=if q<now.length/\(r.h p).toNat.testBit q=Ar then now.getD q 0 else -1
def yM(r:Rd)(k p:Nat)(now:List Int):Vw:=⟨p,k,0,zE r p now 0,zE r p now 1,zE r p now 2,zE r p now 3,zE r p now 4⟩
def yw(p:Nat)(i:Int):Vw:=⟨p,0,i,-1,-1,-1,-1,-1⟩
def xu(vs:List Vw)(v:Vw):List Vw×Int:=if v∈vs then (vs,qp vs v) else (vs++[v],vs.length)
theorem Yq{vs:List Vw}{v:Vw}(h:v∈vs):xu vs v=(vs,qp vs v):=Lm h
theorem QR{vs:List Vw}{v:Vw}(h:v∉vs):xu vs v=(vs++[v],(vs.length:Int)):=Lk h
theorem putW_len(vs:List Vw)(v:Vw):(xu vs v).1.length<=vs.length+1:=by
 unfold xu;split<;>simp
def zT(f:Nat->Vw)(vs:List Vw):Nat->List Vw×List Int
 | 0=>(vs,[])
 | p+1=>((xu (zT f vs p).1 (f p)).1,(zT f vs p).2++[(xu (zT f vs p).1 (f p)).2])
theorem xd(f:Nat->Vw)(vs:List Vw):∀p,(zT f vs p).2.length=p
 | 0=>rfl
 | p+1=>by rw[zT,Lp,xd f vs p];rfl
theorem qC(f:Nat->Vw)(vs:List Vw):∀p,(zT f vs p).1.length<=vs.length+p
 | 0=>by simp[zT]
 | p+1=>by
  have h:=qC f vs p;have h2:=putW_len (zT f vs p).1 (f p);rw[zT];dsimp only;omega
def zi(vs:List Vw)(n:Nat)(inp:List Int)(word:List Rd):Nat->List Vw×List (List Int)
 | 0=>((zT (fun p=>yw p (inp.getD p 0)) vs n).1,[(zT (fun p=>yw p (inp.getD p 0)) vs n).2])
 | j+1=>((zT (fun p=>yM (word.getD j default) (j+1) p ((zi vs n inp word j).2.getD j [])) (zi vs n inp word j).1 n).1,
   (zi vs n inp word j).2++[(zT (fun p=>yM (word.getD j default) (j+1) p ((zi vs n inp word j).2.getD j [])) (zi vs n inp word j).1 n).2])
theorem ye(vs:List Vw)(n:Nat)(inp:List Int)(word:List Rd):∀j,(zi vs n inp word j).2.length=j+1
 | 0=>rfl
 | j+1=>by rw[zi,Lp,ye vs n inp word j];rfl
theorem qF(vs:List Vw)(n:Nat)(inp:List Int)(word:List Rd):∀j,(zi vs n inp word j).1.length<=vs.length+(j+1)*n
 | 0=>by rw[zi];have:=qC (fun p=>yw p (inp.getD p 0)) vs n;simpa using this
 | j+1=>by
  have h:=qF vs n inp word j;have h2:=qC (fun p=>yM (word.getD j default) (j+1) p ((zi vs n inp word j).2.getD j [])) (zi vs n inp word j).1 n;rw[zi,PY (j+1) 1 n];dsimp only;omega
theorem qk(vs:List Vw)(n:Nat)(inp:List Int)(word:List Rd):∀j,∀l∈(zi vs n inp word j).2,l.length=n
 | 0,l,h=>by rw[zi] at h;simp at h;subst h;exact xd _ _ _
 | j+1,l,h=>by
  rw[zi] at h;rcases LM.1 h with h | h
  . exact qk vs n inp word j l h
  . simp at h;subst h;exact xd _ _ _
def zj(p:Pb):List (Nat×List Rd):=(List.range p.t.cases.length).flatMap fun i=>(zn p.a p.k.toNat 0).map fun w=>(i,w)
def yf(p:Pb)(i:Nat):List Int:=(p.t.cases.getD i default).inp
def zl(p:Pb)(l:List (Nat×List Rd)):List Vw×List Exn:=
 l.foldl (fun s x=>((zi s.1 p.t.n.toNat (yf p x.1) x.2 x.2.length).1,s.2++[⟨x.1,x.2,(zi s.1 p.t.n.toNat (yf p x.1) x.2 x.2.length).2⟩])) ([],[])
theorem kj(p:Pb):zl p []=([],[]):=rfl
theorem xH(p:Pb)(l:List (Nat×List Rd))(x:Nat×List Rd):zl p (l++[x]) =
  ((zi (zl p l).1 p.t.n.toNat (yf p x.1) x.2 x.2.length).1,(zl p l).2++[⟨x.1,x.2,(zi (zl p l).1 p.t.n.toNat (yf p x.1) x.2 x.2.length).2⟩]):=by
 unfold zl;rw[RK];rfl
def xC:Sy:=⟨⟨⟨0,0,0,[]⟩,⟨0,[]⟩,0⟩,0,[],[]⟩
def zA(p:Pb):Sy:=⟨p,p.t.n,(zl p (zj p)).1,(zl p (zj p)).2⟩
end
end Go.Proofs.YtkledihebeidlaaGreatDoor
