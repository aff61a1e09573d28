/- Parts SameS OpenS Rec App RowB Kinds Cts CtsC Map KeysA TArg CloneA AppVA StillIn Float Cnt BuiltE RowX WordsA. -/
import Derived.Test.YtohjmddnennajaaGreatDoorProg
import Derived.Test.YtohjmddnennajaaGreatDoorPb
import Derived.StillTailTactics
import Derived.Test.YtohjmddnennajaaGreatDoorPa
import Derived.SizedLaws
import Derived.Deep.AppendLies
import Derived.OwnWalkIn
import Derived.OwnWalk
import Derived.Maps.AppendAt
import Derived.Deep.QuietTactic
import Derived.BigQuiet
import Derived.Lib.Walk
import Derived.Lib.SliceRun
import Derived.Maps.Own
import Derived.Maps.OwnIn
import Derived.WalkKit
import Derived.OrdersIn
import Derived.RangeFuncCalls
import Derived.Deep.DeepCutAuto

namespace Go.Proofs.YtohjmddnennajaaGreatDoor
abbrev NC:=@Nat.zero_le
abbrev Lq:=@List.getElem?_eq_some_iff
abbrev LZ:=@List.getElem_map
abbrev Nb:=@List.getElem_range
abbrev Ri:=@Go.World.block_lt_of_cell?
abbrev Nq:=@Go.Proofs.Tryz.underlying44
abbrev LQ:=@List.getElem_of_mem
abbrev P8:=@Go.Proofs.Tryz.underlying87
abbrev Ra:=@Go.Proofs.Tryz.underlying22
abbrev PA:=@Go.Proofs.Tryz.underlying53
abbrev P7:=@Go.Proofs.Tryz.underlying95
abbrev P9:=@Go.Proofs.Tryz.underlying25
abbrev PB:=@Go.Proofs.Tryz.underlying30
abbrev RI:=@Go.Proofs.Tryz.underlying56
abbrev RJ:=@Go.Proofs.Tryz.underlying29
abbrev Pr:=@Go.Proofs.Tryz.underlying35
abbrev P5:=@Go.World.ownsRow_nil
abbrev Pn:=@Go.World.ownsRow.kept
abbrev PQ:=@Go.World.ownsRow.alloc
abbrev Rh:=@Go.World.ownsRow.lt
abbrev LH:=@Nat.zero_add
abbrev PD:=@Option.some.injEq
abbrev Ru:=@Go.World.news_of_block
abbrev LO:=@Nat.mul_le_mul
abbrev LW:=@Go.wpList_plain
abbrev RW:=@List.map_toArray
abbrev Nu:=@Nat.eq_zero_or_pos
abbrev LJ:=@List.eq_nil_of_length_eq_zero
abbrev RE:=@Go.World.grownBy.refl
abbrev R5:=@List.take_append_of_le_length
abbrev R6:=@Nat.min_eq_left
abbrev Rb:=@Nat.add_mul
abbrev LP:=@List.getElem?_append_left
abbrev LM:=@List.getElem?_append_right
abbrev Rf:=@List.getElem_append_left
abbrev N9:=@List.getElem_append_right
abbrev RB:=@Go.info_parts
abbrev Pe:=@Go.wpList_append_own
abbrev RO:=@List.map_set
abbrev N8:=@Go.Lib.run_eql_slice_nil
abbrev N5:=@Go.Addr.add_lit
abbrev Ph:=@Go.Lib.cell?_alloc_some
abbrev Pm:=@Go.World.ownsRow_made
abbrev NG:=@List.flatMap_cons
abbrev PE:=@List.getElem_cons_zero
abbrev PF:=@List.getElem_cons_succ
abbrev NL:=@List.mem_flatMap
abbrev PI:=@List.not_mem_nil
abbrev Sc:=@or_false
abbrev N4:=@Go.MapKept.run_getObj_map
abbrev Rr:=@List.mem_of_getElem?
abbrev P1:=@List.pairwise_iff_getElem
abbrev PP:=@List.length_set
abbrev RY:=@List.getElem_set
abbrev LU:=@Array.getElem?_setIfInBounds_ne
abbrev R9:=@Go.CallsIn.inRound
abbrev RM:=@Go.Oper.wp_mono
abbrev Rk:=@List.length_take
abbrev Rp:=@Go.getD_replicate_false
abbrev PZ:=@List.getElem?_drop
abbrev PV:=@Go.mem_ready
abbrev NI:=@Option.some.inj
abbrev RN:=@Nat.lt_or_ge
abbrev Pp:=@Array.getElem?_eq_none
abbrev PR:=@Ne.symm
abbrev R7:=@List.sum_append
abbrev Pt:=@List.map_congr_left
abbrev N1:=@List.foldl_append
abbrev NR:=@List.getElem?_take
abbrev Ll:=@Go.heap_setCell_same
abbrev NT:=@Array.getElem?_setIfInBounds_self_of_lt
abbrev NN:=@Nat.sub_self
abbrev Re:=@List.sum_cons
abbrev Rv:=@List.flatMap_append
abbrev Rn:=@List.length_singleton
set_option maxRecDepth 100000
set_option maxHeartbeats 4000000
section
open Go.RowKit
attribute [local go_sem] Oper.semAt_some
def Sy.vs_(s:Sy)(A:Bb)(kc:Nat)(SV:Bb)(ks:Nat)(AV:Bb)(kv:Nat)(AX:Bb)(kx:Nat):Array Value:=
 #[.int .i64 s.p.t.n,.int .i64 s.p.t.ins,.int .i64 s.p.t.outs,.slice A s.p.t.cases.length kc,.int .i64 s.p.a.n,.slice SV s.p.a.sts.length ks,.int .i64 s.p.k,.int .i64 s.n,.slice AV s.vs.length kv,.slice AX s.xs.length kx]
structure LowS(s:Sy):Prop where
 fp:Je s.p
 fv:s.vs.length<=2199023255552
 fx:s.xs.length<=2199023255552
 fe:∀x∈s.xs,Z7 x
structure SyAt(w:Ba)(B:Nat)(A SV AV AX:Bb)(s:Sy):Prop where
 fc:CAt w B A s.p.t.cases
 fs:SAt w B SV s.p.a.sts
 fv:VAt w B AV s.vs
 fx:XAt w B AX s.xs
theorem SyAt.keep{w w':Ba}{B:Nat}{A SV AV AX:Bb}{s:Sy}(h:SyAt w B A SV AV AX s)(hb:Below B w w'):SyAt w' B A SV AV AX s:=⟨h.fc.keep hb,h.fs.keep hb,h.fv.keep hb,h.fx.keep hb⟩
theorem SyAt.more{w:Ba}{B B':Nat}{A SV AV AX:Bb}{s:Sy}(h:SyAt w B A SV AV AX s)(hB:B<=B'):SyAt w B' A SV AV AX s:=⟨h.fc.more hB,h.fs.more hB,h.fv.more hB,h.fx.more hB⟩
theorem SyAt.up{w w':Ba}{A SV AV AX:Bb}{s:Sy}(h:SyAt w w.heap.size A SV AV AX s)(hb:Below w.heap.size w w'):SyAt w' w'.heap.size A SV AV AX s:=(h.keep hb).more hb.size
theorem sy_eq{a b:Sy}(h1:a.p=b.p)(h2:a.n=b.n/\a.vs=b.vs)(h3:a.xs=b.xs):a=b:=by cases a;cases b;simp_all
theorem Jr(a b:Sy)(ha:LowS a)(hb:LowS b)(A SA AV AX B SB BV BX:Bb)(ca sa av ax cb sb bv bx:Nat)(w:Ba)(hA:SyAt w w.heap.size A SA AV AX a)(hB:SyAt w w.heap.size B SB BV BX b) :
  Calls Tryz.prog 118 #[.agg (a.vs_ A ca SA sa AV av AX ax),.agg (b.vs_ B cb SB sb BV bv BX bx)] w fun e w'=>e=.returned (.bool (decide (a=b)))/\Below w.heap.size w w':=by
 obtain⟨w1,hw1,d0,d1,hs1,hBw⟩:=yB w (a.vs_ A ca SA sa AV av AX ax) (b.vs_ B cb SB sb BV bv BX bx) 35 35;have hA1:=hA.up hBw;have hB1:=hB.up hBw;have HPP:=zH (Js a.p b.p ha.fp hb.fp A B SA SB ca cb sa sb w1 hA1.fc hB1.fc hA1.fs hB1.fs);have HVV:=zH (fun (W:Ba) (hW:Below w1.heap.size w1 W)=>same_any a.n b.n AV BV av bv a.vs b.vs W W.heap.size (Le _) (hA1.up hW).fv (hB1.up hW).fv ha.fv hb.fv);have HX3:=zH ha.fe;have HY3:=zH hb.fe;have hax:=ha.fx;have hbx:=hb.fx;have HA:=zH hA1.fx;have HB:=zH hB1.fx;unfold Pb.vs at HPP;unfold Sy.vs_ at hw1 d0 d1 ⊢;have HBW:=zH hBw;have HD0:=zH d0;have HD1:=zH d1;have HW1:=zH hw1;obtain⟨p0,p1,p2,p3,p4,p5,p6,_⟩:=Kf d0;obtain⟨q0,q1,q2,q3,q4,q5,q6,_⟩:=Kf d1;clear hw1 d0 d1 hBw hA hB hA1 hB1 ha hb;have HT:Hid (a≠b->decide (a=b)=false):=fun h=>Li h
 have HU:Hid (a=b->decide (a=b)=true):=fun h=>Lk h
 obtain⟨r,hr⟩:∃r,decide (a=b)=r:=⟨_,rfl⟩;rw[hr] at HT HU ⊢;clear hr;have HE:=zH (@sy_eq a b);go_enter Tryz.func118,Tryz.ntmps118;go_wp2_with fail;rw[HW1.out];go_wp2_with fail;refine HPP.out.mono ?_;rintro e w2 ⟨rfl,hb2⟩;have d0:=La hb2 HD0.out;have d1:=La hb2 HD1.out;have HB2:=zH hb2;clear hb2 HPP p0 p1 p2 p3 p4 p5 p6 q0 q1 q2 q3 q4 q5 q6 HW1
 by_cases h1:a.p=b.p
 case neg=>
  have hR:=zH (HT.out (fun h=>h1 (congrArg Sy.p h)));rw[Li h1];clear HT HU HE h1 HVV d0 d1;go_wp2_with fail
  all_goals
   go_ret;exact⟨zm hR.out.symm,Lc HBW.out HB2.out⟩
 case pos=>
 have HE2:=zH (HE.out h1);rw[Lk h1];clear HE h1;have p7:=zh d0 7 rfl;have p8:=zh d0 8 rfl;have q7:=zh d1 7 rfl;have q8:=zh d1 8 rfl;clear d0 d1;go_wp2_with fail;refine(HVV.out w2 HB2.out).mono ?_;rintro e w3 ⟨rfl,hb3⟩;have HB3:=zH (Lc HB2.out hb3);have d0:=La HB3.out HD0.out;have d1:=La HB3.out HD1.out;clear hb3 HVV p7 p8 q7 q8 HB2
 by_cases h1:a.n=b.n/\a.vs=b.vs
 case neg=>
  have hR:=zH (HT.out (fun h=>h1 ⟨congrArg Sy.n h,congrArg Sy.vs h⟩));rw[Li h1];clear HT HU HE2 h1 d0 d1;go_wp2_with fail
  all_goals
   go_ret;exact⟨zm hR.out.symm,Lc HBW.out HB3.out⟩
 case pos=>
 have H3:Hid (a.xs=b.xs->r=true):=fun h=>HU.out (HE2.out h1 h)
 have H4:Hid (a.xs≠b.xs->r=false):=fun h=>HT.out (fun e=>h (congrArg Sy.xs e))
 rw[Lk h1];clear HE2 h1 HT HU;have p9:=zh d0 9 rfl;have q9:=zh d1 9 rfl;clear d0 d1
 by_cases h3:a.xs.length=b.xs.length
 case neg=>
  have hR:=zH (H4.out (fun h=>h3 (by rw[h])));have e0:((a.xs.length:Int) != (b.xs.length:Int))=true:=by simp;omega
  have e1:¬((a.xs.length:Int)=(b.xs.length:Int)):=by omega
  clear H3 H4 h3;go_wp2_with fail
  all_goals
   go_ret;exact⟨zm hR.out.symm,Lc HBW.out HB3.out⟩
 case pos=>
 have HL:=zH h3;rw[<-h3] at q9 hbx HD1 ⊢;clear h3;go_wp2_with fail;clear p9 q9
 go_loopw [5] (fun i wr=>∃k:Nat,k<=a.xs.length/\i=.int .i64 (k:Int)/\Hid (a.xs.take k=b.xs.take k)/\Hid (Below w1.heap.size w1 wr)) (fun i _=>a.xs.length-(intOf i).toNat)
 case atStart=>exact⟨0,by omega,rfl,by rw[Hid,LS,LS],HB3.out⟩
 case round=>
  obtain⟨k,hk,rfl,hp,hbl⟩:=hrel;have p9:=zh (La hbl.out HD0.out) 9 rfl;have q9:=zh (La hbl.out HD1.out) 9 rfl
  by_cases hlt:k<a.xs.length
  case neg=>
   obtain rfl:k=a.xs.length:=by omega
   have hR:=zH (H3.out (qA HL.out hp.out));clear H3 H4 hp;go_wp2_with fail;go_ret;exact⟨zm hR.out.symm,Lc HBW.out hbl.out⟩
  case pos=>
  have hky:k<b.xs.length:=by have:=HL.out;omega
  have hwr:=hbl.out.size;obtain⟨ba,oa,A1,c1,A2,c2,ea,hba,a0,a1,a2,IA1,IA2⟩:=(HA.out.keep hbl.out).row k hlt;obtain⟨bb,ob,B1,n1,B2,n2,eb,hbb,b0,b1,b2,IB1,IB2⟩:=(HB.out.keep hbl.out).row k hky;subst ea;subst eb;have HC:=zH (fun (W:Ba) (hW:Below wr.heap.size wr W)=>Jp a.xs[k] b.xs[k] (HX3.out _ (Ld hlt)) (HY3.out _ (Ld hky)) A1 A2 B1 B2 c1 c2 n1 n2 W (((IA1.more hwr).keep hW).more hW.size) (((IA2.more hwr).keep hW).more hW.size) (((IB1.more hwr).keep hW).more hW.size) (((IB2.more hwr).keep hW).more hW.size));have h0:Hid (a.xs[k]=b.xs[k]->a.xs.take (k+1)=b.xs.take (k+1)):=fun he=>xt hp.out hlt hky he
  have hN:Hid (a.xs[k]≠b.xs[k]->r=false):=fun he=>H4.out (fun h=>he (by simp only[h]))
  obtain⟨X,hX⟩:=Ki (a.xs[k]);obtain⟨Y,hY⟩:=Ki (b.xs[k]);rw[hX] at a0 a1 a2 h0 hN HC;rw[hY] at b0 b1 b2 h0 hN HC;clear hX hY hp IA1 IA2 IB1 IB2 hba hbb;have hk0:(0:Int)<=(k:Int):=by omega
  have hk1:(k:Int)<(a.xs.length:Int):=by omega
  go_wp2_with fail
  go_still_tail 10,(by kernel_rfl)
  change wpList _ _ _ _ _ wr.drew;obtain⟨w4,hw4⟩:∃w4,w4=wr.drew:=⟨_,rfl⟩;have HB4:Hid (Below wr.heap.size wr w4):=by rw[hw4];exact(Lo _ _).drew
  rw[<-hw4];clear hw4 a0 a1 a2 b0 b1 b2 p9 q9 hk0 hk1;go_wp2_with fail;refine(HC.out w4 HB4.out).mono ?_;rintro e w5 ⟨rfl,hb5⟩;have HB5:=zH (hbl.out.trans ((Lc HB4.out hb5).mono hwr));clear hb5 HC
  by_cases t1:X=Y
  case neg=>
   have hR:=zH (hN.out t1);rw[Li t1];clear h0 hN t1 H3 H4;go_wp2_with fail;go_ret;exact⟨zm hR.out.symm,Lc HBW.out HB5.out⟩
  case pos=>
   have hR:=zH (h0.out t1);rw[Lk t1];clear h0 hN t1 H3 H4;go_wp2_with fail
   go_roundw
   case rel=>exact⟨k+1,by omega,by go_num,hR,HB5.out⟩
   case measure=>simp[intOf];omega
end
section
open Go.ChangeShapes Go.WideShapes Go.ChangeAt Go.RowKit Go.Deep
section
variable {H:Type} {enc:TypeId×Value->H} {P:Program} {W:Ba} {base:Nat} {spare:Nat->Bool} {held:Bool}
def xG(P:Program)(t:TypeId)(d:DataW H):Prop:=(d.weights P t).all (·<=reachBytes)=true
theorem yE{fs:Array Field}{t:TypeId}{parts:List (DataW H)}(ht:P.underlying t=some (.struct fs))(h:xG P t (.agg parts)){j:Nat}{f:Field}{d:DataW H}(hf:fs[j]?=some f)(hd:parts[j]?=some d):xG P f.type d:=by
 unfold xG at h ⊢;refine LK.2 fun n hn=>LK.1 h n ?_
 simp only[DataW.weights,ht];exact DataW.weights_mem_each (j:=j) (by simp[hf]) hd n hn
theorem ji{e:TypeId}:∀ {ds:List (DataW H)} {d:DataW H},d∈ds->∀n∈d.weights P e,n∈DataW.weightsAll P e ds
 | d0::ds,d,hd,n,hn=>by
  simp only[DataW.weightsAll,List.mem_append];rcases L5.1 hd with rfl | hd
  . exact Or.inl hn
  . exact Or.inr (ji hd n hn)
theorem fits_slice{t e:TypeId}{el sp:List (DataW H)}(ht:P.underlying t=some (.slice e))(h:xG P t (.slice el sp)):el.length*P.bytesOf e<=reachBytes/\∀d∈el,xG P e d:=by
 unfold xG at h;have h1:=LK.1 h;simp only[DataW.weights,ht] at h1;constructor
 . have h2:=h1 _ (RF ..)
   have h3:(el.length+sp.length)*P.bytesOf e<=reachBytes:=by simpa using h2
   exact Lz (PK _ (Nat.le_add_right _ _)) h3
 . intro d hd
   exact LK.2 fun n hn=>h1 n (Rs _ (PN _ (ji hd n hn)))
theorem xK{α:Type}[Inhabited α]{t e:TypeId}{fuel:Nat}{cs:List Value}{x:DataW H×List MemPlace}{s:Nat}(L:List Value->α->Prop)(ht:P.underlying t=some (.slice e))(hs:P.cellsOf e=s)(h1:0<s)
  (rd:∀(m:Nat) (cs:List Value) (y:DataW H×List MemPlace),DataW.trod enc P W base spare held m e cs=some y->xG P e y.1->∃a,L cs a)
  (h:DataW.trod enc P W base spare held fuel t cs=some x) (hw:xG P t x.1) :
  ∃(A:Bb) (us0:List α) (cap:Nat),cs=[.slice A us0.length cap]/\us0.length<=cap/\cap<=maxLen/\us0.length*P.bytesOf e<=reachBytes /\
   (0<us0.length->∃b off,A=some ⟨b,off,none⟩/\b<W.heap.size/\∀(i:Nat) (hi:i<us0.length),∃cs,L cs us0[i]/\∀(k:Nat) (y:Value),cs[k]?=some y->W.cell? ⟨b,off+i*s+k,none⟩=some y):=by
 rcases open_slice ht h with ⟨rfl,_⟩ | ⟨a,len,cap,m,n',D,Pl,rfl,_,hlc,hcm,hm,hx1,hi⟩
 . exact⟨none,[],0,rfl,Le _,NC _,by simp,fun h=>absurd h (by simp)⟩
 . have hlm:len<=m:=by rw[hm];split<;>omega
   rw[hx1] at hw;obtain⟨hb,hall⟩:=fits_slice ht hw
   have hel:∀i,i<len->∃(a':α) (cs:List Value),cs.length=s/\L cs a'/\∀(k:Nat) (y:Value),cs[k]?=some y->W.cell? (a.add (i*s+k))=some y:=fun i hlt=>by
    obtain⟨cs',hc,ht'⟩:=hi i (by omega);rw[hs] at hc;obtain⟨_,hcl,hat⟩:=World.cells?_some hc;obtain⟨u,hu⟩:=rd _ _ _ ht' (hall _ (LX.2 ⟨i,Se.2 hlt,rfl⟩));refine⟨u,cs',hcl,hu,fun k y hk=>?_⟩;have hk':k<s:=by rw[<-hcl];exact(Lq.1 hk).1
    rw[<-Go.Deep.add_add,hat k hk',hk]
   obtain⟨us0,hal,has⟩:∃us0:List α,us0.length=len/\∀i (hi:i<us0.length),∃cs:List Value,cs.length=s/\L cs us0[i]/\∀(k:Nat) (y:Value),cs[k]?=some y->W.cell? (a.add (i*s+k))=some y:=by
    refine⟨(List.range len).map fun i=>if h:i<len then Classical.choose (hel i h) else default,by simp,fun i hi=>?_⟩;have hi':i<len:=by simpa using hi
    simp only[List.getElem_map,List.getElem_range,hi',dite_true];exact Classical.choose_spec (hel i hi')
   subst hal;have hb':us0.length*P.bytesOf e<=reachBytes:=by simpa using hb
   refine⟨some a,us0,cap,rfl,hlc,hcm,hb',fun h0=>?_⟩;obtain⟨c0,hl0,_,hc0⟩:=has 0 h0;have h00:=hc0 0 _ (Lm (by omega));obtain⟨b,off,spot⟩:=a;have hspot:spot=none:=by simpa[Addr.add] using World.cell?_spot h00
   subst hspot;refine⟨b,off,rfl,?_,fun i hi=>?_⟩
   . have:=Ri W _ h00
     simpa[Addr.add] using this
   . obtain⟨c1,_,hL,hc1⟩:=has i hi
     refine⟨c1,hL,fun k y hk=>?_⟩;have:=hc1 k y hk;rw[add_plain] at this;rw[<-PJ] at this;exact this
end
section
variable {H:Type} {enc:TypeId×Value->H} {W:Ba} {base:Nat} {spare:Nat->Bool} {held:Bool}
theorem cellsIs:Tryz.prog.cellsOf 44=1:=by kernel_rfl
theorem Z0:Tryz.prog.cellsOf 54=1:=by kernel_rfl
theorem cellsCs:Tryz.prog.cellsOf 87=3:=by kernel_rfl
theorem cellsCss:Tryz.prog.cellsOf 22=1:=by kernel_rfl
theorem cellsTk:Tryz.prog.cellsOf 24=4:=by kernel_rfl
theorem cellsGr:Tryz.prog.cellsOf 90=6:=by kernel_rfl
theorem XM:Tryz.prog.cellsOf 92=7:=by kernel_rfl
theorem cellsMv:Tryz.prog.cellsOf 94=8:=by kernel_rfl
theorem cellsMl:Tryz.prog.cellsOf 95=1:=by kernel_rfl
theorem cellsMls:Tryz.prog.cellsOf 25=1:=by kernel_rfl
theorem cellsAd:Tryz.prog.cellsOf 27=2:=by kernel_rfl
theorem cellsPb:Tryz.prog.cellsOf 29=7:=by kernel_rfl
theorem cellsRds:Tryz.prog.cellsOf 53=1:=by kernel_rfl
theorem cellsXn:Tryz.prog.cellsOf 56=3:=by kernel_rfl
theorem cellsXns:Tryz.prog.cellsOf 33=1:=by kernel_rfl
theorem cellsVs:Tryz.prog.cellsOf 30=1:=by kernel_rfl
theorem cellsSy:Tryz.prog.cellsOf 35=10:=by kernel_rfl
theorem bytesI8:Tryz.prog.bytesOf 3=8:=by kernel_rfl
theorem bytesIs:Tryz.prog.bytesOf 44=24:=by kernel_rfl
theorem bytesCs:Tryz.prog.bytesOf 87=72:=by kernel_rfl
theorem bytesMv:Tryz.prog.bytesOf 94=64:=by kernel_rfl
theorem bytesMl:Tryz.prog.bytesOf 95=24:=by kernel_rfl
theorem bytesRd:Tryz.prog.bytesOf 92=56:=by kernel_rfl
theorem bytesXn:Tryz.prog.bytesOf 56=56:=by kernel_rfl
/-- A slice of integers. -/
theorem rd_ints{m:Nat}{cs:List Value}{y:DataW H×List MemPlace}(h:DataW.trod enc Tryz.prog W base spare held m 44 cs=some y)(hw:xG Tryz.prog 44 y.1) :
  ∃(A:Bb) (xs:List Int) (c:Nat),cs=[.slice A xs.length c]/\xs.length<=17592186044416/\IAt W W.heap.size A xs:=by
 obtain⟨A,xs,c,e,_,_,hb,hA⟩:=xK (α:=Int) (fun cs i=>cs=[.int .i64 i]) Nq yA (by decide) (fun m cs y h _=>by obtain⟨i,e,_⟩:=LN Lx h;exact⟨i,e⟩) h hw;refine⟨A,xs,c,e,?_,fun h0=>?_⟩
 . rw[bytesI8] at hb;unfold reachBytes at hb;omega
 . obtain⟨b,off,e,hlt,hc⟩:=hA h0
   refine⟨b,off,e,hlt,fun i hi=>?_⟩;obtain⟨cs,rfl,h2⟩:=hc i hi;simpa using h2 0 _ rfl
/-- A slice of slices of integers. -/
theorem Zq{m:Nat}{cs:List Value}{y:DataW H×List MemPlace}(h:DataW.trod enc Tryz.prog W base spare held m 54 cs=some y)(hw:xG Tryz.prog 54 y.1) :
  ∃(A:Bb) (xs:List (List Int)) (c:Nat),cs=[.slice A xs.length c]/\xs.length<=17592186044416/\(∀v∈xs,v.length<=17592186044416)/\LAt W W.heap.size A xs:=by
 obtain⟨A,xs,c,e,_,_,hb,hA⟩:=xK (α:=List Int) (fun cs v=>∃A c,cs=[.slice A v.length c]/\v.length<=17592186044416/\IAt W W.heap.size A v) Tryz.underlying54 cellsIs (by decide)
  (fun m cs y h hw=>by obtain⟨A,xs,c,e,h1,h2⟩:=rd_ints h hw;exact⟨xs,A,c,e,h1,h2⟩) h hw
 refine⟨A,xs,c,e,?_,?_,fun h0=>?_⟩
 . rw[bytesIs] at hb;unfold reachBytes at hb;omega
 . intro v hv
   obtain⟨i,hi,rfl⟩:=LQ hv;obtain⟨b,off,_,_,hc⟩:=hA (by omega);obtain⟨cs,⟨A,c,_,h1,_⟩,_⟩:=hc i hi;exact h1
 . obtain⟨b,off,e,hlt,hc⟩:=hA h0
   refine⟨b,off,e,hlt,fun i hi=>?_⟩;obtain⟨cs,⟨A,c,rfl,_,h3⟩,h2⟩:=hc i hi;exact⟨A,c,by simpa using h2 0 _ rfl,h3⟩
/-- A case. -/
theorem rd_case{m:Nat}{cs:List Value}{y:DataW H×List MemPlace}(h:DataW.trod enc Tryz.prog W base spare held m 87 cs=some y)(hw:xG Tryz.prog 87 y.1) :
  ∃x:Cs,LowC x/\∃v0 v1 v2,cs=[v0,v1,v2]/\CsV W W.heap.size v0 v1 v2 x:=by
 obtain⟨xs,n,rfl,rfl,hl,hxl,hf⟩:=Nh P8 h;rw[cellsCs] at hl;have hxl3:xs.length=3:=hxl
 match cs,hl with
 | [c0,c1,c2],_=>
  have f0:=hf 0 _ rfl;have f1:=hf 1 _ rfl;have f2:=hf 2 _ rfl
  match xs,hxl3 with
  | [x0,x1,x2],_=>
   have g0:DataW.trod enc Tryz.prog W base spare held n 44 [c0]=some x0:=by simpa[cellsIs] using f0
   have g1:DataW.trod enc Tryz.prog W base spare held n 54 [c1]=some x1:=by simpa[Z0] using f1
   have g2:DataW.trod enc Tryz.prog W base spare held n 54 [c2]=some x2:=by simpa[Z0] using f2
   have w0:xG Tryz.prog 44 x0.1:=yE P8 hw (j:=0) rfl rfl;have w1:xG Tryz.prog 54 x1.1:=yE P8 hw (j:=1) rfl rfl;have w2:xG Tryz.prog 54 x2.1:=yE P8 hw (j:=2) rfl rfl;obtain⟨A0,y0,k0,e0,l0,r0⟩:=rd_ints g0 w0;obtain⟨A1,y1,k1,e1,l1,m1,r1⟩:=Zq g1 w1;obtain⟨A2,y2,k2,e2,l2,m2,r2⟩:=Zq g2 w2
   cases e0;cases e1;cases e2
   exact⟨⟨y0,y1,y2⟩,⟨l0,l1,l2,m1,m2⟩,_,_,_,rfl,⟨A0,k0,rfl,r0⟩,⟨A1,k1,rfl,r1⟩,⟨A2,k2,rfl,r2⟩⟩
/-- A slice of cases. -/
theorem rd_cases{m:Nat}{cs:List Value}{y:DataW H×List MemPlace}(h:DataW.trod enc Tryz.prog W base spare held m 22 cs=some y)(hw:xG Tryz.prog 22 y.1) :
  ∃(A:Bb) (xs:List Cs) (c:Nat),cs=[.slice A xs.length c]/\xs.length<=17592186044416/\(∀v∈xs,LowC v)/\CAt W W.heap.size A xs:=by
 obtain⟨A,xs,c,e,_,_,hb,hA⟩:=xK (α:=Cs) (fun cs x=>LowC x/\∃v0 v1 v2,cs=[v0,v1,v2]/\CsV W W.heap.size v0 v1 v2 x) Ra cellsCs (by decide)
  (fun m cs y h hw=>rd_case h hw) h hw
 refine⟨A,xs,c,e,?_,?_,fun h0=>?_⟩
 . rw[bytesCs] at hb;unfold reachBytes at hb;omega
 . intro v hv
   obtain⟨i,hi,rfl⟩:=LQ hv;obtain⟨b,off,_,_,hc⟩:=hA (by omega);obtain⟨cs,⟨h1,_⟩,_⟩:=hc i hi;exact h1
 . obtain⟨b,off,e,hlt,hc⟩:=hA h0
   refine⟨b,off,e,hlt,fun i hi=>?_⟩;obtain⟨cs,⟨_,v0,v1,v2,rfl,h3⟩,h2⟩:=hc i hi;exact⟨v0,v1,v2,h2 0 _ rfl,h2 1 _ rfl,h2 2 _ rfl,h3⟩
/-- A round. -/
theorem Qe{m:Nat}{cs:List Value}{y:DataW H×List MemPlace}(h:DataW.trod enc Tryz.prog W base spare held m 92 cs=some y):∃x:Rd,cs=x.cells.toList:=by
 obtain⟨xs,n,rfl,rfl,hl,hxl,hf⟩:=Nh Tryz.underlying92 h;rw[XM] at hl;have hxl3:xs.length=2:=hxl
 match cs,hl with
 | [c0,c1,c2,c3,c4,c5,c6],_=>
  have f0:=hf 0 _ rfl;have f1:=hf 1 _ rfl
  match xs,hxl3 with
  | [x0,x1],_=>
   have g0:DataW.trod enc Tryz.prog W base spare held n 90 [c0,c1,c2,c3,c4,c5]=some x0:=by simpa[cellsGr] using f0
   have g1:DataW.trod enc Tryz.prog W base spare held n 3 [c6]=some x1:=by simpa[yA] using f1
   obtain⟨i6,e6,_,_⟩:=LN Lx g1;obtain⟨ys,k,rfl,rfl,_,hyl,hg⟩:=Nh Tryz.underlying90 g0;have hyl2:ys.length=2:=hyl;have q0:=hg 0 _ rfl;have q1:=hg 1 _ rfl
   match ys,hyl2 with
   | [y0,y1],_=>
    have r0:DataW.trod enc Tryz.prog W base spare held k 3 [c0]=some y0:=by simpa[yA] using q0
    have r1:DataW.trod enc Tryz.prog W base spare held k 88 [c1,c2,c3,c4,c5]=some y1:=by simpa[cells5] using q1
    obtain⟨i0,e0,_,_⟩:=LN Lx r0;obtain⟨zs,m,rfl,_,_,hzl,hi⟩:=RZ Pf r1;have k0:=hi 0 (by decide);have k1:=hi 1 (by decide);have k2:=hi 2 (by decide);have k3:=hi 3 (by decide);have k4:=hi 4 (by decide)
    match zs,hzl with
    | [z0,z1,z2,z3,z4],_=>
     have j0:DataW.trod enc Tryz.prog W base spare held m 3 [c1]=some z0:=by simpa[yA] using k0
     have j1:DataW.trod enc Tryz.prog W base spare held m 3 [c2]=some z1:=by simpa[yA] using k1
     have j2:DataW.trod enc Tryz.prog W base spare held m 3 [c3]=some z2:=by simpa[yA] using k2
     have j3:DataW.trod enc Tryz.prog W base spare held m 3 [c4]=some z3:=by simpa[yA] using k3
     have j4:DataW.trod enc Tryz.prog W base spare held m 3 [c5]=some z4:=by simpa[yA] using k4
     obtain⟨a0,b0,_,_⟩:=LN Lx j0;obtain⟨a1,b1,_,_⟩:=LN Lx j1;obtain⟨a2,b2,_,_⟩:=LN Lx j2;obtain⟨a3,b3,_,_⟩:=LN Lx j3;obtain⟨a4,b4,_,_⟩:=LN Lx j4
     cases e0;cases e6;cases b0;cases b1;cases b2;cases b3;cases b4
     exact⟨⟨i0,a0,a1,a2,a3,a4,i6⟩,rfl⟩
/-- A slice of rounds. -/
theorem rd_rounds{m:Nat}{cs:List Value}{y:DataW H×List MemPlace}(h:DataW.trod enc Tryz.prog W base spare held m 53 cs=some y)(hw:xG Tryz.prog 53 y.1) :
  ∃(A:Bb) (xs:List Rd) (c:Nat),cs=[.slice A xs.length c]/\xs.length<=c/\c<=maxLen/\xs.length<=17592186044416/\RAt W W.heap.size A xs:=by
 obtain⟨A,xs,c,e,hc1,hc2,hb,hA⟩:=xK (α:=Rd) (fun cs x=>cs=x.cells.toList) PA XM (by decide) (fun m cs y h _=>Qe h) h hw;refine⟨A,xs,c,e,hc1,hc2,?_,fun h0=>?_⟩
 . rw[bytesRd] at hb;unfold reachBytes at hb;omega
 . obtain⟨b,off,e,hlt,hc⟩:=hA h0
   refine⟨b,off,e,hlt,fun i hi k u hk=>?_⟩;obtain⟨cs,rfl,h2⟩:=hc i hi;exact h2 k u (by simpa using hk)
/-- A move. -/
theorem rd_move{m:Nat}{cs:List Value}{y:DataW H×List MemPlace}(h:DataW.trod enc Tryz.prog W base spare held m 94 cs=some y):∃x:Mv,cs=x.cells.toList:=by
 obtain⟨xs,n,rfl,rfl,hl,hxl,hf⟩:=Nh Tryz.underlying94 h;rw[cellsMv] at hl;have hxl3:xs.length=2:=hxl
 match cs,hl with
 | [c0,c1,c2,c3,c4,c5,c6,c7],_=>
  have f0:=hf 0 _ rfl;have f1:=hf 1 _ rfl
  match xs,hxl3 with
  | [x0,x1],_=>
   have g0:DataW.trod enc Tryz.prog W base spare held n 92 [c0,c1,c2,c3,c4,c5,c6]=some x0:=by simpa[XM] using f0
   have g1:DataW.trod enc Tryz.prog W base spare held n 3 [c7]=some x1:=by simpa[yA] using f1
   obtain⟨r,e0⟩:=Qe g0;obtain⟨i7,e7,_,_⟩:=LN Lx g1
   cases e7
   refine⟨⟨r,i7⟩,?_⟩;simp only[Rd.cells,List.cons.injEq] at e0;obtain⟨rfl,rfl,rfl,rfl,rfl,rfl,rfl,_⟩:=e0
   rfl
/-- A slice of moves. -/
theorem rd_moves{m:Nat}{cs:List Value}{y:DataW H×List MemPlace}(h:DataW.trod enc Tryz.prog W base spare held m 95 cs=some y)(hw:xG Tryz.prog 95 y.1) :
  ∃(A:Bb) (xs:List Mv) (c:Nat),cs=[.slice A xs.length c]/\xs.length<=17592186044416/\MAt W W.heap.size A xs:=by
 obtain⟨A,xs,c,e,_,_,hb,hA⟩:=xK (α:=Mv) (fun cs x=>cs=x.cells.toList) P7 cellsMv (by decide) (fun m cs y h _=>rd_move h) h hw;refine⟨A,xs,c,e,?_,fun h0=>?_⟩
 . rw[bytesMv] at hb;unfold reachBytes at hb;omega
 . obtain⟨b,off,e,hlt,hc⟩:=hA h0
   refine⟨b,off,e,hlt,fun i hi k u hk=>?_⟩;obtain⟨cs,rfl,h2⟩:=hc i hi;exact h2 k u (by simpa using hk)
/-- A slice of slices of moves. -/
theorem rd_states{m:Nat}{cs:List Value}{y:DataW H×List MemPlace}(h:DataW.trod enc Tryz.prog W base spare held m 25 cs=some y)(hw:xG Tryz.prog 25 y.1) :
  ∃(A:Bb) (xs:List (List Mv)) (c:Nat),cs=[.slice A xs.length c]/\xs.length<=17592186044416/\(∀v∈xs,v.length<=17592186044416)/\SAt W W.heap.size A xs:=by
 obtain⟨A,xs,c,e,_,_,hb,hA⟩:=xK (α:=List Mv) (fun cs v=>∃A c,cs=[.slice A v.length c]/\v.length<=17592186044416/\MAt W W.heap.size A v) P9 cellsMl (by decide)
  (fun m cs y h hw=>by obtain⟨A,xs,c,e,h1,h2⟩:=rd_moves h hw;exact⟨xs,A,c,e,h1,h2⟩) h hw
 refine⟨A,xs,c,e,?_,?_,fun h0=>?_⟩
 . rw[bytesMl] at hb;unfold reachBytes at hb;omega
 . intro v hv
   obtain⟨i,hi,rfl⟩:=LQ hv;obtain⟨b,off,_,_,hc⟩:=hA (by omega);obtain⟨cs,⟨A,c,_,h1,_⟩,_⟩:=hc i hi;exact h1
 . obtain⟨b,off,e,hlt,hc⟩:=hA h0
   refine⟨b,off,e,hlt,fun i hi=>?_⟩;obtain⟨cs,⟨A,c,rfl,_,h3⟩,h2⟩:=hc i hi;exact⟨A,c,by simpa using h2 0 _ rfl,h3⟩
/-- A slice of views. -/
theorem rd_views{m:Nat}{cs:List Value}{y:DataW H×List MemPlace}(h:DataW.trod enc Tryz.prog W base spare held m 30 cs=some y)(hw:xG Tryz.prog 30 y.1) :
  ∃(A:Bb) (xs:List Vw) (c:Nat),cs=[.slice A xs.length c]/\xs.length<=c/\c<=maxLen/\xs.length<=2199023255552/\VAt W W.heap.size A xs:=by
 obtain⟨A,xs,c,e,hc1,hc2,hb,hA⟩:=xK (α:=Vw) (fun cs x=>cs=x.cells.toList) PB cellsV (by decide) (fun m cs y h _=>open_view h) h hw;refine⟨A,xs,c,e,hc1,hc2,?_,fun h0=>?_⟩
 . rw[bytesV] at hb;unfold reachBytes at hb;omega
 . obtain⟨b,off,e,hlt,hc⟩:=hA h0
   refine⟨b,off,e,hlt,fun i hi k u hk=>?_⟩;obtain⟨cs,rfl,h2⟩:=hc i hi;exact h2 k u (by simpa using hk)
/-- An execution. -/
theorem rd_exn{m:Nat}{cs:List Value}{y:DataW H×List MemPlace}(h:DataW.trod enc Tryz.prog W base spare held m 56 cs=some y)(hw:xG Tryz.prog 56 y.1) :
  ∃x:Exn,Z7 x/\∃v0 v1 v2,cs=[v0,v1,v2]/\XsV W W.heap.size v0 v1 v2 x:=by
 obtain⟨xs,n,rfl,rfl,hl,hxl,hf⟩:=Nh RI h;rw[cellsXn] at hl;have hxl3:xs.length=3:=hxl
 match cs,hl with
 | [c0,c1,c2],_=>
  have f0:=hf 0 _ rfl;have f1:=hf 1 _ rfl;have f2:=hf 2 _ rfl
  match xs,hxl3 with
  | [x0,x1,x2],_=>
   have g0:DataW.trod enc Tryz.prog W base spare held n 3 [c0]=some x0:=by simpa[yA] using f0
   have g1:DataW.trod enc Tryz.prog W base spare held n 53 [c1]=some x1:=by simpa[cellsRds] using f1
   have g2:DataW.trod enc Tryz.prog W base spare held n 54 [c2]=some x2:=by simpa[Z0] using f2
   have w1:xG Tryz.prog 53 x1.1:=yE RI hw (j:=1) rfl rfl;have w2:xG Tryz.prog 54 x2.1:=yE RI hw (j:=2) rfl rfl;obtain⟨i0,e0,_,_⟩:=LN Lx g0;obtain⟨A1,y1,k1,e1,_,_,l1,r1⟩:=rd_rounds g1 w1;obtain⟨A2,y2,k2,e2,l2,m2,r2⟩:=Zq g2 w2
   cases e0;cases e1;cases e2
   exact⟨⟨i0,y1,y2⟩,⟨l1,l2,m2⟩,_,_,_,rfl,rfl,⟨A1,k1,rfl,r1⟩,⟨A2,k2,rfl,r2⟩⟩
/-- A slice of executions. -/
theorem rd_exns{m:Nat}{cs:List Value}{y:DataW H×List MemPlace}(h:DataW.trod enc Tryz.prog W base spare held m 33 cs=some y)(hw:xG Tryz.prog 33 y.1) :
  ∃(A:Bb) (xs:List Exn) (c:Nat),cs=[.slice A xs.length c]/\xs.length<=17592186044416/\(∀v∈xs,Z7 v)/\XAt W W.heap.size A xs:=by
 obtain⟨A,xs,c,e,_,_,hb,hA⟩:=xK (α:=Exn) (fun cs x=>Z7 x/\∃v0 v1 v2,cs=[v0,v1,v2]/\XsV W W.heap.size v0 v1 v2 x) Tryz.underlying33 cellsXn (by decide)
  (fun m cs y h hw=>rd_exn h hw) h hw
 refine⟨A,xs,c,e,?_,?_,fun h0=>?_⟩
 . rw[bytesXn] at hb;unfold reachBytes at hb;omega
 . intro v hv
   obtain⟨i,hi,rfl⟩:=LQ hv;obtain⟨b,off,_,_,hc⟩:=hA (by omega);obtain⟨cs,⟨h1,_⟩,_⟩:=hc i hi;exact h1
 . obtain⟨b,off,e,hlt,hc⟩:=hA h0
   refine⟨b,off,e,hlt,fun i hi=>?_⟩;obtain⟨cs,⟨_,v0,v1,v2,rfl,h3⟩,h2⟩:=hc i hi;exact⟨v0,v1,v2,h2 0 _ rfl,h2 1 _ rfl,h2 2 _ rfl,h3⟩
/-- A problem. -/
theorem rd_prob{m:Nat}{cs:List Value}{y:DataW H×List MemPlace}(h:DataW.trod enc Tryz.prog W base spare held m 29 cs=some y)(hw:xG Tryz.prog 29 y.1) :
  ∃(p:Pb) (A:Bb) (kc:Nat) (SV:Bb) (ks:Nat),cs=(p.vs A kc SV ks).toList/\Je p/\CAt W W.heap.size A p.t.cases/\SAt W W.heap.size SV p.a.sts:=by
 obtain⟨xs,n,rfl,rfl,hl,hxl,hf⟩:=Nh RJ h;rw[cellsPb] at hl;have hxl3:xs.length=3:=hxl
 match cs,hl with
 | [c0,c1,c2,c3,c4,c5,c6],_=>
  have f0:=hf 0 _ rfl;have f1:=hf 1 _ rfl;have f2:=hf 2 _ rfl
  match xs,hxl3 with
  | [x0,x1,x2],_=>
   have g0:DataW.trod enc Tryz.prog W base spare held n 24 [c0,c1,c2,c3]=some x0:=by simpa[cellsTk] using f0
   have g1:DataW.trod enc Tryz.prog W base spare held n 27 [c4,c5]=some x1:=by simpa[cellsAd] using f1
   have g2:DataW.trod enc Tryz.prog W base spare held n 3 [c6]=some x2:=by simpa[yA] using f2
   have w0:xG Tryz.prog 24 x0.1:=yE RJ hw (j:=0) rfl rfl;have w1:xG Tryz.prog 27 x1.1:=yE RJ hw (j:=1) rfl rfl;obtain⟨i6,e6,_,_⟩:=LN Lx g2;obtain⟨ys,k,rfl,hx0,_,hyl,hg⟩:=Nh Tryz.underlying24 g0;rw[hx0] at w0;have hyl4:ys.length=4:=hyl;have q0:=hg 0 _ rfl;have q1:=hg 1 _ rfl;have q2:=hg 2 _ rfl;have q3:=hg 3 _ rfl
   match ys,hyl4 with
   | [y0,y1,y2,y3],_=>
    have r0:DataW.trod enc Tryz.prog W base spare held k 3 [c0]=some y0:=by simpa[yA] using q0
    have r1:DataW.trod enc Tryz.prog W base spare held k 3 [c1]=some y1:=by simpa[yA] using q1
    have r2:DataW.trod enc Tryz.prog W base spare held k 3 [c2]=some y2:=by simpa[yA] using q2
    have r3:DataW.trod enc Tryz.prog W base spare held k 22 [c3]=some y3:=by simpa[cellsCss] using q3
    have v3:xG Tryz.prog 22 y3.1:=yE Tryz.underlying24 w0 (j:=3) rfl rfl;obtain⟨i0,e0,_,_⟩:=LN Lx r0;obtain⟨i1,e1,_,_⟩:=LN Lx r1;obtain⟨i2,e2,_,_⟩:=LN Lx r2;obtain⟨A,us,kc,e3,lu,hu,hA⟩:=rd_cases r3 v3;obtain⟨zs,k',hk',hx1,_,hzl,hg1⟩:=Nh Tryz.underlying27 g1;rw[hx1] at w1;have hzl2:zs.length=2:=hzl;have s0:=hg1 0 _ rfl;have s1:=hg1 1 _ rfl
    match zs,hzl2 with
    | [z0,z1],_=>
     have t0:DataW.trod enc Tryz.prog W base spare held k' 3 [c4]=some z0:=by simpa[yA] using s0
     have t1:DataW.trod enc Tryz.prog W base spare held k' 25 [c5]=some z1:=by simpa[cellsMls] using s1
     have u1:xG Tryz.prog 25 z1.1:=yE Tryz.underlying27 w1 (j:=1) rfl rfl;obtain⟨i4,e4,_,_⟩:=LN Lx t0;obtain⟨SV,ss,ks,e5,ls,hs,hS⟩:=rd_states t1 u1
     cases e0;cases e1;cases e2;cases e3;cases e4;cases e5;cases e6
     exact⟨⟨⟨i0,i1,i2,us⟩,⟨i4,ss⟩,i6⟩,A,kc,SV,ks,rfl,⟨⟨lu,hu⟩,ls,hs⟩,hA,hS⟩
structure LowSy(s:Sy):Prop where
 fp:Je s.p
 fv:s.vs.length<=2199023255552
 fx:s.xs.length<=17592186044416
 fe:∀x∈s.xs,Z7 x
/-- A system that is handed over by value. -/
theorem Qs{b0:Nat}{v:Value}{d:DataW H}{ps:List MemPlace}(hv:Value.okWide Tryz.prog W .any b0 35 v)(h:DataW.Trod enc Tryz.prog W base spare held 35 v d ps)(hw:xG Tryz.prog 35 d) :
  ∃(s:Sy) (A:Bb) (kc:Nat) (SV:Bb) (ks:Nat) (AV:Bb) (kv:Nat) (AX:Bb) (kx:Nat),v=.agg (s.vs_ A kc SV ks AV kv AX kx)/\LowSy s/\s.vs.length<=kv/\kv<=maxLen/\SyAt W W.heap.size A SV AV AX s:=by
 obtain⟨cs,rfl,_⟩:=okWide_struct Pr hv;obtain⟨fuel,hf⟩:=h;obtain⟨xs,n,rfl,hx,hl,hxl,hfd⟩:=Nh Pr hf;have hd:d=.agg (xs.map (·.1)):=congrArg Prod.fst hx;rw[hd] at hw;rw[cellsSy] at hl;have hxl3:xs.length=3:=hxl;obtain⟨cl⟩:=cs
 match cl,hl with
 | [c0,c1,c2,c3,c4,c5,c6,c7,c8,c9],_=>
  have f0:=hfd 0 _ rfl;have f1:=hfd 1 _ rfl;have f2:=hfd 2 _ rfl
  obtain⟨x0,x1,x2,rfl⟩:∃x0 x1 x2,xs=[x0,x1,x2]:=by
   match xs,hxl3 with
   | [x0,x1,x2],_=>exact⟨x0,x1,x2,rfl⟩
  have g0:DataW.trod enc Tryz.prog W base spare held n 29 [c0,c1,c2,c3,c4,c5,c6]=some x0:=by simpa[cellsPb,Value.cells] using f0
  have g1:DataW.trod enc Tryz.prog W base spare held n 32 [c7,c8]=some x1:=by simpa[cellsT,Value.cells] using f1
  have g2:DataW.trod enc Tryz.prog W base spare held n 33 [c9]=some x2:=by simpa[cellsXns,Value.cells] using f2
  have w0:xG Tryz.prog 29 x0.1:=yE Pr hw (j:=0) rfl rfl;have w1:xG Tryz.prog 32 x1.1:=yE Pr hw (j:=1) rfl rfl;have w2:xG Tryz.prog 33 x2.1:=yE Pr hw (j:=2) rfl rfl;obtain⟨p,A,kc,SV,ks,e0,hp,hA,hS⟩:=rd_prob g0 w0;obtain⟨AX,us,kx,e9,lu,hu,hX⟩:=rd_exns g2 w2;obtain⟨ys,k,rfl,hx1,_,hyl,hg⟩:=Nh Tryz.underlying32 g1;rw[hx1] at w1;have hyl2:ys.length=2:=hyl;have q0:=hg 0 _ rfl;have q1:=hg 1 _ rfl
  match ys,hyl2 with
  | [y0,y1],_=>
   have r0:DataW.trod enc Tryz.prog W base spare held k 3 [c7]=some y0:=by simpa[yA] using q0
   have r1:DataW.trod enc Tryz.prog W base spare held k 30 [c8]=some y1:=by simpa[cellsVs] using q1
   have v1:xG Tryz.prog 30 y1.1:=yE Tryz.underlying32 w1 (j:=1) rfl rfl;obtain⟨i7,e7,_,_⟩:=LN Lx r0;obtain⟨AV,vs,kv,e8,hc1,hc2,lv,hV⟩:=rd_views r1 v1
   cases e7;cases e8;cases e9
   simp only[Pb.vs,List.cons.injEq] at e0;obtain⟨rfl,rfl,rfl,rfl,rfl,rfl,rfl,_⟩:=e0;exact⟨⟨p,i7,vs,us⟩,A,kc,SV,ks,AV,kv,AX,kx,rfl,⟨hp,lv,lu,hu⟩,hc1,hc2,⟨hA,hS,hV,hX⟩⟩
end
end
section
open Go.RowKit
structure Kd where
 e:TypeId
 s:TypeId
 size:Nat
 bytes:Nat
 z:Value
structure KdOk(P:Program)(K:Kd):Prop where
 under:P.underlying K.s=some (.slice K.e)
 info:(P.info? K.e).map (fun i=>(i.zero,i.size,i.bytes))=some (some K.z,K.size,K.bytes)
 zs:K.z.cells.size=K.size
 pos:0<K.size
 small:K.bytes<=1024
def Raw(w:Ba)(A:Bb)(n:Nat)(cs:List Value):Prop:=0<n->∃b off,A=some ⟨b,off,none⟩/\b<w.heap.size/\∀(j:Nat) (u:Value),cs[j]?=some u->w.cell? ⟨b,off+j,none⟩=some u
def OwnR(K:Kd)(w:Ba)(base:Nat)(v:Value)(n:Nat)(cs:List Value):Prop:=w.ownsRow base K.e K.size v n cs
section
variable {P:Program} {K:Kd} {w w':Ba} {base:Nat} {v:Value} {n:Nat} {cs:List Value}
theorem OwnR.nil(K:Kd)(w:Ba)(base:Nat):OwnR K w base (.slice none 0 0) 0 []:=P5 w base _ _
theorem OwnR.kept{row:Option Nat}(h:OwnR K w base v n cs)(hg:w.grownBy w' row)(hne:v.ownBlock=none\/v.ownBlock≠row):OwnR K w' base v n cs:=Pn h hg hne
theorem OwnR.alloc(h:OwnR K w base v n cs)(o:Obj):OwnR K (w.alloc o) base v n cs:=PQ h o
theorem OwnR.lt(h:OwnR K w base v n cs):∀k,v.ownBlock=some k->base<=k/\k<w.heap.size:=Rh h
theorem OwnR.below{B:Nat}(h:OwnR K w base v n cs)(hb:Below B w w')(hB:w.heap.size<=B):OwnR K w' base v n cs:=
 Pn (row:=none) h ⟨hb.os,hb.tape,hb.output,hb.size,fun k hk _=>hb.block k (by omega)⟩ (by cases v.ownBlock<;>simp)
theorem OwnR.low{base':Nat}(h:OwnR K w base v n cs)(hb:base'<=base):OwnR K w base' v n cs:=by
 refine⟨h.1,?_⟩;rcases h.2 with h2 | ⟨g,cap,cur,hv,hg,r⟩
 . exact Or.inl h2
 . exact Or.inr ⟨g,cap,cur,hv,by omega,r⟩
theorem OwnR.form(h:OwnR K w base v n cs):∃A cap,v=.slice A n cap/\n<=cap/\cap<=maxLen/\(0<n->∃g,A=some ⟨g,0,none⟩/\v.ownBlock=some g/\g<w.heap.size/\∀j u,cs[j]?=some u->w.cell? ⟨g,j,none⟩=some u):=by
 rcases h.2 with ⟨rfl,h0⟩ | ⟨g,cap,cur,rfl,_,hg,hle,hcm,_⟩
 . exact⟨none,0,by rw[h0],by omega,by omega,fun hn=>by omega⟩
 . refine⟨_,_,rfl,hle,hcm,fun _=>⟨g,rfl,rfl,(Ln.1 hg).1,fun j u hu=>?_⟩⟩
   have:=World.ownsRow.cells h (g:=g) rfl j u hu;rwa[show(⟨g,0,none⟩:Addr).add j=⟨g,j,none⟩ from by unfold Addr.add;split<;>simp_all] at this
theorem OwnR.ne{b:Nat}(h:OwnR K w base v n cs)(hb:b<base):v.ownBlock≠some b:=fun e=>by
 have:=(h.lt b e).1;omega
theorem OwnR.raw(h:OwnR K w base v n cs):∃A cap,v=.slice A n cap/\n<=cap/\cap<=maxLen/\Raw w A n cs:=by
 obtain⟨A,cap,e,h1,h2,h3⟩:=h.form;refine⟨A,cap,e,h1,h2,fun h0=>?_⟩;obtain⟨g,hA,_,hg,hc⟩:=h3 h0;exact⟨g,0,hA,hg,fun j u hu=>by rw[LH];exact hc j u hu⟩
theorem yT(ok:KdOk P K):∃i:TypeInfo,P.info? K.e=some i/\i.zero=some K.z/\i.size=K.size/\i.bytes=K.bytes:=by
 have h:=ok.info
 cases hi:P.info? K.e with
 | none=>rw[hi] at h;cases h
 | some i=>
  rw[hi] at h;simp only[Option.map_some,Option.some.injEq,Prod.mk.injEq] at h;exact⟨i,rfl,h.1,h.2.1,h.2.2⟩
theorem kU(ok:KdOk P K){o:Oper}{a:Act}{KK:Act->Ba->Prop}{Q:Exit->Act->Ba->Prop}{W:Ba}(s x:Operand)
  (ho:o.op=.call { callee:=.builtin .append,args:=#[s,x],argTypes:=#[K.s,K.s] }) (base:Nat) (V:Value) (n:Nat) (cs:List Value) (hs:a.eval s=V) (hown:OwnR K W base V n cs)
  (g:Nat) (new:Array Value) (hx:a.eval x=.slice (some ⟨g,0,none⟩) 1 1) (hg:W.heap[g]?=some (.cells new K.e (0,0))) (hn:new.size=K.size) (h1:∀u∈new.toList,u.oneCell'=true) (hl:n<=1000000000) (hb:base<=W.heap.size) (H:Nat) (hH:W.heap.size=H)
  (h:∀g' cap w1,OwnR K w1 base (.slice (some ⟨g',0,none⟩) (n+1) cap) (n+1) (cs++new.toList)->W.grownBy w1 V.ownBlock->(V.ownBlock=some g'\/g'=H)->g'<w1.heap.size->KK (a.put o.dst (.slice (some ⟨g',0,none⟩) (n+1) cap)) w1):o.wp P a W KK Q:=by
 obtain⟨i0,hi,hz0,hz1,hz2⟩:=yT ok
 refine wp_append_lies W s x K.s ho base K.e i0 K.z K.size K.bytes ok.under hi hz0 hz1 hz2 ok.zs ok.pos V n cs hs hown ⟨g,0,none⟩ 1 1 new.toList hx (by simp[hn])
  (Ru hg) h1 (by omega) (by unfold maxLen;omega) ?_ hb H hH h
 have:=LO (show n+1<=1000000001 by omega) ok.small;omega
theorem xx(ok:KdOk P K){ops:Array Oper}{rest:List Oper}{o:Oper}{a:Act}{Q:Exit->Act->Ba->Prop}{W:Ba}(hgd:o.guard=none)(s x:Operand)
  (ho:o.op=.call { callee:=.builtin .append,args:=#[s,x],argTypes:=#[K.s,K.s] }) (base:Nat) (V:Value) (n:Nat) (cs:List Value) (hs:a.eval s=V) (hown:OwnR K W base V n cs)
  (g:Nat) (new:Array Value) (hx:a.eval x=.slice (some ⟨g,0,none⟩) 1 1) (hg:W.heap[g]?=some (.cells new K.e (0,0))) (hn:new.size=K.size) (h1:∀u∈new.toList,u.oneCell'=true) (hl:n<=1000000000) (hb:base<=W.heap.size) (H:Nat) (hH:W.heap.size=H)
  (h:∀g' cap w1,OwnR K w1 base (.slice (some ⟨g',0,none⟩) (n+1) cap) (n+1) (cs++new.toList)->W.grownBy w1 V.ownBlock->(V.ownBlock=some g'\/g'=H)->g'<w1.heap.size->wpList P ops Q rest (a.put o.dst (.slice (some ⟨g',0,none⟩) (n+1) cap)) w1):wpList P ops Q (o::rest) a W:=
 LW hgd fun _ hK=>kU ok s x ho base V n cs hs hown g new hx hg hn h1 hl hb H hH fun g' cap w1 h1 h2 h3 h4=>hK _ _ (h g' cap w1 h1 h2 h3 h4)
theorem step_appR(ok:KdOk P K){ops:Array Oper}{o:Oper}{a:Act}{KK:Act->Ba->Prop}{Q:Exit->Act->Ba->Prop}{E:Prop}{W:Ba}(hgd:o.guard=none)(s x:Operand)
  (ho:o.op=.call { callee:=.builtin .append,args:=#[s,x],argTypes:=#[K.s,K.s] }) (base:Nat) (V:Value) (n:Nat) (cs:List Value) (hs:a.eval s=V) (hown:OwnR K W base V n cs)
  (g:Nat) (new:Array Value) (hx:a.eval x=.slice (some ⟨g,0,none⟩) 1 1) (hg:W.heap[g]?=some (.cells new K.e (0,0))) (hn:new.size=K.size) (h1:∀u∈new.toList,u.oneCell'=true) (hl:n<=1000000000) (hb:base<=W.heap.size) (H:Nat) (hH:W.heap.size=H)
  (h:∀g' cap w1,OwnR K w1 base (.slice (some ⟨g',0,none⟩) (n+1) cap) (n+1) (cs++new.toList)->W.grownBy w1 V.ownBlock->(V.ownBlock=some g'\/g'=H)->g'<w1.heap.size->KK (a.put o.dst (.slice (some ⟨g',0,none⟩) (n+1) cap)) w1) :
  if Region.wanted o (yielded ops a.tmps)=true then Oper.wp P o a W KK Q else E:=by
 have hw:Region.wanted o (yielded ops a.tmps)=true:=by simp[Region.wanted,hgd]
 rw[Lh hw];exact kU ok s x ho base V n cs hs hown g new hx hg hn h1 hl hb H hH h
theorem wp_fitR(ok:KdOk P K){o:Oper}{a:Act}{KK:Act->Ba->Prop}{Q:Exit->Act->Ba->Prop}{W:Ba}(s x:Operand)
  (ho:o.op=.call { callee:=.builtin .append,args:=#[s,x],argTypes:=#[K.s,K.s] }) (base g n cap:Nat) (cs:List Value) (hs:a.eval s=.slice (some ⟨g,0,none⟩) n cap) (hown:OwnR K W base (.slice (some ⟨g,0,none⟩) n cap) n cs)
  (h:Nat) (new:Array Value) (hx:a.eval x=.slice (some ⟨h,0,none⟩) 1 1) (hg:W.heap[h]?=some (.cells new K.e (0,0))) (hn:new.size=K.size) (h1:∀u∈new.toList,u.oneCell'=true) (hle:n+1<=cap)
  (hK:∀w1,OwnR K w1 base (.slice (some ⟨g,0,none⟩) (n+1) cap) (n+1) (cs++new.toList)->W.grownBy w1 (some g)->KK (a.put o.dst (.slice (some ⟨g,0,none⟩) (n+1) cap)) w1):o.wp P a W KK Q:=by
 obtain⟨i0,hi,hz0,hz1,hz2⟩:=yT ok;obtain⟨w',hrun,r1,r2⟩:=run_append_fits (P:=P) W base K.s o.type K.e i0 K.size ok.under hi hz1 g n cap cs hown ⟨h,0,none⟩ 1 1 new.toList (by simp[hn]) (Ru hg) h1 hle;unfold Oper.wp execOp;simp only[ho,resolve,invoke,builtin,Sem.run_bind,Sem.run_pure,Result.andThen_ok,List.map_toArray,List.map_cons,List.map_nil,hs,hx,hrun];exact hK w' r1 r2
theorem uA(ok:KdOk P K)(A:Bb)(n cap c:Nat)(ty:TypeId)(W:Ba)(hn:n<=cap):(Builtin.append_ #[K.s,K.s] ty #[.slice A n cap,.slice none 0 c]).run P W=.ok (.slice A n cap) W:=by
 obtain⟨i0,hi,hz0,hz1,hz2⟩:=yT ok
 cases A with
 | none=>simp[Builtin.append_,run_underlying ok.under,sizeOf,typeInfo,hi,Builtin.lenOf,Builtin.firstCells,hn,Result.andThen]
 | some ad=>simp[Builtin.append_,run_underlying ok.under,sizeOf,typeInfo,hi,Builtin.lenOf,Builtin.firstCells,hn,Result.andThen,storeCells]
theorem run_appN(ok:KdOk P K)(W:Ba)(ty:TypeId)(base:Nat)(v:Value)(n:Nat)(cs:List Value)(hown:OwnR K W base v n cs)(A:Bb)(m c:Nat)(news:List Value)(hl:news.length=m*K.size)(hA:Raw W A m news)
  (h1:∀u∈news,u.oneCell'=true) (hm:n+m<=1000000000) (hb:base<=W.heap.size) :
  ∃v' w',(Builtin.append_ #[K.s,K.s] ty #[v,.slice A m c]).run P W=.ok v' w'/\OwnR K w' base v' (n+m) (cs++news)/\W.grownBy w' v.ownBlock/\(v'.ownBlock=v.ownBlock\/v'.ownBlock=some W.heap.size):=by
 obtain⟨i0,hi,hz0,hz1,hz2⟩:=yT ok
 cases A with
 | none=>
  have hm0:m=0:=by
   rcases Nu m with h | h
   . exact h
   . obtain⟨b,off,e,_⟩:=hA h;cases e
  subst hm0;have hn0:news=[]:=LJ (by omega);subst hn0;obtain⟨A,cap,rfl,hc,_⟩:=hown.form;exact⟨_,W,uA ok A n cap c ty W hc,by simpa using hown,RE _ _,.inl rfl⟩
 | some ad=>
  have hbb:=LO hm ok.small
  obtain⟨v',w',hr,r1,r2,_,r4⟩:=run_append_own_at (P:=P) W base K.s ty K.e i0 K.z K.size K.bytes ok.under hi hz0 hz1 hz2 ok.zs ok.pos v n cs hown ad m c news hl (fun j u hj=>by
    have hjl:j<m*K.size:=by rw[<-hl];exact(Lq.1 hj).1
    have hm0:0<m:=by rcases Nu m with h | h;(· subst h;omega);(· exact h)
    obtain⟨b,off,e,_,hc⟩:=hA hm0
    cases e
    rw[show(⟨b,off,none⟩:Addr).add j=⟨b,off+j,none⟩ from by unfold Addr.add;split<;>simp_all]
    exact hc j u hj) h1 (by unfold maxLen;omega) (by omega) hb
  exact⟨v',w',hr,r1,r2,r4⟩
theorem wp_appN(ok:KdOk P K){o:Oper}{a:Act}{KK:Act->Ba->Prop}{Q:Exit->Act->Ba->Prop}{W:Ba}(s x:Operand)
  (ho:o.op=.call { callee:=.builtin .append,args:=#[s,x],argTypes:=#[K.s,K.s] }) (base:Nat) (v:Value) (n:Nat) (cs:List Value) (hs:a.eval s=v) (hown:OwnR K W base v n cs) (A:Bb) (m c:Nat) (news:List Value) (hx:a.eval x=.slice A m c)
  (hl:news.length=m*K.size) (hA:Raw W A m news) (h1:∀u∈news,u.oneCell'=true) (hm:n+m<=1000000000) (hb:base<=W.heap.size)
  (h:∀v' w1,OwnR K w1 base v' (n+m) (cs++news)->W.grownBy w1 v.ownBlock->(v'.ownBlock=v.ownBlock\/v'.ownBlock=some W.heap.size)->KK (a.put o.dst v') w1):o.wp P a W KK Q:=by
 obtain⟨v',w',hrun,r1,r2,r3⟩:=run_appN ok W o.type base v n cs hown A m c news hl hA h1 hm hb;unfold Oper.wp execOp;simp only[ho,resolve,invoke,builtin,Sem.run_bind,Sem.run_pure,Result.andThen_ok,List.map_toArray,List.map_cons,List.map_nil,hs,hx,hrun];exact h v' w' r1 r2 r3
theorem XU(ok:KdOk P K){ops:Array Oper}{rest:List Oper}{o:Oper}{a:Act}{Q:Exit->Act->Ba->Prop}{W:Ba}(hgd:o.guard=none)(s x:Operand)
  (ho:o.op=.call { callee:=.builtin .append,args:=#[s,x],argTypes:=#[K.s,K.s] }) (base:Nat) (v:Value) (n:Nat) (cs:List Value) (hs:a.eval s=v) (hown:OwnR K W base v n cs) (A:Bb) (m c:Nat) (news:List Value) (hx:a.eval x=.slice A m c)
  (hl:news.length=m*K.size) (hA:Raw W A m news) (h1:∀u∈news,u.oneCell'=true) (hm:n+m<=1000000000) (hb:base<=W.heap.size)
  (h:∀v' w1,OwnR K w1 base v' (n+m) (cs++news)->W.grownBy w1 v.ownBlock->(v'.ownBlock=v.ownBlock\/v'.ownBlock=some W.heap.size)->wpList P ops Q rest (a.put o.dst v') w1):wpList P ops Q (o::rest) a W:=
 LW hgd fun _ hK=>wp_appN ok s x ho base v n cs hs hown A m c news hx hl hA h1 hm hb fun v' w1 h1 h2 h3=>hK _ _ (h v' w1 h1 h2 h3)
theorem OwnR.of_block{g:Nat}{cur:Array Value}(h:w.heap[g]?=some (.cells cur K.e (0,0)))(hb:base<=g)(hc:cur.size=n*K.size)(hn:n<=maxLen):OwnR K w base (.slice (some ⟨g,0,none⟩) n n) n cur.toList:=
 ⟨by simpa using hc,.inr ⟨g,n,cur,rfl,hb,h,Le _,hn,hc,by rw[Nz (by simp[hc])]⟩⟩
theorem OwnR.pop{g m cap:Nat}{cs':List Value}(h:OwnR K w base (.slice (some ⟨g,0,none⟩) (n+m) cap) (n+m) (cs++cs'))(hl:cs.length=n*K.size):OwnR K w base (.slice (some ⟨g,0,none⟩) n cap) n cs:=by
 refine⟨hl,.inr ?_⟩;rcases h.2 with ⟨e,_⟩ | ⟨g',cap',cur,e,hb,hg,hle,hm,hs,ht⟩
 . cases e
 . injection e with e1 e2 e3
   injection e1 with e1
   injection e1 with e1
   subst e1;subst e3;refine⟨g,cap,cur,rfl,hb,hg,by omega,hm,hs,?_⟩;have h2:=congrArg (List.take (n*K.size)) ht;rw[List.take_take,R5 (by omega),<-hl,LG,R6 (by rw[hl,Rb];omega)] at h2;rw[<-hl];exact h2
end
section
variable {S S':Nat->Prop} {w w':Ba} {A:Bb}
theorem qP{b o:Nat}{u:Value}(h:KeepB S w w')(hb:S b)(hc:w.cell? ⟨b,o,none⟩=some u):w'.cell? ⟨b,o,none⟩=some u:=by
 obtain⟨ob,ho,_⟩:=Ry hc;rw[LA (h.same b hb (Ln.1 ho).1)];exact hc
structure KeepC(S:Nat->Prop)(w w':Ba):Prop where
 size:w.heap.size<=w'.heap.size
 cell:∀k o v,S k->w.cell? ⟨k,o,none⟩=some v->w'.cell? ⟨k,o,none⟩=some v
theorem KeepC.of_cells(S:Nat->Prop)(hs:w.heap.size<=w'.heap.size)(h:∀(k:Nat) (o:Obj),w.heap[k]?=some o->o.isCells=true->w'.heap[k]?=some o):KeepC S w w':=
 ⟨hs,fun k o v _ hc=>by
  obtain⟨ob,ho,hcells⟩:=Ry hc;rw[LA ((h k ob ho hcells).trans ho.symm)]
  exact hc⟩
def IAtS(S:Nat->Prop)(w:Ba)(A:Bb)(xs:List Int):Prop:=
 0<xs.length->∃b off,A=some ⟨b,off,none⟩/\S b/\b<w.heap.size/\∀(i:Nat) (hi:i<xs.length),w.cell? ⟨b,off+i,none⟩=some (.int .i64 xs[i])
theorem IAtS.keep{xs:List Int}(h:IAtS S w A xs)(hk:KeepB S w w'):IAtS S w' A xs:=fun h0=>by
 obtain⟨b,off,e,hs,hb,hc⟩:=h h0;exact⟨b,off,e,hs,LC hb hk.size,fun i hi=>qP hk hs (hc i hi)⟩
theorem IAtS.keepC{xs:List Int}(h:IAtS S w A xs)(hk:KeepC S w w'):IAtS S w' A xs:=fun h0=>by
 obtain⟨b,off,e,hs,hb,hc⟩:=h h0;exact⟨b,off,e,hs,LC hb hk.size,fun i hi=>hk.cell _ _ _ hs (hc i hi)⟩
theorem IAtS.mono{xs:List Int}(h:IAtS S w A xs)(hm:∀k,k<w.heap.size->S k->S' k):IAtS S' w A xs:=fun h0=>by
 obtain⟨b,off,e,hs,hb,hc⟩:=h h0;exact⟨b,off,e,hm b hb hs,hb,hc⟩
theorem IAtS.on{xs:List Int}(h:IAtS S w A xs)(hb:Below w.heap.size w w'):IAtS S w' A xs:=
 ((h.mono (S':=fun k=>S k/\k<w.heap.size) fun _ hk hs=>⟨hs,hk⟩).keep ⟨hb.size,fun k hk _=>hb.block k hk.2⟩).mono fun _ _ hs=>hs.1
theorem IAtS.iat{xs:List Int}(h:IAtS S w A xs):IAt w w.heap.size A xs:=fun h0=>by
 obtain⟨b,off,e,hs,hb,hc⟩:=h h0;exact⟨b,off,e,hb,hc⟩
theorem IAtS.of_iat{xs:List Int}{B:Nat}(h:IAt w B A xs)(hB:B<=w.heap.size)(hS:∀k,k<B->S k):IAtS S w A xs:=fun h0=>by
 obtain⟨b,off,e,hb,hc⟩:=h h0;exact⟨b,off,e,hS b hb,by omega,hc⟩
def RAtS(S:Nat->Prop)(w:Ba)(A:Bb)(rs:List Rd):Prop:=
 0<rs.length->∃b off,A=some ⟨b,off,none⟩/\S b/\b<w.heap.size/\∀(i:Nat) (hi:i<rs.length) (k:Nat) (u:Value),rs[i].cells[k]?=some u->w.cell? ⟨b,off+i*7+k,none⟩=some u
theorem RAtS.keep{xs:List Rd}(h:RAtS S w A xs)(hk:KeepB S w w'):RAtS S w' A xs:=fun h0=>by
 obtain⟨b,off,e,hs,hb,hc⟩:=h h0;exact⟨b,off,e,hs,LC hb hk.size,fun i hi k u hu=>qP hk hs (hc i hi k u hu)⟩
theorem RAtS.keepC{xs:List Rd}(h:RAtS S w A xs)(hk:KeepC S w w'):RAtS S w' A xs:=fun h0=>by
 obtain⟨b,off,e,hs,hb,hc⟩:=h h0;exact⟨b,off,e,hs,LC hb hk.size,fun i hi k u hu=>hk.cell _ _ _ hs (hc i hi k u hu)⟩
theorem RAtS.mono{xs:List Rd}(h:RAtS S w A xs)(hm:∀k,k<w.heap.size->S k->S' k):RAtS S' w A xs:=fun h0=>by
 obtain⟨b,off,e,hs,hb,hc⟩:=h h0;exact⟨b,off,e,hm b hb hs,hb,hc⟩
theorem RAtS.on{xs:List Rd}(h:RAtS S w A xs)(hb:Below w.heap.size w w'):RAtS S w' A xs:=
 ((h.mono (S':=fun k=>S k/\k<w.heap.size) fun _ hk hs=>⟨hs,hk⟩).keep ⟨hb.size,fun k hk _=>hb.block k hk.2⟩).mono fun _ _ hs=>hs.1
theorem RAtS.rat{xs:List Rd}(h:RAtS S w A xs):RAt w w.heap.size A xs:=fun h0=>by
 obtain⟨b,off,e,hs,hb,hc⟩:=h h0;exact⟨b,off,e,hb,hc⟩
theorem RAtS.nil(S:Nat->Prop)(w:Ba)(A:Bb):RAtS S w A []:=fun h=>absurd h (by simp)
def LAtS(S:Nat->Prop)(w:Ba)(A:Bb)(xss:List (List Int)):Prop:=
 0<xss.length->∃b off,A=some ⟨b,off,none⟩/\S b/\b<w.heap.size/\∀(i:Nat) (hi:i<xss.length),∃A' c,w.cell? ⟨b,off+i,none⟩=some (.slice A' xss[i].length c)/\IAtS S w A' xss[i]
theorem LAtS.keep{xs:List (List Int)}(h:LAtS S w A xs)(hk:KeepB S w w'):LAtS S w' A xs:=fun h0=>by
 obtain⟨b,off,e,hs,hb,hc⟩:=h h0;refine⟨b,off,e,hs,LC hb hk.size,fun i hi=>?_⟩;obtain⟨A',c,h1,h2⟩:=hc i hi;exact⟨A',c,qP hk hs h1,h2.keep hk⟩
theorem LAtS.keepC{xs:List (List Int)}(h:LAtS S w A xs)(hk:KeepC S w w'):LAtS S w' A xs:=fun h0=>by
 obtain⟨b,off,e,hs,hb,hc⟩:=h h0;refine⟨b,off,e,hs,LC hb hk.size,fun i hi=>?_⟩;obtain⟨A',c,h1,h2⟩:=hc i hi;exact⟨A',c,hk.cell _ _ _ hs h1,h2.keepC hk⟩
theorem LAtS.mono{xs:List (List Int)}(h:LAtS S w A xs)(hm:∀k,k<w.heap.size->S k->S' k):LAtS S' w A xs:=fun h0=>by
 obtain⟨b,off,e,hs,hb,hc⟩:=h h0;refine⟨b,off,e,hm b hb hs,hb,fun i hi=>?_⟩;obtain⟨A',c,h1,h2⟩:=hc i hi;exact⟨A',c,h1,h2.mono hm⟩
theorem LAtS.on{xs:List (List Int)}(h:LAtS S w A xs)(hb:Below w.heap.size w w'):LAtS S w' A xs:=
 ((h.mono (S':=fun k=>S k/\k<w.heap.size) fun _ hk hs=>⟨hs,hk⟩).keep ⟨hb.size,fun k hk _=>hb.block k hk.2⟩).mono fun _ _ hs=>hs.1
theorem LAtS.lat{xs:List (List Int)}(h:LAtS S w A xs):LAt w w.heap.size A xs:=fun h0=>by
 obtain⟨b,off,e,hs,hb,hc⟩:=h h0;refine⟨b,off,e,hb,fun i hi=>?_⟩;obtain⟨A',c,h1,h2⟩:=hc i hi;exact⟨A',c,h1,h2.iat⟩
theorem LAtS.of_lat{xs:List (List Int)}{B:Nat}(h:LAt w B A xs)(hB:B<=w.heap.size)(hS:∀k,k<B->S k):LAtS S w A xs:=fun h0=>by
 obtain⟨b,off,e,hb,hc⟩:=h h0;refine⟨b,off,e,hS b hb,by omega,fun i hi=>?_⟩;obtain⟨A',c,h1,h2⟩:=hc i hi;exact⟨A',c,h1,IAtS.of_iat h2 hB hS⟩
def MAtS(S:Nat->Prop)(w:Ba)(A:Bb)(ms:List Mv):Prop:=
 0<ms.length->∃b off,A=some ⟨b,off,none⟩/\S b/\b<w.heap.size/\∀(i:Nat) (hi:i<ms.length) (k:Nat) (u:Value),ms[i].cells[k]?=some u->w.cell? ⟨b,off+i*8+k,none⟩=some u
theorem MAtS.keep{xs:List Mv}(h:MAtS S w A xs)(hk:KeepB S w w'):MAtS S w' A xs:=fun h0=>by
 obtain⟨b,off,e,hs,hb,hc⟩:=h h0;exact⟨b,off,e,hs,LC hb hk.size,fun i hi k u hu=>qP hk hs (hc i hi k u hu)⟩
theorem MAtS.keepC{xs:List Mv}(h:MAtS S w A xs)(hk:KeepC S w w'):MAtS S w' A xs:=fun h0=>by
 obtain⟨b,off,e,hs,hb,hc⟩:=h h0;exact⟨b,off,e,hs,LC hb hk.size,fun i hi k u hu=>hk.cell _ _ _ hs (hc i hi k u hu)⟩
theorem MAtS.mono{xs:List Mv}(h:MAtS S w A xs)(hm:∀k,k<w.heap.size->S k->S' k):MAtS S' w A xs:=fun h0=>by
 obtain⟨b,off,e,hs,hb,hc⟩:=h h0;exact⟨b,off,e,hm b hb hs,hb,hc⟩
theorem MAtS.mat{xs:List Mv}(h:MAtS S w A xs):MAt w w.heap.size A xs:=fun h0=>by
 obtain⟨b,off,e,hs,hb,hc⟩:=h h0;exact⟨b,off,e,hb,hc⟩
theorem MAtS.of_mat{xs:List Mv}{B:Nat}(h:MAt w B A xs)(hB:B<=w.heap.size)(hS:∀k,k<B->S k):MAtS S w A xs:=fun h0=>by
 obtain⟨b,off,e,hb,hc⟩:=h h0;exact⟨b,off,e,hS b hb,by omega,hc⟩
end
structure Ct(α:Type) where
 K:Kd
 lies:(Nat->Prop)->Ba->List Value->α->Prop
structure CtOk{α:Type}(C:Ct α):Prop where
 len:∀ {S w cs x},C.lies S w cs x->cs.length=C.K.size
 one:∀ {S w cs x},C.lies S w cs x->∀u∈cs,u.oneCell'=true
 keep:∀ {S w w' cs x},C.lies S w cs x->KeepB S w w'->C.lies S w' cs x
 keepC:∀ {S w w' cs x},C.lies S w cs x->KeepC S w w'->C.lies S w' cs x
 mono:∀ {S S' w cs x},C.lies S w cs x->(∀k,k<w.heap.size->S k->S' k)->C.lies S' w cs x
def OwnX{α:Type}(C:Ct α)(S:Nat->Prop)(w:Ba)(base:Nat)(v:Value)(xs:List α):Prop:=
 ∃css:List (List Value),css.length=xs.length/\OwnR C.K w base v xs.length css.flatten/\∀(i:Nat) (h1:i<css.length) (h2:i<xs.length),C.lies (fun k=>S k/\v.ownBlock≠some k) w css[i] xs[i]
theorem gR{s:Nat}:∀(css:List (List Value)) (_:∀c∈css,c.length=s) (i:Nat) (hi:i<css.length) (k:Nat),k<s->css.flatten[i*s+k]?=css[i][k]?
 | c::css,h,0,hi,k,hk=>by
  have:=h c (by simp);rw[Rc,LP (by omega)];simp
 | c::css,h,i+1,hi,k,hk=>by
  have hc:=h c (by simp);have:=gR css (fun d hd=>h d (by simp[hd])) i (by simpa using hi) k hk;rw[Rc,LM (by rw[hc,Rb];omega),hc,show(i+1)*s+k-s=i*s+k by rw[Rb];omega,this]
  rfl
section
variable {α:Type} {C:Ct α} {S S':Nat->Prop} {w w':Ba} {base:Nat} {v:Value} {xs:List α}
theorem OwnX.nil(C:Ct α)(S:Nat->Prop)(w:Ba)(base:Nat):OwnX C S w base (.slice none 0 0) []:=⟨[],rfl,OwnR.nil _ _ _,fun i h1 _=>absurd h1 (by simp)⟩
theorem OwnX.lt(h:OwnX C S w base v xs):∀k,v.ownBlock=some k->base<=k/\k<w.heap.size:=by
 obtain⟨css,_,h2,_⟩:=h;exact h2.lt
theorem OwnX.ne{b:Nat}(h:OwnX C S w base v xs)(hb:b<base):v.ownBlock≠some b:=fun e=>by
 have:=(h.lt b e).1;omega
theorem OwnX.kept(ok:CtOk C){row:Option Nat}(h:OwnX C S w base v xs)(hg:w.grownBy w' row)(hne:v.ownBlock=none\/v.ownBlock≠row)(hS:∀k,row=some k->¬S k\/v.ownBlock=some k):OwnX C S w' base v xs:=by
 obtain⟨css,hl,h2,h3⟩:=h;refine⟨css,hl,h2.kept hg hne,fun i i1 i2=>ok.keep (h3 i i1 i2) (KeepB.of_grown hg fun k hk hs=>?_)⟩;rcases hS k hk with h | h
 . exact h hs.1
 . exact hs.2 h
theorem OwnX.keep(ok:CtOk C)(h:OwnX C S w base v xs)(hk:KeepB S w w')(hv:∀k,v.ownBlock=some k->w'.heap[k]?=w.heap[k]?):OwnX C S w' base v xs:=by
 obtain⟨css,hl,h2,h3⟩:=h;refine⟨css,hl,?_,fun i i1 i2=>ok.keep (h3 i i1 i2) (hk.mono fun k hk=>hk.1)⟩;refine⟨h2.1,?_⟩;rcases h2.2 with hn | ⟨g,cap,cur,hv',hb,hg,rest⟩
 . exact .inl hn
 . exact .inr ⟨g,cap,cur,hv',hb,(hv g (by rw[hv'];rfl)).trans hg,rest⟩
theorem OwnX.turn(ok:CtOk C)(h:OwnX C S w base v xs)(hs:w.heap.size<=w'.heap.size)(hc:∀(k:Nat) (o:Obj),w.heap[k]?=some o->o.isCells=true->w'.heap[k]?=some o):OwnX C S w' base v xs:=by
 obtain⟨css,hl,h2,h3⟩:=h;refine⟨css,hl,?_,fun i i1 i2=>ok.keepC (h3 i i1 i2) (KeepC.of_cells _ hs hc)⟩;refine⟨h2.1,?_⟩;rcases h2.2 with hn | ⟨g,cap,cur,hv',hb,hg,rest⟩
 . exact .inl hn
 . exact .inr ⟨g,cap,cur,hv',hb,hc g _ hg rfl,rest⟩
theorem OwnX.below(ok:CtOk C){B:Nat}(h:OwnX C S w base v xs)(hb:Below B w w')(hB:w.heap.size<=B):OwnX C S w' base v xs:=
 h.keep ok ⟨hb.size,fun k _ hk=>hb.block k (by omega)⟩ (fun k hk=>hb.block k (by have:=(h.lt k hk).2;omega))
theorem OwnX.mono(ok:CtOk C)(h:OwnX C S w base v xs)(hm:∀k,k<w.heap.size->S k->S' k):OwnX C S' w base v xs:=by
 obtain⟨css,hl,h2,h3⟩:=h;exact⟨css,hl,h2,fun i i1 i2=>ok.mono (h3 i i1 i2) fun k hk hs=>⟨hm k hk hs.1,hs.2⟩⟩
theorem OwnX.low{base':Nat}(h:OwnX C S w base v xs)(hb:base'<=base):OwnX C S w base' v xs:=by
 obtain⟨css,hl,h2,h3⟩:=h;exact⟨css,hl,h2.low hb,h3⟩
theorem OwnX.app(ok:CtOk C){g' cap:Nat}{css:List (List Value)}{x:α}{cs:List Value}(hl:css.length=xs.length)(h3:∀(i:Nat) (h1:i<css.length) (h2:i<xs.length),C.lies (fun k=>S k/\v.ownBlock≠some k) w css[i] xs[i])
  (hx:C.lies (fun k=>S k/\v.ownBlock≠some k) w cs x) (hr:OwnR C.K w' base (.slice (some ⟨g',0,none⟩) (xs.length+1) cap) (xs.length+1) (css.flatten++cs)) (hg:w.grownBy w' v.ownBlock) (hat:v.ownBlock=some g'\/g'=w.heap.size) :
  OwnX C S w' base (.slice (some ⟨g',0,none⟩) (xs.length+1) cap) (xs++[x]):=by
 have go:∀ {cs x},C.lies (fun k=>S k/\v.ownBlock≠some k) w cs x->C.lies (fun k=>S k/\(Value.slice (some ⟨g',0,none⟩) (xs.length+1) cap).ownBlock≠some k) w' cs x:=fun h=>by
  have h1:=ok.mono (S':=fun k=>S k/\v.ownBlock≠some k/\g'≠k) h fun k hk hs=>⟨hs.1,hs.2,by
   rcases hat with e | e
   . rintro rfl;exact hs.2 e
   . omega⟩
  have h2:=ok.keep h1 (KeepB.of_grown hg fun k hk hs=>hs.2.1 hk);exact ok.mono h2 fun k _ hs=>⟨hs.1,fun e=>hs.2.2 (by simpa[Value.ownBlock] using e)⟩
 refine⟨css++[cs],by simp[hl],by simpa using hr,fun i i1 i2=>?_⟩
 by_cases hi:i<css.length
 . have h2:i<xs.length:=by omega
   rw[Rf hi,Rf h2];exact go (h3 i hi h2)
 . have e1:i=css.length:=by simp at i1;omega
   subst e1;rw[N9 (Le _),N9 (by omega)];simpa[hl] using go hx
theorem OwnX.form(ok:CtOk C)(h:OwnX C S w base v xs):∃A cap,v=.slice A xs.length cap/\xs.length<=cap/\cap<=maxLen/\(0<xs.length->∃g,A=some ⟨g,0,none⟩/\base<=g/\g<w.heap.size /\
  ∀(i:Nat) (h2:i<xs.length),∃cs,C.lies (fun k=>S k/\k≠g) w cs xs[i]/\∀j u,cs[j]?=some u->w.cell? ⟨g,i*C.K.size+j,none⟩=some u):=by
 obtain⟨css,hl,h2,h3⟩:=h;have hlt:=h2.lt;obtain⟨A,cap,rfl,hc,hm,hr⟩:=h2.form;refine⟨A,cap,rfl,hc,hm,fun h0=>?_⟩;obtain⟨g,rfl,hg,hgl,hcl⟩:=hr h0;refine⟨g,rfl,(hlt g hg).1,hgl,fun i hi=>?_⟩;have hic:i<css.length:=by omega
 refine⟨css[i],ok.mono (h3 i hic hi) fun k _ hs=>⟨hs.1,fun e=>hs.2 (by rw[hg,e])⟩,fun j u hu=>?_⟩
 have hcs:∀c∈css,c.length=C.K.size:=fun c hc=>by
  obtain⟨m,hm,rfl⟩:=LQ hc;exact ok.len (h3 m hm (by omega))
 have hjl:j<C.K.size:=by
  have:=(Lq.1 hu).1;rw[hcs _ (Ld hic)] at this;exact this
 exact hcl _ u (by rw[gR css hcs i hic j hjl];exact hu)
end
end
section
open Go.RowKit
def Own(w:Ba)(base:Nat)(v:Value)(xs:List Int):Prop:=w.ownsRow base 3 1 v xs.length (xs.map (Value.int .i64))
theorem Own.nil(w:Ba)(base:Nat):Own w base (.slice none 0 0) []:=P5 w base _ 1
theorem Own.drewN{w:Ba}{base:Nat}{v:Value}{xs:List Int}(h:Own w base v xs)(n:Nat):Own (w.drewN n) base v xs:=h
theorem Own.kept{w w':Ba}{base:Nat}{v:Value}{xs:List Int}{row:Option Nat}(h:Own w base v xs)(hg:w.grownBy w' row)(hne:v.ownBlock=none\/v.ownBlock≠row):Own w' base v xs:=Pn h hg hne
theorem Own.below{w w':Ba}{base B:Nat}{v:Value}{xs:List Int}(h:Own w base v xs)(hb:Below B w w')(hB:w.heap.size<=B):Own w' base v xs:=
 Pn (row:=none) h ⟨hb.os,hb.tape,hb.output,hb.size,fun k hk _=>hb.block k (by omega)⟩ (by cases v.ownBlock<;>simp)
theorem Own.shut{w w':Ba}{base B:Nat}{v:Value}{xs:List Int}(h:Own w base v xs)(hs:Shut B w w'):Own w' base v xs:=hs.own h
theorem Own.form{w:Ba}{base:Nat}{v:Value}{xs:List Int}(h:Own w base v xs):∃A cap,v=.slice A xs.length cap/\xs.length<=cap/\cap<=maxLen/\IAt w w.heap.size A xs:=by
 rcases h.2 with ⟨rfl,h0⟩ | ⟨g,cap,cur,rfl,_,_,hle,hcm,_⟩
 . have:xs=[]:=LJ h0
   subst this;exact⟨none,0,rfl,Le _,NC _,IAt.nil _ _ _⟩
 . exact⟨_,_,rfl,hle,hcm,IAt.of_own h⟩
theorem Own.low{w:Ba}{base base':Nat}{v:Value}{xs:List Int}(h:Own w base v xs)(hb:base'<=base):Own w base' v xs:=by
 refine⟨h.1,?_⟩;rcases h.2 with h2 | ⟨g,cap,cur,hv,hg,r⟩
 . exact Or.inl h2
 . exact Or.inr ⟨g,cap,cur,hv,by omega,r⟩
theorem Own.lt{w:Ba}{base:Nat}{v:Value}{xs:List Int}(h:Own w base v xs):∀k,v.ownBlock=some k->base<=k/\k<w.heap.size:=Rh h
theorem QK:(Tryz.prog.info? 3).map (fun i=>(i.zero,i.size,i.bytes))=some (some (.int .i64 0),1,8):=by kernel_rfl
theorem xD{w w':Ba}{o:Obj}{row:Option Nat}(h:(w.alloc o).grownBy w' row):w.grownBy w' row:=
 ⟨h.os,h.tape,h.output,Lz (by simp) h.size,fun k hk hne=>(h.block k (by simp;omega) hne).trans (NS w o k hk)⟩
theorem xZ{ops:Array Oper}{rest:List Oper}{o:Oper}{a:Act}{Q:Exit->Act->Ba->Prop}{W:Ba}(hgd:o.guard=none)(s x:Operand)
  (hop:o.op=.call { callee:=.builtin .append,args:=#[s,x],argTypes:=#[44,44] }) (base:Nat) (v:Value) (xs:List Int) (u:Int) (hs:a.eval s=v) (hown:Own W base v xs)
  (hx:a.eval x=.slice (some ⟨W.heap.size,0,none⟩) 1 1) (hlen:xs.length<8796093022208) (hb:base<=W.heap.size)
  (h:∀v' w1,Own w1 base v' (xs++[u])->W.grownBy w1 v.ownBlock->Below base W w1->wpList Tryz.prog ops Q rest (a.put o.dst v') w1) :
  wpList Tryz.prog ops Q (o::rest) a (W.alloc (.cells #[.int .i64 u] 3)):=by
 obtain⟨i0,hi,hz0,hz1,hz2⟩:=RB QK
 refine Pe _ hgd s x 44 hop base 3 i0 (.int .i64 0) 1 8 Nq hi hz0 hz1 hz2 rfl (by decide) v xs.length _ hs (PQ hown _) ⟨W.heap.size,0,none⟩ 1 1 [.int .i64 u] hx rfl (cell_one_new _ _ _)
  (by simp[Value.oneCell']) (by unfold maxLen;omega) (by omega) (by simp;omega) ?_
 intro v' w1 hown1 hgrow _;have hg:=xD hgrow;refine h v' w1 ?_ hg ((Lo base W).grown hg hb fun k hk=>(hown.lt k hk).1);unfold Own;rw[Lv,LI];exact hown1
theorem j8{F:Fence}{n:Nat}{ops:Array Oper}{rest:List Oper}{o:Oper}{a:Act}{Q:Exit->Act->Ba->Prop}{W:Ba}(hgd:o.guard=none)(s x:Operand)
  (hop:o.op=.call { callee:=.builtin .append,args:=#[s,x],argTypes:=#[44,44] }) (base:Nat) (v:Value) (xs:List Int) (u:Int) (hs:a.eval s=v) (hown:Own W base v xs)
  (hx:a.eval x=.slice (some ⟨W.heap.size,0,none⟩) 1 1) (hlen:xs.length<8796093022208) (hb:base<=W.heap.size)
  (h:∀v' w1,Own w1 base v' (xs++[u])->W.grownBy w1 v.ownBlock->Below base W w1->wpListIn F n Tryz.prog ops Q rest (a.put o.dst v') w1) :
  wpListIn F n Tryz.prog ops Q (o::rest) a (W.alloc (.cells #[.int .i64 u] 3)):=by
 obtain⟨i0,hi,hz0,hz1,hz2⟩:=RB QK
 refine wpListIn_append_own _ hgd s x 44 hop base 3 i0 (.int .i64 0) 1 8 Nq hi hz0 hz1 hz2 rfl (by decide) v xs.length _ hs (PQ hown _) ⟨W.heap.size,0,none⟩ 1 1 [.int .i64 u] hx rfl (cell_one_new _ _ _)
  (by simp[Value.oneCell']) (by unfold maxLen;omega) (by omega) (by simp;omega) ?_
 intro v' w1 hown1 hgrow _;have hg:=xD hgrow;refine h v' w1 ?_ hg ((Lo base W).grown hg hb fun k hk=>(hown.lt k hk).1);unfold Own;rw[Lv,LI];exact hown1
def RowAt(w:Ba)(g:Nat)(xs:List Int):Prop:=w.heap[g]?=some (.cells (xs.map (Value.int .i64)).toArray 3 (0,0))
theorem RowAt.cell{w:Ba}{g:Nat}{xs:List Int}(h:RowAt w g xs)(k:Nat)(hk:k<xs.length):w.cell? ⟨g,k,none⟩=some (.int .i64 xs[k]):=zh h k (by simp[hk])
theorem RowAt.froz{w:Ba}{g:Nat}{xs:List Int}(h:RowAt w g xs)(k:Nat):w.frozen? ⟨g,k,none⟩=false:=zi h k
theorem RowAt.lt{w:Ba}{g:Nat}{xs:List Int}(h:RowAt w g xs):g<w.heap.size:=zj h
theorem RowAt.set{w:Ba}{g:Nat}{xs:List Int}(h:RowAt w g xs)(k:Nat)(u:Int):RowAt (w.setCell ⟨g,k,none⟩ (.int .i64 u)) g (xs.set k u):=by
 unfold RowAt at *;rw[World.setCell,Pq,Lh rfl,h];simp[List.map_set]
theorem zn(w:Ba)(c1:Array Value)(t1:TypeId):∃W0,w.alloc (.cells c1 t1)=W0/\W0.heap[w.heap.size]?=some (.cells c1 t1 (0,0))/\W0.heap.size=w.heap.size+1/\Below w.heap.size w W0:=
 ⟨_,rfl,zw _ _,by simp,zW w _⟩
theorem zS(w:Ba)(g k:Nat)(v':Value):w.grownBy (w.setCell ⟨g,k,none⟩ v') (some g):=
 ⟨rfl,rfl,rfl,by simp[World.setCell],fun j _ hj=>Lf w ⟨g,k,none⟩ v' j (fun e=>hj (by rw[e]))⟩
def kRd:Kd:=⟨92,53,7,56,.agg #[.int .i64 0,.int .i64 0,.int .i64 0,.int .i64 0,.int .i64 0,.int .i64 0,.int .i64 0]⟩
theorem XA:KdOk Tryz.prog kRd:=⟨PA,by kernel_rfl,by rfl,by decide,by decide⟩
def kMv:Kd:=⟨94,95,8,64,.agg #[.int .i64 0,.int .i64 0,.int .i64 0,.int .i64 0,.int .i64 0,.int .i64 0,.int .i64 0,.int .i64 0]⟩
theorem kMv_ok:KdOk Tryz.prog kMv:=⟨P7,by kernel_rfl,by rfl,by decide,by decide⟩
def kWd:Kd:=⟨53,151,1,24,.slice none 0 0⟩
theorem J8:KdOk Tryz.prog kWd:=⟨Tryz.underlying151,by kernel_rfl,by rfl,by decide,by decide⟩
def kIs:Kd:=⟨44,54,1,24,.slice none 0 0⟩
theorem XB:KdOk Tryz.prog kIs:=⟨Tryz.underlying54,by kernel_rfl,by rfl,by decide,by decide⟩
def kMl:Kd:=⟨95,25,1,24,.slice none 0 0⟩
theorem kMl_ok:KdOk Tryz.prog kMl:=⟨P9,by kernel_rfl,by rfl,by decide,by decide⟩
def kCs:Kd:=⟨87,22,3,72,.agg #[.slice none 0 0,.slice none 0 0,.slice none 0 0]⟩
theorem kCs_ok:KdOk Tryz.prog kCs:=⟨Ra,by kernel_rfl,by rfl,by decide,by decide⟩
def kXn:Kd:=⟨56,33,3,56,.agg #[.int .i64 0,.slice none 0 0,.slice none 0 0]⟩
theorem kXn_ok:KdOk Tryz.prog kXn:=⟨Tryz.underlying33,by kernel_rfl,by rfl,by decide,by decide⟩
def kIn:Kd:=⟨3,44,1,8,.int .i64 0⟩
theorem ZG:KdOk Tryz.prog kIn:=⟨Nq,by kernel_rfl,by rfl,by decide,by decide⟩
def kVw:Kd:=⟨128,30,8,64,.agg #[.int .i64 0,.int .i64 0,.int .i64 0,.int .i64 0,.int .i64 0,.int .i64 0,.int .i64 0,.int .i64 0]⟩
theorem kVw_ok:KdOk Tryz.prog kVw:=⟨PB,by kernel_rfl,by rfl,by decide,by decide⟩
def RetR(K:Kd)(n:Nat)(cs:List Value)(w:Ba)(e:Ending)(w':Ba):Prop:=∃v,e=.returned v/\OwnR K w' w.heap.size v n cs/\Below w.heap.size w w'
theorem Y3(A:Bb)(n cap:Nat)(cs:List Value)(w:Ba)(hl:cs.length=n*7)(hA:Raw w A n cs)(h1:∀u∈cs,u.oneCell'=true)(hn:n<=1000000) :
  Calls Tryz.prog 98 #[.slice A n cap] w (RetR kRd n cs w):=by
 have HT:=zH hA;have H1:=zH h1;have HL:=zH hl;clear hA h1 hl;have q:∀(w:Ba) (a:Bb) (n c n' c':Nat),(binOp .eql 53 (.slice a n c) (.slice none n' c')).run Tryz.prog w=.ok (.bool a.isNone) w:=fun w a n c n' c'=>N8 w _ _ a n c n' c' PA
 obtain⟨i0,hi,hz0,hz1,hz2⟩:=yT XA
 cases A with
 | none=>
  have hvs:n=0:=by
   rcases Nu n with h | h
   . exact h
   . obtain⟨b,off,e,_⟩:=HT.out h;cases e
  subst hvs;have hcs:cs=[]:=LJ (by have:=HL.out;omega);subst hcs;go_enter Tryz.func98,Tryz.ntmps98;go_wp2;go_ret;exact⟨_,rfl,OwnR.nil _ _ _,Lo _ _⟩
 | some ad=>
  have HC:Hid (∀(j:Nat) (u:Value),cs[j]?=some u->(w.alloc (.cells #[] 92)).cell? (ad.add j)=some u):=fun j u hj=>by
   have hjl:j<n*7:=by rw[<-HL.out];exact(Lq.1 hj).1
   obtain⟨b,off,e,hlt,hc⟩:=HT.out (by omega)
   cases e
   rw[N5];exact Ph _ (hc j u hj)
  go_enter Tryz.func98,Tryz.ntmps98;go_wp2_with (at_builtin;refine Pe _ rfl _ _ 53 rfl w.heap.size 92 i0 _ 7 56 PA hi hz0 hz1 hz2 rfl (by decide) _ _ _ rfl (Pm w #[] 0 (Le _) (NC _) rfl) ad n cap cs rfl HL.out HC.out H1.out ?qc4 ?qc5 ?qc6 ?_)
  case qc4=>unfold maxLen;omega
  case qc5=>omega
  case qc6=>simp
  intro v' w1 hown hgrow hnil;go_wp2;go_ret;refine⟨v',rfl,hown,?_⟩;exact((Lo _ w).alloc (Le _) _).grown hgrow (by simp) (by intro k hk;simp[Value.ownBlock] at hk;omega)
theorem clone_kCs(A:Bb)(n cap:Nat)(cs:List Value)(w:Ba)(hl:cs.length=n*3)(hA:Raw w A n cs)(h1:∀u∈cs,u.oneCell'=true)(hn:n<=1000000) :
  Calls Tryz.prog 132 #[.slice A n cap] w (RetR kCs n cs w):=by
 have HT:=zH hA;have H1:=zH h1;have HL:=zH hl;clear hA h1 hl;have q:∀(w:Ba) (a:Bb) (n c n' c':Nat),(binOp .eql 22 (.slice a n c) (.slice none n' c')).run Tryz.prog w=.ok (.bool a.isNone) w:=fun w a n c n' c'=>N8 w _ _ a n c n' c' Ra
 obtain⟨i0,hi,hz0,hz1,hz2⟩:=yT kCs_ok
 cases A with
 | none=>
  have hvs:n=0:=by
   rcases Nu n with h | h
   . exact h
   . obtain⟨b,off,e,_⟩:=HT.out h;cases e
  subst hvs;have hcs:cs=[]:=LJ (by have:=HL.out;omega);subst hcs;go_enter Tryz.func132,Tryz.ntmps132;go_wp2;go_ret;exact⟨_,rfl,OwnR.nil _ _ _,Lo _ _⟩
 | some ad=>
  have HC:Hid (∀(j:Nat) (u:Value),cs[j]?=some u->(w.alloc (.cells #[] 87)).cell? (ad.add j)=some u):=fun j u hj=>by
   have hjl:j<n*3:=by rw[<-HL.out];exact(Lq.1 hj).1
   obtain⟨b,off,e,hlt,hc⟩:=HT.out (by omega)
   cases e
   rw[N5];exact Ph _ (hc j u hj)
  go_enter Tryz.func132,Tryz.ntmps132;go_wp2_with (at_builtin;refine Pe _ rfl _ _ 22 rfl w.heap.size 87 i0 _ 3 72 Ra hi hz0 hz1 hz2 rfl (by decide) _ _ _ rfl (Pm w #[] 0 (Le _) (NC _) rfl) ad n cap cs rfl HL.out HC.out H1.out ?qc4 ?qc5 ?qc6 ?_)
  case qc4=>unfold maxLen;omega
  case qc5=>omega
  case qc6=>simp
  intro v' w1 hown hgrow hnil;go_wp2;go_ret;refine⟨v',rfl,hown,?_⟩;exact((Lo _ w).alloc (Le _) _).grown hgrow (by simp) (by intro k hk;simp[Value.ownBlock] at hk;omega)
theorem clone_kMv(A:Bb)(n cap:Nat)(cs:List Value)(w:Ba)(hl:cs.length=n*8)(hA:Raw w A n cs)(h1:∀u∈cs,u.oneCell'=true)(hn:n<=1000000) :
  Calls Tryz.prog 136 #[.slice A n cap] w (RetR kMv n cs w):=by
 have HT:=zH hA;have H1:=zH h1;have HL:=zH hl;clear hA h1 hl;have q:∀(w:Ba) (a:Bb) (n c n' c':Nat),(binOp .eql 95 (.slice a n c) (.slice none n' c')).run Tryz.prog w=.ok (.bool a.isNone) w:=fun w a n c n' c'=>N8 w _ _ a n c n' c' P7
 obtain⟨i0,hi,hz0,hz1,hz2⟩:=yT kMv_ok
 cases A with
 | none=>
  have hvs:n=0:=by
   rcases Nu n with h | h
   . exact h
   . obtain⟨b,off,e,_⟩:=HT.out h;cases e
  subst hvs;have hcs:cs=[]:=LJ (by have:=HL.out;omega);subst hcs;go_enter Tryz.func136,Tryz.ntmps136;go_wp2;go_ret;exact⟨_,rfl,OwnR.nil _ _ _,Lo _ _⟩
 | some ad=>
  have HC:Hid (∀(j:Nat) (u:Value),cs[j]?=some u->(w.alloc (.cells #[] 94)).cell? (ad.add j)=some u):=fun j u hj=>by
   have hjl:j<n*8:=by rw[<-HL.out];exact(Lq.1 hj).1
   obtain⟨b,off,e,hlt,hc⟩:=HT.out (by omega)
   cases e
   rw[N5];exact Ph _ (hc j u hj)
  go_enter Tryz.func136,Tryz.ntmps136;go_wp2_with (at_builtin;refine Pe _ rfl _ _ 95 rfl w.heap.size 94 i0 _ 8 64 P7 hi hz0 hz1 hz2 rfl (by decide) _ _ _ rfl (Pm w #[] 0 (Le _) (NC _) rfl) ad n cap cs rfl HL.out HC.out H1.out ?qc4 ?qc5 ?qc6 ?_)
  case qc4=>unfold maxLen;omega
  case qc5=>omega
  case qc6=>simp
  intro v' w1 hown hgrow hnil;go_wp2;go_ret;refine⟨v',rfl,hown,?_⟩;exact((Lo _ w).alloc (Le _) _).grown hgrow (by simp) (by intro k hk;simp[Value.ownBlock] at hk;omega)
theorem clone_kMl(A:Bb)(n cap:Nat)(cs:List Value)(w:Ba)(hl:cs.length=n*1)(hA:Raw w A n cs)(h1:∀u∈cs,u.oneCell'=true)(hn:n<=1000000) :
  Calls Tryz.prog 135 #[.slice A n cap] w (RetR kMl n cs w):=by
 have HT:=zH hA;have H1:=zH h1;have HL:=zH hl;clear hA h1 hl;have q:∀(w:Ba) (a:Bb) (n c n' c':Nat),(binOp .eql 25 (.slice a n c) (.slice none n' c')).run Tryz.prog w=.ok (.bool a.isNone) w:=fun w a n c n' c'=>N8 w _ _ a n c n' c' P9
 obtain⟨i0,hi,hz0,hz1,hz2⟩:=yT kMl_ok
 cases A with
 | none=>
  have hvs:n=0:=by
   rcases Nu n with h | h
   . exact h
   . obtain⟨b,off,e,_⟩:=HT.out h;cases e
  subst hvs;have hcs:cs=[]:=LJ (by have:=HL.out;omega);subst hcs;go_enter Tryz.func135,Tryz.ntmps135;go_wp2;go_ret;exact⟨_,rfl,OwnR.nil _ _ _,Lo _ _⟩
 | some ad=>
  have HC:Hid (∀(j:Nat) (u:Value),cs[j]?=some u->(w.alloc (.cells #[] 95)).cell? (ad.add j)=some u):=fun j u hj=>by
   have hjl:j<n*1:=by rw[<-HL.out];exact(Lq.1 hj).1
   obtain⟨b,off,e,hlt,hc⟩:=HT.out (by omega)
   cases e
   rw[N5];exact Ph _ (hc j u hj)
  go_enter Tryz.func135,Tryz.ntmps135;go_wp2_with (at_builtin;refine Pe _ rfl _ _ 25 rfl w.heap.size 95 i0 _ 1 24 P9 hi hz0 hz1 hz2 rfl (by decide) _ _ _ rfl (Pm w #[] 0 (Le _) (NC _) rfl) ad n cap cs rfl HL.out HC.out H1.out ?qc4 ?qc5 ?qc6 ?_)
  case qc4=>unfold maxLen;omega
  case qc5=>omega
  case qc6=>simp
  intro v' w1 hown hgrow hnil;go_wp2;go_ret;refine⟨v',rfl,hown,?_⟩;exact((Lo _ w).alloc (Le _) _).grown hgrow (by simp) (by intro k hk;simp[Value.ownBlock] at hk;omega)
theorem clone_kIn(A:Bb)(n cap:Nat)(cs:List Value)(w:Ba)(hl:cs.length=n*1)(hA:Raw w A n cs)(h1:∀u∈cs,u.oneCell'=true)(hn:n<=1000000) :
  Calls Tryz.prog 133 #[.slice A n cap] w (RetR kIn n cs w):=by
 have HT:=zH hA;have H1:=zH h1;have HL:=zH hl;clear hA h1 hl;have q:∀(w:Ba) (a:Bb) (n c n' c':Nat),(binOp .eql 44 (.slice a n c) (.slice none n' c')).run Tryz.prog w=.ok (.bool a.isNone) w:=fun w a n c n' c'=>N8 w _ _ a n c n' c' Nq
 obtain⟨i0,hi,hz0,hz1,hz2⟩:=yT ZG
 cases A with
 | none=>
  have hvs:n=0:=by
   rcases Nu n with h | h
   . exact h
   . obtain⟨b,off,e,_⟩:=HT.out h;cases e
  subst hvs;have hcs:cs=[]:=LJ (by have:=HL.out;omega);subst hcs;go_enter Tryz.func133,Tryz.ntmps133;go_wp2;go_ret;exact⟨_,rfl,OwnR.nil _ _ _,Lo _ _⟩
 | some ad=>
  have HC:Hid (∀(j:Nat) (u:Value),cs[j]?=some u->(w.alloc (.cells #[] 3)).cell? (ad.add j)=some u):=fun j u hj=>by
   have hjl:j<n*1:=by rw[<-HL.out];exact(Lq.1 hj).1
   obtain⟨b,off,e,hlt,hc⟩:=HT.out (by omega)
   cases e
   rw[N5];exact Ph _ (hc j u hj)
  go_enter Tryz.func133,Tryz.ntmps133;go_wp2_with (at_builtin;refine Pe _ rfl _ _ 44 rfl w.heap.size 3 i0 _ 1 8 Nq hi hz0 hz1 hz2 rfl (by decide) _ _ _ rfl (Pm w #[] 0 (Le _) (NC _) rfl) ad n cap cs rfl HL.out HC.out H1.out ?qc4 ?qc5 ?qc6 ?_)
  case qc4=>unfold maxLen;omega
  case qc5=>omega
  case qc6=>simp
  intro v' w1 hown hgrow hnil;go_wp2;go_ret;refine⟨v',rfl,hown,?_⟩;exact((Lo _ w).alloc (Le _) _).grown hgrow (by simp) (by intro k hk;simp[Value.ownBlock] at hk;omega)
end
section
open Go.RowKit
def yO(vs:List Rd):List Value:=vs.flatMap fun x=>x.cells.toList
theorem vh(vs us:List Rd):yO (vs++us)=yO vs++yO us:=by simp[yO]
theorem xS(vs:List Rd):(yO vs).length=vs.length*7:=by
 induction vs with
 | nil=>rfl
 | cons v vs ih=>simp only[yO,List.flatMap_cons,List.length_append,List.length_cons] at *;rw[ih];simp[Rd.cells];omega
theorem uC:∀(vs:List Rd) (i:Nat) (hi:i<vs.length) (k:Nat),k<7->(yO vs)[i*7+k]?=vs[i].cells[k]?
 | v::vs,0,hi,k,hk=>by
  simp only[yO,List.flatMap_cons,List.getElem_cons_zero,Nat.zero_mul,Nat.zero_add];rw[LP (by simp[Rd.cells];omega)];simp
 | v::vs,i+1,hi,k,hk=>by
  have:=uC vs i (by simpa using hi) k hk;simp only[yO,List.flatMap_cons,List.getElem_cons_succ] at *;rw[LM (by simp[Rd.cells];omega),<-this]
  congr 1
  simp[Rd.cells];omega
theorem vx(vs:List Rd):∀u∈yO vs,u.oneCell'=true:=by
 intro u hu;obtain⟨v,_,hv⟩:=NL.1 hu;simp only[Rd.cells,List.mem_cons,List.not_mem_nil,or_false] at hv;rcases hv with rfl | rfl | rfl | rfl | rfl | rfl | rfl<;>rfl
theorem Zr{w:Ba}{A:Bb}{vs:List Rd}(h:RAt w w.heap.size A vs):Raw w A vs.length (yO vs):=fun h0=>by
 obtain⟨b,off,e,hlt,hc⟩:=h h0;refine⟨b,off,e,hlt,fun j u hj=>?_⟩;have hj8:j<vs.length*7:=by have:=(Lq.1 hj).1;rwa[xS] at this
 have hi':j / 7<vs.length:=by omega
 have h8:j / 7*7+j % 7=j:=by omega
 rw[<-h8,uC vs (j / 7) hi' (j % 7) (by omega)] at hj;have:=hc (j / 7) hi' (j % 7) u hj;rwa[PJ,h8] at this
theorem vu{w:Ba}{base:Nat}{v:Value}{vs:List Rd}(h:OwnR kRd w base v vs.length (yO vs)):∃A cap,v=.slice A vs.length cap/\vs.length<=cap/\cap<=maxLen/\RAtS (fun k=>base<=k) w A vs:=by
 have hlt:=h.lt;obtain⟨A,cap,rfl,hc,hm,hr⟩:=h.form;refine⟨A,cap,rfl,hc,hm,fun h0=>?_⟩;obtain⟨g,rfl,hg,hgl,hcl⟩:=hr h0;refine⟨g,0,rfl,(hlt g hg).1,hgl,fun i hi k u hu=>?_⟩;have hk:k<7:=by have:=(Ln.1 hu).1;simpa[Rd.cells] using this
 rw[LH];exact hcl _ u (by rw[uC vs i hi k hk];exact hu)
def kA(vs:List Mv):List Value:=vs.flatMap fun x=>x.cells.toList
theorem vj(vs:List Mv):(kA vs).length=vs.length*8:=by
 induction vs with
 | nil=>rfl
 | cons v vs ih=>simp only[kA,List.flatMap_cons,List.length_append,List.length_cons] at *;rw[ih];simp[Mv.cells];omega
theorem uN:∀(vs:List Mv) (i:Nat) (hi:i<vs.length) (k:Nat),k<8->(kA vs)[i*8+k]?=vs[i].cells[k]?
 | v::vs,0,hi,k,hk=>by
  simp only[kA,List.flatMap_cons,List.getElem_cons_zero,Nat.zero_mul,Nat.zero_add];rw[LP (by simp[Mv.cells];omega)];simp
 | v::vs,i+1,hi,k,hk=>by
  have:=uN vs i (by simpa using hi) k hk;simp only[kA,List.flatMap_cons,List.getElem_cons_succ] at *;rw[LM (by simp[Mv.cells];omega),<-this]
  congr 1
  simp[Mv.cells];omega
theorem JW(vs:List Mv):∀u∈kA vs,u.oneCell'=true:=by
 intro u hu;obtain⟨v,_,hv⟩:=NL.1 hu;simp only[Mv.cells,List.mem_cons,List.not_mem_nil,or_false] at hv;rcases hv with rfl | rfl | rfl | rfl | rfl | rfl | rfl | rfl<;>rfl
theorem JU{w:Ba}{A:Bb}{vs:List Mv}(h:MAt w w.heap.size A vs):Raw w A vs.length (kA vs):=fun h0=>by
 obtain⟨b,off,e,hlt,hc⟩:=h h0;refine⟨b,off,e,hlt,fun j u hj=>?_⟩;have hj8:j<vs.length*8:=by have:=(Lq.1 hj).1;rwa[vj] at this
 have hi':j / 8<vs.length:=by omega
 have h8:j / 8*8+j % 8=j:=by omega
 rw[<-h8,uN vs (j / 8) hi' (j % 8) (by omega)] at hj;have:=hc (j / 8) hi' (j % 8) u hj;rwa[PJ,h8] at this
theorem JV{w:Ba}{base:Nat}{v:Value}{vs:List Mv}(h:OwnR kMv w base v vs.length (kA vs)):∃A cap,v=.slice A vs.length cap/\vs.length<=cap/\cap<=maxLen/\MAtS (fun k=>base<=k) w A vs:=by
 have hlt:=h.lt;obtain⟨A,cap,rfl,hc,hm,hr⟩:=h.form;refine⟨A,cap,rfl,hc,hm,fun h0=>?_⟩;obtain⟨g,rfl,hg,hgl,hcl⟩:=hr h0;refine⟨g,0,rfl,(hlt g hg).1,hgl,fun i hi k u hu=>?_⟩;have hk:k<8:=by have:=(Ln.1 hu).1;simpa[Mv.cells] using this
 rw[LH];exact hcl _ u (by rw[uN vs i hi k hk];exact hu)
def cIs:Ct (List Int):=⟨kIs,fun S w cs xs=>∃A c,cs=[.slice A xs.length c]/\IAtS S w A xs⟩
theorem yQ:CtOk cIs where
 len:=fun ⟨A,c,e,_⟩=>by rw[e];rfl
 one:=fun ⟨A,c,e,_⟩ u hu=>by rw[e] at hu;simp at hu;subst hu;rfl
 keep:=fun ⟨A,c,e,h⟩ hk=>⟨A,c,e,h.keep hk⟩
 keepC:=fun ⟨A,c,e,h⟩ hk=>⟨A,c,e,h.keepC hk⟩
 mono:=fun ⟨A,c,e,h⟩ hm=>⟨A,c,e,h.mono hm⟩
def cWd:Ct (List Rd):=⟨kWd,fun S w cs xs=>∃A c,cs=[.slice A xs.length c]/\RAtS S w A xs/\xs.length<=c⟩
theorem qu:CtOk cWd where
 len:=fun ⟨A,c,e,_⟩=>by rw[e];rfl
 one:=fun ⟨A,c,e,_⟩ u hu=>by rw[e] at hu;simp at hu;subst hu;rfl
 keep:=fun ⟨A,c,e,h,hc⟩ hk=>⟨A,c,e,h.keep hk,hc⟩
 keepC:=fun ⟨A,c,e,h,hc⟩ hk=>⟨A,c,e,h.keepC hk,hc⟩
 mono:=fun ⟨A,c,e,h,hc⟩ hm=>⟨A,c,e,h.mono hm,hc⟩
def cMl:Ct (List Mv):=⟨kMl,fun S w cs xs=>∃A c,cs=[.slice A xs.length c]/\MAtS S w A xs⟩
theorem qZ:CtOk cMl where
 len:=fun ⟨A,c,e,_⟩=>by rw[e];rfl
 one:=fun ⟨A,c,e,_⟩ u hu=>by rw[e] at hu;simp at hu;subst hu;rfl
 keep:=fun ⟨A,c,e,h⟩ hk=>⟨A,c,e,h.keep hk⟩
 keepC:=fun ⟨A,c,e,h⟩ hk=>⟨A,c,e,h.keepC hk⟩
 mono:=fun ⟨A,c,e,h⟩ hm=>⟨A,c,e,h.mono hm⟩
def cCs:Ct Cs:=⟨kCs,fun S w cs x=>∃A0 c0 A1 c1 A2 c2,cs=[.slice A0 x.inp.length c0,.slice A1 x.out.length c1,.slice A2 x.calm.length c2]/\IAtS S w A0 x.inp/\LAtS S w A1 x.out/\LAtS S w A2 x.calm⟩
theorem xY:CtOk cCs where
 len:=fun ⟨A0,c0,A1,c1,A2,c2,e,_⟩=>by rw[e];rfl
 one:=fun ⟨A0,c0,A1,c1,A2,c2,e,_⟩ u hu=>by rw[e] at hu;simp at hu;rcases hu with rfl | rfl | rfl<;>rfl
 keep:=fun ⟨A0,c0,A1,c1,A2,c2,e,h0,h1,h2⟩ hk=>⟨A0,c0,A1,c1,A2,c2,e,h0.keep hk,h1.keep hk,h2.keep hk⟩
 keepC:=fun ⟨A0,c0,A1,c1,A2,c2,e,h0,h1,h2⟩ hk=>⟨A0,c0,A1,c1,A2,c2,e,h0.keepC hk,h1.keepC hk,h2.keepC hk⟩
 mono:=fun ⟨A0,c0,A1,c1,A2,c2,e,h0,h1,h2⟩ hm=>⟨A0,c0,A1,c1,A2,c2,e,h0.mono hm,h1.mono hm,h2.mono hm⟩
section
variable {S:Nat->Prop} {w:Ba} {base:Nat} {v:Value}
theorem cIs_form{xs:List (List Int)}(h:OwnX cIs S w base v xs):∃A cap,v=.slice A xs.length cap/\xs.length<=cap/\cap<=maxLen/\LAt w w.heap.size A xs:=by
 obtain⟨A,cap,e,h1,h2,h3⟩:=h.form yQ;refine⟨A,cap,e,h1,h2,fun h0=>?_⟩;obtain⟨g,rfl,_,hg,hc⟩:=h3 h0;refine⟨g,0,rfl,hg,fun i hi=>?_⟩;obtain⟨cs,⟨A',c',rfl,hl⟩,hcell⟩:=hc i hi;refine⟨A',c',?_,hl.iat⟩;have:=hcell 0 _ rfl;rw[LH];rwa[show i*cIs.K.size+0=i by show i*1+0=i;omega] at this
theorem Z3{xs:List (List Rd)}(h:OwnX cWd S w base v xs):∃A cap,v=.slice A xs.length cap/\xs.length<=cap/\cap<=maxLen/\WAt w w.heap.size A xs:=by
 obtain⟨A,cap,e,h1,h2,h3⟩:=h.form qu;refine⟨A,cap,e,h1,h2,fun h0=>?_⟩;obtain⟨g,rfl,_,hg,hc⟩:=h3 h0;refine⟨g,0,rfl,hg,fun i hi=>?_⟩;obtain⟨cs,⟨A',c',rfl,hl,_⟩,hcell⟩:=hc i hi;refine⟨A',c',?_,hl.rat⟩;have:=hcell 0 _ rfl;rw[LH];rwa[show i*cWd.K.size+0=i by show i*1+0=i;omega] at this
theorem Q4{xs:List (List Int)}(h:OwnX cIs S w base v xs):∃A cap,v=.slice A xs.length cap/\xs.length<=cap/\cap<=maxLen/\LAtS (fun k=>S k\/base<=k) w A xs:=by
 obtain⟨A,cap,e,h1,h2,h3⟩:=h.form yQ;refine⟨A,cap,e,h1,h2,fun h0=>?_⟩;obtain⟨g,rfl,hb,hg,hc⟩:=h3 h0;refine⟨g,0,rfl,.inr hb,hg,fun i hi=>?_⟩;obtain⟨cs,⟨A',c',rfl,hl⟩,hcell⟩:=hc i hi;refine⟨A',c',?_,hl.mono fun k _ hs=>.inl hs.1⟩;have:=hcell 0 _ rfl;rw[LH];rwa[show i*cIs.K.size+0=i by show i*1+0=i;omega] at this
theorem Y9{xs:List (List Int)}(h:OwnX cIs S w base v xs):∃A cap,v=.slice A xs.length cap/\xs.length<=cap/\cap<=maxLen/\LAtS (fun k=>S k\/v.ownBlock=some k) w A xs:=by
 obtain⟨A,cap,e,h1,h2,h3⟩:=h.form yQ;refine⟨A,cap,e,h1,h2,fun h0=>?_⟩;obtain⟨g,rfl,hb,hg,hc⟩:=h3 h0;refine⟨g,0,rfl,.inr (by rw[e];rfl),hg,fun i hi=>?_⟩;obtain⟨cs,⟨A',c',rfl,hl⟩,hcell⟩:=hc i hi;refine⟨A',c',?_,hl.mono fun k _ hs=>.inl hs.1⟩;have:=hcell 0 _ rfl;rw[LH];rwa[show i*cIs.K.size+0=i by show i*1+0=i;omega] at this
end
end
section
open Go.RowKit
def XN:Ct Exn:=⟨kXn,fun S w cs x=>∃A c A2 c2,cs=[.int .i64 x.c,.slice A x.word.length c,.slice A2 x.views.length c2]/\RAtS S w A x.word/\LAtS S w A2 x.views/\x.word.length<=c⟩
theorem zR:CtOk XN where
 len:=fun ⟨A,c,A2,c2,e,_⟩=>by rw[e];rfl
 one:=fun ⟨A,c,A2,c2,e,_⟩ u hu=>by rw[e] at hu;simp at hu;rcases hu with rfl | rfl | rfl<;>rfl
 keep:=fun ⟨A,c,A2,c2,e,h1,h2,h3⟩ hk=>⟨A,c,A2,c2,e,h1.keep hk,h2.keep hk,h3⟩
 keepC:=fun ⟨A,c,A2,c2,e,h1,h2,h3⟩ hk=>⟨A,c,A2,c2,e,h1.keepC hk,h2.keepC hk,h3⟩
 mono:=fun ⟨A,c,A2,c2,e,h1,h2,h3⟩ hm=>⟨A,c,A2,c2,e,h1.mono hm,h2.mono hm,h3⟩
def XCap(w:Ba)(A:Bb)(xs:List Exn):Prop:=∀b o q,A=some ⟨b,o,q⟩->∀(i:Nat) (_:i<xs.length) (B:Bb) (n c:Nat),w.cell? ⟨b,o+i*3+1,none⟩=some (.slice B n c)->n<=c
section
variable {S:Nat->Prop} {w:Ba} {base:Nat} {v:Value}
theorem jX{xs:List Exn}(h:OwnX XN S w base v xs):∃A cap,v=.slice A xs.length cap/\xs.length<=cap/\cap<=maxLen/\XAt w w.heap.size A xs/\XCap w A xs:=by
 obtain⟨A,cap,e,h1,h2,h3⟩:=h.form zR
 have key:∀g,A=some ⟨g,0,none⟩->∀(i:Nat) (hi:i<xs.length),∃A' c' A2 c2,w.cell? ⟨g,i*3,none⟩=some (.int .i64 xs[i].c)/\w.cell? ⟨g,i*3+1,none⟩=some (.slice A' xs[i].word.length c')/\w.cell? ⟨g,i*3+2,none⟩=some (.slice A2 xs[i].views.length c2)/\RAt w w.heap.size A' xs[i].word/\LAt w w.heap.size A2 xs[i].views/\xs[i].word.length<=c':=by
  intro g eg i hi;obtain⟨g',eg',_,hg,hc⟩:=h3 (by omega);rw[eg] at eg'
  cases eg'
  obtain⟨cs,⟨A',c',A2,c2,rfl,hr,hl,hw⟩,hcell⟩:=hc i hi;have h0:=hcell 0 _ rfl;have h1:=hcell 1 _ rfl;have h2:=hcell 2 _ rfl;change w.cell? ⟨g,i*3+0,none⟩=_ at h0;change w.cell? ⟨g,i*3+1,none⟩=_ at h1;change w.cell? ⟨g,i*3+2,none⟩=_ at h2;exact⟨A',c',A2,c2,by simpa using h0,by simpa using h1,by simpa using h2,hr.rat,hl.lat,hw⟩
 refine⟨A,cap,e,h1,h2,fun h0=>?_,fun b o q eA i hi B n c hcell=>?_⟩
 . obtain⟨g,rfl,_,hg,_⟩:=h3 h0
   refine⟨g,0,rfl,hg,fun i hi=>?_⟩;obtain⟨A',c',A2,c2,k0,k1,k2,hr,hl,_⟩:=key g rfl i hi;refine⟨_,_,_,?_,?_,?_,rfl,⟨A',c',rfl,hr⟩,⟨A2,c2,rfl,hl⟩⟩
   . simpa using k0
   . simpa using k1
   . simpa using k2
 . obtain⟨g,eg,_,hg,_⟩:=h3 (by omega)
   have eg2:=eg;rw[eA] at eg
   cases eg
   obtain⟨A',c',A2,c2,k0,k1,k2,hr,hl,hw⟩:=key _ eg2 i hi;rw[LH] at hcell;rw[k1] at hcell
   cases hcell
   exact hw
end
end
section
open Go.RowKit
structure KeyOk{κ:Type}(P:Program)(kt:TypeId)(enc:κ->Value):Prop where
 inj:∀a b,enc a=enc b->a=b
 check:∀(w:Ba) (em:Bool) (a:κ),(Instr.checkKey em 10000 kt (enc a)).run P w=.ok () w
 equal:∀(w:Ba) (a b:κ),(Op.equal kt (enc a) (enc b)).run P w=.ok (@decide (enc a=enc b) (Classical.propDecidable _)) w
 now:∀(d:TypeDesc),P.underlying kt=some d->(∀a b:κ,Instr.sameNow d (enc a) (enc b)=some (@decide (enc a=enc b) (Classical.propDecidable _)))\/(∀a b:κ,Instr.sameNow d (enc a) (enc b)=none)
 stays:∀a:κ,Instr.sameBits 10000 (enc a) (enc a)=true
 kind:∃d,P.underlying kt=some d
section
variable {κ:Type} {P:Program} {kt:TypeId} {enc:κ->Value}
open Classical
theorem ge{d:TypeDesc}(h:∀a b:κ,Instr.sameNow d (enc a) (enc b)=some (decide (enc a=enc b)))(x:κ):∀(es:List MapEntry) (i:Nat),(∀e∈es,∃k,e.key=enc k) ->
  (Instr.findNow d (enc x) es i=some none/\∀e∈es,e.key≠enc x)\/∃j e,Instr.findNow d (enc x) es i=some (some (i+j,e.val))/\es[j]?=some e/\e.key=enc x
 | [],i,_=>.inl ⟨rfl,fun _ h=>by cases h⟩
 | e::es,i,hk=>by
  obtain⟨k,hek⟩:=hk e (by simp)
  by_cases he:enc x=enc k
  . refine .inr ⟨0,e,?_,rfl,by rw[hek,he]⟩
    simp[Instr.findNow,hek,h,he]
  . rcases ge h x es (i+1) (fun e he=>hk e (by simp[he])) with ⟨h1,h2⟩ | ⟨j,e',h1,h2,h3⟩
    . refine .inl ⟨by simp[Instr.findNow,hek,h,he,h1],fun e' he'=>?_⟩
      rcases L5.1 he' with rfl | he'
      . rw[hek];exact fun e2=>he e2.symm
      . exact h2 e' he'
    . exact .inr ⟨j+1,e',by simp[Instr.findNow,hek,h,he,h1];omega,by simpa using h2,h3⟩
theorem jE(K:KeyOk P kt enc)(w:Ba)(x:κ):∀(es:List MapEntry) (i:Nat),(∀e∈es,∃k,e.key=enc k) ->
  ((Instr.findAsking kt (enc x) es i).run P w=.ok none w/\∀e∈es,e.key≠enc x)\/∃j e,(Instr.findAsking kt (enc x) es i).run P w=.ok (some (i+j,e.val)) w/\es[j]?=some e/\e.key=enc x
 | [],i,_=>.inl ⟨rfl,fun _ h=>by cases h⟩
 | e::es,i,hk=>by
  obtain⟨k,hek⟩:=hk e (by simp)
  by_cases he:enc x=enc k
  . refine .inr ⟨0,e,?_,rfl,by rw[hek,he]⟩
    simp[Instr.findAsking,hek,K.equal,he,Result.andThen]
  . rcases jE K w x es (i+1) (fun e he=>hk e (by simp[he])) with ⟨h1,h2⟩ | ⟨j,e',h1,h2,h3⟩
    . refine .inl ⟨by simp[Instr.findAsking,hek,K.equal,he,h1,Result.andThen],fun e' he'=>?_⟩
      rcases L5.1 he' with rfl | he'
      . rw[hek];exact fun e2=>he e2.symm
      . exact h2 e' he'
    . exact .inr ⟨j+1,e',by simp[Instr.findAsking,hek,K.equal,he,h1,Result.andThen];omega,by simpa using h2,h3⟩
theorem ZS{d:TypeDesc}(h:∀a b:κ,Instr.sameNow d (enc a) (enc b)=none)(x:κ)(es:List MapEntry)(hk:∀e∈es,∃k,e.key=enc k) :
  es=[]\/Instr.findNow d (enc x) es 0=none:=by
 cases es with
 | nil=>exact .inl rfl
 | cons e es=>
  obtain⟨k,hek⟩:=hk e (by simp);exact .inr (by simp[Instr.findNow,hek,h])
theorem ZR(K:KeyOk P kt enc)(w:Ba)(x:κ)(es:List MapEntry)(hk:∀e∈es,∃k,e.key=enc k) :
  ((Instr.findKey kt (enc x) es).run P w=.ok none w/\∀e∈es,e.key≠enc x)\/∃j e,(Instr.findKey kt (enc x) es).run P w=.ok (some (j,e.val)) w/\es[j]?=some e/\e.key=enc x:=by
 obtain⟨d,hd⟩:=K.kind;rcases K.now d hd with h | h
 . rcases ge h x es 0 hk with ⟨h1,h2⟩ | ⟨j,e,h1,h2,h3⟩
   . exact .inl ⟨by simp[Instr.findKey,run_underlying hd,h1],h2⟩
   . exact .inr ⟨j,e,by simp[Instr.findKey,run_underlying hd,h1],h2,h3⟩
 . rcases ZS h x es hk with rfl | hn
   . exact .inl ⟨by simp[Instr.findKey,run_underlying hd,Instr.findNow],fun _ h=>by cases h⟩
   . rcases jE K w x es 0 hk with ⟨h1,h2⟩ | ⟨j,e,h1,h2,h3⟩
     . exact .inl ⟨by simp[Instr.findKey,run_underlying hd,hn,h1],h2⟩
     . exact .inr ⟨j,e,by simp[Instr.findKey,run_underlying hd,hn,h1],h2,h3⟩
def MapOf(enc:κ->Value)(w:Ba)(b n:Nat)(f:κ->Option Value):Prop:=
 ∃es clock,w.heap[b]?=some (.map es clock)/\es.size<=n/\(es.toList.Pairwise fun x y=>x.key≠y.key)/\(∀e∈es.toList,∃k,e.key=enc k/\f k=some e.val)/\(∀k v,f k=some v->∃e∈es.toList,e.key=enc k/\e.val=v)
theorem MapOf.made(w:Ba):MapOf enc (w.alloc (.map #[] 0)) w.heap.size 0 (fun _=>none):=
 ⟨#[],0,heap_alloc_new w _,Le _,List.Pairwise.nil,fun e h=>by simp at h,fun k v h=>by cases h⟩
theorem MapOf.same{w w':Ba}{b n:Nat}{f:κ->Option Value}(h:MapOf enc w b n f)(hs:w'.heap[b]?=w.heap[b]?):MapOf enc w' b n f:=by
 obtain⟨es,clock,hb,r⟩:=h;exact⟨es,clock,hs.trans hb,r⟩
theorem MapOf.lt{w:Ba}{b n:Nat}{f:κ->Option Value}(h:MapOf enc w b n f):b<w.heap.size:=by
 obtain⟨es,clock,hb,r⟩:=h;exact(Ln.1 hb).1
theorem MapOf.look{w:Ba}{b n:Nat}{f:κ->Option Value}{t e:TypeId}{z:Value}(h:MapOf enc w b n f)(K:KeyOk P kt enc)(ht:P.underlying t=some (.map kt e))(hz:(zeroValue e).run P w=.ok z w)(k:κ) :
  (Instr.lookup t (.map (some b)) (enc k) false).run P w=.ok ((f k).getD z) w:=by
 obtain⟨es,clock,hb,_,_,h1,h2⟩:=h;rcases ZR K w k es.toList (fun e he=>by obtain⟨k,hk,_⟩:=h1 e he;exact⟨k,hk⟩) with ⟨r1,r2⟩ | ⟨j,e0,r1,r2,r3⟩
 · have hf : f k = none := by
    cases hf:f k with
    | none=>rfl
    | some v=>obtain⟨e,he,hk,_⟩:=h2 k v hf;exact absurd hk (r2 e he)
   simp[Instr.lookup,run_underlying ht,MapKept.run_getObj_map hb,K.check w _ k,r1,hz,Result.andThen,hf]
 . obtain⟨k',hk',hf⟩:=h1 e0 (Rr r2)
   have:k=k':=K.inj _ _ (r3.symm.trans hk');subst this;simp[Instr.lookup,run_underlying ht,MapKept.run_getObj_map hb,K.check w _ k,r1,Result.andThen,hf]
theorem MapOf.look2{w:Ba}{b n:Nat}{f:κ->Option Value}{t e:TypeId}{z:Value}(h:MapOf enc w b n f)(K:KeyOk P kt enc)(ht:P.underlying t=some (.map kt e))(hz:(zeroValue e).run P w=.ok z w)(k:κ) :
  (Instr.lookup t (.map (some b)) (enc k) true).run P w=.ok (.tuple #[(f k).getD z,.bool (f k).isSome]) w:=by
 obtain⟨es,clock,hb,_,_,h1,h2⟩:=h;rcases ZR K w k es.toList (fun e he=>by obtain⟨k,hk,_⟩:=h1 e he;exact⟨k,hk⟩) with ⟨r1,r2⟩ | ⟨j,e0,r1,r2,r3⟩
 · have hf : f k = none := by
    cases hf:f k with
    | none=>rfl
    | some v=>obtain⟨e,he,hk,_⟩:=h2 k v hf;exact absurd hk (r2 e he)
   simp[Instr.lookup,run_underlying ht,MapKept.run_getObj_map hb,K.check w _ k,r1,hz,Result.andThen,hf]
 . obtain⟨k',hk',hf⟩:=h1 e0 (Rr r2)
   have:k=k':=K.inj _ _ (r3.symm.trans hk');subst this;simp[Instr.lookup,run_underlying ht,MapKept.run_getObj_map hb,K.check w _ k,r1,Result.andThen,hf]
def xf[DecidableEq κ](f:κ->Option Value)(k:κ)(v:Value):κ->Option Value:=fun x=>if x=k then some v else f x
theorem jj{P:Program}{w:Ba}{b:Nat}{es es':Array MapEntry}{c c':Nat}(hb:w.heap[b]?=some (.map es c)) :
  (setObj b (.map es' c')).run P w=.ok () { w with heap:=w.heap.setIfInBounds b (.map es' c') }:=by
 simp[setObj,Sem.run,hb]
theorem pw_key{l:List MapEntry}(h:l.Pairwise fun x y=>x.key≠y.key){i j:Nat}{a b:MapEntry}(hi:l[i]?=some a)(hj:l[j]?=some b)(he:a.key=b.key):i=j:=by
 obtain⟨hil,rfl⟩:=Lq.1 hi;obtain⟨hjl,rfl⟩:=Lq.1 hj;rcases Nat.lt_trichotomy i j with hlt | h' | hlt
 . exact absurd he (P1.1 h i j hil hjl hlt)
 . exact h'
 . exact absurd he.symm (P1.1 h j i hjl hil hlt)
theorem pw_set{l:List MapEntry}(h:l.Pairwise fun x y=>x.key≠y.key){j:Nat}{a a':MapEntry}(hj:l[j]?=some a)(he:a.key=a'.key):(l.set j a').Pairwise fun x y=>x.key≠y.key:=by
 obtain⟨hjl,rfl⟩:=Lq.1 hj;rw[P1] at h ⊢;intro i k hi hk hik;simp only[List.length_set] at hi hk;simp only[List.getElem_set]
 split
 . rename_i h1;subst h1
   split
   . omega
   . rw[<-he];exact h _ _ hi hk hik
 . split
   . rename_i h1;subst h1
     rw[<-he];exact h _ _ hi hk hik
   . exact h _ _ hi hk hik
theorem MapOf.put[DecidableEq κ]{w:Ba}{b n:Nat}{f:κ->Option Value}{t e:TypeId}(h:MapOf enc w b n f)(K:KeyOk P kt enc)(ht:P.underlying t=some (.map kt e))(k:κ)(v:Value) :
  ∃w',(Instr.mapUpdate t (.map (some b)) (enc k) v).run P w=.ok () w'/\MapOf enc w' b (n+1) (xf f k v)/\w.grownBy w' (some b):=by
 obtain⟨es,clock,hb,hn,hpw,h1,h2⟩:=h;have hbl:=(Ln.1 hb).1
 have grown:∀o,w.grownBy { w with heap:=w.heap.setIfInBounds b o } (some b):=fun o=>
  ⟨rfl,rfl,rfl,by simp,fun i _ hi=>by simp only;rw[LU (fun e=>hi (by rw[e]))]⟩
 have at_:∀o,({ w with heap:=w.heap.setIfInBounds b o }:Ba).heap[b]?=some o:=fun o=>by simp[hbl]
 rcases ZR K w k es.toList (fun e he=>by obtain⟨k,hk,_⟩:=h1 e he;exact⟨k,hk⟩) with ⟨r1,r2⟩ | ⟨j,e0,r1,r2,r3⟩
 . refine⟨_,?_,⟨es.push { key:=enc k,val:=v,born:=clock },clock+1,at_ _,by simp;omega,?_,?_,?_⟩,grown _⟩
   . simp[Instr.mapUpdate,run_underlying ht,MapKept.run_getObj_map hb,K.check w false k,r1,jj hb,Result.andThen]
   . rw[Array.toList_push]
     exact List.pairwise_append.2 ⟨hpw,List.pairwise_singleton _ _,fun a ha c hc=>by simp only[List.mem_singleton] at hc;subst hc;exact r2 a ha⟩
   . intro e he
     simp only[Array.toList_push,List.mem_append,List.mem_singleton] at he;rcases he with he | rfl
     . obtain⟨k',hk',hf⟩:=h1 e he
       refine⟨k',hk',?_⟩;have:k'≠k:=fun e2=>r2 e he (by rw[hk',e2])
       simp[xf,this,hf]
     . exact⟨k,rfl,by simp[xf]⟩
   . intro k' v' hf
     unfold xf at hf
     split at hf
     . rename_i hk;subst hk
       cases hf
       exact⟨_,by simp;exact .inr rfl,rfl,rfl⟩
     . obtain⟨e,he,hk,hv⟩:=h2 k' v' hf
       exact⟨e,by simp;exact .inl (by simpa using he),hk,hv⟩
 . have hjs:es[j]?=some e0:=by simpa using r2
   have hs:(Instr.keyThatStays e0.key (enc k)).run P w=.ok (enc k) w:=by simp[Instr.keyThatStays,r3,K.stays]
   have hjl:j<es.toList.length:=(Lq.1 r2).1
   have hlist:(es.modify j (fun e'=>{ e' with key:=enc k,val:=v })).toList=es.toList.set j { e0 with key:=enc k,val:=v }:=by
    rw[Array.toList_modify,ChangeMaps.modify_eq_set _ _ _ _ r2]
   refine⟨_,?_,⟨es.modify j (fun e'=>{ e' with key:=enc k,val:=v }),clock,at_ _,by simp;omega,?_,?_,?_⟩,grown _⟩
   . simp[Instr.mapUpdate,run_underlying ht,MapKept.run_getObj_map hb,K.check w false k,r1,hjs,hs,jj hb,Result.andThen]
   . rw[hlist]
     exact pw_set hpw r2 (by simpa using r3)
   . intro e he
     rw[hlist] at he;obtain⟨i,hi,rfl⟩:=LQ he;rw[RY]
     split
     . exact⟨k,rfl,by simp[xf]⟩
     . rename_i hne
       have hi':i<es.toList.length:=by simpa using hi
       obtain⟨k',hk',hf⟩:=h1 _ (Ld hi');refine⟨k',hk',?_⟩
       by_cases e2:k'=k
       . exact absurd (hk'.trans ((congrArg enc e2).trans r3.symm)) (fun e3=>hne (pw_key hpw r2 (Lm hi') e3.symm))
       . simp[xf,e2,hf]
   . intro k' v' hf
     unfold xf at hf
     split at hf
     . rename_i hk;subst hk
       cases hf
       refine⟨{ e0 with key:=enc k',val:=v },?_,rfl,rfl⟩;rw[hlist];exact NY.2 ⟨j,by simpa using hjl,by simp⟩
     . rename_i hk
       obtain⟨e,he,hke,hv⟩:=h2 k' v' hf;refine⟨e,?_,hke,hv⟩;rw[hlist];obtain⟨i,hi,rfl⟩:=LQ he
       have hij:j≠i:=by
        rintro rfl;rw[Lm hjl] at r2
        cases r2
        exact hk (K.inj _ _ (hke.symm.trans r3))
       exact NY.2 ⟨i,by simpa using hi,by simp[hij]⟩
end
end
section
open Go.RowKit
open Classical in
theorem yp:KeyOk Tryz.prog 3 (Value.int .i64) where
 inj:=fun a b h=>by injection h
 check:=fun w em a=>by
  have hi:Tryz.prog.underlying 3=some (.int .i64):=Lx;unfold Instr.checkKey;simp[run_underlying hi,Result.andThen]
 equal:=fun w a b=>by
  have hi:Tryz.prog.underlying 3=some (.int .i64):=Lx;unfold Op.equal Op.maxDepth;rw[NH w _ 3 _ _ _ _ hi]
  by_cases h:a=b<;>simp[h]
 now:=fun d hd=>.inl fun a b=>by
  have hi:Tryz.prog.underlying 3=some (.int .i64):=Lx;rw[hi] at hd
  cases hd
  by_cases h:a=b<;>simp[Instr.sameNow,h]
 stays:=fun a=>by simp[Instr.sameBits]
 kind:=⟨_,Lx⟩
theorem XV(a b:Vw)(h:Value.agg a.cells=.agg b.cells):a=b:=by
 injection h with h
 obtain⟨a0,a1,a2,a3,a4,a5,a6,a7⟩:=a;obtain⟨b0,b1,b2,b3,b4,b5,b6,b7⟩:=b;simpa[Vw.cells] using h
theorem Y4(w:Ba)(em:Bool)(n:Nat)(a:Int):(Instr.checkKey em (n+1) 3 (.int .i64 a)).run Tryz.prog w=.ok () w:=by
 have hi:Tryz.prog.underlying 3=some (.int .i64):=Lx;unfold Instr.checkKey;simp[run_underlying hi,Result.andThen]
theorem Y5(w:Ba)(em:Bool)(n:Nat)(a b c d e:Int):(Instr.checkKey em (n+2) 88 (.agg #[.int .i64 a,.int .i64 b,.int .i64 c,.int .i64 d,.int .i64 e])).run Tryz.prog w=.ok () w:=by
 have hu:Tryz.prog.underlying 88=some (.array 5 3):=Pf;have hs:(sizeOf 3).run Tryz.prog w=.ok 1 w:=by kernel_rfl
 have p0:=fun x0 x1 x2 x3 x4=>yo #[x0,x1,x2,x3,x4] 0 x0 rfl w
 have p1:=fun x0 x1 x2 x3 x4=>yo #[x0,x1,x2,x3,x4] 1 x1 rfl w
 have p2:=fun x0 x1 x2 x3 x4=>yo #[x0,x1,x2,x3,x4] 2 x2 rfl w
 have p3:=fun x0 x1 x2 x3 x4=>yo #[x0,x1,x2,x3,x4] 3 x3 rfl w
 have p4:=fun x0 x1 x2 x3 x4=>yo #[x0,x1,x2,x3,x4] 4 x4 rfl w
 unfold Instr.checkKey;simp only[Sem.run_bind,run_underlying hu,Result.andThen_ok,hs,Std.Legacy.Range.forIn_eq_forIn_range',Std.Legacy.Range.size,Nat.sub_zero,Nat.add_sub_cancel,Nat.div_one,show List.range' 0 5 1=[0,1,2,3,4] from rfl,List.forIn_cons,List.forIn_nil,p0,p1,p2,p3,p4,Nat.mul_one,Y4,Sem.run_pure]
open Classical in
theorem gZ:KeyOk Tryz.prog 128 (fun v:Vw=>.agg v.cells) where
 inj:=XV
 check:=fun w em v=>by
  have hu:Tryz.prog.underlying 128=some (.struct (Tryz.prog.fieldsOf 128)):=by kernel_rfl
  have hf : (Tryz.prog.fieldsOf 128).toList.map (fun f => (f.name, f.type, f.offset)) = [("Proc", 3, 0), ("Round", 3, 1), ("Input", 3, 2), ("Heard", 88, 3)] := by kernel_rfl
  have p0:∀x:Vw,(part 3 x.cells 0).run Tryz.prog w=.ok (.int .i64 x.p) w:=fun x=>yo _ 0 _ rfl w
  have p1:∀x:Vw,(part 3 x.cells 1).run Tryz.prog w=.ok (.int .i64 x.r) w:=fun x=>yo _ 1 _ rfl w
  have p2:∀x:Vw,(part 3 x.cells 2).run Tryz.prog w=.ok (.int .i64 x.i) w:=fun x=>yo _ 2 _ rfl w
  have p3:∀x:Vw,(part 88 x.cells 3).run Tryz.prog w=.ok (.agg #[.int .i64 x.h0,.int .i64 x.h1,.int .i64 x.h2,.int .i64 x.h3,.int .i64 x.h4]) w:=fun x=>by unfold Vw.cells;kernel_rfl
  unfold Instr.checkKey;simp only[Sem.run_bind,run_underlying hu,Result.andThen_ok];rw[<-Array.forIn_toList]
  generalize (Tryz.prog.fieldsOf 128).toList=fs at hf
  obtain⟨f0,f1,f2,f3,rfl⟩:∃f0 f1 f2 f3,fs=[f0,f1,f2,f3]:=by
   have hl:fs.length=4:=by simpa using congrArg List.length hf
   rcases fs with _ | ⟨f0,_ | ⟨f1,_ | ⟨f2,_ | ⟨f3,_ | ⟨f4,r⟩⟩⟩⟩⟩<;>simp at hl
   exact⟨_,_,_,_,rfl⟩
  clear hu;simp only[List.map_cons,List.map_nil,List.cons.injEq,Prod.mk.injEq,and_true] at hf;obtain⟨⟨n0,t0,o0⟩,⟨n1,t1,o1⟩,⟨n2,t2,o2⟩,⟨n3,t3,o3⟩⟩:=hf;simp only[List.forIn_cons,List.forIn_nil,n0,n1,n2,n3,t0,t1,t2,t3,o0,o1,o2,o3,p0,p1,p2,p3,Sem.run_bind,Result.andThen_ok,Y4,Y5,ne_eq,String.reduceEq,not_false_eq_true,if_true,Sem.run_pure]
 equal:=fun w a b=>by
  unfold Op.equal Op.maxDepth;rw[vG 9997 a b w]
  by_cases h:a=b
  . simp[h]
  . have:¬(Value.agg a.cells=.agg b.cells):=fun e=>h (XV a b e)
    rw[Li h,Li this]
 now:=fun d hd=>.inr fun a b=>by
  have hu:Tryz.prog.underlying 128=some (.struct (Tryz.prog.fieldsOf 128)):=by kernel_rfl
  rw[hu] at hd
  cases hd
  simp[Instr.sameNow]
 stays:=fun a=>by simp[Instr.sameBits,Vw.cells]
 kind := ⟨_, by have hu : Tryz.prog.underlying 128 = some (.struct (Tryz.prog.fieldsOf 128)) := by kernel_rfl
                exact hu⟩
end
section
open Go.RowKit
structure TArg(w:Ba)(A:Bb)(cap:Nat)(vs:List Vw):Prop where
 rows:VAt w w.heap.size A vs
 lec:vs.length<=cap
 lem:cap<=maxLen
 few:vs.length<=100000
theorem TArg.keep{w w':Ba}{A:Bb}{cap:Nat}{vs:List Vw}(h:TArg w A cap vs)(hb:Below w.heap.size w w'):TArg w' A cap vs:=
 ⟨(h.rows.keep hb).more hb.size,h.lec,h.lem,h.few⟩
def yN(vs:List Vw):List Value:=vs.flatMap fun x=>x.cells.toList
theorem vc(vs us:List Vw):yN (vs++us)=yN vs++yN us:=by simp[yN]
theorem vb(vs:List Vw):(yN vs).length=vs.length*8:=by
 induction vs with
 | nil=>rfl
 | cons v vs ih=>simp only[yN,List.flatMap_cons,List.length_append,List.length_cons] at *;rw[ih];simp[Vw.cells];omega
theorem uw:∀(vs:List Vw) (i:Nat) (hi:i<vs.length) (k:Nat),k<8->(yN vs)[i*8+k]?=vs[i].cells[k]?
 | v::vs,0,hi,k,hk=>by
  simp only[yN,List.flatMap_cons,List.getElem_cons_zero,Nat.zero_mul,Nat.zero_add];rw[LP (by simp[Vw.cells];omega)];simp
 | v::vs,i+1,hi,k,hk=>by
  have:=uw vs i (by simpa using hi) k hk;simp only[yN,List.flatMap_cons,List.getElem_cons_succ] at *;rw[LM (by simp[Vw.cells];omega),<-this]
  congr 1
  simp[Vw.cells];omega
def OwnV(w:Ba)(base:Nat)(v:Value)(vs:List Vw):Prop:=w.ownsRow base 128 8 v vs.length (yN vs)
theorem OwnV.nil(w:Ba)(base:Nat):OwnV w base (.slice none 0 0) []:=P5 w base _ 8
theorem OwnV.form{w:Ba}{base:Nat}{v:Value}{vs:List Vw}(h:OwnV w base v vs)(hf:vs.length<=100000):∃A cap,v=.slice A vs.length cap/\TArg w A cap vs:=by
 rcases h.2 with ⟨rfl,h0⟩ | ⟨g,cap,cur,rfl,_,hg,hle,hcm,_⟩
 . have:vs=[]:=LJ h0
   subst this;exact⟨none,0,rfl,fun h=>absurd h (by simp),Le _,NC _,hf⟩
 . refine⟨_,_,rfl,fun _=>⟨g,0,rfl,(Ln.1 hg).1,fun i hi k u hk=>?_⟩,hle,hcm,hf⟩
   have hk8:k<8:=by have:=(Ln.1 hk).1;simpa[Vw.cells] using this
   have:=h.cells (g:=g) rfl (i*8+k) u (by rw[uw vs i hi k hk8];exact hk);rw[show(⟨g,0,none⟩:Addr).add (i*8+k)=⟨g,0+i*8+k,none⟩ from by unfold Addr.add;split<;>simp_all] at this;exact this
theorem OwnV.low{w:Ba}{base base':Nat}{v:Value}{xs:List Vw}(h:OwnV w base v xs)(hb:base'<=base):OwnV w base' v xs:=by
 refine⟨h.1,?_⟩;rcases h.2 with h2 | ⟨g,cap,cur,hv,hg,r⟩
 . exact Or.inl h2
 . exact Or.inr ⟨g,cap,cur,hv,by omega,r⟩
theorem OwnV.lt{w:Ba}{base:Nat}{v:Value}{xs:List Vw}(h:OwnV w base v xs):∀k,v.ownBlock=some k->base<=k/\k<w.heap.size:=Rh h
theorem uV:(Tryz.prog.info? 128).map (fun i=>(i.zero,i.size,i.bytes))=some (some (.agg (⟨0,0,0,0,0,0,0,0⟩:Vw).cells),8,64):=by kernel_rfl
theorem we(v:Vw):∀u∈v.cells.toList,u.oneCell'=true:=by
 intro u hu;simp only[Vw.cells,List.mem_cons,List.not_mem_nil,or_false] at hu;rcases hu with rfl | rfl | rfl | rfl | rfl | rfl | rfl | rfl<;>rfl
theorem Jh(vs:List Vw):∀u∈yN vs,u.oneCell'=true:=by
 intro u hu;obtain⟨v,_,hv⟩:=NL.1 hu;exact we v u hv
theorem Yb(c:Nat)(ty:TypeId)(W:Ba):(Builtin.append_ #[30,30] ty #[.slice none 0 0,.slice none 0 c]).run Tryz.prog W=.ok (.slice none 0 0) W:=by
 obtain⟨i0,hi,_⟩:=RB uV;simp[Builtin.append_,run_underlying Tryz.underlying30,sizeOf,typeInfo,hi,Builtin.lenOf,Builtin.firstCells]
theorem TArg.news{w:Ba}{ad:Addr}{cap:Nat}{vs:List Vw}(h:TArg w (some ad) cap vs):∀j u,(yN vs)[j]?=some u->w.cell? (ad.add j)=some u:=by
 intro j u hj;have hj8:j<vs.length*8:=by have:=(Lq.1 hj).1;rwa[vb] at this
 obtain⟨b,off,e,hlt,hc⟩:=h.rows (by omega)
 cases e
 rw[N5];have hi':j / 8<vs.length:=by omega
 have h8:j / 8*8+j % 8=j:=by omega
 rw[<-h8,uw vs (j / 8) hi' (j % 8) (by omega)] at hj;have:=hc (j / 8) hi' (j % 8) u hj;rwa[PJ,h8] at this
theorem OwnV.lit{w:Ba}{base:Nat}{v:Value}{vs:List Vw}(h:OwnV w base v vs):∃A cap,v=.slice A vs.length cap:=by
 rcases h.2 with ⟨rfl,h0⟩ | ⟨g,cap,cur,rfl,_⟩
 . exact⟨none,0,by rw[h0]⟩
 . exact⟨_,_,rfl⟩
theorem wp_appv0{o:Oper}{a:Act}{K:Act->Ba->Prop}{Q:Exit->Act->Ba->Prop}{W:Ba}(s x:Operand)
  (ho:o.op=.call { callee:=.builtin .append,args:=#[s,x],argTypes:=#[30,30] }) (base:Nat) (hs:a.eval s=.slice none 0 0) (A:Bb) (cap:Nat) (vs:List Vw)
  (hx:a.eval x=.slice A vs.length cap) (hT:TArg W A cap vs) (hb:base<=W.heap.size)
  (h:∀A' cap' w1,OwnV w1 base (.slice A' vs.length cap') vs->W.grownBy w1 none->K (a.put o.dst (.slice A' vs.length cap')) w1):o.wp Tryz.prog a W K Q:=by
 obtain⟨i0,hi,hz0,hz1,hz2⟩:=RB uV
 cases A with
 | none=>
  have hvs:vs=[]:=by
   rcases Nu vs.length with h | h
   . exact LJ h
   . obtain⟨b,off,e,_⟩:=hT.rows h;cases e
  subst hvs;have hrun:=Yb cap o.type W;unfold Oper.wp execOp;simp only[ho,resolve,invoke,builtin,Sem.run_bind,Sem.run_pure,Result.andThen_ok,List.map_toArray,List.map_cons,List.map_nil,hs,hx,List.length_nil,hrun];exact h none 0 W (OwnV.nil _ _) (RE _ _)
 | some ad=>
  refine wp_append_own W s x 30 ho base 128 i0 _ 8 64 PB hi hz0 hz1 hz2 rfl (by decide) _ 0 [] hs (P5 W base _ 8) ad vs.length cap (yN vs) hx (vb vs) hT.news (Jh vs) (by have:=hT.few;unfold maxLen;omega) (by have:=hT.few;omega) hb ?_;intro v' w1 hown hgrow _;have hown':OwnV w1 base v' vs:=by unfold OwnV;simpa using hown
  obtain⟨A',cap',rfl⟩:=hown'.lit;exact h A' cap' w1 hown' hgrow
theorem wp_appv1{o:Oper}{a:Act}{K:Act->Ba->Prop}{Q:Exit->Act->Ba->Prop}{W:Ba}(s x:Operand)
  (ho:o.op=.call { callee:=.builtin .append,args:=#[s,x],argTypes:=#[30,30] }) (base:Nat) (V:Value) (vs:List Vw) (v:Vw) (hs:a.eval s=V) (hown:OwnV W base V vs) (hf:vs.length<=100000)
  (g:Nat) (hx:a.eval x=.slice (some ⟨g,0,none⟩) 1 1) (hg:W.heap[g]?=some (.cells v.cells 128 (0,0))) (hb:base<=W.heap.size)
  (h:∀A' cap' w1,OwnV w1 base (.slice A' (vs.length+1) cap') (vs++[v])->W.grownBy w1 V.ownBlock->K (a.put o.dst (.slice A' (vs.length+1) cap')) w1):o.wp Tryz.prog a W K Q:=by
 obtain⟨i0,hi,hz0,hz1,hz2⟩:=RB uV
 refine wp_append_lies W s x 30 ho base 128 i0 _ 8 64 PB hi hz0 hz1 hz2 rfl (by decide) V vs.length (yN vs) hs hown ⟨g,0,none⟩ 1 1 v.cells.toList hx (by simp[Vw.cells])
  (Ru hg) (we v) (by omega) (by unfold maxLen;omega) (by omega) hb _ rfl ?_
 intro g' cap w1 hown' hgrow _ _;refine h _ cap w1 ?_ hgrow;unfold OwnV;rw[Lv,vc];simpa[yN] using hown'
theorem Jm{ops:Array Oper}{o:Oper}{a:Act}{K:Act->Ba->Prop}{Q:Exit->Act->Ba->Prop}{E:Prop}{W:Ba}(hgd:o.guard=none)(s x:Operand)
  (ho:o.op=.call { callee:=.builtin .append,args:=#[s,x],argTypes:=#[30,30] }) (base:Nat) (hs:a.eval s=.slice none 0 0) (A:Bb) (cap:Nat) (vs:List Vw)
  (hx:a.eval x=.slice A vs.length cap) (hT:TArg W A cap vs) (hb:base<=W.heap.size)
  (h:∀A' cap' w1,OwnV w1 base (.slice A' vs.length cap') vs->W.grownBy w1 none->K (a.put o.dst (.slice A' vs.length cap')) w1) :
  if Region.wanted o (yielded ops a.tmps)=true then Oper.wp Tryz.prog o a W K Q else E:=by
 have hw:Region.wanted o (yielded ops a.tmps)=true:=by simp[Region.wanted,hgd]
 rw[Lh hw];exact wp_appv0 s x ho base hs A cap vs hx hT hb h
theorem Zc{ops:Array Oper}{o:Oper}{a:Act}{K:Act->Ba->Prop}{Q:Exit->Act->Ba->Prop}{E:Prop}{W:Ba}(hgd:o.guard=none)(s x:Operand)
  (ho:o.op=.call { callee:=.builtin .append,args:=#[s,x],argTypes:=#[30,30] }) (base:Nat) (V:Value) (vs:List Vw) (v:Vw) (hs:a.eval s=V) (hown:OwnV W base V vs) (hf:vs.length<=100000)
  (g:Nat) (hx:a.eval x=.slice (some ⟨g,0,none⟩) 1 1) (hg:W.heap[g]?=some (.cells v.cells 128 (0,0))) (hb:base<=W.heap.size)
  (h:∀A' cap' w1,OwnV w1 base (.slice A' (vs.length+1) cap') (vs++[v])->W.grownBy w1 V.ownBlock->K (a.put o.dst (.slice A' (vs.length+1) cap')) w1) :
  if Region.wanted o (yielded ops a.tmps)=true then Oper.wp Tryz.prog o a W K Q else E:=by
 have hw:Region.wanted o (yielded ops a.tmps)=true:=by simp[Region.wanted,hgd]
 rw[Lh hw];exact wp_appv1 s x ho base V vs v hs hown hf g hx hg hb h
theorem yj{W w1:Ba}{row:Option Nat}{b o:Nat}{u:Value}(hg:W.grownBy w1 row)(h:W.cell? ⟨b,o,none⟩=some u)(hne:row≠some b):w1.cell? ⟨b,o,none⟩=some u:=by
 obtain⟨ob,ho,_⟩:=Ry h;rw[LA ((hg.block b (Ln.1 ho).1 (fun e=>hne e.symm)))];exact h
theorem vD(w:Ba)(g k:Nat)(v':Value):w.grownBy (w.setCell ⟨g,k,none⟩ v') (some g):=
 ⟨rfl,rfl,rfl,by simp[World.setCell],fun j _ hj=>Lf w ⟨g,k,none⟩ v' j (fun e=>hj (by rw[e]))⟩
theorem grown_heap{W w1:Ba}{row:Option Nat}{b:Nat}{o:Obj}(hg:W.grownBy w1 row)(h:W.heap[b]?=some o)(hne:row≠some b):w1.heap[b]?=some o:=
 (hg.block b (Ln.1 h).1 (fun e=>hne e.symm)).trans h
theorem OwnV.kept{w w':Ba}{base:Nat}{v:Value}{vs:List Vw}{row:Option Nat}(h:OwnV w base v vs)(hg:w.grownBy w' row)(hne:v.ownBlock=none\/v.ownBlock≠row):OwnV w' base v vs:=Pn h hg hne
theorem OwnV.alloc{w:Ba}{base:Nat}{v:Value}{vs:List Vw}(h:OwnV w base v vs)(o:Obj):OwnV (w.alloc o) base v vs:=PQ h o
theorem OwnV.drew{w:Ba}{base:Nat}{v:Value}{vs:List Vw}(h:OwnV w base v vs):OwnV w.drew base v vs:=h
theorem OwnV.below{w w':Ba}{base B:Nat}{v:Value}{xs:List Vw}(h:OwnV w base v xs)(hb:Below B w w')(hB:w.heap.size<=B):OwnV w' base v xs:=
 Pn (row:=none) h ⟨hb.os,hb.tape,hb.output,hb.size,fun k hk _=>hb.block k (by omega)⟩ (by cases v.ownBlock<;>simp)
theorem vE{W w1:Ba}{row:Option Nat}{b o:Nat}(hg:W.grownBy w1 row)(h:W.frozen? ⟨b,o,none⟩=false)(hlt:b<W.heap.size)(hne:row≠some b):w1.frozen? ⟨b,o,none⟩=false:=
 (World.grownBy.frozen_far hg ⟨b,o,none⟩ hlt (fun e=>hne e.symm)).trans h
theorem OwnV.ne{w:Ba}{base b:Nat}{v:Value}{xs:List Vw}(h:OwnV w base v xs)(hb:b<base):v.ownBlock≠some b:=fun e=>by
 have:=(h.lt b e).1;omega
def RetPut(n:Int)(A:Bb)(cap:Nat)(vs:List Vw)(v:Vw)(w:Ba)(e:Ending)(w':Ba):Prop:=
 Below w.heap.size w w'/\(v∈vs->e=.returned (.tuple #[.agg #[.int .i64 n,.slice A vs.length cap],.int .i64 (kg vs v)])) /\
  (v∉vs->∃A3 cap3,e=.returned (.tuple #[.agg #[.int .i64 n,.slice A3 (vs.length+1) cap3],.int .i64 vs.length])/\OwnV w' w.heap.size (.slice A3 (vs.length+1) cap3) (vs++[v]))
end
section
open Go.RowKit
section
variable {P:Program} {md:Region.Mode} {ops:Array Oper} {Q:Exit->Act->Ba->Prop} {l n:Nat}
theorem op_round{o:Oper}{a:Act}{w:Ba}{K:Act->Ba->Prop}(hd:∀c,o.op≠.defer c)(h:o.wp P a w K Q):o.wpIn (Fence.wide.inRound l) n P a w K Q:=by
 refine⟨fun _ _=>trivial,?_⟩;show o.uponIn (Fence.wide.inRound l) n P a K Q ((o.semAt (some l) a.eval).run P w);rw[Oper.semAt_some l a.eval o hd];unfold Oper.wp at h
 revert h
 cases (execOp a.eval o).run P w with
 | ok x w'=>
  cases x with
  | value v=>exact fun h=>h
  | skip=>exact fun h=>h
  | defer d=>exact fun h=>h
  | enter f args=>exact fun h=>⟨(fun h'=>Bool.noConfusion (show false=true from h')),R9 l (RH.2 h)⟩
  | row r args=>exact fun h=>⟨(fun h'=>Bool.noConfusion (show false=true from h')),fun b cs _=>by obtain⟨v,w'',hR,hs⟩:=h b cs;exact⟨v,w'',hR,stepsIn_wide.2 hs⟩⟩
  | _=>exact fun h=>h.elim
 | halt s w'=>
  cases s with
  | panic v=>exact fun h=>h
  | _=>exact fun h=>h.elim
def gP(ops:Array Oper):Bool:=ops.toList.all fun o=>match o.op with | .defer _=>false | _=>true
theorem JR(h:gP ops=true){i:Nat}{o:Oper}(ho:ops[i]?=some o):∀c,o.op≠.defer c:=by
 intro c e;have hm:o∈ops.toList:=by rw[Array.mem_toList_iff];exact Array.mem_of_getElem? ho
 have:=LK.1 h o hm;rw[e] at this
 cases this
theorem kS(hd:gP ops=true)(hno:¬LetsOut Q):∀(fuel:Nat) (listed:Array Bool) (a:Act) (w:Ba),wpAny P md ops Q fuel listed a w->wpAnyIn (Fence.wide.inRound l) n P md ops Q fuel listed a w
 | 0,_,_,_,h=>h
 | fuel+1,listed,a,w,h=>by
  refine⟨h.1,fun i hi=>?_⟩;have h2:=h.2 i hi;unfold wpOp at h2;unfold wpOpIn
  cases ho:ops[i]? with
  | none=>rw[ho] at h2;exact kS hd hno fuel _ _ _ h2
  | some o=>
   rw[ho] at h2;dsimp only at h2 ⊢
   by_cases hw:Region.wanted o (yielded ops a.tmps)=true
   . rw[Lh hw] at h2 ⊢
     rcases h2 with h2 | h2
     . exact op_round (JR hd ho) (RM (fun a' w' hk=>kS hd hno fuel _ _ _ hk) h2)
     . exact absurd h2.2 hno
   . rw[Lg hw] at h2 ⊢
     exact⟨fun _ _=>trivial,kS hd hno fuel _ _ _ h2⟩
theorem any_still{n:Nat}{w:Ba}{a:Act}{xs:List Oper}(hB:Region.lexTailB .any xs.toArray n=true)
  (h:wpStill P xs.toArray w (fun a'=>wpList P xs.toArray Q (xs.drop n) a' w) (xs.take n) a):wpAny P .any xs.toArray Q xs.toArray.size (Array.replicate xs.toArray.size false) a w:=by
 unfold Region.lexTailB at hB;simp only[Bool.and_eq_true,decide_eq_true_eq] at hB;have hn:n<xs.length:=by simpa using hB.1.1.1.2
 have e1:(xs.take n).length=n:=by rw[Rk];omega
 have e2:(xs.drop n).length=xs.toArray.size-n:=by rw[List.length_drop];rfl
 have hI:HeadInv .any xs.toArray n (Array.replicate xs.toArray.size false):=
  ⟨by simp,fun _ _ _ hl=>(by rw[Rp] at hl;exact Bool.noConfusion hl),fun _ _ ht=>getD_in (by simpa using ht) (Rp _ _)⟩
 have H:=wpAnyL_lex (md:=.any) (g:=xs.toArray.size-n) hB.1.1.1.1 hB.1.1.2 hB.1.2 hB.1.1.1.2 (xs.take n) 0 _ a
  (fun j hj=>by
   rw[e1] at hj
   simp[hj]) (by simpa using e1) hI (by rw[e1];exact hB.2) h
 have R:=wpAny_of_head (Q':=Q) (g:=xs.toArray.size-n) (fun listed a' hL=>by
  have T:=wpAny_of_seq (md:=.any) (Q':=Q) (xs.drop n) n listed a' w (fun j=>by simp[List.getElem?_drop]) (by rw[e2];exact hL.1) hL.2
  rwa[e2] at T) _ _ _ H
 rw[e1] at R;have e3:n+(xs.toArray.size-n)=xs.toArray.size:=by have:xs.toArray.size=xs.length:=rfl;omega
 rwa[e3] at R
theorem vt{id k:Nat}{a:Act}{w:Ba}{xs:List Oper}(n:Nat)(hm:P.follows .mixedOrders=true)(hd:gP xs.toArray=true)(hB:Region.lexTailB .any xs.toArray n=true)(hno:¬LetsOut Q)
  (h:wpStill P xs.toArray w.drew (fun a'=>wpList P xs.toArray Q (xs.drop n) a' w.drew) (xs.take n) a):(Code.region id xs.toArray true).wpIn (Fence.wide.inRound l) k P Q a w:=
 wpIn_region_any hm (kS hd hno _ _ _ _ (any_still hB h))
end
end
section
open Go.RowKit
section
variable {P:Program} {ops:Array Oper} {md:Region.Mode}
def Qf:Exit->Act->Ba->Prop:=fun _ _ _=>False
theorem qf_lets:¬LetsOut Qf:=fun ⟨_,_,h⟩=>h
theorem wp_of_qf{o:Oper}{a:Act}{w:Ba}{K:Act->Ba->Prop}{Q:Exit->Act->Ba->Prop}(hh:o.wp P a w K Qf):o.wp P a w K Q:=by
 unfold Oper.wp at *
 generalize (execOp a.eval o).run P w=r at *
 cases r with
 | ok n w'=>
  cases n<;>simp only[Oper.upon] at hh⊢<;>
   first
    | exact hh
    | exact Calls.mono hh (fun e w'' he=>by
      cases e with
      | returned v=>exact he
      | panicked c=>exact False.elim he
      | outgrown=>exact absurd he qf_lets)
 | halt x w'=>cases x<;>simp only[Oper.upon] at hh ⊢<;>exact False.elim hh
def J5(P:Program)(ops:Array Oper)(i:Nat)(K:Act->Ba->Prop)(a:Act)(w:Ba):Prop:=
 ∃o,ops[i]?=some o/\if Region.wanted o (yielded ops a.tmps)=true then o.wp P a w K Qf else K (a.put o.dst undef) w
theorem YQ{i:Nat}{K K':Act->Ba->Prop}{a:Act}{w:Ba}(h:∀a w,K a w->K' a w)(hh:J5 P ops i K a w):J5 P ops i K' a w:=by
 obtain⟨o,ho,hh⟩:=hh;refine⟨o,ho,?_⟩
 split at hh
 . rename_i hw;rw[Lh hw];exact RM h hh
 . rename_i hw;rw[Lg hw];exact h _ _ hh
def waitB(md:Region.Mode)(ops:Array Oper):Nat->Nat->Nat->Bool
 | 0,_,_=>false
 | f+1,j,i=>match ops[j]? with
  | some o=>o.after.any fun e=>Region.binds md e&&(e.on==i||waitB md ops f e.on i)
  | none=>false
def XZ(md:Region.Mode)(ops:Array Oper)(F:List Nat)(j:Nat):Bool:=F.all fun i=>waitB md ops ops.size j i
def Closed(md:Region.Mode)(ops:Array Oper)(listed:Array Bool):Prop:=∀(j:Nat) (oj:Oper),ops[j]?=some oj->listed.getD j false=true->∀e∈oj.after,Region.binds md e=true->listed.getD e.on false=true
theorem Closed.set{listed:Array Bool}(h:Closed md ops listed){i:Nat}(hi:i∈Region.ready md ops listed):Closed md ops (listed.setIfInBounds i true):=by
 obtain⟨_,oi,hoi,hall⟩:=PV.1 hi;intro j oj hj hl e he hb
 by_cases hij:i=j
 . subst hij
   have:oj=oi:=NI (hj.symm.trans hoi);subst this;exact getD_set_true (hall e he hb)
 . rw[getD_set_ne false hij] at hl
   exact getD_set_true (h j oj hj hl e he hb)
theorem wu{listed:Array Bool}(h:Closed md ops listed):∀(f j i:Nat),(∀oj,ops[j]?=some oj->∀e∈oj.after,Region.binds md e=true->listed.getD e.on false=true)->waitB md ops f j i=true->listed.getD i false=true
 | 0,_,_,_,hr=>by cases hr
 | f+1,j,i,hj,hr=>by
  unfold waitB at hr
  cases ho:ops[j]? with
  | none=>rw[ho] at hr;cases hr
  | some o=>
   rw[ho] at hr;obtain⟨e,he,hb⟩:=Array.any_eq_true'.1 hr;simp only[Bool.and_eq_true,Bool.or_eq_true,beq_iff_eq] at hb;have hl:=hj o ho e he hb.1;rcases hb.2 with h1 | h1
   . rw[<-h1];exact hl
   . exact wu h f e.on i (fun oj hoj e' he' hb'=>h e.on oj hoj hl e' he' hb') h1
theorem XY{listed:Array Bool}(h:Closed md ops listed){F:List Nat}{j i:Nat}(hj:j∈Region.ready md ops listed)(hs:XZ md ops F j=true)(hi:i∈F):listed.getD i false=true:=by
 obtain⟨_,oj,hoj,hall⟩:=PV.1 hj;refine wu h ops.size j i (fun o ho e he hb=>?_) (LK.1 hs i hi);have:oj=o:=NI (hoj.symm.trans ho);subst this;exact hall e he hb
def gY(P:Program)(md:Region.Mode)(ops:Array Oper)(F:List Nat)(Q:Act->Ba->Prop):Nat->Array Bool->(Ba->Prop)->Act->Ba->Prop
 | 0,listed,_,a,w=>Region.ready md ops listed=[]/\Q a w
 | fuel+1,listed,Kp,a,w=>(Region.ready md ops listed=[]->Q a w) /\
   ∀i∈Region.ready md ops listed,J5 P ops i (fun a' w'=>∃Kp':Ba->Prop,((∀W,Kp' W->Kp W)\/XZ md ops F i=true)/\Kp' w'/\gY P md ops F Q fuel (listed.setIfInBounds i true) Kp' a' w') a w
theorem vo{F:List Nat}{Q:Exit->Act->Ba->Prop}{Qn:Act->Ba->Prop}(hQ:∀a w,Qn a w->Q .normal a w):∀(fuel:Nat) (listed:Array Bool) (Kp:Ba->Prop) (a:Act) (w:Ba),
  gY P md ops F Qn fuel listed Kp a w->wpAny P md ops Q fuel listed a w
 | 0,_,_,_,_,h=>⟨h.1,hQ _ _ h.2⟩
 | fuel+1,listed,Kp,a,w,h=>by
  refine⟨fun h0=>hQ _ _ (h.1 h0),fun i hi=>?_⟩;obtain⟨o,ho,h2⟩:=h.2 i hi;unfold wpOp;rw[ho];dsimp only
  split at h2
  . rename_i hw
    rw[Lh hw];exact .inl (RM (fun a' w' ⟨Kp',_,_,h3⟩=>vo hQ fuel _ Kp' a' w' h3) (wp_of_qf h2))
  . rename_i hw
    rw[Lg hw];obtain⟨Kp',_,_,h3⟩:=h2;exact vo hQ fuel _ Kp' _ _ h3
def FloatTo(P:Program)(ops:Array Oper)(Kp:Ba->Prop)(o:Oper)(a a1:Act):Prop:=∀W,Kp W->∃v,YieldsAt P ops W o v a/\a.put o.dst v=a1
theorem FloatTo.less{Kp Kp':Ba->Prop}{o:Oper}{a a1:Act}(h:FloatTo P ops Kp o a a1)(hs:∀W,Kp' W->Kp W):FloatTo P ops Kp' o a a1:=fun W hW=>h W (hs W hW)
theorem uD(a:Act)(d:Option Tmp)(v:Value)(x:Deferred):({ a.put d v with defers:=x::(a.put d v).defers }:Act)=({ a with defers:=x::a.defers }:Act).put d v:=by
 cases d<;>rfl
theorem kpOp_put{j:Nat}{oi oj:Oper}{Kp:Ba->Prop}(hj:ops[j]?=some oj)(hap:oi.apart ops oj=true)
  (hsi:∀cs b,oi.op≠.select cs b) (hsj:∀cs b,oj.op≠.select cs b) {K:Act->Ba->Prop} {a a1:Act} {w:Ba}
  (hy:FloatTo P ops Kp oi a a1) (hk:Kp w) (h:J5 P ops j K a1 w) :
  J5 P ops j (fun a' w'=>∃a1',FloatTo P ops Kp oi a' a1'/\K a1' w') a w:=by
 obtain⟨h1,h2,h3⟩:=Oper.apart_spec hap;obtain⟨v,hv,rfl⟩:=hy w hk
 have keep:∀u,FloatTo P ops Kp oi (a.put oj.dst u) ((a.put oi.dst v).put oj.dst u):=fun u W hW=>by
  obtain⟨v',hy',e⟩:=hy W hW;exact⟨v',hy'.of_same (execOp_put oi hsi a oj.dst u h3) (wanted_put oi a oj.dst u h3),by rw[<-Act.put_comm a v' u h2,e]⟩
 have keepD:∀(x:Deferred) u,FloatTo P ops Kp oi (({ a with defers:=x::a.defers }:Act).put oj.dst u) ((({ a.put oi.dst v with defers:=x::(a.put oi.dst v).defers }:Act)).put oj.dst u):=fun x u W hW=>by
  obtain⟨v',hy',e⟩:=keep u W hW;rw[<-uD a oj.dst u x,<-uD (a.put oi.dst v) oj.dst u x];refine⟨v',hy'.of_same rfl rfl,?_⟩;rw[<-uD,e]
 obtain⟨o,ho,h⟩:=h;have:oj=o:=NI (hj.symm.trans ho);subst this;refine⟨oj,hj,?_⟩;rw[wanted_put oj a oi.dst v h1] at h
 split
 . rename_i hw
   rw[Lh hw] at h;unfold Oper.wp at *;rw[execOp_put oj hsj a oi.dst v h1] at h
   generalize (execOp a.eval oj).run P w=r at *
   cases r with
   | ok n w'=>
    cases n<;>simp only[Oper.upon] at h ⊢
    case value u=>exact⟨_,keep u,h⟩
    case skip=>exact⟨_,keep undef,h⟩
    case defer d=>exact⟨_,keepD d undef,h⟩
    case enter f args=>
     exact Calls.mono h (fun e w'' he=>by
       cases e with
       | returned u=>exact⟨_,keep u,he⟩
       | panicked c=>exact False.elim he
       | outgrown=>exact absurd he qf_lets)
    case row row args=>exact Rows.mono h (fun u w'' he=>⟨_,keep u,he⟩)
   | halt x w'=>cases x<;>simp only[Oper.upon] at h ⊢<;>exact h
 . rename_i hw
   rw[Lg hw] at h;exact⟨_,keep undef,h⟩
theorem wl{i:Nat}{o:Oper}{v:Value}{a:Act}{w:Ba}(hi:ops[i]?=some o)(hy:YieldsAt P ops w o v a){K:Act->Ba->Prop}(h:K (a.put o.dst v) w):J5 P ops i K a w:=by
 refine⟨o,hi,?_⟩;rcases hy with ⟨hw,hv | ⟨hv,rfl⟩ | ⟨f,args,hv,hc⟩⟩ | ⟨hw,rfl⟩
 . rw[Lh hw];unfold Oper.wp;rw[hv];exact h
 . rw[Lh hw];unfold Oper.wp;rw[hv];exact h
 . rw[Lh hw];unfold Oper.wp;rw[hv]
   exact hc.mono fun e w'' ⟨he,hw2⟩=>by subst he;subst hw2;exact h
 . rw[Lg (by rw[hw];decide)];exact h
theorem Xe{F:List Nat}{Q:Act->Ba->Prop}{i:Nat}{oi:Oper}(hF:i∈F)(hi:ops[i]?=some oi)(hsel:∀(j:Nat) (o:Oper) cs b,ops[j]?=some o->o.op≠.select cs b) :
  ∀(fuel:Nat) (listed:Array Bool) (Kp:Ba->Prop) (a a1:Act) (w:Ba),
   (∀j oj,ops[j]?=some oj->j≠i->listed.getD j true=false->(∀e∈oj.after,Region.binds md e=true->e.on≠i)->oi.apart ops oj=true) ->
   Closed md ops listed->i∈Region.ready md ops listed->FloatTo P ops Kp oi a a1->Kp w ->
   gY P md ops F Q fuel (listed.setIfInBounds i true) Kp a1 w->gY P md ops F Q (fuel+1) listed Kp a w:=by
 intro fuel
 induction fuel with
 | zero=>
  intro listed Kp a a1 w _ _ hr hy hk H;refine⟨fun h=>(by rw[h] at hr;cases hr),fun j hj=>?_⟩
  by_cases hji:j=i
  . subst hji
    obtain⟨v,hv,rfl⟩:=hy w hk;exact wl hi hv ⟨Kp,.inl fun _ h=>h,hk,H⟩
  . have:=ready_mono hj hji
    rw[H.1] at this
    cases this
 | succ fuel ih=>
  intro listed Kp a a1 w hfree hcl hr hy hk H;refine⟨fun h=>(by rw[h] at hr;cases hr),fun j hj=>?_⟩
  by_cases hji:j=i
  . subst hji
    obtain⟨v,hv,rfl⟩:=hy w hk;exact wl hi hv ⟨Kp,.inl fun _ h=>h,hk,H⟩
  . have h1:=H.2 j (ready_mono hj hji)
    obtain⟨hjun,oj,hoj,hall⟩:=PV.1 hj
    have hnot:∀e∈oj.after,Region.binds md e=true->e.on≠i:=fun e he hb heq=>by
     have h1:=hall e he hb;have h0:=(PV.1 hr).1;rw[heq] at h1;rcases RN i listed.size with h' | h'
     . simp[h'] at h0 h1;rw[h0] at h1;cases h1
     . simp[Array.getElem?_eq_none h'] at h1
    have h2:=kpOp_put hoj (hfree j oj hoj hji hjun hnot) (fun cs b=>hsel i oi cs b hi) (fun cs b=>hsel j oj cs b hoj) hy hk h1
    have hfree':∀k ok,ops[k]?=some ok->k≠i->(listed.setIfInBounds j true).getD k true=false ->
      (∀e∈ok.after,Region.binds md e=true->e.on≠i)->oi.apart ops ok=true:=fun k ok hk hki hun hno=>by
     refine hfree k ok hk hki ?_ hno
     by_cases hjk:j=k
     . subst hjk;exact hjun
     . rw[getD_set_ne true hjk] at hun;exact hun
    have hns:XZ md ops F j=true->False:=fun hse=>by
     have h1:=XY hcl hj hse hF;have h0:=(PV.1 hr).1;rcases RN i listed.size with h' | h'
     . simp[h'] at h0 h1;rw[h0] at h1;cases h1
     . simp[Array.getElem?_eq_none h'] at h1
    refine YQ (fun a' w' ⟨a1',hf,Kp',hsub,hk',h3⟩=>⟨Kp',hsub,hk',ih (listed.setIfInBounds j true) Kp' a' a1' w' hfree' (hcl.set hj) (ready_mono hr (PR hji)) (hf.less (hsub.resolve_right hns)) hk' ?_⟩) h2;rw[Array.setIfInBounds_comm _ _ hji];exact h3
def kF(P:Program)(md:Region.Mode)(ops:Array Oper)(F:List Nat)(Q:Act->Ba->Prop):List (Nat×Bool)->(Ba->Prop)->Act->Ba->Prop
 | [],_,a,w=>Q a w
 | (i,true)::r,Kp,a,w=>∃o a1,ops[i]?=some o/\FloatTo P ops Kp o a a1/\kF P md ops F Q r Kp a1 w
 | (i,false)::r,Kp,a,w=>J5 P ops i (fun a' w'=>∃Kp':Ba->Prop,((∀W,Kp' W->Kp W)\/XZ md ops F i=true)/\Kp' w'/\kF P md ops F Q r Kp' a' w') a w
def JT(md:Region.Mode)(ops:Array Oper)(F:List Nat):List (Nat×Bool)->Array Bool->Bool
 | [],listed=>(Region.ready md ops listed).isEmpty
 | (i,true)::r,listed=>F.contains i&&(Region.ready md ops listed).contains i&&Region.free md ops listed i&&JT md ops F r (listed.setIfInBounds i true)
 | (i,false)::r,listed=>decide (Region.ready md ops listed=[i])&&JT md ops F r (listed.setIfInBounds i true)
theorem vp{F:List Nat}{Q:Act->Ba->Prop}(hs:Region.noSelect ops=true):∀(l:List (Nat×Bool)) (listed:Array Bool) (Kp:Ba->Prop) (a:Act) (w:Ba),
  JT md ops F l listed=true->Closed md ops listed->Kp w->kF P md ops F Q l Kp a w->gY P md ops F Q l.length listed Kp a w
 | [],_,_,_,_,hB,_,_,h=>⟨by simpa[JT] using hB,h⟩
 | (i,true)::l,listed,Kp,a,w,hB,hcl,hk,h=>by
  simp only[JT,Bool.and_eq_true] at hB;obtain⟨o,a1,ho,hf,h⟩:=h;have hr:i∈Region.ready md ops listed:=by simpa using hB.1.1.2
  exact Xe (by simpa using hB.1.1.1) ho (Region.noSelect_spec hs) l.length listed Kp a a1 w (Region.free_spec ho hB.1.2) hcl hr hf hk (vp hs l _ Kp a1 w hB.2 (hcl.set hr) hk h)
 | (i,false)::l,listed,Kp,a,w,hB,hcl,hk,h=>by
  simp only[JT,Bool.and_eq_true,decide_eq_true_eq] at hB;refine⟨fun h1=>(by rw[hB.1] at h1;cases h1),fun j hj=>?_⟩;rw[hB.1] at hj;have hji:j=i:=by simpa using hj
  subst hji;exact YQ (fun a' w' ⟨Kp',hsub,hk',h3⟩=>⟨Kp',hsub,hk',vp hs l _ Kp' a' w' hB.2 (hcl.set (by rw[hB.1];simp)) hk' h3⟩) h
def ud(l:List (Nat×Bool)):List Nat:=l.filterMap fun x=>if x.2 then some x.1 else none
theorem Q2:Closed md ops (Array.replicate ops.size false):=fun j _ _ h=>by rw[Rp] at h;cases h
def Xy(md:Region.Mode)(ops:Array Oper)(l:List (Nat×Bool)):Bool:=Region.noSelect ops&&JT md ops (ud l) l (Array.replicate ops.size false)&&l.length==ops.size
theorem any_mix{Q:Exit->Act->Ba->Prop}{a:Act}{w:Ba}{xs:List Oper}(l:List (Nat×Bool))(Kp:Ba->Prop)(hB:Xy .any xs.toArray l=true)
  (h0:Kp w) (h:kF P .any xs.toArray (ud l) (fun a' w'=>Q .normal a' w') l Kp a w):wpAny P .any xs.toArray Q xs.toArray.size (Array.replicate xs.toArray.size false) a w:=by
 unfold Xy at hB;simp only[Bool.and_eq_true,beq_iff_eq] at hB;have:=vp (md:=.any) hB.1.1 l _ Kp a w hB.1.2 Q2 h0 h;rw[hB.2] at this;exact vo (fun _ _ h=>h) _ _ _ _ _ this
theorem zz{id:Nat}{Q:Exit->Act->Ba->Prop}{a:Act}{w:Ba}{xs:List Oper}(l:List (Nat×Bool))(Kp:Ba->Prop)(hm:P.follows .mixedOrders=true)(hB:Xy .any xs.toArray l=true)
  (h0:Kp w.drew) (h:kF P .any xs.toArray (ud l) (fun a' w'=>Q .normal a' w') l Kp a w.drew):(Code.region id xs.toArray true).wp P Q a w:=
 wp_region_any hm (any_mix l Kp hB h0 h)
theorem xJ{id k l0:Nat}{Q:Exit->Act->Ba->Prop}{a:Act}{w:Ba}{xs:List Oper}(l:List (Nat×Bool))(Kp:Ba->Prop)(hm:P.follows .mixedOrders=true)(hd:gP xs.toArray=true)(hB:Xy .any xs.toArray l=true)(hno:¬LetsOut Q)
  (h0:Kp w.drew) (h:kF P .any xs.toArray (ud l) (fun a' w'=>Q .normal a' w') l Kp a w.drew):(Code.region id xs.toArray true).wpIn (Fence.wide.inRound l0) k P Q a w:=
 wpIn_region_any hm (kS hd hno _ _ _ _ (any_mix l Kp hB h0 h))
theorem zG{F:List Nat}{Q:Act->Ba->Prop}{i:Nat}{r:List (Nat×Bool)}{Kp:Ba->Prop}{a a1:Act}{w:Ba}{o:Oper}(ho:ops[i]?=some o)
  (h:∀(K:Act->Prop),K a1->∀W,Kp W->if Region.wanted o (yielded ops a.tmps)=true then o.still P a W K else K (a.put o.dst undef))
  (k:kF P md ops F Q r Kp a1 w):kF P md ops F Q ((i,true)::r) Kp a w:=by
 refine⟨o,a1,ho,fun W hW=>?_,k⟩;have h2:=h (fun x=>x=a1) rfl W hW;have h3:stOp P ops W i (fun x=>x=a1) a:=by unfold stOp;simp only[ho];exact h2
 obtain⟨v,hv,he⟩:=yieldsAt_of_stOp ho h3;exact⟨v,hv,he⟩
theorem zE{F:List Nat}{Q:Act->Ba->Prop}{i:Nat}{r:List (Nat×Bool)}{Kp:Ba->Prop}{a:Act}{w:Ba}{o:Oper}(ho:ops[i]?=some o)
  (h:∀K:Act->Ba->Prop,(∀a' w',Kp w'->kF P md ops F Q r Kp a' w'->K a' w')->if Region.wanted o (yielded ops a.tmps)=true then o.wp P a w K Qf else K (a.put o.dst undef) w):kF P md ops F Q ((i,false)::r) Kp a w:=
 ⟨o,ho,h _ fun _ _ hk h3=>⟨Kp,.inl fun _ h=>h,hk,h3⟩⟩
theorem zQ{F:List Nat}{Q:Act->Ba->Prop}{Kp:Ba->Prop}{a:Act}{w:Ba}(h:Q a w):kF P md ops F Q [] Kp a w:=h
theorem xa{F:List Nat}{Q:Act->Ba->Prop}{i:Nat}{r:List (Nat×Bool)}{Kp:Ba->Prop}{a:Act}{w:Ba}{o:Oper}(ho:ops[i]?=some o)(hs:XZ md ops F i=true)
  (h:∀K:Act->Ba->Prop,(∀(Kp':Ba->Prop) a' w',Kp' w'->kF P md ops F Q r Kp' a' w'->K a' w')->if Region.wanted o (yielded ops a.tmps)=true then o.wp P a w K Qf else K (a.put o.dst undef) w):kF P md ops F Q ((i,false)::r) Kp a w:=
 ⟨o,ho,h _ fun Kp' _ _ hk h2=>⟨Kp',.inr hs,hk,h2⟩⟩
end
end
section
open Go.RowKit
def yd(a:Ad):Nat->Int->Nat
 | 0,_=>1
 | k+1,s=>((a.at_ s).map fun m=>yd a k m.to).sum
def yW(L x:Nat):Nat:=min x (L+1)
def cl(a:Ad)(L k s:Nat):List Int:=(List.range s).map fun (j:Nat)=>((yW L (yd a k (j:Int)):Nat):Int)
theorem jg(a:Ad)(L k s:Nat):(cl a L k s).length=s:=by unfold cl;simp
theorem cl_succ(a:Ad)(L k s:Nat):cl a L k (s+1)=cl a L k s++[((yW L (yd a k (s:Int)):Nat):Int)]:=by
 unfold cl;rw[R8,LI];rfl
theorem ZZ(a:Ad)(L k s j:Nat)(h:j<(cl a L k s).length):(cl a L k s)[j]=((yW L (yd a k (j:Int)):Nat):Int):=by
 simp[cl]
def kG(a:Ad)(k:Nat)(M:List Mv)(j:Nat):Nat:=((M.take j).map fun m=>yd a k m.to).sum
theorem Jk(a:Ad)(k:Nat)(M:List Mv):kG a k M 0=0:=by unfold kG;rw[LS];rfl
theorem Jl(a:Ad)(k:Nat)(M:List Mv){j:Nat}(h:j<M.length):kG a k M (j+1)=kG a k M j+yd a k M[j].to:=by
 unfold kG;rw[Lu h,LI,R7];simp
theorem sumTo_end(a:Ad)(k:Nat){s:Nat}(h:s<a.sts.length):kG a k a.sts[s] (a.sts[s].length)=yd a (k+1) (s:Int):=by
 unfold kG;rw[yd,LG,show a.at_ (s:Int)=a.sts[s] by unfold Ad.at_;rw[Ls,Lj,Lm h];rfl]
theorem uz(L x:Nat):yW L x<=L+1:=Nat.min_le_right _ _
theorem sat_add(L x y:Nat):min (yW L x+yW L y) (L+1)=yW L (x+y):=by unfold yW;omega
theorem X0(L:Nat):yW L 0=0:=by unfold yW;omega
theorem sat_one(L:Nat):yW L 1=1:=by unfold yW;omega
theorem sat_gt(L x:Nat):(L<yW L x)↔L<x:=by unfold yW;omega
theorem sat_eq{L x:Nat}(h:x<=L):yW L x=x:=by unfold yW;omega
theorem sat_mul(L c x:Nat)(hc:1<=c):(L<c*yW L x)↔L<c*x:=by
 unfold yW
 by_cases h:x<=L+1
 . rw[R6 h]
 . rw[Nat.min_eq_right (by omega)]
   have h1:1*(L+1)<=c*(L+1):=PK _ hc;have h2:c*(L+1)<=c*x:=Nat.mul_le_mul_left _ (by omega);constructor<;>intro _<;>omega
def zJ(a:Ad):Nat->Int->List (List Rd)
 | 0,_=>[[]]
 | k+1,s=>(a.at_ s).flatMap fun m=>(zJ a k m.to).map (m.r::·)
theorem yF(a:Ad):∀(k:Nat) (s:Int),(zJ a k s).length=yd a k s
 | 0,_=>rfl
 | k+1,s=>by
  rw[zJ,yd,List.length_flatMap]
  congr 1
  exact Pt fun m _=>by rw[LR,yF a k m.to]
theorem xy(a:Ad):∀(k:Nat) (s:Int),∀w∈zJ a k s,w.length=k
 | 0,_,w,h=>by simp[zJ] at h;subst h;rfl
 | k+1,s,w,h=>by
  rw[zJ] at h;obtain⟨m,_,hm⟩:=NL.1 h;obtain⟨w',hw,rfl⟩:=LX.1 hm;rw[LE,xy a k m.to w' hw]
theorem at_mem{a:Ad}{s:Int}{m:Mv}(h:m∈a.at_ s):m∈a.mvs:=by
 unfold Ad.at_ at h;unfold Ad.mvs;rw[Lj] at h
 cases hc:a.sts[s.toNat]? with
 | none=>rw[hc] at h;cases h
 | some l=>rw[hc] at h;exact NA.2 ⟨l,Rr hc,h⟩
theorem kV(a:Ad):∀(k:Nat) (s:Int),∀w∈zJ a k s,∀r∈w,∃m∈a.mvs,m.r=r
 | 0,_,w,h,r,hr=>by simp[zJ] at h;subst h;cases hr
 | k+1,s,w,h,r,hr=>by
  rw[zJ] at h;obtain⟨m,hma,hm⟩:=NL.1 h;obtain⟨w',hw,rfl⟩:=LX.1 hm;rcases L5.1 hr with rfl | hr
  . exact⟨m,at_mem hma,rfl⟩
  . exact kV a k m.to w' hw r hr
def yc(r:Rd)(p:Nat)(now:List Int)(q:Nat):Int:=if q<now.length/\(r.h p).toNat.testBit q=true then now.getD q 0 else -1
def ql(r:Rd)(k p:Nat)(now:List Int):Vw:=⟨p,k,0,yc r p now 0,yc r p now 1,yc r p now 2,yc r p now 3,yc r p now 4⟩
def yP(p:Nat)(i:Int):Vw:=⟨p,0,i,-1,-1,-1,-1,-1⟩
def qg(vs:List Vw)(v:Vw):List Vw×Int:=if v∈vs then (vs,kg vs v) else (vs++[v],vs.length)
theorem Qi{vs:List Vw}{v:Vw}(h:v∈vs):qg vs v=(vs,kg vs v):=Lh h
theorem putW_no{vs:List Vw}{v:Vw}(h:v∉vs):qg vs v=(vs++[v],(vs.length:Int)):=Lg h
theorem putW_len(vs:List Vw)(v:Vw):(qg vs v).1.length<=vs.length+1:=by
 unfold qg;split<;>simp
def yl(f:Nat->Vw)(vs:List Vw):Nat->List Vw×List Int
 | 0=>(vs,[])
 | p+1=>((qg (yl f vs p).1 (f p)).1,(yl f vs p).2++[(qg (yl f vs p).1 (f p)).2])
theorem xR(f:Nat->Vw)(vs:List Vw):∀p,(yl f vs p).2.length=p
 | 0=>rfl
 | p+1=>by rw[yl,Lv,xR f vs p];rfl
theorem kI(f:Nat->Vw)(vs:List Vw):∀p,(yl f vs p).1.length<=vs.length+p
 | 0=>by simp[yl]
 | p+1=>by
  have h:=kI f vs p;have h2:=putW_len (yl f vs p).1 (f p);rw[yl];dsimp only;omega
def zA(vs:List Vw)(n:Nat)(inp:List Int)(word:List Rd):Nat->List Vw×List (List Int)
 | 0=>((yl (fun p=>yP p (inp.getD p 0)) vs n).1,[(yl (fun p=>yP p (inp.getD p 0)) vs n).2])
 | j+1=>((yl (fun p=>ql (word.getD j default) (j+1) p ((zA vs n inp word j).2.getD j [])) (zA vs n inp word j).1 n).1,
   (zA vs n inp word j).2++[(yl (fun p=>ql (word.getD j default) (j+1) p ((zA vs n inp word j).2.getD j [])) (zA vs n inp word j).1 n).2])
theorem yy(vs:List Vw)(n:Nat)(inp:List Int)(word:List Rd):∀j,(zA vs n inp word j).2.length=j+1
 | 0=>rfl
 | j+1=>by rw[zA,Lv,yy vs n inp word j];rfl
theorem kJ(vs:List Vw)(n:Nat)(inp:List Int)(word:List Rd):∀j,(zA vs n inp word j).1.length<=vs.length+(j+1)*n
 | 0=>by rw[zA];have:=kI (fun p=>yP p (inp.getD p 0)) vs n;simpa using this
 | j+1=>by
  have h:=kJ vs n inp word j;have h2:=kI (fun p=>ql (word.getD j default) (j+1) p ((zA vs n inp word j).2.getD j [])) (zA vs n inp word j).1 n;rw[zA,Rb (j+1) 1 n];dsimp only;omega
theorem qS(vs:List Vw)(n:Nat)(inp:List Int)(word:List Rd):∀j,∀l∈(zA vs n inp word j).2,l.length=n
 | 0,l,h=>by rw[zA] at h;simp at h;subst h;exact xR _ _ _
 | j+1,l,h=>by
  rw[zA] at h;rcases Nd.1 h with h | h
  . exact qS vs n inp word j l h
  . simp at h;subst h;exact xR _ _ _
def zx(p:Pb):List (Nat×List Rd):=(List.range p.t.cases.length).flatMap fun i=>(zJ p.a p.k.toNat 0).map fun w=>(i,w)
def yt(p:Pb)(i:Nat):List Int:=(p.t.cases.getD i default).inp
def zC(p:Pb)(l:List (Nat×List Rd)):List Vw×List Exn:=
 l.foldl (fun s x=>((zA s.1 p.t.n.toNat (yt p x.1) x.2 x.2.length).1,s.2++[⟨x.1,x.2,(zA s.1 p.t.n.toNat (yt p x.1) x.2 x.2.length).2⟩])) ([],[])
theorem jn(p:Pb):zC p []=([],[]):=rfl
theorem qr(p:Pb)(l:List (Nat×List Rd))(x:Nat×List Rd):zC p (l++[x]) =
  ((zA (zC p l).1 p.t.n.toNat (yt p x.1) x.2 x.2.length).1,(zC p l).2++[⟨x.1,x.2,(zA (zC p l).1 p.t.n.toNat (yt p x.1) x.2 x.2.length).2⟩]):=by
 unfold zC;rw[N1];rfl
def qH:Sy:=⟨⟨⟨0,0,0,[]⟩,⟨0,[]⟩,0⟩,0,[],[]⟩
def kD(p:Pb):Sy:=⟨p,p.t.n,(zC p (zx p)).1,(zC p (zx p)).2⟩
end
section
open Go.RowKit
def RowX{α:Type}(C:Ct α)(S:Nat->Prop)(w:Ba)(g:Nat)(xs:List α):Prop:=
 ∃arr,w.heap[g]?=some (.cells arr C.K.e (0,0))/\∀(i:Nat) (hi:i<xs.length),∃cs,C.lies (fun k=>S k/\k≠g) w cs xs[i]/\∀j u,cs[j]?=some u->arr[i*C.K.size+j]?=some u
section
variable {α:Type} {C:Ct α} {S S':Nat->Prop} {w w':Ba} {g:Nat} {xs:List α}
theorem RowX.keep(ok:CtOk C)(h:RowX C S w g xs)(hk:KeepB (fun k=>S k/\k≠g) w w')(hg:w'.heap[g]?=w.heap[g]?):RowX C S w' g xs:=by
 obtain⟨arr,h1,h2⟩:=h;refine⟨arr,hg.trans h1,fun i hi=>?_⟩;obtain⟨cs,h3,h4⟩:=h2 i hi;exact⟨cs,ok.keep h3 hk,h4⟩
theorem RowX.below(ok:CtOk C){B:Nat}(h:RowX C S w g xs)(hb:Below B w w')(hB:w.heap.size<=B):RowX C S w' g xs:=
 h.keep ok ⟨hb.size,fun k _ hk=>hb.block k (by omega)⟩ (hb.block g (by obtain⟨arr,h1,_⟩:=h;have:=zj h1;omega))
theorem RowX.mono(ok:CtOk C)(h:RowX C S w g xs)(hm:∀k,k<w.heap.size->S k->S' k):RowX C S' w g xs:=by
 obtain⟨arr,h1,h2⟩:=h;refine⟨arr,h1,fun i hi=>?_⟩;obtain⟨cs,h3,h4⟩:=h2 i hi;exact⟨cs,ok.mono h3 fun k hk hs=>⟨hm k hk hs.1,hs.2⟩,h4⟩
theorem RowX.lt(h:RowX C S w g xs):g<w.heap.size:=by obtain⟨arr,h1,_⟩:=h;exact zj h1
theorem RowX.other(ok:CtOk C)(h:RowX C S w g xs){b:Nat}(o:Nat)(v:Value)(hb:b≠g)(hS:¬S b):RowX C S (w.setCell ⟨b,o,none⟩ v) g xs:=
 h.keep ok (KeepB.setCell (fun h=>hS h.1) v) (Lf w ⟨b,o,none⟩ v g (fun e=>hb e.symm))
theorem RowX.of_own(ok:CtOk C){base n cap:Nat}{v:Value}{cs:List Value}(h:OwnR C.K w base v n cs)(hv:v=.slice (some ⟨g,0,none⟩) n cap)(_hn:xs.length=n)
  (hc:∀(i:Nat) (hi:i<xs.length),∃d,C.lies (fun k=>S k/\k≠g) w d xs[i]/\∀j u,d[j]?=some u->cs[i*C.K.size+j]?=some u):RowX C S w g xs:=by
 have:=ok;subst hv;rcases h.2 with ⟨e,_⟩ | ⟨g',cap',cur,e,_,hg,_,_,_,ht⟩
 . cases e
 . cases e
   refine⟨cur,hg,fun i hi=>?_⟩;obtain⟨d,h1,h2⟩:=hc i hi;refine⟨d,h1,fun j u hu=>?_⟩;have h3:=h2 j u hu;rw[<-ht,NR] at h3
   split at h3
   . simpa using h3
   . cases h3
end
theorem RowX.set3{S:Nat->Prop}{w:Ba}{g:Nat}{xs:List Cs}(h:RowX cCs S w g xs){i:Nat}(hi:i<xs.length){v0 v1 v2:Value}(hl:cCs.lies (fun k=>S k/\k≠g) w [v0,v1,v2] xs[i]) :
  RowX cCs S (((w.setCell ⟨g,i*3,none⟩ v0).setCell ⟨g,i*3+1,none⟩ v1).setCell ⟨g,i*3+2,none⟩ v2) g xs:=by
 obtain⟨arr,h1,h2⟩:=h;have k1:=Ll w g (i*3) arr _ v0 h1;have k2:=Ll _ g (i*3+1) _ _ v1 k1;have k3:=Ll _ g (i*3+2) _ _ v2 k2
 have hk:KeepB (fun k=>S k/\k≠g) w (((w.setCell ⟨g,i*3,none⟩ v0).setCell ⟨g,i*3+1,none⟩ v1).setCell ⟨g,i*3+2,none⟩ v2):=
  ((KeepB.setCell (a:=⟨g,i*3,none⟩) (fun h=>h.2 rfl) v0).trans (KeepB.setCell (a:=⟨g,i*3+1,none⟩) (fun h=>h.2 rfl) v1)).trans (KeepB.setCell (a:=⟨g,i*3+2,none⟩) (fun h=>h.2 rfl) v2)
 refine⟨_,k3,fun i' hi'=>?_⟩
 by_cases e:i'=i
 . subst e
   obtain⟨cs,h3,h4⟩:=h2 i' hi';have hlen:=xY.len h3
   have hb:i'*3+2<arr.size:=by
    have hc2:2<cs.length:=by rw[hlen];show 2<3;omega
    have:=h4 2 cs[2] (Lm hc2);exact(Ln.1 this).1
   refine⟨[v0,v1,v2],xY.keep hl hk,fun j u hu=>?_⟩;change (((arr.setIfInBounds (i'*3) v0).setIfInBounds (i'*3+1) v1).setIfInBounds (i'*3+2) v2)[i'*3+j]?=some u
   match j,hu with
   | 0,hu=>cases hu;rw[LU (by omega),LU (by omega),Pg,NT (by omega)]
   | 1,hu=>cases hu;rw[LU (by omega),NT (by simp;omega)]
   | 2,hu=>cases hu;rw[NT (by simp;omega)]
 . obtain⟨cs,h3,h4⟩:=h2 i' hi'
   refine⟨cs,xY.keep h3 hk,fun j u hu=>?_⟩;have hj:j<3:=by have:=(Lq.1 hu).1;rw[xY.len h3] at this;exact this
   have h5:=h4 j u hu;change arr[i'*3+j]?=some u at h5;change (((arr.setIfInBounds (i*3) v0).setIfInBounds (i*3+1) v1).setIfInBounds (i*3+2) v2)[i'*3+j]?=some u;rw[LU (by omega),LU (by omega),LU (by omega)];exact h5
theorem RowX.set1{α:Type}{C:Ct α}(ok:CtOk C)(h1c:C.K.size=1){S:Nat->Prop}{w:Ba}{g:Nat}{xs:List α}(h:RowX C S w g xs){i:Nat}(hi:i<xs.length){v0:Value}(hl:C.lies (fun k=>S k/\k≠g) w [v0] xs[i]) :
  RowX C S (w.setCell ⟨g,i,none⟩ v0) g xs:=by
 obtain⟨arr,h1,h2⟩:=h;have k1:=Ll w g i arr _ v0 h1;have hk:KeepB (fun k=>S k/\k≠g) w (w.setCell ⟨g,i,none⟩ v0):=KeepB.setCell (a:=⟨g,i,none⟩) (fun h=>h.2 rfl) v0;refine⟨_,k1,fun i' hi'=>?_⟩;obtain⟨cs,h3,h4⟩:=h2 i' hi';have hlen:=ok.len h3;rw[h1c] at hlen
 by_cases e:i'=i
 . subst e
   have hb:i'<arr.size:=by
    have:=h4 0 cs[0] (Lm (by omega));rw[h1c] at this;have:=(Ln.1 this).1;omega
   refine⟨[v0],ok.keep hl hk,fun j u hu=>?_⟩;have hj:j=0:=by have:=(Lq.1 hu).1;simp at this;omega
   subst hj
   cases hu
   rw[h1c,NW,Pg,NT hb]
 . refine⟨cs,ok.keep h3 hk,fun j u hu=>?_⟩
   have hj:j=0:=by have:=(Lq.1 hu).1;omega
   subst hj;have h5:=h4 0 u hu;rw[h1c,NW,Pg] at h5 ⊢;rw[LU (by omega)];exact h5
theorem RowX.cat{S:Nat->Prop}{w:Ba}{g:Nat}{xs:List Cs}(h:RowX cCs S w g xs):CAt w w.heap.size (some ⟨g,0,none⟩) xs:=fun _=>by
 obtain⟨arr,h1,h2⟩:=h;refine⟨g,0,rfl,zj h1,fun i hi=>?_⟩;obtain⟨cs,⟨A0,c0,A1,c1,A2,c2,rfl,hi0,hl1,hl2⟩,h4⟩:=h2 i hi;refine⟨_,_,_,?_,?_,?_,⟨A0,c0,rfl,hi0.iat⟩,⟨A1,c1,rfl,hl1.lat⟩,⟨A2,c2,rfl,hl2.lat⟩⟩
 . rw[LH];exact zh h1 _ (h4 0 _ rfl)
 . rw[LH];exact zh h1 _ (h4 1 _ rfl)
 . rw[LH];exact zh h1 _ (h4 2 _ rfl)
theorem RowX.sat{S:Nat->Prop}{w:Ba}{g:Nat}{xs:List (List Mv)}(h:RowX cMl S w g xs):SAt w w.heap.size (some ⟨g,0,none⟩) xs:=fun _=>by
 obtain⟨arr,h1,h2⟩:=h;refine⟨g,0,rfl,zj h1,fun i hi=>?_⟩;obtain⟨cs,⟨A0,c0,rfl,hi0⟩,h4⟩:=h2 i hi;refine⟨A0,c0,?_,hi0.mat⟩;have:=h4 0 _ rfl;change arr[i*1+0]?=_ at this;rw[LH];exact zh h1 _ (by rw[<-this];congr 1;omega)
theorem CAt.raw{w:Ba}{B:Nat}{A:Bb}{xs:List Cs}(h:CAt w B A xs)(hB:B<=w.heap.size):∃cs:List Value,cs.length=xs.length*3/\Raw w A xs.length cs/\(∀u∈cs,u.oneCell'=true) /\
  ∀(i:Nat) (hi:i<xs.length),∃d,cCs.lies (fun k=>k<B) w d xs[i]/\∀j u,d[j]?=some u->cs[i*3+j]?=some u:=by
 have key:∀n,n<=xs.length->∃css:List (List Value),css.length=n/\(∀c∈css,c.length=3/\∀u∈c,u.oneCell'=true)/\∀(i:Nat) (hi:i<n) (hx:i<xs.length),∃d,css[i]?=some d/\cCs.lies (fun k=>k<B) w d xs[i] /\
   ∀b off,A=some ⟨b,off,none⟩->∀j u,d[j]?=some u->w.cell? ⟨b,off+(i*3+j),none⟩=some u:=by
  intro n
  induction n with
  | zero=>exact fun _=>⟨[],rfl,by simp,fun i hi=>absurd hi (by omega)⟩
  | succ n ih=>
   intro hn;obtain⟨css,c1,c2,c3⟩:=ih (by omega);obtain⟨b,off,A0,k0,A1,k1,A2,k2,e,hb,x0,x1,x2,i0,l1,l2⟩:=h.row n (by omega);refine⟨css++[[.slice A0 xs[n].inp.length k0,.slice A1 xs[n].out.length k1,.slice A2 xs[n].calm.length k2]],by simp[c1],?_,fun i hi hx=>?_⟩
   . intro c hc
     rcases Nd.1 hc with hc | hc
     . exact c2 c hc
     . simp at hc;subst hc
       exact⟨rfl,fun u hu=>by simp at hu;rcases hu with rfl | rfl | rfl<;>rfl⟩
   . by_cases ei:i<n
     . obtain⟨d,d1,d2⟩:=c3 i ei hx
       exact⟨d,by rw[LP (by omega)];exact d1,d2⟩
     . obtain rfl:i=n:=by omega
       refine⟨_,by rw[LM (by omega),c1,NN];rfl,⟨A0,k0,A1,k1,A2,k2,rfl,IAtS.of_iat i0 hB (fun _ h=>h),LAtS.of_lat l1 hB (fun _ h=>h),LAtS.of_lat l2 hB (fun _ h=>h)⟩,fun b' off' e' j u hu=>?_⟩;rw[e] at e';cases e'
       match j,hu with
       | 0,hu=>cases hu;exact x0
       | 1,hu=>cases hu;exact x1
       | 2,hu=>cases hu;exact x2
 obtain⟨css,c1,c2,c3⟩:=key xs.length (Le _);have hcs:∀c∈css,c.length=3:=fun c hc=>(c2 c hc).1
 have hflat:css.flatten.length=xs.length*3:=by
  rw[List.length_flatten,<-c1];clear c3 c1
  induction css with
  | nil=>rfl
  | cons c css ih=>simp only[List.map_cons,List.sum_cons,List.length_cons];rw[ih (fun d hd=>c2 d (by simp[hd])) (fun d hd=>hcs d (by simp[hd])),hcs c (by simp)];omega
 refine⟨css.flatten,hflat,fun h0=>?_,fun u hu=>?_,fun i hi=>?_⟩
 . obtain⟨b,off,e,hb,_⟩:=h h0
   refine⟨b,off,e,by omega,fun j u hj=>?_⟩;have hjl:j<xs.length*3:=by rw[<-hflat];exact(Lq.1 hj).1
   have hi':j / 3<xs.length:=by omega
   obtain⟨d,d1,_,d3⟩:=c3 (j / 3) hi' hi';have h8:j / 3*3+j % 3=j:=by omega
   have h9:=gR css hcs (j / 3) (by omega) (j % 3) (by omega);rw[h8,hj] at h9;obtain⟨_,d4⟩:=Lq.1 d1;rw[d4] at h9;have:=d3 b off e (j % 3) u h9.symm;rwa[h8] at this
 . obtain⟨c,hc,hu⟩:=NA.1 hu
   exact(c2 c hc).2 u hu
 . obtain⟨d,d1,d2,_⟩:=c3 i hi hi
   refine⟨d,d2,fun j u hu=>?_⟩;have hj:j<3:=by have:=(Lq.1 hu).1;rw[xY.len d2] at this;exact this
   obtain⟨d5,d4⟩:=Lq.1 d1;rw[gR css hcs i d5 j hj,d4];exact hu
theorem SAt.raw{w:Ba}{B:Nat}{A:Bb}{xs:List (List Mv)}(h:SAt w B A xs)(hB:B<=w.heap.size):∃cs:List Value,cs.length=xs.length*1/\Raw w A xs.length cs/\(∀u∈cs,u.oneCell'=true) /\
  ∀(i:Nat) (hi:i<xs.length),∃d,cMl.lies (fun k=>k<B) w d xs[i]/\∀j u,d[j]?=some u->cs[i*1+j]?=some u:=by
 have key:∀n,n<=xs.length->∃cs:List Value,cs.length=n/\(∀u∈cs,u.oneCell'=true)/\∀(i:Nat) (hi:i<n) (hx:i<xs.length),∃A' c,cs[i]?=some (.slice A' xs[i].length c)/\MAtS (fun k=>k<B) w A' xs[i] /\
   ∀b off,A=some ⟨b,off,none⟩->w.cell? ⟨b,off+i,none⟩=some (.slice A' xs[i].length c):=by
  intro n
  induction n with
  | zero=>exact fun _=>⟨[],rfl,by simp,fun i hi=>absurd hi (by omega)⟩
  | succ n ih=>
   intro hn;obtain⟨cs,c1,c2,c3⟩:=ih (by omega);obtain⟨b,off,A',c,e,hb,x0,m0⟩:=h.at_ n (by omega);refine⟨cs++[.slice A' xs[n].length c],by simp[c1],?_,fun i hi hx=>?_⟩
   . intro u hu
     rcases Nd.1 hu with hu | hu
     . exact c2 u hu
     . simp at hu;subst hu;rfl
   . by_cases ei:i<n
     . obtain⟨A2,k2,d1,d2⟩:=c3 i ei hx
       exact⟨A2,k2,by rw[LP (by omega)];exact d1,d2⟩
     . obtain rfl:i=n:=by omega
       refine⟨A',c,by rw[LM (by omega),c1,NN];rfl,MAtS.of_mat m0 hB (fun _ h=>h),fun b' off' e'=>?_⟩;rw[e] at e';cases e';exact x0
 obtain⟨cs,c1,c2,c3⟩:=key xs.length (Le _);refine⟨cs,by omega,fun h0=>?_,c2,fun i hi=>?_⟩
 . obtain⟨b,off,e,hb,_⟩:=h h0
   refine⟨b,off,e,by omega,fun j u hj=>?_⟩;have hjl:j<xs.length:=by rw[<-c1];exact(Lq.1 hj).1
   obtain⟨A',c,d1,_,d3⟩:=c3 j hjl hjl;rw[hj] at d1;cases d1;exact d3 b off e
 . obtain⟨A',c,d1,d2,_⟩:=c3 i hi hi
   refine⟨[.slice A' xs[i].length c],⟨A',c,rfl,d2⟩,fun j u hu=>?_⟩;have hj:j=0:=by have:=(Lq.1 hu).1;simp at this;omega
   subst hj
   cases hu
   rw[NW,Pg];exact d1
end
section
open Go.RowKit
attribute [local go_sem] Oper.semAt_some
theorem gO(w:Ba)(c1:Array Value)(t1:TypeId):∃W0,(w.alloc (.cells c1 t1)).drew=W0/\W0.heap[w.heap.size]?=some (.cells c1 t1 (0,0))/\W0.heap.size=w.heap.size+1/\Below w.heap.size w W0:=
 ⟨_,rfl,zw w _,by show(w.alloc _).heap.size=_;simp,(zW w _).drew⟩
def xd(pre:List Rd)(l:List (List Rd)):List (List Rd):=l.map (pre++·)
theorem behind_nil(pre:List Rd):xd pre [[]]=[pre]:=by simp[xd]
theorem Q8(pre:List Rd)(r:Rd)(l:List (List Rd)):xd pre (l.map (r::·))=xd (pre++[r]) l:=by simp[xd]
def yw(a:Ad)(k:Nat)(M:List Mv)(j:Nat):List (List Rd):=(M.take j).flatMap fun m=>(zJ a k m.to).map (m.r::·)
theorem vN(a:Ad)(k:Nat)(M:List Mv):yw a k M 0=[]:=by simp[yw]
theorem qK(a:Ad)(k:Nat)(M:List Mv){j:Nat}(h:j<M.length):yw a k M (j+1)=yw a k M j++(zJ a k M[j].to).map (M[j].r::·):=by
 unfold yw;rw[Lu h,Rv];simp
theorem wt(a:Ad)(k:Nat){s:Nat}(h:s<a.sts.length):yw a k a.sts[s] a.sts[s].length=zJ a (k+1) (s:Int):=by
 unfold yw;rw[zJ,LG,show a.at_ (s:Int)=a.sts[s] by unfold Ad.at_;rw[Ls,Lj,Lm h];rfl]
theorem ws(a:Ad)(k:Nat)(M:List Mv)(j:Nat):(yw a k M j).length<=(yw a k M M.length).length:=by
 unfold yw;rw[LG]
 conv=>rhs;rw[<-PG j M,Rv,Lv]
 omega
def Fx(bR bO bA bF g k:Nat):Prop:=k≠bR/\k≠bO/\k≠bA/\k≠bF/\k≠g
structure FromIn(a:Ad)(K:Nat)(SV:Bb)(ks B bR bO bA bF g:Nat)(V:Value)(pre:List Rd)(outs:List (List Rd))(w0 w:Ba):Prop where
 hR:w.heap[bR]?=some (.cells #[.int .i64 K] 3 (0,0))
 hO:w.heap[bO]?=some (.cells #[V] 151 (0,0))
 hA:w.heap[bA]?=some (.cells #[.int .i64 a.n,.slice SV a.sts.length ks] 27 (0,0))
 hF:w.heap[bF]?=some (.cells #[.func (.func 131) #[] #[.pointer (some ⟨bR,0,none⟩),.pointer (some ⟨bO,0,none⟩),.pointer (some ⟨bA,0,none⟩),.pointer (some ⟨bF,0,none⟩)]] 207 (0,0))
 out:OwnX cWd (Fx bR bO bA bF g) w B V outs
 ne:∀k,V.ownBlock=some k->Fx bR bO bA bF g k
 buf:OwnR kRd w B (.slice (some ⟨g,0,none⟩) pre.length K) pre.length (yO pre)
 bel:Below B w0 w
theorem FromIn.fresh{a:Ad}{K:Nat}{SV:Bb}{ks B bR bO bA bF g:Nat}{V:Value}{pre:List Rd}{outs:List (List Rd)}{w0 w:Ba}(H:FromIn a K SV ks B bR bO bA bF g V pre outs w0 w){k:Nat}(hk:w.heap.size<=k):Fx bR bO bA bF g k:=by
 have h1:=zj H.hR;have h2:=zj H.hO;have h3:=zj H.hA;have h4:=zj H.hF;have h5:=(H.buf.lt g rfl).2;exact⟨by omega,by omega,by omega,by omega,by omega⟩
structure FromB(B bR bO bA bF g:Nat):Prop where
 r:B<=bR
 o:B<=bO
 a:B<=bA
 f:B<=bF
 ro:bR≠bO
 ao:bA≠bO
 fo:bF≠bO
 gr:g≠bR
 go:g≠bO
 ga:g≠bA
 gf:g≠bF
 g:B<=g
def uv(a:Ad)(K:Nat)(SV:Bb)(ks k:Nat):Prop:=∀(s:Int) (pre:List Rd) (outs:List (List Rd)) (V:Value) (B bR bO bA bF g:Nat) (w0 w:Ba),
 pre.length+k=K->(k=0\/(0<=s/\s<a.sts.length))->outs.length+(zJ a k s).length<=5000->FromB B bR bO bA bF g->SAt w0 B SV a.sts->FromIn a K SV ks B bR bO bA bF g V pre outs w0 w ->
 Calls Tryz.prog 131 #[.int .i64 s,.slice (some ⟨g,0,none⟩) pre.length K,.pointer (some ⟨bR,0,none⟩),.pointer (some ⟨bO,0,none⟩),.pointer (some ⟨bA,0,none⟩),.pointer (some ⟨bF,0,none⟩)] w
  fun e w'=>(∃v,e=.returned v)/\∃V',FromIn a K SV ks B bR bO bA bF g V' pre (outs++xd pre (zJ a k s)) w0 w'
theorem FromIn.push{a:Ad}{K:Nat}{SV:Bb}{ks B bR bO bA bF g:Nat}{V:Value}{pre:List Rd}{outs:List (List Rd)}{w0 w W w3:Ba}{x:List Rd}{css:List (List Value)}{A2:Bb}{c2 g' cap:Nat}
  (H:FromIn a K SV ks B bR bO bA bF g V pre outs w0 w) (hB:FromB B bR bO bA bF g) (hw:Below w.heap.size w W) (hl:css.length=outs.length)
  (h3:∀(i:Nat) (h1:i<css.length) (h2:i<outs.length),cWd.lies (fun k=>Fx bR bO bA bF g k/\V.ownBlock≠some k) W css[i] outs[i])
  (hx:RAtS (fun k=>w.heap.size<=k) W A2 x) (hxc:x.length<=c2) (hr:OwnR kWd w3 B (.slice (some ⟨g',0,none⟩) (outs.length+1) cap) (outs.length+1) (css.flatten++[.slice A2 x.length c2]))
  (hg:W.grownBy w3 V.ownBlock) (hat:V.ownBlock=some g'\/g'=W.heap.size) :
  FromIn a K SV ks B bR bO bA bF g (.slice (some ⟨g',0,none⟩) (outs.length+1) cap) pre (outs++[x]) w0 (w3.setCell ⟨bO,0,none⟩ (.slice (some ⟨g',0,none⟩) (outs.length+1) cap)):=by
 have hlt:=H.out.lt;have hgw:g<w.heap.size:=(H.buf.lt g rfl).2;have hws:=hw.size;have k1:=zj H.hR;have k2:=zj H.hO;have k3:=zj H.hA;have k4:=zj H.hF
 have hk:∀b,b<w.heap.size->V.ownBlock≠some b->b≠bO->(w3.setCell ⟨bO,0,none⟩ (.slice (some ⟨g',0,none⟩) (outs.length+1) cap)).heap[b]?=w.heap[b]?:=fun b h1 h0 h2=>
  (Lf _ _ _ b h2).trans ((hg.block b (by omega) (fun e=>h0 e.symm)).trans (hw.block b h1))
 have ho3:w3.heap[bO]?=some (.cells #[V] 151 (0,0)):=(hg.block bO (by omega) (fun e=>(H.ne bO e.symm).2.1 rfl)).trans ((hw.block bO (by omega)).trans H.hO);obtain⟨x1,x2,x3⟩:=qI ho3 (.slice (some ⟨g',0,none⟩) (outs.length+1) cap);have hX:cWd.lies (fun k=>Fx bR bO bA bF g k/\V.ownBlock≠some k) W [.slice A2 x.length c2] x:=⟨A2,c2,rfl,hx.mono fun k _ hk=>⟨H.fresh hk,fun e=>by have:=(hlt k e).2;omega⟩,hxc⟩;have hO:=OwnX.app qu hl h3 hX hr hg hat;have hge:B<=g'/\g'<w3.heap.size:=hr.lt g' rfl
 have hfx:Fx bR bO bA bF g g':=by
  rcases hat with e | e
  . exact H.ne g' e
  . exact H.fresh (by omega)
 have hvg:V.ownBlock≠some g:=fun e=>(H.ne g e).2.2.2.2 rfl
 refine⟨(hk _ k1 (fun e=>(H.ne _ e).1 rfl) hB.ro).trans H.hR,x1,(hk _ k3 (fun e=>(H.ne _ e).2.2.1 rfl) hB.ao).trans H.hA,(hk _ k4 (fun e=>(H.ne _ e).2.2.2.1 rfl) hB.fo).trans H.hF,?_,?_,?_,?_⟩
 . refine hO.kept qu (zS w3 bO 0 _) (.inr (fun e=>?_)) (fun k e=>.inl fun hs=>?_)
   . have e2:g'=bO:=by simpa[Value.ownBlock] using e
     exact hfx.2.1 e2
   . cases e
     exact hs.2.1 rfl
 . intro k e
   have e2:g'=k:=by simpa[Value.ownBlock] using e
   subst e2;exact hfx
 . refine((H.buf.below hw (Le _)).kept hg (.inr (fun e=>hvg e.symm))).kept (zS w3 bO 0 _) (.inr (fun e=>?_))
   have e2:g=bO:=by simpa[Value.ownBlock] using e
   exact hB.go e2
 . have h1:=hB.o
   have h2:=hB.g;exact((H.bel.trans (hw.mono (by omega))).grown hg (by omega) (fun k hk=>(hlt k hk).1)).setCell (by show B<=bO;omega) _
theorem from_zero(a:Ad)(K:Nat)(hK:K<=6)(SV:Bb)(ks:Nat):uv a K SV ks 0:=by
 intro s pre outs V B bR bO bA bF g w0 w hpk _ hlen hB hS H;obtain rfl:K=pre.length:=by omega
 have hlen:outs.length<=5000:=by omega
 have HI:=zH H;have HBB:=zH hB;have r0:=zh H.hR 0 rfl;have o0:=zh H.hO 0 rfl;have e0:((pre.length:Int)==(pre.length:Int))=true:=by simp
 have hraw:Raw w.drew (some ⟨g,0,none⟩) pre.length (yO pre):=by
  obtain⟨A,cap,e,_,_,h⟩:=H.buf.raw
  cases e;exact h
 have HC:=zH (Y3 (some ⟨g,0,none⟩) pre.length pre.length (yO pre) w.drew (xS pre) hraw (vx pre) (by omega));clear H hB hS hraw;go_enter Tryz.func131,Tryz.ntmps131;go_wp2_with fail;refine zz [(0,true),(1,true),(2,false),(3,false),(4,false),(5,false)] (fun W=>W.cell? ⟨bO,0,none⟩=some V) (by kernel_rfl) (by kernel_rfl) (by exact o0) ?_
 repeat
  apply zG rfl
  . intro K' hK' W hW
    go_simp;exact hK'
 refine zE rfl ?_;intro K' hK';go_simp;refine HC.out.mono ?_;rintro e w2 ⟨v2,rfl,ho2,hb2⟩;obtain⟨A2,c2,rfl,hc2,hm2,hl2⟩:=vu ho2;have hb2:Below w.heap.size w w2:=Q7 hb2;have hl2:RAtS (fun k=>w.heap.size<=k) w2 A2 pre:=hl2;have HOl:=HI.out.hO;have o2:w2.cell? ⟨bO,0,none⟩=some V:=(hb2.cell (p:=⟨bO,0,none⟩) (zj HOl)).trans o0;refine hK' _ _ o2 ?_;refine zE rfl ?_;clear hK' K';intro K' hK';go_simp;have hbO2:bO<w2.heap.size:=by have:=zj HOl;have:=hb2.size;omega
 refine hK' _ _ ((World.cell?_alloc_lt _ _ _ hbO2).trans o2) ?_;refine zE rfl ?_;clear hK' K';intro K' hK';obtain⟨W2,hW2⟩:=Ki (w2.alloc (.cells #[.slice A2 pre.length c2] 53));have hg2:=zw w2 (.cells #[.slice A2 pre.length c2] 53);have hB2:Below w.heap.size w W2:=by rw[<-hW2];exact hb2.alloc hb2.size _
 have hL2:RAtS (fun k=>w.heap.size<=k) W2 A2 pre:=by rw[<-hW2];exact hl2.keep (KeepB.alloc _ _ _)
 rw[hW2] at hg2 ⊢;obtain⟨css,hcl,hcr,hcs⟩:=HI.out.out.below qu hB2 (Le _);have hbs:B<=W2.heap.size:=by have:=HBB.out.g;have:=(HI.out.buf.lt g rfl).2;have:=hB2.size;omega
 refine step_appR J8 (by rfl) (.tmp 14) (.tmp 17) (by rfl) B V outs.length css.flatten (by rfl) hcr w2.heap.size #[.slice A2 pre.length c2] (by rfl) hg2 rfl (by simp[Value.oneCell']) (by omega) hbs _ rfl ?_;intro g' cap w3 hr hgrow hat hlt3
 have o3:w3.cell? ⟨bO,0,none⟩=some V:=by
  refine(LA (hgrow.block bO (by have:=zj HOl;have:=hB2.size;omega) (fun e=>?_))).trans ((hB2.cell (p:=⟨bO,0,none⟩) (zj HOl)).trans o0);exact(HI.out.ne bO e.symm).2.1 rfl
 have f3:w3.frozen? ⟨bO,0,none⟩=false:=by
  refine zi (cs:=#[V]) (t:=151) ((hgrow.block bO (by have:=zj HOl;have:=hB2.size;omega) (fun e=>?_)).trans ((hB2.block bO (zj HOl)).trans HOl)) 0;exact(HI.out.ne bO e.symm).2.1 rfl
 have HP:=zH (HI.out.push HBB.out hB2 hcl hcs hL2 hc2 hr hgrow hat);refine hK' _ _ o3 ?_;refine xa rfl (by kernel_rfl) ?_;clear hK' K' hr hgrow hat hcr hcs hL2 hl2 ho2;intro K' hK';go_simp;refine hK' (fun _=>True) _ _ trivial ?_;refine zQ ?_;clear hK' K';go_simp;go_wp2_with fail;refine L1 (RG rfl _ _ _) rfl ?_;refine⟨⟨.tuple #[],rfl⟩,.slice (some ⟨g',0,none⟩) (outs.length+1) cap,?_⟩;rw[show zJ a 0 s=[[]] from rfl,behind_nil];exact HP.out
theorem FromIn.ext{a:Ad}{K:Nat}{SV:Bb}{ks B bR bO bA bF g:Nat}{V:Value}{pre:List Rd}{outs:List (List Rd)}{w0 w W w4:Ba}{r:Rd}
  (H:FromIn a K SV ks B bR bO bA bF g V pre outs w0 w) (hB:FromB B bR bO bA bF g) (hw:Below w.heap.size w W)
  (hr:OwnR kRd w4 B (.slice (some ⟨g,0,none⟩) (pre.length+1) K) (pre.length+1) (yO pre++r.cells.toList)) (hg:W.grownBy w4 (some g)) :
  FromIn a K SV ks B bR bO bA bF g V (pre++[r]) outs w0 w4:=by
 have hgw:g<w.heap.size:=(H.buf.lt g rfl).2;have hws:=hw.size;have k1:=zj H.hR;have k2:=zj H.hO;have k3:=zj H.hA;have k4:=zj H.hF;have hk:∀b,b<w.heap.size->g≠b->w4.heap[b]?=w.heap[b]?:=fun b h1 h2=>(hg.block b (by omega) (fun e=>by cases e;exact h2 rfl)).trans (hw.block b h1)
 have hvg:V.ownBlock≠some g:=fun e=>(H.ne g e).2.2.2.2 rfl
 refine⟨(hk _ k1 hB.gr).trans H.hR,(hk _ k2 hB.go).trans H.hO,(hk _ k3 hB.ga).trans H.hA,(hk _ k4 hB.gf).trans H.hF,?_,H.ne,?_,?_⟩
 . exact(H.out.below qu hw (Le _)).kept qu hg (.inr hvg) (fun k e=>.inl fun hs=>hs.2.2.2.2 (by cases e;rfl))
 . rw[Lv,vh];exact hr
 . have:=hB.g
   exact(H.bel.trans (hw.mono (by omega))).grown hg (by omega) (fun k hk=>by cases hk;omega)
theorem FromIn.cut{a:Ad}{K:Nat}{SV:Bb}{ks B bR bO bA bF g:Nat}{V:Value}{pre:List Rd}{outs:List (List Rd)}{w0 w:Ba}{r:Rd}
  (H:FromIn a K SV ks B bR bO bA bF g V (pre++[r]) outs w0 w):FromIn a K SV ks B bR bO bA bF g V pre outs w0 w:=by
 refine⟨H.hR,H.hO,H.hA,H.hF,H.out,H.ne,?_,H.bel⟩;have h:=H.buf;rw[vh,Lv] at h;exact h.pop (xS pre)
theorem behind_len(pre:List Rd)(l:List (List Rd)):(xd pre l).length=l.length:=by simp[xd]
theorem Yq(pre:List Rd)(l m:List (List Rd)):xd pre (l++m)=xd pre l++xd pre m:=by simp[xd]
theorem from_succ(a:Ad)(K:Nat)(SV:Bb)(ks k:Nat)(hz:zI a a.sts=0)(hf:FewA a)(ih:uv a K SV ks k):uv a K SV ks (k+1):=by
 intro s pre outs V B bR bO bA bF g w0 w hpk hs0 hlen hB hS H;have hs:0<=s/\s<a.sts.length:=hs0.resolve_left (by omega);obtain⟨S,rfl⟩:=Lr hs.1;have hSl:S<a.sts.length:=by omega
 have HI:=zH H;have HBB:=zH hB;have HIH:=zH ih;have HST:=zH hS;have HZ:=zH (@xT a hz);have hm40:=hf.each (Ld hSl);have HWE:=zH (wt a k hSl);have HLN:=zH hlen;have HML:=zH (fun (m:Mv) (hm:m∈a.sts[S])=>(NA.2 ⟨_,Ld hSl,hm⟩:m∈a.mvs));have r0:=zh H.hR 0 rfl;have a1:=zh H.hA 1 rfl;obtain⟨bs,os,A',cs',hSV,hbs,s0,hMA⟩:=(hS.keep H.bel).at_ S hSl;have hsv:SV.map (fun x=>x)=some ⟨bs,os,none⟩:=by rw[hSV];rfl
 have HMA:Hid (∀W,Below B w0 W->MAt W B A' a.sts[S]):=by
  intro W hW;obtain⟨bs2,os2,A2,cs2,hSV2,_,s2,hM2⟩:=(hS.keep hW).at_ S hSl;rw[hSV] at hSV2
  cases hSV2
  have e1:=(hS.keep H.bel).at_ S hSl;obtain⟨bs3,os3,A3,cs3,hSV3,hbs3,s3,hM3⟩:=hS.at_ S hSl;rw[hSV] at hSV3
  cases hSV3
  have x1:=(H.bel.cell (p:=⟨bs,os+S,none⟩) hbs3).trans s3;have x2:=(hW.cell (p:=⟨bs,os+S,none⟩) hbs3).trans s3;rw[x1] at s0
  cases s0
  exact hM3.keep hW
 clear hsv hMA hS;subst hSV;obtain⟨M,hM⟩:=Ki (a.sts[S]);rw[hM] at s0 HMA HWE HML hm40;have e0:((pre.length:Int)==(K:Int))=false:=by simp;omega
 have hs1:(S:Int)<(a.sts.length:Int):=by omega
 have hs2:(0:Int)<=(S:Int):=by omega
 clear H hB hM hz hf ih hs hs0;go_enter Tryz.func131,Tryz.ntmps131;go_wp2_with fail;clear r0 a1 s0 e0
 go_loopw [25] (fun i wr=>∃(j:Nat) (V':Value),j<=M.length/\i=.int .i64 (j:Int)/\Hid (FromIn a K (some ⟨bs,os,none⟩) ks B bR bO bA bF g V' pre (outs++xd pre (yw a k M j)) w0 wr)) (fun i _=>M.length-(intOf i).toNat)
 case atStart=>exact⟨0,V,by omega,rfl,by rw[vN,show xd pre []=[] from rfl,Nf];exact HI.out⟩
 case round=>
  obtain⟨j,V',hj,rfl,HJ⟩:=hrel
  by_cases hjl:j<M.length
  case neg=>
   obtain rfl:j=M.length:=by omega
   go_wp2_with fail
   go_end0
   refine⟨⟨.tuple #[],rfl⟩,V',?_⟩;rw[<-HWE.out];exact HJ.out
  case pos=>
   obtain⟨bm,om,e1,hbm,m0,m1,m2,m3,m4,m5,m6,m7⟩:=(HMA.out _ HJ.out.bel).row j hjl;subst e1;have hj0:(0:Int)<=(j:Int):=by omega
   have hj1:(j:Int)<(M.length:Int):=by omega
   have HF:=HJ.out.hF;have f0:=zh HF 0 rfl;have hbFl:bF<wr.heap.size:=zj HF;have hmm:=HML.out M[j] (Ld hjl);obtain⟨z1,z2,z3,z4⟩:=HZ.out _ hmm;have hstep:=zH (qK a k M hjl);have hlen2:=ws a k M (j+1);rw[qK a k M hjl,Lv,LR] at hlen2;obtain⟨m,hme⟩:=Ki (M[j]);rw[hme] at m0 m1 m2 m3 m4 m5 m6 m7 hmm z1 z2 z3 z4 hstep hlen2
   have hl5:(outs++xd pre (yw a k M j)).length+(zJ a k m.to).length<=5000:=by
    have:=HLN.out;rw[<-HWE.out] at this;rw[Lv,behind_len];omega
   have HL5:=zH hl5;have HZ3:=zH z3;have HZ4:=zH z4;clear hme hlen2 z1 z2 z3 z4 hl5 hmm HML HZ HLN HI HMA HWE;go_wp2_with fail;clear m0 m1 m2 m3 m4 m5 m6 m7;obtain⟨W1,hW1,g0,hsz1,hB1⟩:=zn wr m.cells 94;unfold Mv.cells at hW1;rw[hW1];clear hW1;have f1:=(hB1.cell (p:=⟨bF,0,none⟩) hbFl).trans f0;have hgl:=(HJ.out.buf.lt g rfl).2;have hgf:=HBB.out.gf;have hpK:pre.length+1<=K:=by omega
   have hpk2:(pre++[m.r]).length+k=K:=by rw[Lv,Rn];omega
   have hGN:wr.heap.size<W1.heap.size:=by omega
   have hD:=zH g0
   refine zz [(0,true),(1,true),(2,true),(3,true),(4,true),(5,true),(6,false),(7,false),(8,false)]
    (fun W=>W.cell? ⟨bF,0,none⟩=some (.func (.func 131) #[] #[.pointer (some ⟨bR,0,none⟩),.pointer (some ⟨bO,0,none⟩),.pointer (some ⟨bA,0,none⟩),.pointer (some ⟨bF,0,none⟩)])/\W.heap[wr.heap.size]?=some (.cells m.cells 94 (0,0)))
    (by kernel_rfl) (by kernel_rfl) ⟨f1,g0⟩ ?_
   clear f0
   repeat
    apply zG rfl
    . rintro K' hK' W ⟨y0,y1⟩
      have g1:W.cell? ⟨wr.heap.size,0,none⟩=some (.int .i64 m.r.n):=zh y1 0 rfl;have g2:W.cell? ⟨wr.heap.size,1,none⟩=some (.int .i64 m.r.h0):=zh y1 1 rfl;have g3:W.cell? ⟨wr.heap.size,2,none⟩=some (.int .i64 m.r.h1):=zh y1 2 rfl;have g4:W.cell? ⟨wr.heap.size,3,none⟩=some (.int .i64 m.r.h2):=zh y1 3 rfl;have g5:W.cell? ⟨wr.heap.size,4,none⟩=some (.int .i64 m.r.h3):=zh y1 4 rfl;have g6:W.cell? ⟨wr.heap.size,5,none⟩=some (.int .i64 m.r.h4):=zh y1 5 rfl;have g7:W.cell? ⟨wr.heap.size,6,none⟩=some (.int .i64 m.r.f):=zh y1 6 rfl;have g8:W.cell? ⟨wr.heap.size,7,none⟩=some (.int .i64 m.to):=zh y1 7 rfl;clear y1;go_simp;exact hK'
   refine zE rfl ?_;intro K' hK';go_simp;obtain⟨W2,hW2,d0,hsz2,hB2'⟩:=gO W1 m.r.cells 92;unfold Rd.cells at hW2;rw[hW2];have g2:=Lb hB2' hGN hD.out;have f2:=(hB2'.cell (p:=⟨bF,0,none⟩) (by show bF<W1.heap.size;omega)).trans f1;refine hK' _ _ ⟨f2,g2⟩ ?_;clear hK' K' hW2;have hBW:Below wr.heap.size wr W2:=hB1.trans (hB2'.mono (by omega));refine zE rfl ?_;intro K' hK';rw[Lh (by rfl)];refine wp_fitR XA (.tmp 32) (.tmp 35) (by rfl) B g pre.length K (yO pre) (by rfl) (HJ.out.buf.below hBW (Le _)) (wr.heap.size+1) m.r.cells (by rfl) (hsz1▸d0) rfl (by simp[Rd.cells,Value.oneCell']) hpK ?_;intro W3 hr hgr;have hB3:Below W1.heap.size W1 W3\/True:=.inr trivial;have HX:=zH (HJ.out.ext HBB.out hBW hr hgr);have g3:=(hgr.block _ (by omega) (fun e=>by cases e;omega)).trans g2;have f3:=(LA (hgr.block bF (by omega) (fun e=>by cases e;exact hgf rfl))).trans f2;refine hK' _ _ ⟨f3,g3⟩ ?_;clear hK' K' hr hgr hB3 f1 f2 g2 g3 d0;refine xa rfl (by kernel_rfl) ?_;intro K' hK';go_simp;have HC:=HIH.out m.to (pre++[m.r]) (outs++xd pre (yw a k M j)) V' B bR bO bA bF g w0 W3 hpk2 (.inr ⟨HZ3.out,HZ4.out⟩) HL5.out HBB.out HST.out HX.out;rw[Lv,Rn] at HC;refine HC.mono ?_;rintro e w4 ⟨⟨v4,rfl⟩,V4,H4⟩;have H5:=zH H4.cut;rw[Na,<-Q8,<-Yq,<-hstep.out] at H5;refine hK' (fun _=>True) _ _ trivial ?_;refine zQ ?_;clear hK' K' HC H4;go_wp2_with fail
   go_roundw
   case rel=>exact⟨j+1,V4,by omega,by go_num,H5⟩
   case measure=>simp[intOf];omega
theorem QQ(a:Ad)(K:Nat)(hK:K<=6)(SV:Bb)(ks:Nat)(hz:zI a a.sts=0)(hf:FewA a):∀k,uv a K SV ks k
 | 0=>from_zero a K hK SV ks
 | k+1=>from_succ a K SV ks k hz hf (QQ a K hK SV ks hz hf k)
end
end Go.Proofs.YtohjmddnennajaaGreatDoor
