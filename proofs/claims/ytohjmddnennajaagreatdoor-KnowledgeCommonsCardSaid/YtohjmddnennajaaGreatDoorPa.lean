/- Parts Base OpenT Sys SameI Veq Sets Procs SysE Req SameR Has Ord GrA GrB GrC SameA Shelf TaskA TaskB TaskC R11A TaskD. -/
import Derived.WalkKit
import Derived.WalkSpells
import Derived.WalkLawsBesides
import Derived.Outline
import Derived.Below
import Derived.Laws.OwnMore
import Derived.Lib.Hide
import Derived.Deep.Draws
import Derived.Deep.AppendLies
import Derived.Test.YtohjmddnennajaaGreatDoorRows
import Derived.ProofKit
import Derived.LaidMore
import Derived.OpenShut
import Derived.Carry
import Derived.Deep.Slices
import Derived.Deep.Fields
import Derived.ChangeSame
import Derived.Stop.Joined
import Derived.Test.YtohjmddnennajaaGreatDoorProg
import Derived.Deep.QuietTactic
import Derived.BigQuiet
import Derived.Laws.StructEq
import Derived.Laws.BitsAllLaws
import Derived.Laws.BitsLemmas
import Derived.StillTactics
import Derived.Shelf.Small.Wraps
import Derived.Shelf.Bits.Mul64
import Derived.Shelf.Slices.Equal
import Derived.Ground.Names2Prog
import Derived.Shelf.Slices.Clone
import Derived.Shelf.Slices.SearchI
import Derived.Shelf.Slices.Empties2
import Derived.Ground.SlgnProg
import Derived.Shelf.SlicesE.Clone

namespace Go.Proofs.YtohjmddnennajaaGreatDoor
abbrev Bb:=Option Addr
abbrev Ba:=World
abbrev Ln:=@Array.getElem?_eq_some_iff
abbrev NS:=@Go.RowKit.Below.heap_alloc
abbrev Lo:=@Go.RowKit.Below.refl
abbrev Le:=@Nat.le_refl
abbrev Nd:=@List.mem_append
abbrev Rs:=@List.mem_cons_of_mem
abbrev RF:=@List.mem_cons_self
abbrev PN:=@List.mem_append_left
abbrev Nf:=@List.append_nil
abbrev Nh:=@Go.DataW.trod_struct
abbrev LN:=@Go.DataW.trod_int
abbrev Lx:=@Go.Proofs.Tryz.underlying3
abbrev RZ:=@Go.DataW.trod_array
abbrev Pf:=@Go.Proofs.Tryz.underlying88
abbrev PJ:=@Nat.add_assoc
abbrev Lu:=@List.take_succ_eq_append_getElem
abbrev LG:=@List.take_length
abbrev LS:=@List.take_zero
abbrev LL:=@Go.run_underlying
abbrev Nr:=@Go.Sem.run_bind
abbrev LY:=@Go.Result.andThen_ok
abbrev L3:=@Std.Legacy.Range.forIn_eq_forIn_range'
abbrev Ps:=@Nat.sub_zero
abbrev NQ:=@Nat.add_sub_cancel
abbrev PM:=@Nat.div_one
abbrev Pa:=@List.forIn_cons
abbrev Pk:=@List.forIn_nil
abbrev NW:=@Nat.mul_one
abbrev NH:=@Go.run_equalIn_int
abbrev N7:=@Bool.not_false
abbrev P4:=@if_true
abbrev Ny:=@Go.Sem.run_pure
abbrev NZ:=@Bool.false_and
abbrev NV:=@Bool.not_true
abbrev NK:=@Bool.false_eq_true
abbrev PX:=@if_false
abbrev Nv:=@Bool.true_and
abbrev PW:=@Go.run_equalIn_struct
abbrev LT:=@List.map_cons
abbrev Ns:=@List.map_nil
abbrev N2:=@List.cons.injEq
abbrev Pu:=@Prod.mk.injEq
abbrev PY:=@and_true
abbrev Pd:=@Bool.eq_iff_iff
abbrev Pz:=@not_false_eq_true
abbrev LK:=@List.all_eq_true
abbrev R8:=@List.range_succ
abbrev Lh:=@if_pos
abbrev Lg:=@if_neg
abbrev Ni:=@Nat.pow_le_pow_right
abbrev Lr:=@Int.eq_ofNat_of_zero_le
abbrev Ly:=@List.drop_eq_getElem_cons
abbrev Nm:=@List.drop_length
abbrev L4:=@List.drop_zero
abbrev Li:=@decide_eq_false
abbrev Lk:=@decide_eq_true
abbrev RD:=@beq_iff_eq
abbrev Se:=@List.mem_range
abbrev Rm:=@Bool.or_eq_true
abbrev P6:=@Go.World.drewN_drewN
abbrev Nw:=@Go.World.size_alloc
abbrev Ld:=@List.getElem_mem
abbrev LC:=@Nat.lt_of_lt_of_le
abbrev Lp:=@Go.IntKind.wrap_i64
abbrev Rw:=@Go.Calls.quiet_of_same
abbrev Np:=@decide_eq_true_eq
abbrev LF:=@of_decide_eq_true
abbrev NO:=@of_decide_eq_false
set_option maxRecDepth 100000
theorem zH{p:Prop}(h:p):Go.RowKit.Hid p:=h
set_option maxHeartbeats 4000000
section
open Go.RowKit
theorem dec_eq{p q:Prop}[Decidable p][Decidable q](h:p↔q):decide p=decide q:=by simp[h]
theorem zm{a b:Bool}(h:a=b):Ending.returned (.bool a)=.returned (.bool b):=by rw[h]
theorem zk{k:IntKind}{a b:Int}(h:a=b):Ending.returned (.int k a)=.returned (.int k b):=by rw[h]
structure Vw where
 p:Int
 r:Int
 i:Int
 h0:Int
 h1:Int
 h2:Int
 h3:Int
 h4:Int
deriving DecidableEq,Inhabited
def Vw.h(v:Vw):Nat->Int
 | 0=>v.h0
 | 1=>v.h1
 | 2=>v.h2
 | 3=>v.h3
 | _=>v.h4
def Vw.cells(v:Vw):Array Value:=#[.int .i64 v.p,.int .i64 v.r,.int .i64 v.i,.int .i64 v.h0,.int .i64 v.h1,.int .i64 v.h2,.int .i64 v.h3,.int .i64 v.h4]
theorem Vw.cells_h(v:Vw)(q:Nat)(hq:q<5):v.cells[3+q]?=some (.int .i64 (v.h q)):=by
 match q,hq with
 | 0,_=>rfl
 | 1,_=>rfl
 | 2,_=>rfl
 | 3,_=>rfl
 | 4,_=>rfl
def VAt(w:Ba)(B:Nat)(A:Bb)(vs:List Vw):Prop:=
 0<vs.length->∃b off,A=some ⟨b,off,none⟩/\b<B/\∀(i:Nat) (hi:i<vs.length) (k:Nat) (u:Value),vs[i].cells[k]?=some u->w.cell? ⟨b,off+i*8+k,none⟩=some u
theorem VAt.keep{w w':Ba}{B:Nat}{A:Bb}{vs:List Vw}(h:VAt w B A vs)(hb:Below B w w'):VAt w' B A vs:=fun h0=>by
 obtain⟨b,off,e,hlt,hc⟩:=h h0;exact⟨b,off,e,hlt,fun i hi k u hk=>(hb.cell (p:=⟨b,_,none⟩) hlt).trans (hc i hi k u hk)⟩
theorem VAt.more{w:Ba}{B B':Nat}{A:Bb}{vs:List Vw}(h:VAt w B A vs)(hB:B<=B'):VAt w B' A vs:=fun h0=>by
 obtain⟨b,off,e,hlt,hc⟩:=h h0;exact⟨b,off,e,by omega,hc⟩
theorem VAt.row{w:Ba}{B:Nat}{A:Bb}{vs:List Vw}(h:VAt w B A vs)(k:Nat)(hk:k<vs.length) :
  ∃b off,A=some ⟨b,off,none⟩/\b<B/\w.cell? ⟨b,off+k*8,none⟩=some (.int .i64 vs[k].p)/\w.cell? ⟨b,off+k*8+1,none⟩=some (.int .i64 vs[k].r) /\
   w.cell? ⟨b,off+k*8+2,none⟩=some (.int .i64 vs[k].i)/\w.cell? ⟨b,off+k*8+3,none⟩=some (.int .i64 vs[k].h0)/\w.cell? ⟨b,off+k*8+4,none⟩=some (.int .i64 vs[k].h1) /\
   w.cell? ⟨b,off+k*8+5,none⟩=some (.int .i64 vs[k].h2)/\w.cell? ⟨b,off+k*8+6,none⟩=some (.int .i64 vs[k].h3)/\w.cell? ⟨b,off+k*8+7,none⟩=some (.int .i64 vs[k].h4):=by
 obtain⟨b,off,e,hlt,hc⟩:=h (by omega);exact⟨b,off,e,hlt,hc k hk 0 _ rfl,hc k hk 1 _ rfl,hc k hk 2 _ rfl,hc k hk 3 _ rfl,hc k hk 4 _ rfl,hc k hk 5 _ rfl,hc k hk 6 _ rfl,hc k hk 7 _ rfl⟩
def IAt(w:Ba)(B:Nat)(A:Bb)(xs:List Int):Prop:=
 0<xs.length->∃b off,A=some ⟨b,off,none⟩/\b<B/\∀(i:Nat) (hi:i<xs.length),w.cell? ⟨b,off+i,none⟩=some (.int .i64 xs[i])
theorem IAt.keep{w w':Ba}{B:Nat}{A:Bb}{xs:List Int}(h:IAt w B A xs)(hb:Below B w w'):IAt w' B A xs:=fun h0=>by
 obtain⟨b,off,e,hlt,hc⟩:=h h0;exact⟨b,off,e,hlt,fun i hi=>(hb.cell (p:=⟨b,_,none⟩) hlt).trans (hc i hi)⟩
theorem IAt.more{w:Ba}{B B':Nat}{A:Bb}{xs:List Int}(h:IAt w B A xs)(hB:B<=B'):IAt w B' A xs:=fun h0=>by
 obtain⟨b,off,e,hlt,hc⟩:=h h0;exact⟨b,off,e,by omega,hc⟩
theorem IAt.at_{w:Ba}{B:Nat}{A:Bb}{xs:List Int}(h:IAt w B A xs)(k:Nat)(hk:k<xs.length):∃b off,A=some ⟨b,off,none⟩/\b<B/\w.cell? ⟨b,off+k,none⟩=some (.int .i64 xs[k]):=by
 obtain⟨b,off,e,hlt,hc⟩:=h (by omega);exact⟨b,off,e,hlt,hc k hk⟩
theorem IAt.nil(w:Ba)(B:Nat)(A:Bb):IAt w B A []:=fun h=>absurd h (by simp)
theorem IAt.of_own{w:Ba}{base:Nat}{e:TypeId}{A:Bb}{n c:Nat}{xs:List Int}(h:w.ownsRow base e 1 (.slice A n c) n (xs.map (Value.int .i64))):IAt w w.heap.size A xs:=fun h0=>by
 have hn:xs.length=n:=by simpa using h.1
 obtain⟨g,cap,hv,_,hlt⟩:=h.form (by omega);have hA:A=some ⟨g,0,none⟩:=by injection hv
 subst hA;refine⟨g,0,rfl,hlt,fun i hi=>?_⟩;have:=h.cells (g:=g) rfl i (.int .i64 xs[i]) (by simp[hi]);rw[show(⟨g,0,none⟩:Addr).add i=⟨g,0+i,none⟩ from by unfold Addr.add;split<;>simp_all] at this;exact this
theorem zh{w:Ba}{g:Nat}{t:TypeId}{cs:Array Value}(h:w.heap[g]?=some (.cells cs t (0,0)))(i:Nat){u:Value}(hu:cs[i]?=some u):w.cell? ⟨g,i,none⟩=some u:=by
 rw[cell_of_row w g i cs t (0,0) h];exact hu
theorem Ka{w:Ba}{b:Nat}{v0 v1:Value}{l:List Value}{t:TypeId}(h:w.heap[b]?=some (.cells ⟨v0::v1::l⟩ t (0,0))):w.cell? ⟨b,0,none⟩=some v0/\w.cell? ⟨b,1,none⟩=some v1/\True:=⟨zh h 0 rfl,zh h 1 rfl,trivial⟩
theorem Kb{w:Ba}{b:Nat}{v0 v1 v2 v3:Value}{l:List Value}{t:TypeId}(h:w.heap[b]?=some (.cells ⟨v0::v1::v2::v3::l⟩ t (0,0))):w.cell? ⟨b,0,none⟩=some v0/\w.cell? ⟨b,1,none⟩=some v1/\w.cell? ⟨b,2,none⟩=some v2/\w.cell? ⟨b,3,none⟩=some v3/\True:=⟨zh h 0 rfl,zh h 1 rfl,zh h 2 rfl,zh h 3 rfl,trivial⟩
theorem Kc{w:Ba}{b:Nat}{v0 v1 v2:Value}{l:List Value}{t:TypeId}(h:w.heap[b]?=some (.cells ⟨v0::v1::v2::l⟩ t (0,0))):w.cell? ⟨b,0,none⟩=some v0/\w.cell? ⟨b,1,none⟩=some v1/\w.cell? ⟨b,2,none⟩=some v2/\True:=⟨zh h 0 rfl,zh h 1 rfl,zh h 2 rfl,trivial⟩
theorem Ke{w:Ba}{b:Nat}{v0 v1 v2 v3 v4 v5 v6 v7:Value}{l:List Value}{t:TypeId}(h:w.heap[b]?=some (.cells ⟨v0::v1::v2::v3::v4::v5::v6::v7::l⟩ t (0,0))):w.cell? ⟨b,0,none⟩=some v0/\w.cell? ⟨b,1,none⟩=some v1/\w.cell? ⟨b,2,none⟩=some v2/\w.cell? ⟨b,3,none⟩=some v3/\w.cell? ⟨b,4,none⟩=some v4/\w.cell? ⟨b,5,none⟩=some v5/\w.cell? ⟨b,6,none⟩=some v6/\w.cell? ⟨b,7,none⟩=some v7/\True:=⟨zh h 0 rfl,zh h 1 rfl,zh h 2 rfl,zh h 3 rfl,zh h 4 rfl,zh h 5 rfl,zh h 6 rfl,zh h 7 rfl,trivial⟩
theorem Kf{w:Ba}{b:Nat}{v0 v1 v2 v3 v4 v5 v6:Value}{l:List Value}{t:TypeId}(h:w.heap[b]?=some (.cells ⟨v0::v1::v2::v3::v4::v5::v6::l⟩ t (0,0))):w.cell? ⟨b,0,none⟩=some v0/\w.cell? ⟨b,1,none⟩=some v1/\w.cell? ⟨b,2,none⟩=some v2/\w.cell? ⟨b,3,none⟩=some v3/\w.cell? ⟨b,4,none⟩=some v4/\w.cell? ⟨b,5,none⟩=some v5/\w.cell? ⟨b,6,none⟩=some v6/\True:=⟨zh h 0 rfl,zh h 1 rfl,zh h 2 rfl,zh h 3 rfl,zh h 4 rfl,zh h 5 rfl,zh h 6 rfl,trivial⟩
theorem Kg{w:Ba}{b:Nat}{v0 v1 v2 v3 v4 v5:Value}{l:List Value}{t:TypeId}(h:w.heap[b]?=some (.cells ⟨v0::v1::v2::v3::v4::v5::l⟩ t (0,0))):w.cell? ⟨b,0,none⟩=some v0/\w.cell? ⟨b,1,none⟩=some v1/\w.cell? ⟨b,2,none⟩=some v2/\w.cell? ⟨b,3,none⟩=some v3/\w.cell? ⟨b,4,none⟩=some v4/\w.cell? ⟨b,5,none⟩=some v5/\True:=⟨zh h 0 rfl,zh h 1 rfl,zh h 2 rfl,zh h 3 rfl,zh h 4 rfl,zh h 5 rfl,trivial⟩
theorem Kh{w:Ba}{b:Nat}{v0 v1 v2 v3 v4:Value}{l:List Value}{t:TypeId}(h:w.heap[b]?=some (.cells ⟨v0::v1::v2::v3::v4::l⟩ t (0,0))):w.cell? ⟨b,0,none⟩=some v0/\w.cell? ⟨b,1,none⟩=some v1/\w.cell? ⟨b,2,none⟩=some v2/\w.cell? ⟨b,3,none⟩=some v3/\w.cell? ⟨b,4,none⟩=some v4/\True:=⟨zh h 0 rfl,zh h 1 rfl,zh h 2 rfl,zh h 3 rfl,zh h 4 rfl,trivial⟩
theorem Ki{α:Sort _}(a:α):∃u,a=u:=⟨_,rfl⟩
theorem zB{w:Ba}{b:Nat}{v0 v1 v2 v3 v4 v5 v6 v7 v8 v9:Value}{l:List Value}{t:TypeId}(h:w.heap[b]?=some (.cells ⟨v0::v1::v2::v3::v4::v5::v6::v7::v8::v9::l⟩ t (0,0))):w.cell? ⟨b,0,none⟩=some v0/\w.cell? ⟨b,1,none⟩=some v1/\w.cell? ⟨b,2,none⟩=some v2/\w.cell? ⟨b,3,none⟩=some v3/\w.cell? ⟨b,4,none⟩=some v4/\w.cell? ⟨b,5,none⟩=some v5/\w.cell? ⟨b,6,none⟩=some v6/\w.cell? ⟨b,7,none⟩=some v7/\w.cell? ⟨b,8,none⟩=some v8/\w.cell? ⟨b,9,none⟩=some v9:=
 ⟨zh h 0 rfl,zh h 1 rfl,zh h 2 rfl,zh h 3 rfl,zh h 4 rfl,zh h 5 rfl,zh h 6 rfl,zh h 7 rfl,zh h 8 rfl,zh h 9 rfl⟩
theorem zi{w:Ba}{g:Nat}{t:TypeId}{cs:Array Value}(h:w.heap[g]?=some (.cells cs t (0,0)))(i:Nat):w.frozen? ⟨g,i,none⟩=false:=by
 simp[World.frozen?,h]
theorem zj{w:Ba}{g:Nat}{o:Obj}(h:w.heap[g]?=some o):g<w.heap.size:=(Ln.1 h).1
theorem La{w w':Ba}{k:Nat}{o:Obj}(h:Below w.heap.size w w')(e:w.heap[k]?=some o):w'.heap[k]?=some o:=(h.block _ (zj e)).trans e
theorem Lb{n k:Nat}{w w':Ba}{x:Option Obj}(h:Below n w w')(o:k<n)(e:w.heap[k]?=x):w'.heap[k]?=x:=(h.block _ o).trans e
theorem Lc{w w1 w2:Ba}(h:Below w.heap.size w w1)(g:Below w1.heap.size w1 w2):Below w.heap.size w w2:=h.trans (g.mono h.size)
theorem zw(w:Ba)(o:Obj):(w.alloc o).heap[w.heap.size]?=some o:=heap_alloc_new w o
theorem yM{w:Ba}{g:Nat}{o:Obj}(h:w.heap[g]?=some o)(o':Obj):(w.alloc o').heap[g]?=some o:=(NS w o' g (zj h)).trans h
theorem Xb{w w':Ba}{g B:Nat}{o:Obj}(h:w.heap[g]?=some o)(hb:Below B w w')(hg:g<B):w'.heap[g]?=some o:=(hb.block g hg).trans h
theorem zW(w:Ba)(a:Obj):Below w.heap.size w (w.alloc a):=(Lo _ _).alloc (Le _) _
theorem kh(w:Ba)(a b:Obj):Below w.heap.size w ((w.alloc a).alloc b):=(zW w a).alloc (by simp) _
theorem bel3(w:Ba)(a b c:Obj):Below w.heap.size w (((w.alloc a).alloc b).alloc c):=(kh w a b).alloc (by simp;omega) _
theorem Q7{B:Nat}{w w':Ba}(h:Below B w.drew w'):Below B w w':=⟨h.os,h.tape,h.output,h.size,h.block⟩
theorem belD{B:Nat}{w w':Ba}{n:Nat}(h:Below B (w.drewN n) w'):Below B w w':=⟨h.os,h.tape,h.output,h.size,h.block⟩
theorem zT{B:Nat}{a w:Ba}(h:Below B a w)(n:Nat):Below B a (w.drewN n):=⟨h.os,h.tape,h.output,h.size,h.block⟩
end
section
open Go.ChangeShapes Go.WideShapes Go.ChangeAt Go.RowKit Go.Deep
section
variable {H:Type} {enc:TypeId×Value->H} {P:Program}
theorem JH{f:Func}{s:ChangeSpec}{apart fresh handsOn again:Bool}{W W':Ba}{args:Array Value}{v:Value}{ds gs:List (DataW H)}{before pa pv:List MemPlace}
  (hW:DataW.Whole enc P f.params.toList s.vars apart W args.toList ds gs before)
  (hres:∀(b:Nat) (sp:Nat->Bool) (hd:Bool),DataW.TrodAll enc P W' b sp hd f.resultTypes.toList (v.resultList f.resultTypes.size) (s.fn H (ds++gs)).results [])
  (hargs:∀sp:Nat->Bool,(∀p∈before,sp p.block=true)->DataW.TrodAll enc P W' 0 sp true f.params.toList args.toList (s.fn H (ds++gs)).args pa)
  (hvars:∀sp:Nat->Bool,(∀p∈before,sp p.block=true)->DataW.TrodVars enc P W' sp s.vars (s.fn H (ds++gs)).vars pv)
  (hps:before=pa++pv) (hb:Below W.heap.size W W')
  (hok:∀(j:Nat) (t:TypeId) (r:Value),f.resultTypes[j]?=some t->(v.resultList f.resultTypes.size)[j]?=some r->Value.okWide P W' .any 0 t r) :
  s.post enc P f apart fresh handsOn again W args v W':=by
 have hlt:∀p∈before,p.block<W.heap.size:=fun p hp=>hW.lt p hp
 have hold:∀p∈before,(fun b=>decide (b<W.heap.size)) p.block=true:=fun p hp=>by simpa using hlt p hp
 refine⟨ds,gs,before,[],pa,pv,hW,hres _ _ _,hargs _ hold,hvars _ hold,World.keptBut_mono (fun p hp=>⟨hp,?_⟩) (hb.frame (·∈before)),fun _=>?_⟩
 . rw[hps,Nd] at hp
   exact Or.inr hp
 . obtain⟨_,_,_,_,_,hz,hn⟩:=hW
   refine⟨hok,_,_,([]++pa)++pv,⟨[]++pa,pv,trodAll_append (hargs _ (fun _ _=>rfl)) (hres _ _ _),hvars _ (fun _ _=>rfl),rfl,?_,?_⟩,?_⟩
   . intro b off hp
     have hin:MemPlace.cell b off∈before:=by rw[hps];simpa using hp
     rw[hb.frozen (hlt _ hin)];exact hz b off hin
   . intro ha
     have:=hn ha;rw[hps] at this;simpa using this
   . intro p hp _
     rw[hps];simpa using hp
theorem vd(hl:laidOutB P=true){W W':Ba}{sp:Nat->Bool}(hb:Below W.heap.size W W') :
  ∀ {ts:List TypeId} {vs:List Value} {ds:List (DataW H)} {ps:List MemPlace},(∀t∈ts,P.readableRec t=true/\t<P.types.size)->DataW.TrodAll enc P W 0 (fun _=>true) true ts vs ds ps ->
   (∀x∈ps,x.block<W.heap.size)->(∀x∈ps,sp x.block=true)->DataW.TrodAll enc P W' 0 sp true ts vs ds ps
 | [],[],[],_,_,h,_,_=>h
 | _::_,_::_,_::_,_,hT,⟨p,q,h1,h2,e⟩,hlt,hs=>by
  subst e;refine⟨p,q,?_,vd hl hb (fun t ht=>hT t (Rs _ ht)) h2 (fun x hx=>hlt x (List.mem_append_right _ hx)) (fun x hx=>hs x (List.mem_append_right _ hx)),rfl⟩;have hh:=hT _ (RF ..);exact WideElems.Trod_stays hl hh.1 hh.2 h1 (fun x hx=>hb.same (hlt x (PN _ hx))) (fun x hx=>hs x (PN _ hx))
theorem JZ{C:Checked}{os:Os}{f:FuncId}{fn:Func}{s:ChangeSpec}{X:Ba->Array Value->Prop}{tb:TypeId}(started:os.Started)
  (hX:∀(w w':Ba) (args:Array Value),w.heap=w'.heap->X w args->X w' args) (own:ownKnob C.prog.godebug=none) (noInit:C.prog.inits.idxOf? f=none) (hfn:C.prog.funcs[f]?=some fn)
  (witness:∃(w:Ba) (tape:Tape) (i:Input),w.os=os/\(w.forCall tape i).Shaped C.prog/\i.vars=[]/\Input.okWide C.prog (w.forCall tape i) .any w.heap.size f i /\
   ((s.pre enc C.prog fn [] false (w.forCall tape i).memory i.args/\X (w.forCall tape i).memory i.args)/\sizedMet enc C.prog fn (OpenSpec.ofChange s) false (w.forCall tape i).memory i.args)/\({}:Assume).holds C.prog (lone (Frame.enter C.prog f i.args .normal) [] (w.forCall tape i)))
  (hres:fn.resultTypes=#[tb]) (hbool:C.prog.underlying tb=some .bool) (hl:laidOutB C.prog=true) (hread:∀t∈fn.params.toList,C.prog.readableRec t=true/\t<C.prog.types.size) (hvars:s.vars=[])
  (hs:∀ds:List (DataW H),ds.length=fn.params.size->s.fn H ds={ results:=[.lit (.bool true)],args:=ds })
  (walk:∀(W:Ba) (base:Nat) (args:Array Value) (ds:List (DataW H)) (ps:List MemPlace),(∀(j:Nat) t v,fn.params[j]?=some t->args[j]?=some v->Value.okWide C.prog W .any base t v) ->
   DataW.TrodAll enc C.prog W 0 (fun _=>true) true fn.params.toList args.toList ds ps->(DataW.weightsEach C.prog fn.params.toList ds).all (·<=reachBytes)=true->(∀x∈ps,x.block<W.heap.size)->X W args ->
   Calls C.prog f args W fun e W'=>e=.returned (.bool true)/\Below W.heap.size W W') :
  ReturnsInHanded {} C os f .any (fun w args=>(s.pre enc C.prog fn [] false w args/\X w args)/\sizedMet enc C.prog fn (OpenSpec.ofChange s) false w args) (s.post enc C.prog fn false true false false):=by
 refine returnsInHanded_of_change_and (C:=C) (X:=X) hX own started noInit hfn witness ?_;intro W base args ds gs before hval0 hW _ hsz hL _;have hW':=hW;obtain⟨p,q,hA0,hV,hpq,hfz,hnd⟩:=hW;have hA:DataW.TrodAll enc C.prog W 0 (fun _=>true) true fn.params.toList args.toList ds p:=hA0
 have hgs:gs=[]/\q=[]:=by
  rw[hvars] at hV;exact trodVars_none hV
 obtain⟨rfl,rfl⟩:=hgs
 have hlen:∀ {ts:List TypeId} {vs:List Value} {ds:List (DataW H)} {ps:List MemPlace},DataW.TrodAll enc C.prog W 0 (fun _=>true) true ts vs ds ps->ds.length=ts.length:=by
  intro ts
  induction ts with
  | nil=>intro vs ds ps h;obtain⟨_,rfl,_⟩:=trodAll_nil h;rfl
  | cons t ts ih=>intro vs ds ps h;obtain⟨_,_,_,_,_,_,_,rfl,_,_,h2⟩:=trodAll_cons h;simp[ih h2]
 have hdl:ds.length=fn.params.size:=by rw[hlen hA];simp
 have hbp:before=p:=by rw[hpq,Nf]
 subst hbp;have hlt:∀x∈before,x.block<W.heap.size:=fun x hx=>hW'.lt x hx
 have hsz':(DataW.weightsEach C.prog fn.params.toList ds).all (·<=reachBytes)=true:=by
  have e:s.plain.varTypes C.prog=[]:=by simp[ChangeSpec.plain,DataSpec.varTypes,hvars]
  rw[e,Nf,Nf] at hsz;exact hsz
 refine(walk W base args ds before hval0 hA hsz' hlt hL).mono fun e W' ⟨he,hb⟩=>?_
 subst he;refine⟨_,rfl,JH (pa:=before) (pv:=[]) hW' ?_ ?_ ?_ (by rw[Nf]) hb ?_⟩
 . intro b sp hd
   rw[Nf,hs ds hdl,hres];exact trodAll_mk1 (shut_bool hbool _)
 . intro sp hsp
   rw[Nf,hs ds hdl];exact vd hl hb hread hA hlt hsp
 . intro sp hsp
   rw[Nf,hs ds hdl,hvars]
   rfl
 . exact ok_one hres rfl (okWide_bool_mk hbool _)
end
theorem cellsT:Tryz.prog.cellsOf 32=2:=by kernel_rfl
theorem cellsV:Tryz.prog.cellsOf 128=8:=by kernel_rfl
theorem yA:Tryz.prog.cellsOf 3=1:=by kernel_rfl
theorem cells5:Tryz.prog.cellsOf 88=5:=by kernel_rfl
theorem bytesV:Tryz.prog.bytesOf 128=64:=by kernel_rfl
theorem J4:laidOutB Tryz.prog=true:=by kernel_rfl
theorem lawOwn:ownKnob Tryz.prog.godebug=none:=by kernel_rfl
section
variable {H:Type} {enc:TypeId×Value->H} {W:Ba} {base:Nat} {spare:Nat->Bool} {held:Bool}
/-- Eight cells that read as a view are eight integers. -/
theorem open_view{fuel:Nat}{cs:List Value}{x:DataW H×List MemPlace}(h:DataW.trod enc Tryz.prog W base spare held fuel 128 cs=some x):∃v:Vw,cs=v.cells.toList:=by
 obtain⟨xs,n,rfl,_,hl,hxl,hf⟩:=Nh Tryz.underlying128 h;rw[cellsV] at hl;have hxl4:xs.length=4:=hxl
 match cs,hl with
 | [c0,c1,c2,c3,c4,c5,c6,c7],_=>
  have f0:=hf 0 _ rfl;have f1:=hf 1 _ rfl;have f2:=hf 2 _ rfl;have f3:=hf 3 _ rfl
  match xs,hxl4 with
  | [x0,x1,x2,x3],_=>
   have g0:DataW.trod enc Tryz.prog W base spare held n 3 [c0]=some x0:=by simpa[yA] using f0
   have g1:DataW.trod enc Tryz.prog W base spare held n 3 [c1]=some x1:=by simpa[yA] using f1
   have g2:DataW.trod enc Tryz.prog W base spare held n 3 [c2]=some x2:=by simpa[yA] using f2
   have g3:DataW.trod enc Tryz.prog W base spare held n 88 [c3,c4,c5,c6,c7]=some x3:=by simpa[cells5] using f3
   obtain⟨i0,e0,_,_⟩:=LN Lx g0;obtain⟨i1,e1,_,_⟩:=LN Lx g1;obtain⟨i2,e2,_,_⟩:=LN Lx g2;obtain⟨ys,m,rfl,_,_,hyl,hi⟩:=RZ Pf g3;have k0:=hi 0 (by decide);have k1:=hi 1 (by decide);have k2:=hi 2 (by decide);have k3:=hi 3 (by decide);have k4:=hi 4 (by decide)
   match ys,hyl with
   | [y0,y1,y2,y3,y4],_=>
    have j0:DataW.trod enc Tryz.prog W base spare held m 3 [c3]=some y0:=by simpa[yA] using k0
    have j1:DataW.trod enc Tryz.prog W base spare held m 3 [c4]=some y1:=by simpa[yA] using k1
    have j2:DataW.trod enc Tryz.prog W base spare held m 3 [c5]=some y2:=by simpa[yA] using k2
    have j3:DataW.trod enc Tryz.prog W base spare held m 3 [c6]=some y3:=by simpa[yA] using k3
    have j4:DataW.trod enc Tryz.prog W base spare held m 3 [c7]=some y4:=by simpa[yA] using k4
    obtain⟨a0,b0,_,_⟩:=LN Lx j0;obtain⟨a1,b1,_,_⟩:=LN Lx j1;obtain⟨a2,b2,_,_⟩:=LN Lx j2;obtain⟨a3,b3,_,_⟩:=LN Lx j3;obtain⟨a4,b4,_,_⟩:=LN Lx j4
    cases e0;cases e1;cases e2;cases b0;cases b1;cases b2;cases b3;cases b4
    exact⟨⟨i0,i1,i2,a0,a1,a2,a3,a4⟩,rfl⟩
end
end
section
open Go.RowKit
structure Rd where
 n:Int
 h0:Int
 h1:Int
 h2:Int
 h3:Int
 h4:Int
 f:Int
deriving DecidableEq,Inhabited
def Rd.h(r:Rd):Nat->Int
 | 0=>r.h0
 | 1=>r.h1
 | 2=>r.h2
 | 3=>r.h3
 | _=>r.h4
def Rd.cells(r:Rd):Array Value:=#[.int .i64 r.n,.int .i64 r.h0,.int .i64 r.h1,.int .i64 r.h2,.int .i64 r.h3,.int .i64 r.h4,.int .i64 r.f]
structure Mv where
 r:Rd
 to:Int
deriving DecidableEq,Inhabited
def Mv.cells(m:Mv):Array Value:=#[.int .i64 m.r.n,.int .i64 m.r.h0,.int .i64 m.r.h1,.int .i64 m.r.h2,.int .i64 m.r.h3,.int .i64 m.r.h4,.int .i64 m.r.f,.int .i64 m.to]
structure Cs where
 inp:List Int
 out:List (List Int)
 calm:List (List Int)
deriving DecidableEq,Inhabited
structure Tk where
 n:Int
 ins:Int
 outs:Int
 cases:List Cs
deriving DecidableEq,Inhabited
structure Ad where
 n:Int
 sts:List (List Mv)
deriving DecidableEq,Inhabited
structure Pb where
 t:Tk
 a:Ad
 k:Int
deriving DecidableEq,Inhabited
structure Exn where
 c:Int
 word:List Rd
 views:List (List Int)
deriving DecidableEq,Inhabited
structure Sy where
 p:Pb
 n:Int
 vs:List Vw
 xs:List Exn
deriving DecidableEq,Inhabited
section
variable {w w':Ba} {B B':Nat} {A:Bb}
def LAt(w:Ba)(B:Nat)(A:Bb)(xss:List (List Int)):Prop:=
 0<xss.length->∃b off,A=some ⟨b,off,none⟩/\b<B/\∀(i:Nat) (hi:i<xss.length),∃A' c,w.cell? ⟨b,off+i,none⟩=some (.slice A' xss[i].length c)/\IAt w B A' xss[i]
theorem LAt.keep{xss:List (List Int)}(h:LAt w B A xss)(hb:Below B w w'):LAt w' B A xss:=fun h0=>by
 obtain⟨b,off,e,hlt,hc⟩:=h h0;refine⟨b,off,e,hlt,fun i hi=>?_⟩;obtain⟨A',c,h1,h2⟩:=hc i hi;exact⟨A',c,(hb.cell (p:=⟨b,_,none⟩) hlt).trans h1,h2.keep hb⟩
theorem LAt.more{xss:List (List Int)}(h:LAt w B A xss)(hB:B<=B'):LAt w B' A xss:=fun h0=>by
 obtain⟨b,off,e,hlt,hc⟩:=h h0;refine⟨b,off,e,by omega,fun i hi=>?_⟩;obtain⟨A',c,h1,h2⟩:=hc i hi;exact⟨A',c,h1,h2.more hB⟩
theorem LAt.at_{xss:List (List Int)}(h:LAt w B A xss)(i:Nat)(hi:i<xss.length):∃b off A' c,A=some ⟨b,off,none⟩/\b<B/\w.cell? ⟨b,off+i,none⟩=some (.slice A' xss[i].length c)/\IAt w B A' xss[i]:=by
 obtain⟨b,off,e,hlt,hc⟩:=h (by omega);obtain⟨A',c,h1,h2⟩:=hc i hi;exact⟨b,off,A',c,e,hlt,h1,h2⟩
theorem LAt.nil(w:Ba)(B:Nat)(A:Bb):LAt w B A []:=fun h=>absurd h (by simp)
def RAt(w:Ba)(B:Nat)(A:Bb)(rs:List Rd):Prop:=
 0<rs.length->∃b off,A=some ⟨b,off,none⟩/\b<B/\∀(i:Nat) (hi:i<rs.length) (k:Nat) (u:Value),rs[i].cells[k]?=some u->w.cell? ⟨b,off+i*7+k,none⟩=some u
theorem RAt.keep{rs:List Rd}(h:RAt w B A rs)(hb:Below B w w'):RAt w' B A rs:=fun h0=>by
 obtain⟨b,off,e,hlt,hc⟩:=h h0;exact⟨b,off,e,hlt,fun i hi k u hk=>(hb.cell (p:=⟨b,_,none⟩) hlt).trans (hc i hi k u hk)⟩
theorem RAt.more{rs:List Rd}(h:RAt w B A rs)(hB:B<=B'):RAt w B' A rs:=fun h0=>by
 obtain⟨b,off,e,hlt,hc⟩:=h h0;exact⟨b,off,e,by omega,hc⟩
theorem RAt.row{rs:List Rd}(h:RAt w B A rs)(k:Nat)(hk:k<rs.length) :
  ∃b off,A=some ⟨b,off,none⟩/\b<B/\w.cell? ⟨b,off+k*7,none⟩=some (.int .i64 rs[k].n)/\w.cell? ⟨b,off+k*7+1,none⟩=some (.int .i64 rs[k].h0) /\
   w.cell? ⟨b,off+k*7+2,none⟩=some (.int .i64 rs[k].h1)/\w.cell? ⟨b,off+k*7+3,none⟩=some (.int .i64 rs[k].h2)/\w.cell? ⟨b,off+k*7+4,none⟩=some (.int .i64 rs[k].h3) /\
   w.cell? ⟨b,off+k*7+5,none⟩=some (.int .i64 rs[k].h4)/\w.cell? ⟨b,off+k*7+6,none⟩=some (.int .i64 rs[k].f):=by
 obtain⟨b,off,e,hlt,hc⟩:=h (by omega);exact⟨b,off,e,hlt,hc k hk 0 _ rfl,hc k hk 1 _ rfl,hc k hk 2 _ rfl,hc k hk 3 _ rfl,hc k hk 4 _ rfl,hc k hk 5 _ rfl,hc k hk 6 _ rfl⟩
def MAt(w:Ba)(B:Nat)(A:Bb)(ms:List Mv):Prop:=
 0<ms.length->∃b off,A=some ⟨b,off,none⟩/\b<B/\∀(i:Nat) (hi:i<ms.length) (k:Nat) (u:Value),ms[i].cells[k]?=some u->w.cell? ⟨b,off+i*8+k,none⟩=some u
theorem MAt.keep{ms:List Mv}(h:MAt w B A ms)(hb:Below B w w'):MAt w' B A ms:=fun h0=>by
 obtain⟨b,off,e,hlt,hc⟩:=h h0;exact⟨b,off,e,hlt,fun i hi k u hk=>(hb.cell (p:=⟨b,_,none⟩) hlt).trans (hc i hi k u hk)⟩
theorem MAt.more{ms:List Mv}(h:MAt w B A ms)(hB:B<=B'):MAt w B' A ms:=fun h0=>by
 obtain⟨b,off,e,hlt,hc⟩:=h h0;exact⟨b,off,e,by omega,hc⟩
theorem MAt.row{ms:List Mv}(h:MAt w B A ms)(k:Nat)(hk:k<ms.length) :
  ∃b off,A=some ⟨b,off,none⟩/\b<B/\w.cell? ⟨b,off+k*8,none⟩=some (.int .i64 ms[k].r.n)/\w.cell? ⟨b,off+k*8+1,none⟩=some (.int .i64 ms[k].r.h0) /\
   w.cell? ⟨b,off+k*8+2,none⟩=some (.int .i64 ms[k].r.h1)/\w.cell? ⟨b,off+k*8+3,none⟩=some (.int .i64 ms[k].r.h2)/\w.cell? ⟨b,off+k*8+4,none⟩=some (.int .i64 ms[k].r.h3) /\
   w.cell? ⟨b,off+k*8+5,none⟩=some (.int .i64 ms[k].r.h4)/\w.cell? ⟨b,off+k*8+6,none⟩=some (.int .i64 ms[k].r.f)/\w.cell? ⟨b,off+k*8+7,none⟩=some (.int .i64 ms[k].to):=by
 obtain⟨b,off,e,hlt,hc⟩:=h (by omega);exact⟨b,off,e,hlt,hc k hk 0 _ rfl,hc k hk 1 _ rfl,hc k hk 2 _ rfl,hc k hk 3 _ rfl,hc k hk 4 _ rfl,hc k hk 5 _ rfl,hc k hk 6 _ rfl,hc k hk 7 _ rfl⟩
def SAt(w:Ba)(B:Nat)(A:Bb)(xss:List (List Mv)):Prop:=
 0<xss.length->∃b off,A=some ⟨b,off,none⟩/\b<B/\∀(i:Nat) (hi:i<xss.length),∃A' c,w.cell? ⟨b,off+i,none⟩=some (.slice A' xss[i].length c)/\MAt w B A' xss[i]
theorem SAt.keep{xss:List (List Mv)}(h:SAt w B A xss)(hb:Below B w w'):SAt w' B A xss:=fun h0=>by
 obtain⟨b,off,e,hlt,hc⟩:=h h0;refine⟨b,off,e,hlt,fun i hi=>?_⟩;obtain⟨A',c,h1,h2⟩:=hc i hi;exact⟨A',c,(hb.cell (p:=⟨b,_,none⟩) hlt).trans h1,h2.keep hb⟩
theorem SAt.more{xss:List (List Mv)}(h:SAt w B A xss)(hB:B<=B'):SAt w B' A xss:=fun h0=>by
 obtain⟨b,off,e,hlt,hc⟩:=h h0;refine⟨b,off,e,by omega,fun i hi=>?_⟩;obtain⟨A',c,h1,h2⟩:=hc i hi;exact⟨A',c,h1,h2.more hB⟩
theorem SAt.at_{xss:List (List Mv)}(h:SAt w B A xss)(i:Nat)(hi:i<xss.length):∃b off A' c,A=some ⟨b,off,none⟩/\b<B/\w.cell? ⟨b,off+i,none⟩=some (.slice A' xss[i].length c)/\MAt w B A' xss[i]:=by
 obtain⟨b,off,e,hlt,hc⟩:=h (by omega);obtain⟨A',c,h1,h2⟩:=hc i hi;exact⟨b,off,A',c,e,hlt,h1,h2⟩
theorem SAt.nil(w:Ba)(B:Nat)(A:Bb):SAt w B A []:=fun h=>absurd h (by simp)
def WAt(w:Ba)(B:Nat)(A:Bb)(xss:List (List Rd)):Prop:=
 0<xss.length->∃b off,A=some ⟨b,off,none⟩/\b<B/\∀(i:Nat) (hi:i<xss.length),∃A' c,w.cell? ⟨b,off+i,none⟩=some (.slice A' xss[i].length c)/\RAt w B A' xss[i]
theorem WAt.keep{xss:List (List Rd)}(h:WAt w B A xss)(hb:Below B w w'):WAt w' B A xss:=fun h0=>by
 obtain⟨b,off,e,hlt,hc⟩:=h h0;refine⟨b,off,e,hlt,fun i hi=>?_⟩;obtain⟨A',c,h1,h2⟩:=hc i hi;exact⟨A',c,(hb.cell (p:=⟨b,_,none⟩) hlt).trans h1,h2.keep hb⟩
theorem WAt.more{xss:List (List Rd)}(h:WAt w B A xss)(hB:B<=B'):WAt w B' A xss:=fun h0=>by
 obtain⟨b,off,e,hlt,hc⟩:=h h0;refine⟨b,off,e,by omega,fun i hi=>?_⟩;obtain⟨A',c,h1,h2⟩:=hc i hi;exact⟨A',c,h1,h2.more hB⟩
theorem WAt.at_{xss:List (List Rd)}(h:WAt w B A xss)(i:Nat)(hi:i<xss.length):∃b off A' c,A=some ⟨b,off,none⟩/\b<B/\w.cell? ⟨b,off+i,none⟩=some (.slice A' xss[i].length c)/\RAt w B A' xss[i]:=by
 obtain⟨b,off,e,hlt,hc⟩:=h (by omega);obtain⟨A',c,h1,h2⟩:=hc i hi;exact⟨b,off,A',c,e,hlt,h1,h2⟩
def CsV(w:Ba)(B:Nat)(v0 v1 v2:Value)(x:Cs):Prop:=
 (∃A c,v0=.slice A x.inp.length c/\IAt w B A x.inp)/\(∃A c,v1=.slice A x.out.length c/\LAt w B A x.out)/\(∃A c,v2=.slice A x.calm.length c/\LAt w B A x.calm)
theorem CsV.keep{v0 v1 v2:Value}{x:Cs}(h:CsV w B v0 v1 v2 x)(hb:Below B w w'):CsV w' B v0 v1 v2 x:=by
 obtain⟨⟨A,c,e,h1⟩,⟨A2,c2,e2,h2⟩,⟨A3,c3,e3,h3⟩⟩:=h;exact⟨⟨A,c,e,h1.keep hb⟩,⟨A2,c2,e2,h2.keep hb⟩,⟨A3,c3,e3,h3.keep hb⟩⟩
theorem CsV.more{v0 v1 v2:Value}{x:Cs}(h:CsV w B v0 v1 v2 x)(hB:B<=B'):CsV w B' v0 v1 v2 x:=by
 obtain⟨⟨A,c,e,h1⟩,⟨A2,c2,e2,h2⟩,⟨A3,c3,e3,h3⟩⟩:=h;exact⟨⟨A,c,e,h1.more hB⟩,⟨A2,c2,e2,h2.more hB⟩,⟨A3,c3,e3,h3.more hB⟩⟩
def CAt(w:Ba)(B:Nat)(A:Bb)(cs:List Cs):Prop:=
 0<cs.length->∃b off,A=some ⟨b,off,none⟩/\b<B/\∀(i:Nat) (hi:i<cs.length),∃v0 v1 v2,w.cell? ⟨b,off+i*3,none⟩=some v0/\w.cell? ⟨b,off+i*3+1,none⟩=some v1/\w.cell? ⟨b,off+i*3+2,none⟩=some v2/\CsV w B v0 v1 v2 cs[i]
theorem CAt.keep{cs:List Cs}(h:CAt w B A cs)(hb:Below B w w'):CAt w' B A cs:=fun h0=>by
 obtain⟨b,off,e,hlt,hc⟩:=h h0;refine⟨b,off,e,hlt,fun i hi=>?_⟩;obtain⟨v0,v1,v2,c0,c1,c2,hv⟩:=hc i hi;exact⟨v0,v1,v2,(hb.cell (p:=⟨b,_,none⟩) hlt).trans c0,(hb.cell (p:=⟨b,_,none⟩) hlt).trans c1,(hb.cell (p:=⟨b,_,none⟩) hlt).trans c2,hv.keep hb⟩
theorem CAt.more{cs:List Cs}(h:CAt w B A cs)(hB:B<=B'):CAt w B' A cs:=fun h0=>by
 obtain⟨b,off,e,hlt,hc⟩:=h h0;refine⟨b,off,e,by omega,fun i hi=>?_⟩;obtain⟨v0,v1,v2,c0,c1,c2,hv⟩:=hc i hi;exact⟨v0,v1,v2,c0,c1,c2,hv.more hB⟩
theorem CAt.nil(w:Ba)(B:Nat)(A:Bb):CAt w B A []:=fun h=>absurd h (by simp)
theorem CAt.row{cs:List Cs}(h:CAt w B A cs)(i:Nat)(hi:i<cs.length) :
  ∃b off A0 c0 A1 c1 A2 c2,A=some ⟨b,off,none⟩/\b<B/\w.cell? ⟨b,off+i*3,none⟩=some (.slice A0 cs[i].inp.length c0)/\w.cell? ⟨b,off+i*3+1,none⟩=some (.slice A1 cs[i].out.length c1)/\w.cell? ⟨b,off+i*3+2,none⟩=some (.slice A2 cs[i].calm.length c2) /\
   IAt w B A0 cs[i].inp/\LAt w B A1 cs[i].out/\LAt w B A2 cs[i].calm:=by
 obtain⟨b,off,e,hlt,hc⟩:=h (by omega);obtain⟨v0,v1,v2,c0,c1,c2,⟨A0,k0,rfl,h0⟩,⟨A1,k1,rfl,h1⟩,⟨A2,k2,rfl,h2⟩⟩:=hc i hi;exact⟨b,off,A0,k0,A1,k1,A2,k2,e,hlt,c0,c1,c2,h0,h1,h2⟩
def XsV(w:Ba)(B:Nat)(v0 v1 v2:Value)(x:Exn):Prop:=
 v0=.int .i64 x.c/\(∃A c,v1=.slice A x.word.length c/\RAt w B A x.word)/\(∃A c,v2=.slice A x.views.length c/\LAt w B A x.views)
theorem XsV.keep{v0 v1 v2:Value}{x:Exn}(h:XsV w B v0 v1 v2 x)(hb:Below B w w'):XsV w' B v0 v1 v2 x:=by
 obtain⟨e,⟨A2,c2,e2,h2⟩,⟨A3,c3,e3,h3⟩⟩:=h;exact⟨e,⟨A2,c2,e2,h2.keep hb⟩,⟨A3,c3,e3,h3.keep hb⟩⟩
theorem XsV.more{v0 v1 v2:Value}{x:Exn}(h:XsV w B v0 v1 v2 x)(hB:B<=B'):XsV w B' v0 v1 v2 x:=by
 obtain⟨e,⟨A2,c2,e2,h2⟩,⟨A3,c3,e3,h3⟩⟩:=h;exact⟨e,⟨A2,c2,e2,h2.more hB⟩,⟨A3,c3,e3,h3.more hB⟩⟩
def XAt(w:Ba)(B:Nat)(A:Bb)(xs:List Exn):Prop:=
 0<xs.length->∃b off,A=some ⟨b,off,none⟩/\b<B/\∀(i:Nat) (hi:i<xs.length),∃v0 v1 v2,w.cell? ⟨b,off+i*3,none⟩=some v0/\w.cell? ⟨b,off+i*3+1,none⟩=some v1/\w.cell? ⟨b,off+i*3+2,none⟩=some v2/\XsV w B v0 v1 v2 xs[i]
theorem XAt.keep{xs:List Exn}(h:XAt w B A xs)(hb:Below B w w'):XAt w' B A xs:=fun h0=>by
 obtain⟨b,off,e,hlt,hc⟩:=h h0;refine⟨b,off,e,hlt,fun i hi=>?_⟩;obtain⟨v0,v1,v2,c0,c1,c2,hv⟩:=hc i hi;exact⟨v0,v1,v2,(hb.cell (p:=⟨b,_,none⟩) hlt).trans c0,(hb.cell (p:=⟨b,_,none⟩) hlt).trans c1,(hb.cell (p:=⟨b,_,none⟩) hlt).trans c2,hv.keep hb⟩
theorem XAt.more{xs:List Exn}(h:XAt w B A xs)(hB:B<=B'):XAt w B' A xs:=fun h0=>by
 obtain⟨b,off,e,hlt,hc⟩:=h h0;refine⟨b,off,e,by omega,fun i hi=>?_⟩;obtain⟨v0,v1,v2,c0,c1,c2,hv⟩:=hc i hi;exact⟨v0,v1,v2,c0,c1,c2,hv.more hB⟩
theorem XAt.nil(w:Ba)(B:Nat)(A:Bb):XAt w B A []:=fun h=>absurd h (by simp)
theorem XAt.row{xs:List Exn}(h:XAt w B A xs)(i:Nat)(hi:i<xs.length) :
  ∃b off A1 c1 A2 c2,A=some ⟨b,off,none⟩/\b<B/\w.cell? ⟨b,off+i*3,none⟩=some (.int .i64 xs[i].c)/\w.cell? ⟨b,off+i*3+1,none⟩=some (.slice A1 xs[i].word.length c1)/\w.cell? ⟨b,off+i*3+2,none⟩=some (.slice A2 xs[i].views.length c2) /\
   RAt w B A1 xs[i].word/\LAt w B A2 xs[i].views:=by
 obtain⟨b,off,e,hlt,hc⟩:=h (by omega);obtain⟨v0,v1,v2,c0,c1,c2,rfl,⟨A1,k1,rfl,h1⟩,⟨A2,k2,rfl,h2⟩⟩:=hc i hi;exact⟨b,off,A1,k1,A2,k2,e,hlt,c0,c1,c2,h1,h2⟩
end
end
section
open Go.RowKit
attribute [local go_sem] Oper.semAt_some
theorem qY(w:Ba)(n m:Nat):(w.drewN n).drewN m=w.drewN (n+m):=by unfold World.drewN;simp[Nat.add_assoc]
theorem xt{α:Type}{xs ys:List α}{k:Nat}(h:xs.take k=ys.take k)(h1:k<xs.length)(h2:k<ys.length)(he:xs[k]=ys[k]):xs.take (k+1)=ys.take (k+1):=by
 rw[Lu h1,Lu h2,h,he]
theorem qA{α:Type}{xs ys:List α}(hl:xs.length=ys.length)(h:xs.take xs.length=ys.take xs.length):xs=ys:=by
 rw[LG] at h
 conv at h=>rhs;rw[hl,LG]
 exact h
theorem Yc(A B:Bb)(ca cb:Nat)(xs ys:List Int)(hx:xs.length<=17592186044416)(_hy:ys.length<=17592186044416)(w:Ba)(hA:IAt w w.heap.size A xs)(hB:IAt w w.heap.size B ys) :
  Calls Tryz.prog 156 #[.slice A xs.length ca,.slice B ys.length cb] w fun e w'=>e=.returned (.bool (decide (xs=ys)))/\∃n,w'=w.drewN n:=by
 have HA:=zH hA;have HB:=zH hB;have HT:Hid (∀b,(xs=ys↔b=true)->decide (xs=ys)=b):=fun b h=>by cases b<;>simp_all
 obtain⟨r,hr⟩:∃r,decide (xs=ys)=r:=⟨_,rfl⟩;rw[hr] at HT ⊢;clear hA hB hr;go_enter Tryz.func156,Tryz.ntmps156
 by_cases hl:xs.length=ys.length
 case neg=>
  have hR:Hid (r=false):=HT.out false ⟨fun h=>absurd (congrArg List.length h) hl,fun h=>by cases h⟩;have e0:((xs.length:Int) != (ys.length:Int))=true:=by simp;omega
  have e1:¬((xs.length:Int)=(ys.length:Int)):=by omega
  clear HT hl;go_wp2_with fail;go_ret;exact⟨zm hR.out.symm,0,rfl⟩
 case pos=>
 have HL:=zH hl;rw[<-hl] at _hy ⊢;clear hl;go_wp2_with fail
 go_loopw [5] (fun i wr=>∃k n:Nat,k<=xs.length/\i=.int .i64 (k:Int)/\Hid (xs.take k=ys.take k)/\Hid (wr=w.drewN n)) (fun i _=>xs.length-(intOf i).toNat)
 case atStart=>exact⟨0,0,by omega,rfl,by rw[Hid,LS,LS],rfl⟩
 case round=>
  obtain⟨k,n,hk,rfl,hp,hw⟩:=hrel
  by_cases hlt:k<xs.length
  case neg=>
   obtain rfl:k=xs.length:=by omega
   have hR:Hid (r=true):=HT.out true ⟨fun _=>rfl,fun _=>qA HL.out hp.out⟩;clear HT hp;go_wp2_with fail;go_ret;exact⟨zm hR.out.symm,n,hw.out⟩
  case pos=>
  have hky:k<ys.length:=by have:=HL.out;omega
  obtain⟨ba,oa,ea,_,c1⟩:=HA.out.at_ k hlt;obtain⟨bb,ob,eb,_,c2⟩:=HB.out.at_ k hky;subst ea;subst eb;have c1:wr.cell? ⟨ba,oa+k,none⟩=some (.int .i64 xs[k]):=by rw[hw.out];exact c1
  have c2:wr.cell? ⟨bb,ob+k,none⟩=some (.int .i64 ys[k]):=by rw[hw.out];exact c2
  by_cases he:xs[k]=ys[k]
  . have hR:=zH (xt hp.out hlt hky he)
    rw[<-he] at c2;obtain⟨u,hu⟩:=Ki (xs[k]);rw[hu] at c1 c2;clear hu he hp HT;go_wp2_with fail;go_quiet (fail);go_wp2_with fail
    go_roundw
    case rel=>exact⟨k+1,n+nq,by omega,by go_num,hR,by rw[Hid,hw.out,qY]⟩
    case measure=>simp[intOf];omega
  . have hR:Hid (r=false):=HT.out false ⟨fun h=>absurd (by subst h;rfl) he,fun h=>by cases h⟩
    obtain⟨u,hu⟩:=Ki (xs[k]);obtain⟨v,hv⟩:=Ki (ys[k]);rw[hu,hv] at he;rw[hu] at c1;rw[hv] at c2;have e0:(u != v)=true:=by simpa using he
    clear hu hv hp HT;go_wp2_with fail;go_quiet (fail);go_wp2_with fail;go_ret;exact⟨zm hR.out.symm,n+nq,by rw[hw.out,qY]⟩
end
section
open Go.RowKit
theorem yo(xs:Array Value)(i:Nat)(x:Value)(h:xs[i]?=some x)(w:Ba):(part 3 xs i).run Tryz.prog w=.ok x w:=by
 have hi:Tryz.prog.underlying 3=some (.int .i64):=Lx;unfold part isAgg;simp[go_sem,run_underlying hi,h]
def hE(v u:Vw):Bool:=v.h0==u.h0&&(v.h1==u.h1&&(v.h2==u.h2&&(v.h3==u.h3&&v.h4==u.h4)))
theorem uY(d:Nat)(v u:Vw)(w:Ba):(Op.equalIn (d+2) 88 (.agg #[.int .i64 v.h0,.int .i64 v.h1,.int .i64 v.h2,.int .i64 v.h3,.int .i64 v.h4]) (.agg #[.int .i64 u.h0,.int .i64 u.h1,.int .i64 u.h2,.int .i64 u.h3,.int .i64 u.h4])).run Tryz.prog w =
  .ok (hE v u) w:=by
 have hu:Tryz.prog.underlying 88=some (.array 5 3):=Pf;have hi:Tryz.prog.underlying 3=some (.int .i64):=Lx;have hs:(sizeOf 3).run Tryz.prog w=.ok 1 w:=by kernel_rfl
 have p0:=fun x0 x1 x2 x3 x4=>yo #[x0,x1,x2,x3,x4] 0 x0 rfl w
 have p1:=fun x0 x1 x2 x3 x4=>yo #[x0,x1,x2,x3,x4] 1 x1 rfl w
 have p2:=fun x0 x1 x2 x3 x4=>yo #[x0,x1,x2,x3,x4] 2 x2 rfl w
 have p3:=fun x0 x1 x2 x3 x4=>yo #[x0,x1,x2,x3,x4] 3 x3 rfl w
 have p4:=fun x0 x1 x2 x3 x4=>yo #[x0,x1,x2,x3,x4] 4 x4 rfl w
 unfold Op.equalIn hE
 cases h0:(v.h0==u.h0)
 . simp only[Sem.run_bind,run_underlying hu,Result.andThen_ok,hs,Std.Legacy.Range.forIn_eq_forIn_range',Std.Legacy.Range.size,Nat.sub_zero,Nat.add_sub_cancel,Nat.div_one,show List.range' 0 5 1=[0,1,2,3,4] from rfl,List.forIn_cons,List.forIn_nil,p0,Nat.mul_one,run_equalIn_int w d 3 _ _ _ _ hi,h0,Bool.not_false,if_true,Sem.run_pure,Bool.false_and]
 cases h1:(v.h1==u.h1)
 . simp only[Sem.run_bind,run_underlying hu,Result.andThen_ok,hs,Std.Legacy.Range.forIn_eq_forIn_range',Std.Legacy.Range.size,Nat.sub_zero,Nat.add_sub_cancel,Nat.div_one,show List.range' 0 5 1=[0,1,2,3,4] from rfl,List.forIn_cons,List.forIn_nil,p0,p1,Nat.mul_one,run_equalIn_int w d 3 _ _ _ _ hi,h0,h1,Bool.not_false,Bool.not_true,if_true,Bool.false_eq_true,if_false,Sem.run_pure,Bool.true_and,Bool.false_and]
 cases h2:(v.h2==u.h2)
 . simp only[Sem.run_bind,run_underlying hu,Result.andThen_ok,hs,Std.Legacy.Range.forIn_eq_forIn_range',Std.Legacy.Range.size,Nat.sub_zero,Nat.add_sub_cancel,Nat.div_one,show List.range' 0 5 1=[0,1,2,3,4] from rfl,List.forIn_cons,List.forIn_nil,p0,p1,p2,Nat.mul_one,run_equalIn_int w d 3 _ _ _ _ hi,h0,h1,h2,Bool.not_false,Bool.not_true,if_true,Bool.false_eq_true,if_false,Sem.run_pure,Bool.true_and,Bool.false_and]
 cases h3:(v.h3==u.h3)
 . simp only[Sem.run_bind,run_underlying hu,Result.andThen_ok,hs,Std.Legacy.Range.forIn_eq_forIn_range',Std.Legacy.Range.size,Nat.sub_zero,Nat.add_sub_cancel,Nat.div_one,show List.range' 0 5 1=[0,1,2,3,4] from rfl,List.forIn_cons,List.forIn_nil,p0,p1,p2,p3,Nat.mul_one,run_equalIn_int w d 3 _ _ _ _ hi,h0,h1,h2,h3,Bool.not_false,Bool.not_true,if_true,Bool.false_eq_true,if_false,Sem.run_pure,Bool.true_and,Bool.false_and]
 cases h4:(v.h4==u.h4)
 . simp only[Sem.run_bind,run_underlying hu,Result.andThen_ok,hs,Std.Legacy.Range.forIn_eq_forIn_range',Std.Legacy.Range.size,Nat.sub_zero,Nat.add_sub_cancel,Nat.div_one,show List.range' 0 5 1=[0,1,2,3,4] from rfl,List.forIn_cons,List.forIn_nil,p0,p1,p2,p3,p4,Nat.mul_one,run_equalIn_int w d 3 _ _ _ _ hi,h0,h1,h2,h3,h4,Bool.not_false,Bool.not_true,if_true,Bool.false_eq_true,if_false,Sem.run_pure,Bool.true_and]
 simp only[Sem.run_bind,run_underlying hu,Result.andThen_ok,hs,Std.Legacy.Range.forIn_eq_forIn_range',Std.Legacy.Range.size,Nat.sub_zero,Nat.add_sub_cancel,Nat.div_one,show List.range' 0 5 1=[0,1,2,3,4] from rfl,List.forIn_cons,List.forIn_nil,p0,p1,p2,p3,p4,Nat.mul_one,run_equalIn_int w d 3 _ _ _ _ hi,h0,h1,h2,h3,h4,Bool.not_true,Bool.false_eq_true,if_false,Sem.run_pure,Bool.true_and]
theorem vG(d:Nat)(v u:Vw)(w:Ba):(Op.equalIn (d+3) 128 (.agg v.cells) (.agg u.cells)).run Tryz.prog w=.ok (decide (v=u)) w:=by
 have hu:Tryz.prog.underlying 128=some (.struct (Tryz.prog.fieldsOf 128)):=by kernel_rfl
 have hi:Tryz.prog.underlying 3=some (.int .i64):=Lx;have hf : (Tryz.prog.fieldsOf 128).toList.map (fun f => (f.name, f.type, f.offset)) = [("Proc", 3, 0), ("Round", 3, 1), ("Input", 3, 2), ("Heard", 88, 3)] := by kernel_rfl
 rw[PW w (d+2) 128 _ _ hu (by kernel_rfl)];have p0:∀x:Vw,(part 3 x.cells 0).run Tryz.prog w=.ok (.int .i64 x.p) w:=fun x=>yo _ 0 _ rfl w
 have p1:∀x:Vw,(part 3 x.cells 1).run Tryz.prog w=.ok (.int .i64 x.r) w:=fun x=>yo _ 1 _ rfl w
 have p2:∀x:Vw,(part 3 x.cells 2).run Tryz.prog w=.ok (.int .i64 x.i) w:=fun x=>yo _ 2 _ rfl w
 have p3:∀x:Vw,(part 88 x.cells 3).run Tryz.prog w=.ok (.agg #[.int .i64 x.h0,.int .i64 x.h1,.int .i64 x.h2,.int .i64 x.h3,.int .i64 x.h4]) w:=fun x=>by unfold Vw.cells;kernel_rfl
 generalize (Tryz.prog.fieldsOf 128).toList=fs at hf
 obtain⟨f0,f1,f2,f3,rfl⟩:∃f0 f1 f2 f3,fs=[f0,f1,f2,f3]:=by
  have hl:fs.length=4:=by simpa using congrArg List.length hf
  rcases fs with _ | ⟨f0,_ | ⟨f1,_ | ⟨f2,_ | ⟨f3,_ | ⟨f4,r⟩⟩⟩⟩⟩<;>simp at hl
  exact⟨_,_,_,_,rfl⟩
 . clear hu
   simp only[List.map_cons,List.map_nil,List.cons.injEq,Prod.mk.injEq,and_true] at hf;obtain⟨⟨n0,t0,o0⟩,⟨n1,t1,o1⟩,⟨n2,t2,o2⟩,⟨n3,t3,o3⟩⟩:=hf
   have hd:decide (v=u)=(v.p==u.p&&(v.r==u.r&&(v.i==u.i&&hE v u))):=by
    unfold hE;obtain⟨a0,a1,a2,a3,a4,a5,a6,a7⟩:=v;obtain⟨b0,b1,b2,b3,b4,b5,b6,b7⟩:=u;rw[Pd];simp
   rw[hd]
   cases h0:(v.p==u.p)<;>cases h1:(v.r==u.r)<;>cases h2:(v.i==u.i)<;>cases h3:hE v u <;>
    simp only[Op.eqFields,n0,n1,n2,n3,t0,t1,t2,t3,o0,o1,o2,o3,p0,p1,p2,p3,Sem.run_bind,Result.andThen_ok,run_equalIn_int w _ 3 _ _ _ _ hi,uY,h0,h1,h2,h3,ne_eq,not_false_eq_true,if_true,Bool.not_false,Bool.not_true,Bool.false_eq_true,if_false,Sem.run_pure,Bool.true_and,Bool.false_and,String.reduceEq]
theorem eql_view(v u:Vw)(w:Ba):(binOp .eql 128 (.agg v.cells) (.agg u.cells)).run Tryz.prog w=.ok (.bool (decide (v=u))) w:=by
 simp only[binOp];simp[Op.equal,Op.maxDepth,vG 9997 v u w]
theorem Qv(v u:Vw)(w:Ba):(binOp .neq 128 (.agg v.cells) (.agg u.cells)).run Tryz.prog w=.ok (.bool (decide (v≠u))) w:=by
 simp only[binOp];simp[Op.equal,Op.maxDepth,vG 9997 v u w]
def uq(p:Nat->Bool):Bool:=(List.range 32).all p
theorem jk{p:Nat->Bool}(h:uq p=true){s:Nat}(hs:s<32):p s=true:=LK.1 h s (by simpa using hs)
def zL(s k:Nat):List Nat:=(List.range k).filter fun p=>s.testBit p
theorem km{s k:Nat}:zL s (k+1)=if s.testBit k=true then zL s k++[k] else zL s k:=by
 unfold zL;rw[R8,List.filter_append]
 by_cases h:s.testBit k=true<;>simp[h]
def uE(n:Int):Int:=if n<1\/5<n then 1 else 0
def yY(n s:Int):Int:=if n<1\/5<n then 1 else if s<0\/(2^n.toNat:Nat)<=s then 2 else 0
theorem procs_any(n:Int)(w:Ba):Calls Tryz.prog 148 #[.int .i64 n] w fun e w'=>e=.returned (.int .i64 (uE n))/\w=w':=by
 have H:Hid (uE n=if n<1\/5<n then 1 else 0):=rfl;go_enter Tryz.func148,Tryz.ntmps148;go_wp2
 all_goals
  go_ret;refine⟨zk ?_,rfl⟩;rw[H.out]
  first | (rw[Lh (by omega)]) | (rw[Lg (by omega)])
theorem Jv(n:Int)(w:Ba):Calls Tryz.prog 158 #[.int .i64 n] w fun e w'=>e=.returned (.int .i64 (uE n))/\w=w':=by
 have H:Hid (uE n=if n<1\/5<n then 1 else 0):=rfl;go_enter Tryz.func158,Tryz.ntmps158;go_wp2
 all_goals
  go_ret;refine⟨zk ?_,rfl⟩;rw[H.out]
  first | (rw[Lh (by omega)]) | (rw[Lg (by omega)])
theorem procs_ok{n:Int}(h:¬(n<1\/5<n)):n=1\/n=2\/n=3\/n=4\/n=5:=by omega
theorem Zu{n:Int}(h:n<1\/5<n):uE n=1:=Lh h
theorem YH{n:Int}(h:¬(n<1\/5<n)):uE n=0:=Lg h
theorem Y6(n s:Int)(w:Ba):Calls Tryz.prog 127 #[.int .i64 n,.int .i64 s] w fun e w'=>e=.returned (.int .i64 (yY n s))/\w=w':=by
 have H:Hid (yY n s=if n<1\/5<n then 1 else if s<0\/(2^n.toNat:Nat)<=s then 2 else 0):=rfl;go_enter Tryz.func127,Tryz.ntmps127;go_wp2_with fail;refine(procs_any n w).mono ?_;rintro e w' ⟨rfl,rfl⟩
 by_cases hn:n<1\/5<n
 . rw[Zu hn]
   rw[Lh hn] at H;go_wp2;go_ret;exact⟨zk H.out.symm,rfl⟩
 . rw[YH hn]
   rw[Lg hn] at H;rcases procs_ok hn with rfl | rfl | rfl | rfl | rfl
   all_goals
    clear hn;go_wp2
   all_goals
    try simp only[bne_iff_ne,ne_eq,bne_eq_false_iff_eq] at *
    go_ret;refine⟨zk ?_,rfl⟩;rw[H.out]
    first | (rw[Lh (by simp;omega)]) | (rw[Lg (by simp;omega)])
theorem check_ok{n s:Int}(h:yY n s=0):∃m k:Nat,n=(m:Int)/\s=(k:Int)/\1<=m/\m<=5/\k<2^m/\k<32:=by
 unfold yY at h
 split at h
 . cases h
 . split at h
   . cases h
   . rename_i h1 h2
     refine⟨n.toNat,s.toNat,by omega,by omega,by omega,by omega,?_,?_⟩
     . omega
     . have:2^n.toNat<=2^5:=Ni (by omega) (by omega)
       omega
theorem uG(k:Nat)(hk:k<=5)(w:Ba):Calls Tryz.prog 78 #[.int .i64 k] w fun e w'=>e=.returned (.int .i64 ((2^k:Nat):Int))/\w=w':=by
 go_enter Tryz.func78,Tryz.ntmps78;go_wp2
 go_loop [3,4] (fun v i=>∃j q:Nat,j<=k/\q=2^j/\q<=32/\v=.int .i64 (q:Int)/\i=.int .i64 (j:Int)) (fun _ i=>5-(intOf i).toNat)
 case atStart=>exact⟨0,1,by omega,rfl,by omega,rfl,rfl⟩
 case round=>
  obtain⟨j,q,hj,hq,hq2,rfl,rfl⟩:=hrel;have H:Hid (q=2^j):=hq;clear hq
  by_cases hlt:j<k
  . go_wp2
    go_round
    case rel=>
     have h1:q*2=2^(j+1):=by rw[H.out,Nat.pow_succ]
     have h2:(2^(j+1):Nat)<=2^5:=Ni (by omega) (by omega);exact⟨j+1,q*2,by omega,h1,by omega,by go_num,by go_num⟩
    case measure=>simp[intOf];omega
  . obtain rfl:j=k:=by omega
    go_wp2;go_ret;exact⟨by have:=H.out;subst this;simp,rfl⟩
theorem JD(n s:Int)(w:Ba):Calls Tryz.prog 146 #[.int .i64 n,.int .i64 s] w fun e w'=>e=.returned (.int .i64 (yY n s))/\w=w':=by
 have H:Hid (yY n s=if n<1\/5<n then 1 else if s<0\/(2^n.toNat:Nat)<=s then 2 else 0):=rfl;go_enter Tryz.func146,Tryz.ntmps146;go_wp2_with fail;refine(Jv n w).mono ?_;rintro e w' ⟨rfl,rfl⟩
 by_cases hn:n<1\/5<n
 . rw[Zu hn]
   rw[Lh hn] at H;go_wp2;go_ret;exact⟨zk H.out.symm,rfl⟩
 . rw[YH hn]
   rw[Lg hn] at H;obtain⟨m,rfl⟩:=Lr (show 0<=n by omega);have hp:=uG m (by omega) w;go_wp2_with fail
   . refine hp.mono ?_
     rintro e w' ⟨rfl,rfl⟩;go_wp2_with fail
     all_goals
      go_ret;refine⟨zk ?_,rfl⟩;rw[H.out]
      first | (rw[Lh (by simp;omega)]) | (rw[Lg (by simp;omega)])
   . go_ret
     refine⟨zk ?_,rfl⟩;rw[H.out,Lh (by omega)]
def zy:List Int->List Int->Int
 | [],[]=>0
 | [],_::_=>-1
 | _::_,[]=>1
 | a::l,b::m=>if a<b then -1 else if b<a then 1 else zy l m
theorem xB:∀l:List Int,zy l l=0
 | []=>rfl
 | a::l=>by rw[zy,Lg (Int.lt_irrefl a),Lg (Int.lt_irrefl a),xB l]
theorem qB:∀ {l m:List Int},zy l m=0->l=m
 | [],[],_=>rfl
 | [],_::_,h=>by cases h
 | _::_,[],h=>by cases h
 | a::l,b::m,h=>by
  rw[zy] at h
  split at h
  . cases h
  . split at h
    . cases h
    . rw[qB h,show a=b by omega]
theorem Zw{l m:List Int}{k:Nat}(h1:k<l.length)(h2:k<m.length):zy (l.drop k) (m.drop k)=if l[k]<m[k] then -1 else if m[k]<l[k] then 1 else zy (l.drop (k+1)) (m.drop (k+1)):=by
 rw[Ly h1,Ly h2,zy]
theorem uI{l m:List Int}{k:Nat}(h:k=l.length\/k=m.length)(h1:k<=l.length)(h2:k<=m.length):zy (l.drop k) (m.drop k)=if l.length<m.length then -1 else if m.length<l.length then 1 else 0:=by
 rcases h with h | h
 . subst h
   rw[Nm]
   by_cases hm:l.length<m.length
   . rw[Lh hm,Ly hm];rfl
   . have:m.drop l.length=[]:=List.drop_of_length_le (by omega)
     rw[this,Lg hm,Lg (by omega)];rfl
 . subst h
   rw[Nm]
   by_cases hm:m.length<l.length
   . rw[Lg (by omega),Lh hm,Ly hm];rfl
   . have:l.drop m.length=[]:=List.drop_of_length_le (by omega)
     rw[this,Lg (by omega),Lg hm];rfl
def kp(m x:Int):Bool:=decide (x<0\/m<=x)
def zK(v:List Int)(n m:Int):Int:=if (v.length:Int)≠n then 15 else if v.any (kp m)=true then 2 else 0
def zD{α:Type}(l:List α)(k:Nat):Option α:=if k=0 then none else l[k-1]?
theorem wK{α:Type}(l:List α):zD l 0=none:=rfl
theorem yq{α:Type}(l:List α)(k:Nat)(hk:k<l.length):zD l (k+1)=some l[k]:=by unfold zD;simp[hk]
def qj(p:Option (List Int))(v:List Int):Bool:=match p with | none=>false | some q=>decide (0<=zy q v)
def jN(f:List Int->Int):Option (List Int)->List (List Int)->Int
 | _,[]=>0
 | p,v::r=>if f v≠0 then f v else if qj p v=true then 14 else jN f (some v) r
def qQ(f:List Int->Int)(l:List (List Int)):Int:=jN f none l
def yG(f:List Int->Int)(l:List (List Int))(k:Nat):Int:=jN f (zD l k) (l.drop k)
theorem qa{f:List Int->Int}{l:List (List Int)}:yG f l 0=qQ f l:=by unfold yG qQ;rw[wK,L4]
theorem qn{f:List Int->Int}{l:List (List Int)}:yG f l l.length=0:=by unfold yG;rw[Nm];rfl
theorem qo{f:List Int->Int}{l:List (List Int)}{k:Nat}(hk:k<l.length)(h:f l[k]≠0):yG f l k=f l[k]:=by
 unfold yG;rw[Ly hk,jN,Lh h]
theorem xH{f:List Int->Int}{l:List (List Int)}{k:Nat}(hk:k<l.length)(h:f l[k]=0)(h2:qj (zD l k) l[k]=true):yG f l k=14:=by
 unfold yG;rw[Ly hk,jN,Lg (by simpa using h),Lh h2]
theorem qO{f:List Int->Int}{l:List (List Int)}{k:Nat}(hk:k<l.length)(h:f l[k]=0)(h2:qj (zD l k) l[k]=false):yG f l k=yG f l (k+1):=by
 unfold yG;rw[Ly hk,jN,Lg (by simpa using h),Lg (by rw[h2];decide),yq l k hk]
def qE(l:List (List Int))(v:List Int):Int:=if v∈l then 0 else 6
def kC(n m:Int)(c:Cs):Int:=
 if c.out.length<1\/1024<c.out.length then 5 else if qQ (fun v=>zK v n m) c.out≠0 then qQ (fun v=>zK v n m) c.out else qQ (qE c.out) c.calm
def qJ(t:Tk)(p:Option Cs)(c:Cs):Int:=
 if zK c.inp t.n t.ins≠0 then zK c.inp t.n t.ins else if qj (p.map Cs.inp) c.inp=true then 14 else kC t.n t.outs c
def kR(t:Tk):Option Cs->List Cs->Int
 | _,[]=>0
 | p,c::r=>if qJ t p c≠0 then qJ t p c else kR t (some c) r
def xM(t:Tk)(l:List Cs)(k:Nat):Int:=kR t (zD l k) (l.drop k)
theorem gq{t:Tk}{l:List Cs}:xM t l l.length=0:=by unfold xM;rw[Nm];rfl
theorem gt{t:Tk}{l:List Cs}{k:Nat}(hk:k<l.length)(h:qJ t (zD l k) l[k]≠0):xM t l k=qJ t (zD l k) l[k]:=by
 unfold xM;rw[Ly hk,kR,Lh h]
theorem Z2{t:Tk}{l:List Cs}{k:Nat}(hk:k<l.length)(h:qJ t (zD l k) l[k]=0):xM t l k=xM t l (k+1):=by
 unfold xM;rw[Ly hk,kR,Lg (by simpa using h),yq l k hk]
def xn(t:Tk):Int:=
 if t.n<1\/5<t.n\/t.ins<1\/8<t.ins\/t.outs<1\/8<t.outs then 2 else if t.cases.length<1\/1024<t.cases.length then 5 else xM t t.cases 0
def xN(n:Int)(p:Nat)(x:Int):Int:=
 if n<=p then (if x≠0 then 3 else 0) else if x<0\/(2^n.toNat-1:Nat)<x then 2 else if x.toNat.testBit p=true then 0 else 3
def yC(r:Rd):Nat->Nat->Int
 | 0,_=>0
 | k+1,p=>if xN r.n p (r.h p)≠0 then xN r.n p (r.h p) else yC r k (p+1)
def yJ(r:Rd):Int:=if r.n<1\/5<r.n then 2 else yC r 5 0
def yi(r:Rd):Int:=if yJ r≠0 then yJ r else yY r.n r.f
def Rd.gl(r:Rd):List Int:=[r.n,r.h0,r.h1,r.h2,r.h3,r.h4]
def Rd.l(r:Rd):List Int:=[r.n,r.h0,r.h1,r.h2,r.h3,r.h4,r.f]
def Yr(p:Option Mv)(m:Mv):Bool:=match p with | none=>false | some q=>decide (0<=zy q.r.l m.r.l)
def qb(a:Ad)(p:Option Mv)(m:Mv):Int:=
 if yi m.r≠0 then yi m.r else if m.r.n≠a.n then 22 else if Yr p m=true then 14 else if m.to<0\/(a.sts.length:Int)<=m.to then 2 else 0
def kL(a:Ad):Option Mv->List Mv->Int
 | _,[]=>0
 | p,m::r=>if qb a p m≠0 then qb a p m else kL a (some m) r
def xV(a:Ad)(l:List Mv)(k:Nat):Int:=kL a (zD l k) (l.drop k)
theorem wR{a:Ad}{l:List Mv}:xV a l l.length=0:=by unfold xV;rw[Nm];rfl
theorem wS{a:Ad}{l:List Mv}{k:Nat}(hk:k<l.length)(h:qb a (zD l k) l[k]≠0):xV a l k=qb a (zD l k) l[k]:=by
 unfold xV;rw[Ly hk,kL,Lh h]
theorem ZB{a:Ad}{l:List Mv}{k:Nat}(hk:k<l.length)(h:qb a (zD l k) l[k]=0):xV a l k=xV a l (k+1):=by
 unfold xV;rw[Ly hk,kL,Lg (by simpa using h),yq l k hk]
def qp(a:Ad)(l:List Mv):Int:=if l.length=0 then 19 else xV a l 0
def zI(a:Ad):List (List Mv)->Int
 | []=>0
 | l::r=>if qp a l≠0 then qp a l else zI a r
theorem ve{a:Ad}{l:List (List Mv)}{k:Nat}(h:k=l.length):zI a (l.drop k)=0:=by subst h;rw[Nm];rfl
theorem vf{a:Ad}{l:List (List Mv)}{k:Nat}(hk:k<l.length)(h:qp a l[k]≠0):zI a (l.drop k)=qp a l[k]:=by
 rw[Ly hk,zI,Lh h]
theorem vQ{a:Ad}{l:List (List Mv)}{k:Nat}(hk:k<l.length)(h:qp a l[k]=0):zI a (l.drop k)=zI a (l.drop (k+1)):=by
 rw[Ly hk,zI,Lg (by simpa using h)]
def Ad.mvs(a:Ad):List Mv:=a.sts.flatten
def Ad.at_(a:Ad)(s:Int):List Mv:=a.sts.getD s.toNat []
def qV(m k:Mv):Bool:=m.r.f.toNat &&& k.r.f.toNat==m.r.f.toNat
def xO(a:Ad):Bool:=a.mvs.all fun m=>(a.at_ m.to).all fun k=>qV m k
def qk(a:Ad):Int:=
 if a.n<1\/5<a.n then 2 else if a.sts.length<1\/256<a.sts.length\/4096<a.mvs.length then 5 else if zI a a.sts≠0 then zI a a.sts else if xO a=true then 0 else 21
def zU(p:Pb):Int:=
 if xn p.t≠0 then xn p.t else if qk p.a≠0 then qk p.a else if p.t.n≠p.a.n then 22 else if p.k<0\/6<p.k then 2 else 0
def Rd.gcells(r:Rd):Array Value:=#[.int .i64 r.n,.int .i64 r.h0,.int .i64 r.h1,.int .i64 r.h2,.int .i64 r.h3,.int .i64 r.h4]
def hR(v u:Rd):Bool:=v.h0==u.h0&&(v.h1==u.h1&&(v.h2==u.h2&&(v.h3==u.h3&&v.h4==u.h4)))
theorem eqlIn_arrR(d:Nat)(v u:Rd)(w:Ba):(Op.equalIn (d+2) 88 (.agg #[.int .i64 v.h0,.int .i64 v.h1,.int .i64 v.h2,.int .i64 v.h3,.int .i64 v.h4]) (.agg #[.int .i64 u.h0,.int .i64 u.h1,.int .i64 u.h2,.int .i64 u.h3,.int .i64 u.h4])).run Tryz.prog w =
  .ok (hR v u) w:=uY d ⟨0,0,0,v.h0,v.h1,v.h2,v.h3,v.h4⟩ ⟨0,0,0,u.h0,u.h1,u.h2,u.h3,u.h4⟩ w
theorem jJ(d:Nat)(v u:Rd)(w:Ba):(Op.equalIn (d+3) 90 (.agg v.gcells) (.agg u.gcells)).run Tryz.prog w=.ok (decide (v.gl=u.gl)) w:=by
 have hu:Tryz.prog.underlying 90=some (.struct (Tryz.prog.fieldsOf 90)):=by kernel_rfl
 have hi:Tryz.prog.underlying 3=some (.int .i64):=Lx;have hf : (Tryz.prog.fieldsOf 90).toList.map (fun f => (f.name, f.type, f.offset)) = [("N", 3, 0), ("Hears", 88, 1)] := by kernel_rfl
 rw[PW w (d+2) 90 _ _ hu (by kernel_rfl)];have p0:∀x:Rd,(part 3 x.gcells 0).run Tryz.prog w=.ok (.int .i64 x.n) w:=fun x=>yo _ 0 _ rfl w
 have p1:∀x:Rd,(part 88 x.gcells 1).run Tryz.prog w=.ok (.agg #[.int .i64 x.h0,.int .i64 x.h1,.int .i64 x.h2,.int .i64 x.h3,.int .i64 x.h4]) w:=fun x=>by unfold Rd.gcells;kernel_rfl
 generalize (Tryz.prog.fieldsOf 90).toList=fs at hf
 obtain⟨f0,f1,rfl⟩:∃f0 f1,fs=[f0,f1]:=by
  have hl:fs.length=2:=by simpa using congrArg List.length hf
  rcases fs with _ | ⟨f0,_ | ⟨f1,_ | ⟨f2,r⟩⟩⟩<;>simp at hl
  exact⟨_,_,rfl⟩
 . clear hu
   simp only[List.map_cons,List.map_nil,List.cons.injEq,Prod.mk.injEq,and_true] at hf;obtain⟨⟨n0,t0,o0⟩,⟨n1,t1,o1⟩⟩:=hf
   have hd:decide (v.gl=u.gl)=(v.n==u.n&&hR v u):=by
    unfold hR Rd.gl;obtain⟨a0,a1,a2,a3,a4,a5,a6⟩:=v;obtain⟨b0,b1,b2,b3,b4,b5,b6⟩:=u;rw[Pd];simp
   rw[hd]
   cases h0:(v.n==u.n)<;>cases h3:hR v u <;>
    simp only[Op.eqFields,n0,n1,t0,t1,o0,o1,p0,p1,Sem.run_bind,Result.andThen_ok,run_equalIn_int w _ 3 _ _ _ _ hi,eqlIn_arrR,h0,h3,ne_eq,not_false_eq_true,if_true,Bool.not_false,Bool.not_true,Bool.false_eq_true,if_false,Sem.run_pure,Bool.true_and,Bool.false_and,String.reduceEq]
theorem jI(d:Nat)(v u:Rd)(w:Ba):(Op.equalIn (d+4) 92 (.agg v.cells) (.agg u.cells)).run Tryz.prog w=.ok (decide (v=u)) w:=by
 have hu:Tryz.prog.underlying 92=some (.struct (Tryz.prog.fieldsOf 92)):=by kernel_rfl
 have hi:Tryz.prog.underlying 3=some (.int .i64):=Lx;have hf : (Tryz.prog.fieldsOf 92).toList.map (fun f => (f.name, f.type, f.offset)) = [("Graph", 90, 0), ("Faulty", 3, 6)] := by kernel_rfl
 rw[PW w (d+3) 92 _ _ hu (by kernel_rfl)];have p0:∀x:Rd,(part 90 x.cells 0).run Tryz.prog w=.ok (.agg x.gcells) w:=fun x=>by unfold Rd.cells;kernel_rfl
 have p1:∀x:Rd,(part 3 x.cells 6).run Tryz.prog w=.ok (.int .i64 x.f) w:=fun x=>yo _ 6 _ rfl w
 generalize (Tryz.prog.fieldsOf 92).toList=fs at hf
 obtain⟨f0,f1,rfl⟩:∃f0 f1,fs=[f0,f1]:=by
  have hl:fs.length=2:=by simpa using congrArg List.length hf
  rcases fs with _ | ⟨f0,_ | ⟨f1,_ | ⟨f2,r⟩⟩⟩<;>simp at hl
  exact⟨_,_,rfl⟩
 . clear hu
   simp only[List.map_cons,List.map_nil,List.cons.injEq,Prod.mk.injEq,and_true] at hf;obtain⟨⟨n0,t0,o0⟩,⟨n1,t1,o1⟩⟩:=hf
   have hd:decide (v=u)=(decide (v.gl=u.gl)&&v.f==u.f):=by
    unfold Rd.gl;obtain⟨a0,a1,a2,a3,a4,a5,a6⟩:=v;obtain⟨b0,b1,b2,b3,b4,b5,b6⟩:=u;rw[Pd];simp;constructor
    . rintro⟨h0,h1,h2,h3,h4,h5,h6⟩;exact⟨⟨h0,h1,h2,h3,h4,h5⟩,h6⟩
    . rintro⟨⟨h0,h1,h2,h3,h4,h5⟩,h6⟩;exact⟨h0,h1,h2,h3,h4,h5,h6⟩
   rw[hd]
   cases h0:decide (v.gl=u.gl)<;>cases h3:(v.f==u.f) <;>
    simp only[Op.eqFields,n0,n1,t0,t1,o0,o1,p0,p1,Sem.run_bind,Result.andThen_ok,run_equalIn_int w _ 3 _ _ _ _ hi,jJ,h0,h3,ne_eq,not_false_eq_true,if_true,Bool.not_false,Bool.not_true,Bool.false_eq_true,if_false,Sem.run_pure,Bool.true_and,Bool.false_and,String.reduceEq]
theorem eqlIn_move(d:Nat)(v u:Mv)(w:Ba):(Op.equalIn (d+5) 94 (.agg v.cells) (.agg u.cells)).run Tryz.prog w=.ok (decide (v=u)) w:=by
 have hu:Tryz.prog.underlying 94=some (.struct (Tryz.prog.fieldsOf 94)):=by kernel_rfl
 have hi:Tryz.prog.underlying 3=some (.int .i64):=Lx;have hf : (Tryz.prog.fieldsOf 94).toList.map (fun f => (f.name, f.type, f.offset)) = [("Round", 92, 0), ("To", 3, 7)] := by kernel_rfl
 rw[PW w (d+4) 94 _ _ hu (by kernel_rfl)];have p0:∀x:Mv,(part 92 x.cells 0).run Tryz.prog w=.ok (.agg x.r.cells) w:=fun x=>by unfold Mv.cells;kernel_rfl
 have p1:∀x:Mv,(part 3 x.cells 7).run Tryz.prog w=.ok (.int .i64 x.to) w:=fun x=>yo _ 7 _ rfl w
 generalize (Tryz.prog.fieldsOf 94).toList=fs at hf
 obtain⟨f0,f1,rfl⟩:∃f0 f1,fs=[f0,f1]:=by
  have hl:fs.length=2:=by simpa using congrArg List.length hf
  rcases fs with _ | ⟨f0,_ | ⟨f1,_ | ⟨f2,r⟩⟩⟩<;>simp at hl
  exact⟨_,_,rfl⟩
 . clear hu
   simp only[List.map_cons,List.map_nil,List.cons.injEq,Prod.mk.injEq,and_true] at hf;obtain⟨⟨n0,t0,o0⟩,⟨n1,t1,o1⟩⟩:=hf
   have hd:decide (v=u)=(decide (v.r=u.r)&&v.to==u.to):=by
    obtain⟨a0,a1⟩:=v;obtain⟨b0,b1⟩:=u;rw[Pd];simp
   rw[hd]
   cases h0:decide (v.r=u.r)<;>cases h3:(v.to==u.to) <;>
    simp only[Op.eqFields,n0,n1,t0,t1,o0,o1,p0,p1,Sem.run_bind,Result.andThen_ok,run_equalIn_int w _ 3 _ _ _ _ hi,jI,h0,h3,ne_eq,not_false_eq_true,if_true,Bool.not_false,Bool.not_true,Bool.false_eq_true,if_false,Sem.run_pure,Bool.true_and,Bool.false_and,String.reduceEq]
theorem eql_graph(v u:Rd)(w:Ba):(binOp .eql 90 (.agg v.gcells) (.agg u.gcells)).run Tryz.prog w=.ok (.bool (decide (v.gl=u.gl))) w:=by
 simp only[binOp];simp[Op.equal,Op.maxDepth,jJ 9997 v u w]
theorem neq_graph(v u:Rd)(w:Ba):(binOp .neq 90 (.agg v.gcells) (.agg u.gcells)).run Tryz.prog w=.ok (.bool (decide (v.gl≠u.gl))) w:=by
 simp only[binOp];simp[Op.equal,Op.maxDepth,jJ 9997 v u w]
theorem eql_round(v u:Rd)(w:Ba):(binOp .eql 92 (.agg v.cells) (.agg u.cells)).run Tryz.prog w=.ok (.bool (decide (v=u))) w:=by
 simp only[binOp];simp[Op.equal,Op.maxDepth,jI 9996 v u w]
theorem YN(v u:Rd)(w:Ba):(binOp .neq 92 (.agg v.cells) (.agg u.cells)).run Tryz.prog w=.ok (.bool (decide (v≠u))) w:=by
 simp only[binOp];simp[Op.equal,Op.maxDepth,jI 9996 v u w]
theorem neq_move(v u:Mv)(w:Ba):(binOp .neq 94 (.agg v.cells) (.agg u.cells)).run Tryz.prog w=.ok (.bool (decide (v≠u))) w:=by
 simp only[binOp];simp[Op.equal,Op.maxDepth,eqlIn_move 9995 v u w]
end
section
open Go.RowKit
attribute [local go_sem] Oper.semAt_some
theorem gC(A B:Bb)(ca cb:Nat)(xs ys:List Rd)(hx:xs.length<=17592186044416)(_hy:ys.length<=17592186044416)(w:Ba)(hA:RAt w w.heap.size A xs)(hB:RAt w w.heap.size B ys) :
  Calls Tryz.prog 155 #[.slice A xs.length ca,.slice B ys.length cb] w fun e w'=>e=.returned (.bool (decide (xs=ys)))/\∃n,w'=w.drewN n:=by
 have HA:=zH hA;have HB:=zH hB;have HT:Hid (∀b,(xs=ys↔b=true)->decide (xs=ys)=b):=fun b h=>by cases b<;>simp_all
 obtain⟨r,hr⟩:∃r,decide (xs=ys)=r:=⟨_,rfl⟩;rw[hr] at HT ⊢;clear hA hB hr;go_enter Tryz.func155,Tryz.ntmps155
 by_cases hl:xs.length=ys.length
 case neg=>
  have hR:Hid (r=false):=HT.out false ⟨fun h=>absurd (congrArg List.length h) hl,fun h=>by cases h⟩;have e0:((xs.length:Int) != (ys.length:Int))=true:=by simp;omega
  have e1:¬((xs.length:Int)=(ys.length:Int)):=by omega
  clear HT hl;go_wp2_with fail;go_ret;exact⟨zm hR.out.symm,0,rfl⟩
 case pos=>
 have HL:=zH hl;rw[<-hl] at _hy ⊢;clear hl;go_wp2_with fail
 go_loopw [5] (fun i wr=>∃k n:Nat,k<=xs.length/\i=.int .i64 (k:Int)/\Hid (xs.take k=ys.take k)/\Hid (wr=w.drewN n)) (fun i _=>xs.length-(intOf i).toNat)
 case atStart=>exact⟨0,0,by omega,rfl,by rw[Hid,LS,LS],rfl⟩
 case round=>
  obtain⟨k,n,hk,rfl,hp,hw⟩:=hrel
  by_cases hlt:k<xs.length
  case neg=>
   obtain rfl:k=xs.length:=by omega
   have hR:Hid (r=true):=HT.out true ⟨fun _=>rfl,fun _=>qA HL.out hp.out⟩;clear HT hp;go_wp2_with fail;go_ret;exact⟨zm hR.out.symm,n,hw.out⟩
  case pos=>
  have hky:k<ys.length:=by have:=HL.out;omega
  obtain⟨ba,oa,ea,_,a0,a1,a2,a3,a4,a5,a6⟩:=(HA.out).row k hlt;obtain⟨bb,ob,eb,_,b0,b1,b2,b3,b4,b5,b6⟩:=(HB.out).row k hky;subst ea;subst eb;have hcw:Hid (∀p,wr.cell? p=w.cell? p):=fun p=>by rw[hw.out];rfl
  rw[<-hcw.out] at a0 a1 a2 a3 a4 a5 a6 b0 b1 b2 b3 b4 b5 b6;have hq:=fun W=>YN xs[k] ys[k] W
  by_cases he:xs[k]=ys[k]
  . have hR:=zH (xt hp.out hlt hky he)
    rw[Li (by simpa using he)] at hq;rw[<-he] at b0 b1 b2 b3 b4 b5 b6 hq;obtain⟨u,hu⟩:=Ki (xs[k]);rw[hu] at a0 a1 a2 a3 a4 a5 a6 b0 b1 b2 b3 b4 b5 b6 hq;unfold Rd.cells at hq;clear hu he hp HT;go_wp2_with fail;go_quiet (fail);go_wp2_with fail
    go_roundw
    case rel=>exact⟨k+1,n+nq,by omega,by go_num,hR,by rw[Hid,hw.out,qY]⟩
    case measure=>simp[intOf];omega
  . have hR:Hid (r=false):=HT.out false ⟨fun h=>absurd (by subst h;rfl) he,fun h=>by cases h⟩
    rw[Lk (by simpa using he)] at hq;obtain⟨u,hu⟩:=Ki (xs[k]);obtain⟨v,hv⟩:=Ki (ys[k]);rw[hu] at a0 a1 a2 a3 a4 a5 a6 hq;rw[hv] at b0 b1 b2 b3 b4 b5 b6 hq;unfold Rd.cells at hq;clear hu hv hp HT he;go_wp2_with fail;go_quiet (fail);go_wp2_with fail;go_ret;exact⟨zm hR.out.symm,n+nq,by rw[hw.out,qY]⟩
end
section
open Go.RowKit
theorem has_fact{s p:Nat}(hs:s<32)(hp:p<5):((wrap64 ((s:Int) / ((2^p:Nat):Int))).tmod 2==1)=s.testBit p:=by
 have h:=jk (p:=fun s=>uq fun p=>!decide (p<5)||(((wrap64 ((s:Int) / ((2^p:Nat):Int))).tmod 2==1)==s.testBit p)) (by decide +kernel) hs;have h:=jk h (show p<32 by omega);simpa only[hp,decide_true,Bool.not_true,Bool.false_or,beq_iff_eq] using h
theorem uk(s p:Nat)(hs:s<32)(hp:p<5)(w:Ba):Calls Tryz.prog 47 #[.int .i64 s,.int .i64 p] w fun e w'=>e=.returned (.bool (s.testBit p))/\w=w':=by
 have H:=zH (has_fact hs hp);have hq:(2^p:Nat)<=2^5:=Ni (by omega) (by omega);have hq1:1<=(2^p:Nat):=Nat.one_le_two_pow;have hp':=uG p (by omega) w;obtain⟨q,hqq⟩:∃q:Nat,q=2^p:=⟨_,rfl⟩;rw[<-hqq] at hp' hq hq1 H;clear hqq;go_enter Tryz.func47,Tryz.ntmps47;go_wp2_with fail;refine hp'.mono ?_;rintro e w' ⟨rfl,rfl⟩;go_wp2_with fail;go_ret;exact⟨zm H.out,rfl⟩
theorem QJ{a b:Nat}(ha:a<32)(hb:b<32):(a &&& b==a)=true↔(∀p,p<5->a.testBit p=true->b.testBit p=true):=by
 have h:=jk (p:=fun a=>uq fun b=>((List.range 5).all fun p=>!a.testBit p||b.testBit p)==(a &&& b==a)) (by decide +kernel) ha;have h:=jk h hb;simp only[beq_iff_eq] at h;rw[<-h];simp only[List.all_eq_true,List.mem_range,Bool.or_eq_true,Bool.not_eq_true'];constructor
 . intro h p hp h1
   rcases h p hp with h2 | h2
   . rw[h1] at h2;cases h2
   . exact h2
 . intro h p hp
   by_cases h1:a.testBit p=true
   . exact .inr (h p hp h1)
   . exact .inl (by simpa using h1)
theorem inside_any(a b:Nat)(ha:a<32)(hb:b<32)(w:Ba):Calls Tryz.prog 125 #[.int .i64 a,.int .i64 b] w fun e w'=>e=.returned (.bool (a &&& b==a))/\w=w':=by
 have H:=zH (QJ ha hb);have HA:=zH (fun p hp w=>uk a p ha hp w);have HB:=zH (fun p hp w=>uk b p hb hp w);go_enter Tryz.func125,Tryz.ntmps125;go_wp2_with fail
 go_loop [5] (fun i=>∃k:Nat,k<=5/\i=.int .i64 (k:Int)/\Hid (∀p,p<k->a.testBit p=true->b.testBit p=true)) (fun i=>5-(intOf i).toNat)
 case atStart=>exact⟨0,by omega,rfl,fun p hp=>by omega⟩
 case round=>
  obtain⟨k,hk,rfl,hall⟩:=hrel
  by_cases hlt:k<5
  . have c1:=HA.out k hlt w
    have c2:=HB.out k hlt w;go_wp2_with fail;refine c1.mono ?_;rintro e w' ⟨rfl,rfl⟩
    by_cases h1:a.testBit k=true
    . rw[h1]
      go_wp2_with fail;refine c2.mono ?_;rintro e w' ⟨rfl,rfl⟩
      by_cases h2:b.testBit k=true
      . rw[h2]
        go_wp2_with fail
        go_round
        case rel=>
         refine⟨k+1,by omega,by go_num,fun p hp h=>?_⟩
         by_cases e:p=k
         . subst e;exact h2
         . exact hall.out p (by omega) h
        case measure=>simp[intOf];omega
      . have h2':b.testBit k=false:=by simpa using h2
        rw[h2'];go_wp2_with fail;go_ret;refine⟨zm ?_,rfl⟩;symm;rw[Bool.eq_false_iff];exact fun e=>h2 (H.out.1 e k hlt h1)
    . have h1':a.testBit k=false:=by simpa using h1
      rw[h1'];go_wp2_with fail
      go_round
      case rel=>
       refine⟨k+1,by omega,by go_num,fun p hp h=>?_⟩
       by_cases e:p=k
       . subst e;exact absurd h h1
       . exact hall.out p (by omega) h
      case measure=>simp[intOf];omega
  . obtain rfl:k=5:=by omega
    go_wp2_with fail;go_ret;refine⟨zm ?_,rfl⟩;exact(H.out.2 hall.out).symm
theorem drew2(w:Ba)(a b:Nat):∃m,(w.drewN a).drewN b=w.drewN m:=⟨a+b,by simp[World.drewN_drewN]⟩
theorem drew3(w:Ba)(a b c:Nat):∃m,((w.drewN a).drewN b).drewN c=w.drewN m:=⟨a+b+c,by simp[World.drewN_drewN]⟩
theorem xA(A1 A2:Bb)(c1 c2:Nat)(xs ys:List Int)(hl:xs.length<=17592186044416)(hl2:ys.length<=17592186044416)(w:Ba)(h1:IAt w w.heap.size A1 xs)(h2:IAt w w.heap.size A2 ys) :
  Calls Tryz.prog 121 #[.slice A1 xs.length c1,.slice A2 ys.length c2] w fun e w'=>e=.returned (.int .i64 (zy xs ys))/\∃m,w'=w.drewN m:=by
 have HA:=zH h1;have HB:=zH h2;clear h1 h2;go_enter Tryz.func121,Tryz.ntmps121;go_wp2_with fail
 go_loopw [5] (fun i wr=>∃k:Nat,k<=xs.length/\k<=ys.length/\i=.int .i64 (k:Int)/\Hid (zy xs ys=zy (xs.drop k) (ys.drop k))/\∃m:Nat,wr=w.drewN m) (fun i _=>xs.length-(intOf i).toNat)
 case atStart=>exact⟨0,by omega,by omega,rfl,rfl,0,rfl⟩
 case round=>
  obtain⟨k,hk1,hk2,rfl,hor,m,rfl⟩:=hrel
  by_cases hlt:k<xs.length/\k<ys.length
  . obtain⟨hx,hy⟩:=hlt
    obtain⟨b1,o1,rfl,hb1,c1⟩:=HA.out.at_ k hx;obtain⟨b2,o2,rfl,hb2,c2⟩:=HB.out.at_ k hy;have hs:=Zw hx hy;obtain⟨x,hxe⟩:=Ki (xs[k]);obtain⟨y,hye⟩:=Ki (ys[k]);rw[hxe] at c1 hs;rw[hye] at c2 hs;have HS:=zH (hor.out.trans hs);clear hs hor hxe hye
    by_cases l1:x<y
    . have HR:=zH (HS.out.trans (Lh l1))
      clear HS;go_wp2_with fail;go_quiet (fail);go_wp2_with fail;go_ret;exact⟨zk HR.out.symm,by first | exact drew2 _ _ _ | exact drew3 _ _ _ _⟩
    . by_cases l2:y<x
      . have HR:=zH (HS.out.trans ((Lg l1).trans (Lh l2)))
        clear HS;go_wp2_with fail;go_quiet (fail);go_wp2_with fail;go_quiet (fail);go_wp2_with fail;go_ret;exact⟨zk HR.out.symm,by first | exact drew2 _ _ _ | exact drew3 _ _ _ _⟩
      . have HR:=zH (HS.out.trans ((Lg l1).trans (Lg l2)))
        clear HS;go_wp2_with fail;go_quiet (fail);go_wp2_with fail;go_quiet (fail);go_wp2_with fail
        go_roundw
        case rel=>exact⟨k+1,by omega,by omega,by go_num,HR,by first | exact drew2 _ _ _ | exact drew3 _ _ _ _ | exact⟨_,rfl⟩⟩
        case measure=>simp[intOf];omega
  . have he:=uI (l:=xs) (m:=ys) (k:=k) (by omega) hk1 hk2
    have HR:=zH (hor.out.trans he);clear he hor;have hd:(decide ((k:Int)<(xs.length:Int))&&decide ((k:Int)<(ys.length:Int)))=false:=by simp;omega
    by_cases hx:k<xs.length
    . obtain rfl:k=ys.length:=by omega
      go_wp2_with fail
      all_goals first | (exfalso;omega) | skip
      all_goals
       go_ret;exact⟨zk (by rw[HR.out];first | (rw[Lh (by omega)]) | (rw[Lg (by omega),Lh (by omega)]) | (rw[Lg (by omega),Lg (by omega)])),_,rfl⟩
    . obtain rfl:k=xs.length:=by omega
      go_wp2_with fail
      all_goals first | (exfalso;omega) | skip
      all_goals
       go_ret;exact⟨zk (by rw[HR.out];first | (rw[Lh (by omega)]) | (rw[Lg (by omega),Lh (by omega)]) | (rw[Lg (by omega),Lg (by omega)])),_,rfl⟩
def kQ(x y:Int):Int:=if x<y then -1 else if y<x then 1 else 0
theorem gV(x y:Int)(w:Ba):Calls Tryz.prog 168 #[.int .i64 x,.int .i64 y] w fun e w'=>e=.returned (.int .i64 (kQ x y))/\w=w':=by
 have H:Hid (kQ x y=if x<y then -1 else if y<x then 1 else 0):=rfl
 have hn:∀(x:Int) (w:Ba),Calls Tryz.prog 175 #[.int .i64 x] w fun e w'=>e=.returned (.bool false)/\w=w':=fun x w=>by
  go_enter Tryz.func175,Tryz.ntmps175;go_wp2;go_ret;exact⟨by simp,rfl⟩
 have HN:=zH hn;clear hn;go_enter Tryz.func168,Tryz.ntmps168;go_wp2_with (go_at_call 175;refine(HN.out _ _).mono ?_;rintro e w' ⟨rfl,rfl⟩)
 all_goals
  go_ret;refine⟨zk ?_,rfl⟩;rw[H.out]
  first | (rw[Lh (by omega)]) | (rw[Lg (by omega),Lh (by omega)]) | (rw[Lg (by omega),Lg (by omega)])
theorem vU(A1 A2:Bb)(c1 c2:Nat)(xs ys:List Int)(hl:xs.length<=17592186044416)(hl2:ys.length<=17592186044416)(w:Ba)(h1:IAt w w.heap.size A1 xs)(h2:IAt w w.heap.size A2 ys) :
  Calls Tryz.prog 160 #[.slice A1 xs.length c1,.slice A2 ys.length c2] w fun e w'=>e=.returned (.int .i64 (zy xs ys))/\w'=w:=by
 have HA:=zH h1;have HB:=zH h2;clear h1 h2;go_enter Tryz.func160,Tryz.ntmps160;go_wp2_with fail
 go_loop [11] (fun i=>∃k:Nat,k<=xs.length/\k<=ys.length/\i=.int .i64 (k:Int)/\Hid (zy xs ys=zy (xs.drop k) (ys.drop k))) (fun i=>xs.length-(intOf i).toNat)
 case atStart=>exact⟨0,by omega,by omega,rfl,rfl⟩
 case round=>
  obtain⟨k,hk1,hk2,rfl,hor⟩:=hrel
  by_cases hx:k<xs.length
  . obtain⟨b1,o1,rfl,hb1,c1⟩:=HA.out.at_ k hx
    by_cases hy:k<ys.length
    . obtain⟨b2,o2,rfl,hb2,c2⟩:=HB.out.at_ k hy
      have hs:=Zw hx hy;obtain⟨x,hxe⟩:=Ki (xs[k]);obtain⟨y,hye⟩:=Ki (ys[k]);rw[hxe] at c1 hs;rw[hye] at c2 hs;have HS:=zH (hor.out.trans hs);have hcm:Hid (kQ x y=if x<y then -1 else if y<x then 1 else 0):=rfl;have hc:=zH (fun w=>gV x y w);obtain⟨cv,hcv⟩:=Ki (kQ x y);rw[hcv] at hc hcm;clear hs hor hxe hye hcv;go_wp2_with fail;refine(hc.out _).mono ?_;rintro e w' ⟨rfl,rfl⟩
      by_cases l1:x<y
      . have HR:=zH (HS.out.trans (Lh l1))
        obtain rfl:cv=-1:=hcm.out.trans (Lh l1);clear HS hcm hc;go_wp2_with fail;go_ret;exact⟨zk HR.out.symm,rfl⟩
      . by_cases l2:y<x
        . have HR:=zH (HS.out.trans ((Lg l1).trans (Lh l2)))
          obtain rfl:cv=1:=hcm.out.trans ((Lg l1).trans (Lh l2));clear HS hcm hc;go_wp2_with fail;go_ret;exact⟨zk HR.out.symm,rfl⟩
        . have HR:=zH (HS.out.trans ((Lg l1).trans (Lg l2)))
          obtain rfl:cv=0:=hcm.out.trans ((Lg l1).trans (Lg l2));clear HS hcm hc;go_wp2_with fail
          go_round
          case rel=>exact⟨k+1,by omega,by omega,by go_num,HR⟩
          case measure=>simp[intOf];omega
    . obtain rfl:k=ys.length:=by omega
      have he:=uI (l:=xs) (m:=ys) (k:=ys.length) (by omega) hk1 hk2;have HR:=zH (hor.out.trans he);clear he hor;go_wp2_with fail;go_ret;exact⟨zk (by rw[HR.out,Lg (by omega),Lh (by omega)]),rfl⟩
  . obtain rfl:k=xs.length:=by omega
    have he:=uI (l:=xs) (m:=ys) (k:=xs.length) (by omega) hk1 hk2;have HR:=zH (hor.out.trans he);clear he hor;go_wp2_with fail
    all_goals
     go_ret;exact⟨zk (by rw[HR.out];first | (rw[Lh (by omega)]) | (rw[Lg (by omega),Lg (by omega)])),rfl⟩
theorem YU{r:Rd}{k:Nat}(hk:k<5)(h:xN r.n k (r.h k)≠0):yC r (5-k) k=xN r.n k (r.h k):=by
 rw[show 5-k=(4-k)+1 by omega,yC,Lh h]
theorem QN{r:Rd}{k:Nat}(hk:k<5)(h:xN r.n k (r.h k)=0):yC r (5-k) k=yC r (5-(k+1)) (k+1):=by
 rw[show 5-k=(4-k)+1 by omega,yC,Lg (by simpa using h),show 4-k=5-(k+1) by omega]
theorem ZL{n x:Int}{p:Nat}(h:n<=p)(hx:x≠0):xN n p x=3:=by unfold xN;rw[Lh h,Lh hx]
theorem ZK{n:Int}{p:Nat}(h:n<=p):xN n p 0=0:=by unfold xN;rw[Lh h];rfl
theorem YW{n x:Int}{p:Nat}(h:¬n<=p)(hx:x<0\/(2^n.toNat-1:Nat)<x):xN n p x=2:=by unfold xN;rw[Lg h,Lh hx]
theorem YV{n x:Int}{p:Nat}(h:¬n<=p)(hx:¬(x<0\/(2^n.toNat-1:Nat)<x))(hb:x.toNat.testBit p=true):xN n p x=0:=by unfold xN;rw[Lg h,Lg hx,Lh hb]
theorem QO{n x:Int}{p:Nat}(h:¬n<=p)(hx:¬(x<0\/(2^n.toNat-1:Nat)<x))(hb:x.toNat.testBit p=false):xN n p x=3:=by unfold xN;rw[Lg h,Lg hx,Lg (by rw[hb];decide)]
theorem bit_zero{s p:Nat}(hs:s<32)(hp:p<5):(bits BinOp.and IntKind.i64 ((s:Int) / 2^p) 1==0)=!s.testBit p:=by
 have h:=jk (p:=fun s=>uq fun p=>!decide (p<5)||((bits BinOp.and IntKind.i64 ((s:Int) / 2^p) 1==0)==!s.testBit p)) (by decide +kernel) hs;have h:=jk h (show p<32 by omega);simpa only[hp,decide_true,Bool.not_true,Bool.false_or,beq_iff_eq] using h
theorem gfull_any(n:Int)(h1:1<=n)(h5:n<=5)(w:Ba):Calls Tryz.prog 181 #[.int .i64 n] w fun e w'=>e=.returned (.int .i64 ((2^n.toNat-1:Nat):Int))/\w'=w:=by
 obtain rfl | rfl | rfl | rfl | rfl:n=1\/n=2\/n=3\/n=4\/n=5:=by omega
 all_goals
  go_enter Tryz.func181,Tryz.ntmps181;go_wp2;go_ret;exact⟨rfl,rfl⟩
theorem JC(n:Int)(h1:1<=n)(hn:n<=5)(w:Ba):Calls Tryz.prog 157 #[.int .i64 n] w fun e w'=>e=.returned (.int .i64 ((2^n.toNat-1:Nat):Int))/\w'=w:=by
 obtain⟨m,rfl⟩:=Lr (show 0<=n by omega);have hp:=uG m (by omega) w;go_enter Tryz.func157,Tryz.ntmps157;go_wp2_with fail;refine hp.mono ?_;rintro e w' ⟨rfl,rfl⟩;obtain rfl | rfl | rfl | rfl | rfl:m=1\/m=2\/m=3\/m=4\/m=5:=by omega
 all_goals
  go_wp2_with fail;go_ret;exact⟨rfl,rfl⟩
theorem ul{r:Rd}(h:r.n<1\/5<r.n):yJ r=2:=Lh h
theorem ZM{r:Rd}(h:¬(r.n<1\/5<r.n)):yJ r=yC r (5-0) 0:=Lg h
theorem pow_le{n:Int}(h5:n<=5):(2^n.toNat-1:Nat)<=31:=by
 have:2^n.toNat<=2^5:=Ni (by omega) (by omega);omega
theorem gcheck_any(r:Rd)(w:Ba):Calls Tryz.prog 178 #[.agg r.gcells] w fun e w'=>e=.returned (.int .i64 (yJ r))/\Below w.heap.size w w':=by
 have HE1:=zH (@ul r);have HE2:=zH (@ZM r);obtain⟨E,hE⟩:=Ki (yJ r);rw[hE] at HE1 HE2 ⊢
 have hix:∀k,k<5->∀w,(Instr.index 88 (.agg #[.int .i64 r.h0,.int .i64 r.h1,.int .i64 r.h2,.int .i64 r.h3,.int .i64 r.h4]) (.int .i64 (k:Nat))).run Tryz.prog w=.ok (.int .i64 (r.h k)) w:=fun k hk w=>by
  obtain rfl | rfl | rfl | rfl | rfl:k=0\/k=1\/k=2\/k=3\/k=4:=by omega
  all_goals exact(by kernel_rfl)
 have HIX:=zH hix;unfold Rd.gcells;clear hE hix
 by_cases hr:r.n<1\/5<r.n
 . have HR:=zH (HE1.out hr)
   have HN:=zH hr;clear HE1 HE2 hr HIX;go_enter Tryz.func178,Tryz.ntmps178;go_wp2_with fail
   all_goals first | (exfalso;have:=HN.out;omega) | (go_ret;exact⟨zk HR.out.symm,zW w _⟩)
 have r1:¬r.n<1:=by omega
 have r2:¬5<r.n:=by omega
 have HE:=zH (HE2.out hr);clear HE1 HE2 hr;go_enter Tryz.func178,Tryz.ntmps178;go_wp2_with fail
 all_goals first | (exfalso;omega) | skip
 go_loop [15] (fun i=>∃k:Nat,k<=5/\i=.int .i64 (k:Int)/\Hid (E=yC r (5-k) k)) (fun i=>5-(intOf i).toNat)
 case atStart=>exact⟨0,by omega,rfl,HE⟩
 case round=>
  obtain⟨k,hk,rfl,hrk⟩:=hrel;clear HE
  by_cases hlt:k<5
  . have hx:=HIX.out k hlt
    have hbd:=zH (@YU r k hlt);have hon:=zH (@QN r k hlt);have h1:=zH (@ZL r.n (r.h k) k);have h2:=zH (@ZK r.n k);have h3:=zH (@YW r.n (r.h k) k);have h4:=zH (@YV r.n (r.h k) k);have h5:=zH (@QO r.n (r.h k) k);obtain⟨x,hxe⟩:=Ki (r.h k);rw[hxe] at hx hbd hon h1 h3 h4 h5;clear hxe HIX
    by_cases hp:r.n<=(k:Int)
    . by_cases hz:x=0
      . subst hz
        have hR:=zH (hrk.out.trans (hon.out (h2.out hp)));clear h1 h2 h3 h4 h5 hbd hon hrk;go_wp2_with fail
        all_goals first | (exfalso;omega) | skip
        go_round
        case rel=>exact⟨k+1,by omega,by go_num,hR⟩
        case measure=>simp[intOf];omega
      . have he:=h1.out hp hz
        have hR:=zH (hrk.out.trans ((hbd.out (by rw[he];decide)).trans he));have e0:(x != 0)=true:=by simpa using hz
        clear h1 h2 h3 h4 h5 hbd hon hrk he hz;go_wp2_with fail
        all_goals first | (exfalso;omega) | skip
        go_ret;exact⟨zk hR.out.symm,zW w _⟩
    . have hF:=zH (gfull_any r.n (by omega) (by omega))
      have hpl:=pow_le (n:=r.n) (by omega);obtain⟨F,hFe⟩:∃F:Nat,(2^r.n.toNat-1:Nat)=F:=⟨_,rfl⟩;rw[hFe] at h3 h4 h5 hF hpl;clear hFe
      by_cases ho:x<0\/(F:Int)<x
      . have he:=h3.out hp ho
        have hR:=zH (hrk.out.trans ((hbd.out (by rw[he];decide)).trans he));clear h1 h2 h3 h4 h5 hbd hon hrk he
        by_cases hx0:x<0
        . clear ho
          go_wp2_with fail
          all_goals first | (exfalso;omega) | skip
          go_ret;exact⟨zk hR.out.symm,zW w _⟩
        . have hx1:(F:Int)<x:=by omega
          clear ho;go_wp2_with (go_at_call 181;refine(hF.out _).mono ?_;rintro e w' ⟨rfl,rfl⟩)
          all_goals first | (exfalso;omega) | skip
          go_ret;exact⟨zk hR.out.symm,zW w _⟩
      . obtain⟨m,rfl⟩:=Lr (show 0<=x by omega)
        have hm:m<32:=by omega
        have hbz:=bit_zero hm hlt;have hx0:¬((m:Int)<0):=by omega
        have hx1:¬((F:Int)<(m:Int)):=by omega
        by_cases hb:m.testBit k=true
        . have hR:=zH (hrk.out.trans (hon.out (h4.out hp ho (by simpa using hb))))
          rw[hb] at hbz;clear h1 h2 h3 h4 h5 hbd hon hrk ho hb;go_wp2_with (go_at_call 181;refine(hF.out _).mono ?_;rintro e w' ⟨rfl,rfl⟩)
          all_goals first | (exfalso;omega) | skip
          go_round
          case rel=>exact⟨k+1,by omega,by go_num,hR⟩
          case measure=>simp[intOf];omega
        . have hb':m.testBit k=false:=by simpa using hb
          have he:=h5.out hp ho (by simpa using hb');have hR:=zH (hrk.out.trans ((hbd.out (by rw[he];decide)).trans he));rw[hb'] at hbz;clear h1 h2 h3 h4 h5 hbd hon hrk ho hb hb' he;go_wp2_with (go_at_call 181;refine(hF.out _).mono ?_;rintro e w' ⟨rfl,rfl⟩)
          all_goals first | (exfalso;omega) | skip
          go_ret;exact⟨zk hR.out.symm,zW w _⟩
  . obtain rfl:k=5:=by omega
    have hR:Hid (E=0):=hrk.out;clear hrk;go_wp2_with fail;go_ret;exact⟨zk hR.out.symm,zW w _⟩
theorem jA(r:Rd)(k:Nat)(hk:k<5):r.gcells[1+k]?=some (.int .i64 (r.h k)):=by
 obtain rfl | rfl | rfl | rfl | rfl:k=0\/k=1\/k=2\/k=3\/k=4:=by omega
 all_goals rfl
theorem Qa(r:Rd)(w:Ba):Calls Tryz.prog 145 #[.agg r.gcells] w fun e w'=>e=.returned (.int .i64 (yJ r))/\Below w.heap.size w w':=by
 have HE1:=zH (@ul r);have HE2:=zH (@ZM r);obtain⟨E,hE⟩:=Ki (yJ r);rw[hE] at HE1 HE2 ⊢;have HCL:=zH (fun k hk=>zh (zw w (.cells r.gcells 90)) (1+k) (jA r k hk));unfold Rd.gcells at HCL ⊢;clear hE
 by_cases hr:r.n<1\/5<r.n
 . have HR:=zH (HE1.out hr)
   have HN:=zH hr;clear HE1 HE2 hr HCL;go_enter Tryz.func145,Tryz.ntmps145;go_wp2_with fail
   all_goals first | (exfalso;have:=HN.out;omega) | (go_ret;exact⟨zk HR.out.symm,zW w _⟩)
 have r1:¬r.n<1:=by omega
 have r2:¬5<r.n:=by omega
 have HE:=zH (HE2.out hr);clear HE1 HE2 hr;go_enter Tryz.func145,Tryz.ntmps145;go_wp2_with fail
 all_goals first | (exfalso;omega) | skip
 obtain⟨W0,hW0⟩:=Ki (w.alloc (.cells #[.int .i64 r.n,.int .i64 r.h0,.int .i64 r.h1,.int .i64 r.h2,.int .i64 r.h3,.int .i64 r.h4] 90));have hb0:W0.heap[w.heap.size]?=some (.cells #[.int .i64 r.n,.int .i64 r.h0,.int .i64 r.h1,.int .i64 r.h2,.int .i64 r.h3,.int .i64 r.h4] 90 (0,0)):=by rw[<-hW0];exact zw _ _
 have HB:=zH (show Below w.heap.size w W0 by rw[<-hW0];exact zW w _);have q0:=zh hb0 0 rfl;rw[hW0] at HCL ⊢;clear hW0 hb0
 go_loop [3] (fun i=>∃k:Nat,k<=5/\i=.int .i64 (k:Int)/\Hid (E=yC r (5-k) k)) (fun i=>5-(intOf i).toNat)
 case atStart=>exact⟨0,by omega,rfl,HE⟩
 case round=>
  obtain⟨k,hk,rfl,hrk⟩:=hrel;clear HE
  by_cases hlt:k<5
  . have hx:=HCL.out k hlt
    have hbd:=zH (@YU r k hlt);have hon:=zH (@QN r k hlt);have h1:=zH (@ZL r.n (r.h k) k);have h2:=zH (@ZK r.n k);have h3:=zH (@YW r.n (r.h k) k);have h4:=zH (@YV r.n (r.h k) k);have h5:=zH (@QO r.n (r.h k) k);obtain⟨x,hxe⟩:=Ki (r.h k);rw[hxe] at hx hbd hon h1 h3 h4 h5;clear hxe HCL
    by_cases hp:r.n<=(k:Int)
    . by_cases hz:x=0
      . subst hz
        have hR:=zH (hrk.out.trans (hon.out (h2.out hp)));clear h1 h2 h3 h4 h5 hbd hon hrk;go_wp2_with fail
        all_goals first | (exfalso;omega) | skip
        go_round
        case rel=>exact⟨k+1,by omega,by go_num,hR⟩
        case measure=>simp[intOf];omega
      . have he:=h1.out hp hz
        have hR:=zH (hrk.out.trans ((hbd.out (by rw[he];decide)).trans he));have e0:(x != 0)=true:=by simpa using hz
        clear h1 h2 h3 h4 h5 hbd hon hrk he hz;go_wp2_with fail
        all_goals first | (exfalso;omega) | skip
        go_ret;exact⟨zk hR.out.symm,HB.out⟩
    . have hF:=zH (JC r.n (by omega) (by omega))
      have hpl:=pow_le (n:=r.n) (by omega);obtain⟨F,hFe⟩:∃F:Nat,(2^r.n.toNat-1:Nat)=F:=⟨_,rfl⟩;rw[hFe] at h3 h4 h5 hF hpl;clear hFe
      by_cases ho:x<0\/(F:Int)<x
      . have he:=h3.out hp ho
        have hR:=zH (hrk.out.trans ((hbd.out (by rw[he];decide)).trans he));clear h1 h2 h3 h4 h5 hbd hon hrk he
        by_cases hx0:x<0
        . clear ho
          go_wp2_with fail
          all_goals first | (exfalso;omega) | skip
          go_ret;exact⟨zk hR.out.symm,HB.out⟩
        . have hx1:(F:Int)<x:=by omega
          clear ho;go_wp2_with (go_at_call 157;refine(hF.out _).mono ?_;rintro e w' ⟨rfl,hw'⟩;obtain rfl:=hw'.symm)
          all_goals first | (exfalso;omega) | skip
          go_ret;exact⟨zk hR.out.symm,HB.out⟩
      . obtain⟨m,rfl⟩:=Lr (show 0<=x by omega)
        have hm:m<32:=by omega
        have hx0:¬((m:Int)<0):=by omega
        have hx1:¬((F:Int)<(m:Int)):=by omega
        have hH:=zH (fun w=>uk m k hm hlt w)
        by_cases hb:m.testBit k=true
        . have hR:=zH (hrk.out.trans (hon.out (h4.out hp ho (by simpa using hb))))
          rw[hb] at hH;clear h1 h2 h3 h4 h5 hbd hon hrk ho hb;go_wp2_with (first | (go_at_call 157;refine(hF.out _).mono ?_;rintro e w' ⟨rfl,hw'⟩;obtain rfl:=hw'.symm) | (go_at_call 47;refine(hH.out _).mono ?_;rintro e w' ⟨rfl,rfl⟩))
          all_goals first | (exfalso;omega) | skip
          go_round
          case rel=>exact⟨k+1,by omega,by go_num,hR⟩
          case measure=>simp[intOf];omega
        . have hb':m.testBit k=false:=by simpa using hb
          have he:=h5.out hp ho (by simpa using hb');have hR:=zH (hrk.out.trans ((hbd.out (by rw[he];decide)).trans he));rw[hb'] at hH;clear h1 h2 h3 h4 h5 hbd hon hrk ho hb hb' he;go_wp2_with (first | (go_at_call 157;refine(hF.out _).mono ?_;rintro e w' ⟨rfl,hw'⟩;obtain rfl:=hw'.symm) | (go_at_call 47;refine(hH.out _).mono ?_;rintro e w' ⟨rfl,rfl⟩))
          all_goals first | (exfalso;omega) | skip
          go_ret;exact⟨zk hR.out.symm,HB.out⟩
  . obtain rfl:k=5:=by omega
    have hR:Hid (E=0):=hrk.out;clear hrk;go_wp2_with fail;go_ret;exact⟨zk hR.out.symm,HB.out⟩
theorem vX{r:Rd}(h:yJ r≠0):yi r=yJ r:=Lh h
theorem Zo{r:Rd}(h:yJ r=0):yi r=yY r.n r.f:=Lg (by simpa using h)
theorem Zn(r:Rd)(w:Ba):Calls Tryz.prog 171 #[.agg r.cells] w fun e w'=>e=.returned (.int .i64 (yi r))/\Below w.heap.size w w':=by
 have HE1:=zH (@vX r);have HE2:=zH (@Zo r);have HG:=zH (fun w=>gcheck_any r w);have HS:=zH (fun w=>Y6 r.n r.f w);obtain⟨E,hE⟩:=Ki (yi r);rw[hE] at HE1 HE2 ⊢;obtain⟨g,hg⟩:=Ki (yJ r);rw[hg] at HE1 HE2 HG;obtain⟨s,hs⟩:=Ki (yY r.n r.f);rw[hs] at HE2 HS;clear hE hg hs;unfold Rd.cells;unfold Rd.gcells at HG;go_enter Tryz.func171,Tryz.ntmps171;go_wp2_with fail;obtain⟨W0,hW0⟩:=Ki (w.alloc (.cells #[.int .i64 r.n,.int .i64 r.h0,.int .i64 r.h1,.int .i64 r.h2,.int .i64 r.h3,.int .i64 r.h4,.int .i64 r.f] 92));have hb0:W0.heap[w.heap.size]?=some (.cells #[.int .i64 r.n,.int .i64 r.h0,.int .i64 r.h1,.int .i64 r.h2,.int .i64 r.h3,.int .i64 r.h4,.int .i64 r.f] 92 (0,0)):=by rw[<-hW0];exact zw _ _
 have hB:Below w.heap.size w W0:=by rw[<-hW0];exact zW w _
 have hs0:=zj hb0;rw[hW0];clear hW0;refine(HG.out W0).mono ?_;rintro e w1 ⟨rfl,hb1⟩;have HB:=zH (Lc hB hb1);have d0:=Lb hb1 hs0 hb0;have q0:=zh d0 0 rfl;have q6:=zh d0 6 rfl;clear hb0 hb1 hB d0
 by_cases h0:g=0
 . subst h0
   have hR:=zH (HE2.out (by simp));clear HE1 HE2 HG;go_wp2_with fail;refine(HS.out _).mono ?_;rintro e w2 ⟨rfl,rfl⟩;go_wp2_with fail;go_ret;exact⟨zk hR.out.symm,HB.out⟩
 . have hR:=zH (HE1.out h0)
   have e0:(g != 0)=true:=by simpa using h0
   clear HE1 HE2 HG HS h0;go_wp2_with fail;go_ret;exact⟨zk hR.out.symm,HB.out⟩
theorem gD(r:Rd)(w:Ba):Calls Tryz.prog 123 #[.agg r.cells] w fun e w'=>e=.returned (.int .i64 (yi r))/\Below w.heap.size w w':=by
 have HE1:=zH (@vX r);have HE2:=zH (@Zo r);have HG:=zH (fun w=>Qa r w);have HS:=zH (fun w=>JD r.n r.f w);obtain⟨E,hE⟩:=Ki (yi r);rw[hE] at HE1 HE2 ⊢;obtain⟨g,hg⟩:=Ki (yJ r);rw[hg] at HE1 HE2 HG;obtain⟨s,hs⟩:=Ki (yY r.n r.f);rw[hs] at HE2 HS;clear hE hg hs;unfold Rd.cells;unfold Rd.gcells at HG;go_enter Tryz.func123,Tryz.ntmps123;go_wp2_with fail;obtain⟨W0,hW0⟩:=Ki (w.alloc (.cells #[.int .i64 r.n,.int .i64 r.h0,.int .i64 r.h1,.int .i64 r.h2,.int .i64 r.h3,.int .i64 r.h4,.int .i64 r.f] 92));have hb0:W0.heap[w.heap.size]?=some (.cells #[.int .i64 r.n,.int .i64 r.h0,.int .i64 r.h1,.int .i64 r.h2,.int .i64 r.h3,.int .i64 r.h4,.int .i64 r.f] 92 (0,0)):=by rw[<-hW0];exact zw _ _
 have hB:Below w.heap.size w W0:=by rw[<-hW0];exact zW w _
 have hs0:=zj hb0;rw[hW0];clear hW0;refine(HG.out W0).mono ?_;rintro e w1 ⟨rfl,hb1⟩;have HB:=zH (Lc hB hb1);have d0:=Lb hb1 hs0 hb0;have q0:=zh d0 0 rfl;have q6:=zh d0 6 rfl;clear hb0 hb1 hB d0
 by_cases h0:g=0
 . subst h0
   have hR:=zH (HE2.out (by simp));clear HE1 HE2 HG;go_wp2_with fail;refine(HS.out _).mono ?_;rintro e w2 ⟨rfl,rfl⟩;go_wp2_with fail;go_ret;exact⟨zk hR.out.symm,HB.out⟩
 . have hR:=zH (HE1.out h0)
   have e0:(g != 0)=true:=by simpa using h0
   clear HE1 HE2 HG HS h0;go_wp2_with fail;go_ret;exact⟨zk hR.out.symm,HB.out⟩
theorem yB(w:Ba)(c1 c2:Array Value)(t1 t2:TypeId):∃W0,(w.alloc (.cells c1 t1)).alloc (.cells c2 t2)=W0/\W0.heap[w.heap.size]?=some (.cells c1 t1 (0,0))/\W0.heap[w.heap.size+1]?=some (.cells c2 t2 (0,0))/\w.heap.size+2<=W0.heap.size/\Below w.heap.size w W0:=
 ⟨_,rfl,yM (zw _ _) _,by have:=zw (w.alloc (.cells c1 t1)) (.cells c2 t2);rwa[Nw] at this,by simp,kh w _ _⟩
theorem vA{x y:Int}{l m:List Int}:zy (x::l) (y::m)=if kQ x y≠0 then kQ x y else zy l m:=by
 rw[zy];unfold kQ
 by_cases h1:x<y
 . simp[h1]
 . by_cases h2:y<x
   . simp[h1,h2]
   . simp[h1,h2]
theorem gQ{r:Rd}{k:Nat}(hk:k<5):r.gl.drop (k+1)=r.h k::r.gl.drop (k+2):=by
 obtain rfl | rfl | rfl | rfl | rfl:k=0\/k=1\/k=2\/k=3\/k=4:=by omega
 all_goals rfl
theorem gl_step{a b:Rd}{k:Nat}(hk:k<5):zy (a.gl.drop (k+1)) (b.gl.drop (k+1))=if kQ (a.h k) (b.h k)≠0 then kQ (a.h k) (b.h k) else zy (a.gl.drop (k+2)) (b.gl.drop (k+2)):=by
 rw[gQ hk,gQ hk,vA]
theorem gl_zero{a b:Rd}:zy a.gl b.gl=if kQ a.n b.n≠0 then kQ a.n b.n else zy (a.gl.drop 1) (b.gl.drop 1):=vA
theorem l_split{a b:Rd}:zy a.l b.l=if zy a.gl b.gl≠0 then zy a.gl b.gl else kQ a.f b.f:=by
 unfold Rd.l Rd.gl;simp only[vA]
 repeat' split
 all_goals first | rfl | (simp_all [zy];done) | (exfalso;simp_all [zy];done)
theorem cmpI_zero{x y:Int}(h:kQ x y=0):x=y:=by
 unfold kQ at h
 split at h
 . cases h
 . split at h
   . cases h
   . omega
theorem cmpI_self(x:Int):kQ x x=0:=by unfold kQ;rw[Lg (by omega),Lg (by omega)]
theorem XE(a b:Rd)(w:Ba):Calls Tryz.prog 179 #[.agg a.gcells,.agg b.gcells] w fun e w'=>e=.returned (.int .i64 (zy a.gl b.gl))/\∃W0 n,w'=World.drewN W0 n/\W0=(w.alloc (.cells a.gcells 90)).alloc (.cells b.gcells 90):=by
 have HQ:=zH (fun w=>eql_graph a b w);have H0:=zH (@gl_zero a b);have HS:Hid (a.gl=b.gl->zy a.gl b.gl=0):=fun h=>by rw[h];exact xB _
 obtain⟨E,hE⟩:=Ki (zy a.gl b.gl);rw[hE] at H0 HS ⊢;have HC1:=zH (fun k hk=>zh (yM (zw w (.cells a.gcells 90)) (.cells b.gcells 90)) (1+k) (jA a k hk));have HC2:=zH (fun k hk=>zh (zw (w.alloc (.cells a.gcells 90)) (.cells b.gcells 90)) (1+k) (jA b k hk));rw[Nw] at HC2;have HX:Hid (∃W0,W0=(w.alloc (.cells a.gcells 90)).alloc (.cells b.gcells 90)):=⟨_,rfl⟩;unfold Rd.gcells at HQ HC1 HC2 HX ⊢;clear hE
 by_cases he:a.gl=b.gl
 . have hq:∀w,_:=fun w=>HQ.out w
   rw[Lk he] at hq;have hR:=zH (HS.out he);clear HQ H0 HS HC1 HC2 HX he;go_enter Tryz.func179,Tryz.ntmps179;go_wp2_with fail;go_ret;exact⟨zk hR.out.symm,_,0,rfl,rfl⟩
 have hq:∀w,_:=fun w=>HQ.out w
 rw[Li he] at hq;clear HQ HS he;have HN:=zH (fun w=>gV a.n b.n w);obtain⟨cn,hcn⟩:=Ki (kQ a.n b.n);have hcz:Hid (cn=0↔a.n=b.n):=by rw[<-hcn];exact⟨cmpI_zero,fun h=>by rw[h];exact cmpI_self _⟩
 rw[hcn] at H0 HN;clear hcn
 by_cases hn:a.n=b.n
 . have hc0:cn=0:=hcz.out.2 hn
   subst hc0;have HE:=zH (H0.out.trans (Lg (by simp)));have e0:(a.n != b.n)=false:=by simpa using hn
   clear H0 HN hcz hn;go_enter Tryz.func179,Tryz.ntmps179;go_wp2_with fail;obtain⟨W0,hW0⟩:=HX.out;rw[<-hW0] at HC1 HC2 ⊢;clear HX hq e0;have HW0:=zH hW0;clear hW0
   go_loopw [20] (fun i wr=>∃k n:Nat,k<=5/\i=.int .i64 (k:Int)/\Hid (E=zy (a.gl.drop (k+1)) (b.gl.drop (k+1)))/\wr=W0.drewN n) (fun i _=>5-(intOf i).toNat)
   case atStart=>exact⟨0,0,by omega,rfl,HE,rfl⟩
   case round=>
    obtain⟨k,n,hk,rfl,hrk,rfl⟩:=hrel;clear HE
    by_cases hlt:k<5
    . have c1:=HC1.out k hlt
      have c2:=HC2.out k hlt;have hs:=zH (hrk.out.trans (gl_step hlt));have HC:=zH (fun (p:Nat)=>(gV (a.h k) (b.h k) (W0.drewN p)));obtain⟨x,hx⟩:=Ki (a.h k);obtain⟨y,hy⟩:=Ki (b.h k);rw[hx] at c1 hs HC;rw[hy] at c2 hs HC;obtain⟨cv,hcv⟩:=Ki (kQ x y);rw[hcv] at hs HC;clear hx hy hcv hrk
      by_cases hz:cv=0
      . subst hz
        have hR:=zH (hs.out.trans (Lg (by simp)));clear hs;go_wp2_with fail;go_quiet ((go_at_call 168;exact(HC.out _).mono fun e w' h=>⟨h.1,_,h.2.symm⟩));go_wp2_with fail
        go_roundw
        case rel=>exact⟨k+1,_,by omega,by go_num,hR,rfl⟩
        case measure=>simp[intOf];omega
      . have hR:=zH (hs.out.trans (Lh hz))
        have e0:(cv != 0)=true:=by simpa using hz
        clear hs hz;go_wp2_with fail;go_quiet ((go_at_call 168;exact(HC.out _).mono fun e w' h=>⟨h.1,_,h.2.symm⟩));go_wp2_with fail;go_ret;exact⟨zk hR.out.symm,W0,_,by first | rfl | exact(P6 ..),HW0.out⟩
    . obtain rfl:k=5:=by omega
      have hR:Hid (E=0):=hrk.out;clear hrk;go_wp2_with fail;go_ret;exact⟨zk hR.out.symm,W0,_,rfl,HW0.out⟩
 . have hc0:¬cn=0:=fun h=>hn (hcz.out.1 h)
   have HE:=zH (H0.out.trans (Lh hc0));have e0:(a.n != b.n)=true:=by simpa using hn
   clear H0 hcz hn hc0 HC1 HC2 HX;go_enter Tryz.func179,Tryz.ntmps179;go_wp2_with fail;refine(HN.out _).mono ?_;rintro e w1 ⟨rfl,rfl⟩;go_wp2_with fail;go_ret;exact⟨zk HE.out.symm,_,0,rfl,rfl⟩
theorem gcomp_any(a b:Rd)(w:Ba):Calls Tryz.prog 179 #[.agg a.gcells,.agg b.gcells] w fun e w'=>e=.returned (.int .i64 (zy a.gl b.gl))/\Below w.heap.size w w':=
 (XE a b w).mono fun e w' ⟨h1,W0,n,h2,h3⟩=>⟨h1,by rw[h2,h3];exact zT (kh w _ _) n⟩
theorem Yd(a b:Rd)(w:Ba):Calls Tryz.prog 172 #[.agg a.cells,.agg b.cells] w fun e w'=>e=.returned (.int .i64 (zy a.l b.l))/\Below w.heap.size w w':=by
 have HQ:=zH (fun w=>eql_round a b w);have HN:=zH (fun w=>neq_graph a b w);have HS:=zH (@l_split a b);have HZ:Hid (a=b->zy a.l b.l=0):=fun h=>by rw[h];exact xB _
 have HG:=zH (fun w=>gcomp_any a b w);have HF:=zH (fun w=>gV a.f b.f w);have HGZ:Hid (a.gl=b.gl↔zy a.gl b.gl=0):=⟨fun h=>by rw[h];exact xB _,qB⟩;obtain⟨E,hE⟩:=Ki (zy a.l b.l);rw[hE] at HS HZ ⊢;obtain⟨g,hg⟩:=Ki (zy a.gl b.gl);rw[hg] at HS HG HGZ;obtain⟨c,hc⟩:=Ki (kQ a.f b.f);rw[hc] at HS HF;clear hE hg hc;unfold Rd.gcells at HN HG;unfold Rd.cells at HQ ⊢
 by_cases he:a=b
 . have hq:∀w,_:=fun w=>HQ.out w
   rw[Lk he] at hq;have hR:=zH (HZ.out he);clear HQ HN HS HZ HG HF HGZ he;go_enter Tryz.func172,Tryz.ntmps172;go_wp2_with fail;go_ret;exact⟨zk hR.out.symm,kh w _ _⟩
 have hq:∀w,_:=fun w=>HQ.out w
 rw[Li he] at hq
 by_cases hgl:a.gl=b.gl
 . have hn:∀w,_:=fun w=>HN.out w
   rw[show decide (a.gl≠b.gl)=false by simpa using hgl] at hn;have hR:=zH (HS.out.trans (Lg (by simpa using HGZ.out.1 hgl)));clear HQ HN HS HZ HG HGZ he hgl;go_enter Tryz.func172,Tryz.ntmps172;go_wp2_with fail;refine(HF.out _).mono ?_;rintro e w1 ⟨rfl,rfl⟩;go_wp2_with fail;go_ret;exact⟨zk hR.out.symm,kh w _ _⟩
 . have hn:∀w,_:=fun w=>HN.out w
   rw[show decide (a.gl≠b.gl)=true by simpa using hgl] at hn;have hR:=zH (HS.out.trans (Lh (fun h=>hgl (HGZ.out.2 h))));clear HQ HN HS HZ HF HGZ he hgl;go_enter Tryz.func172,Tryz.ntmps172;go_wp2_with fail;refine(HG.out _).mono ?_;rintro e w1 ⟨rfl,hb⟩;have HB:=zH ((kh w (.cells #[.int .i64 a.n,.int .i64 a.h0,.int .i64 a.h1,.int .i64 a.h2,.int .i64 a.h3,.int .i64 a.h4,.int .i64 a.f] 92) (.cells #[.int .i64 b.n,.int .i64 b.h0,.int .i64 b.h1,.int .i64 b.h2,.int .i64 b.h3,.int .i64 b.h4,.int .i64 b.f] 92)).trans (hb.mono (by simp;omega)));clear hb hn hq;go_wp2_with fail;go_ret;exact⟨zk hR.out.symm,HB.out⟩
theorem JB(a b:Rd)(w:Ba):Calls Tryz.prog 147 #[.agg a.gcells,.agg b.gcells] w fun e w'=>e=.returned (.int .i64 (zy a.gl b.gl))/\Below w.heap.size w w':=by
 have H0:Hid (zy a.gl b.gl=if a.n<b.n then -1 else if b.n<a.n then 1 else zy (a.gl.drop 1) (b.gl.drop 1)):=rfl;obtain⟨E,hE⟩:=Ki (zy a.gl b.gl);rw[hE] at H0 ⊢;have HC1:=zH (fun k hk=>zh (yM (zw w (.cells a.gcells 90)) (.cells b.gcells 90)) (1+k) (jA a k hk));have HC2:=zH (fun k hk=>zh (zw (w.alloc (.cells a.gcells 90)) (.cells b.gcells 90)) (1+k) (jA b k hk));rw[Nw] at HC2;have HX:Hid (∃W0,W0=(w.alloc (.cells a.gcells 90)).alloc (.cells b.gcells 90)):=⟨_,rfl⟩;unfold Rd.gcells at HC1 HC2 HX ⊢;clear hE
 by_cases h1:a.n<b.n
 . have hR:=zH (H0.out.trans (Lh h1))
   clear H0 HC1 HC2 HX;go_enter Tryz.func147,Tryz.ntmps147;go_wp2_with fail;go_ret;exact⟨zk hR.out.symm,kh w _ _⟩
 by_cases h2:b.n<a.n
 . have hR:=zH (H0.out.trans ((Lg h1).trans (Lh h2)))
   clear H0 HC1 HC2 HX;go_enter Tryz.func147,Tryz.ntmps147;go_wp2_with fail
   all_goals first | (exfalso;omega) | skip
   go_ret;exact⟨zk hR.out.symm,kh w _ _⟩
 have HE:=zH (H0.out.trans ((Lg h1).trans (Lg h2)));clear H0;go_enter Tryz.func147,Tryz.ntmps147;go_wp2_with fail
 all_goals first | (exfalso;omega) | skip
 obtain⟨W0,hW0⟩:=HX.out;rw[<-hW0] at HC1 HC2 ⊢;clear HX;have HW0:=zH (show Below w.heap.size w W0 by rw[hW0];exact kh w _ _);clear hW0
 go_loopw [5] (fun i wr=>∃k n:Nat,k<=5/\i=.int .i64 (k:Int)/\Hid (E=zy (a.gl.drop (k+1)) (b.gl.drop (k+1)))/\wr=W0.drewN n) (fun i _=>5-(intOf i).toNat)
 case atStart=>exact⟨0,0,by omega,rfl,HE,rfl⟩
 case round=>
  obtain⟨k,n,hk,rfl,hrk,rfl⟩:=hrel;clear HE
  by_cases hlt:k<5
  . have c1:=HC1.out k hlt
    have c2:=HC2.out k hlt;have hs:E=if a.h k<b.h k then -1 else if b.h k<a.h k then 1 else zy (a.gl.drop (k+1+1)) (b.gl.drop (k+1+1)):=by rw[hrk.out,gQ hlt,gQ hlt,zy]
    obtain⟨x,hx⟩:=Ki (a.h k);obtain⟨y,hy⟩:=Ki (b.h k);rw[hx] at c1 hs;rw[hy] at c2 hs;have HS:=zH hs;clear hx hy hrk hs
    by_cases l1:x<y
    . have hR:=zH (HS.out.trans (Lh l1))
      clear HS;go_wp2_with fail;go_quiet (fail);go_wp2_with fail;go_ret;exact⟨zk hR.out.symm,by repeat (first | exact HW0.out | refine zT ?_ _)⟩
    . by_cases l2:y<x
      . have hR:=zH (HS.out.trans ((Lg l1).trans (Lh l2)))
        clear HS;go_wp2_with fail;go_quiet (fail);go_wp2_with fail;go_quiet (fail);go_wp2_with fail;go_ret;exact⟨zk hR.out.symm,by repeat (first | exact HW0.out | refine zT ?_ _)⟩
      . have hR:=zH (HS.out.trans ((Lg l1).trans (Lg l2)))
        clear HS;go_wp2_with fail;go_quiet (fail);go_wp2_with fail;go_quiet (fail);go_wp2_with fail
        go_roundw
        case rel=>exact⟨k+1,_,by omega,by go_num,hR,rfl⟩
        case measure=>simp[intOf];omega
  . obtain rfl:k=5:=by omega
    have hR:Hid (E=0):=hrk.out;clear hrk;go_wp2_with fail;go_ret;exact⟨zk hR.out.symm,by repeat (first | exact HW0.out | refine zT ?_ _)⟩
theorem Zj(a b:Rd)(w:Ba):Calls Tryz.prog 124 #[.agg a.cells,.agg b.cells] w fun e w'=>e=.returned (.int .i64 (zy a.l b.l))/\Below w.heap.size w w':=by
 have HS:=zH (@l_split a b);have HG:=zH (fun w=>JB a b w);have HF:Hid (kQ a.f b.f=if a.f<b.f then -1 else if b.f<a.f then 1 else 0):=rfl;obtain⟨E,hE⟩:=Ki (zy a.l b.l);rw[hE] at HS ⊢;obtain⟨g,hg⟩:=Ki (zy a.gl b.gl);rw[hg] at HS HG;rw[HF.out] at HS;clear hE hg HF;unfold Rd.gcells at HG;unfold Rd.cells;go_enter Tryz.func124,Tryz.ntmps124;go_wp2_with fail;obtain⟨W0,hW0,b0,b1,hsz,hB0⟩:=yB w #[.int .i64 a.n,.int .i64 a.h0,.int .i64 a.h1,.int .i64 a.h2,.int .i64 a.h3,.int .i64 a.h4,.int .i64 a.f] #[.int .i64 b.n,.int .i64 b.h0,.int .i64 b.h1,.int .i64 b.h2,.int .i64 b.h3,.int .i64 b.h4,.int .i64 b.f] 92 92;rw[hW0];clear hW0;refine(HG.out W0).mono ?_;rintro e w1 ⟨rfl,hb1⟩;have HB:=zH (Lc hB0 hb1);have d0:=Lb hb1 (by omega) b0;have d1:=Lb hb1 (by omega) b1;have q6:=zh d0 6 rfl;have p6:=zh d1 6 rfl;clear b0 b1 hB0 hb1 d0 d1
 by_cases h0:g=0
 . subst h0
   have hR:=zH (HS.out.trans (Lg (by simp)));clear HS HG
   by_cases l1:a.f<b.f
   . have hR:=zH (hR.out.trans (Lh l1))
     go_wp2_with fail;go_ret;exact⟨zk hR.out.symm,HB.out⟩
   . by_cases l2:b.f<a.f
     . have hR:=zH (hR.out.trans ((Lg l1).trans (Lh l2)))
       go_wp2_with fail
       all_goals first | (exfalso;omega) | skip
       go_ret;exact⟨zk hR.out.symm,HB.out⟩
     . have hR:=zH (hR.out.trans ((Lg l1).trans (Lg l2)))
       go_wp2_with fail
       all_goals first | (exfalso;omega) | skip
       go_ret;exact⟨zk hR.out.symm,HB.out⟩
 . have hR:=zH (HS.out.trans (Lh h0))
   have e0:(g != 0)=true:=by simpa using h0
   clear HS HG h0;go_wp2_with fail;go_ret;exact⟨zk hR.out.symm,HB.out⟩
end
section
open Go.RowKit
attribute [local go_sem] Oper.semAt_some
def LowA(a:Ad):Prop:=a.sts.length<=17592186044416/\∀l∈a.sts,l.length<=17592186044416
theorem ad_eq{a b:Ad}(h1:a.n=b.n)(h2:a.sts=b.sts):a=b:=by cases a;cases b;simp_all
theorem Ju(a b:Ad)(ha:LowA a)(hb:LowA b)(A B:Bb)(ca cb:Nat)(w:Ba)(hA:SAt w w.heap.size A a.sts)(hB:SAt w w.heap.size B b.sts) :
  Calls Tryz.prog 154 #[.agg #[.int .i64 a.n,.slice A a.sts.length ca],.agg #[.int .i64 b.n,.slice B b.sts.length cb]] w fun e w'=>e=.returned (.bool (decide (a=b)))/\Below w.heap.size w w':=by
 obtain⟨ha1,ha2⟩:=ha;obtain⟨hb1,hb2⟩:=hb;have HX3:=zH ha2;have HY3:=zH hb2;obtain⟨w1,hw1,d0,d1,hs1,hBw⟩:=yB w #[.int .i64 a.n,.slice A a.sts.length ca] #[.int .i64 b.n,.slice B b.sts.length cb] 27 27;have HA:=zH ((hA.keep hBw).more hBw.size);have HB:=zH ((hB.keep hBw).more hBw.size);have HBW:=zH hBw;have HD0:=zH d0;have HD1:=zH d1;have HW1:=zH hw1;obtain⟨p0,p1,_⟩:=Ka d0;obtain⟨q0,q1,_⟩:=Ka d1;clear hw1 d0 d1 hBw hA hB ha2 hb2;have HT:Hid (a≠b->decide (a=b)=false):=fun h=>Li h
 have HU:Hid (a=b->decide (a=b)=true):=fun h=>Lk h
 obtain⟨r,hr⟩:∃r,decide (a=b)=r:=⟨_,rfl⟩;rw[hr] at HT HU ⊢;clear hr;go_enter Tryz.func154,Tryz.ntmps154
 by_cases h1:a.n=b.n
 case neg=>
  have hR:=zH (HT.out (fun h=>h1 (congrArg Ad.n h)));have e0:(a.n != b.n)=true:=by simpa using h1
  clear HT HU;go_wp2_with fail;rw[HW1.out];go_wp2_with fail
  all_goals
   go_ret;exact⟨zm hR.out.symm,HBW.out⟩
 case pos=>
 have H3:Hid (a.sts=b.sts->r=true):=fun h=>HU.out (ad_eq h1 h)
 have H4:Hid (a.sts≠b.sts->r=false):=fun h=>HT.out (fun e=>h (congrArg Ad.sts e))
 rw[h1] at p0 HW1 HD0 ⊢;clear h1 HT HU
 by_cases h3:a.sts.length=b.sts.length
 case neg=>
  have hR:=zH (H4.out (fun h=>h3 (by rw[h])));have e0:((a.sts.length:Int) != (b.sts.length:Int))=true:=by simp;omega
  have e1:¬((a.sts.length:Int)=(b.sts.length:Int)):=by omega
  clear H3 H4 h3;go_wp2_with fail;rw[HW1.out];go_wp2_with fail;go_ret;exact⟨zm hR.out.symm,HBW.out⟩
 case pos=>
 have HL:=zH h3;rw[<-h3] at q1 hb1 HW1 HD1 ⊢;clear h3;go_wp2_with fail;rw[HW1.out];go_wp2_with fail;clear p0 p1 q0 q1 HW1
 go_loopw [5] (fun i wr=>∃k:Nat,k<=a.sts.length/\i=.int .i64 (k:Int)/\Hid (a.sts.take k=b.sts.take k)/\Hid (Below w1.heap.size w1 wr)) (fun i _=>a.sts.length-(intOf i).toNat)
 case atStart=>exact⟨0,by omega,rfl,by rw[Hid,LS,LS],Lo _ _⟩
 case round=>
  obtain⟨k,hk,rfl,hp,hbl⟩:=hrel;have p1:=zh (La hbl.out HD0.out) 1 rfl;have q1:=zh (La hbl.out HD1.out) 1 rfl;have HLy:=HL.out
  by_cases hlt:k<a.sts.length
  case neg=>
   obtain rfl:k=a.sts.length:=by omega
   have hR:=zH (H3.out (qA HL.out hp.out));clear H3 H4 hp;go_wp2_with fail;go_ret;exact⟨zm hR.out.symm,Lc HBW.out hbl.out⟩
  case pos=>
  have hky:k<b.sts.length:=by omega
  obtain⟨ba,oa,A',k1,ea,hba,a0,IA⟩:=(HA.out.keep hbl.out).at_ k hlt;obtain⟨bb,ob,B',k2,eb,hbb,b0,IB⟩:=(HB.out.keep hbl.out).at_ k hky;subst ea;subst eb;have hxk:=HX3.out _ (Ld hlt);have hyk:=HY3.out _ (Ld hky);have h0:Hid (a.sts[k]=b.sts[k]->a.sts.take (k+1)=b.sts.take (k+1)):=fun he=>xt hp.out hlt hky he
  have hN:Hid (a.sts[k]≠b.sts[k]->r=false):=fun he=>H4.out (fun h=>he (by simp only[h]))
  obtain⟨X,hX⟩:=Ki (a.sts[k]);obtain⟨Y,hY⟩:=Ki (b.sts[k]);rw[hX] at a0 IA hxk h0 hN;rw[hY] at b0 IB hyk h0 hN;clear hX hY hp
  by_cases hl:X.length=Y.length
  case neg=>
   have hR:=zH (hN.out (fun h=>hl (by rw[h])));have e0:((X.length:Int) != (Y.length:Int))=true:=by simp;omega
   have e1:¬((X.length:Int)=(Y.length:Int)):=by omega
   clear hl h0 hN H3 H4;go_wp2_with fail;go_quiet (fail);go_wp2_with fail;go_ret;exact⟨zm hR.out.symm,zT (Lc HBW.out hbl.out) _⟩
  case pos=>
  have HLL:=zH hl;rw[<-hl] at b0 hyk;clear hl;have hca:Hid (∀W,Below wr.heap.size wr W->W.cell? ⟨ba,oa+k,none⟩=some (.slice A' X.length k1)):=fun W hW=>(hW.cell (p:=⟨ba,_,none⟩) (LC hba hbl.out.size)).trans a0
  have hcb:Hid (∀W,Below wr.heap.size wr W->W.cell? ⟨bb,ob+k,none⟩=some (.slice B' X.length k2)):=fun W hW=>(hW.cell (p:=⟨bb,_,none⟩) (LC hbb hbl.out.size)).trans b0
  have HIA:=zH (IA.more hbl.out.size);have HIB:=zH (IB.more hbl.out.size);obtain⟨W0,hW0⟩:=Ki wr;rw[hW0] at hbl hca hcb HIA HIB p1 q1 a0 b0 ⊢;have HS0:=zH hbl.out.size;clear IA IB hW0;go_wp2_with fail;go_quiet (fail);go_wp2_with fail;clear p1 q1 a0 b0
  go_loopw [6] (fun i wx=>∃j:Nat,j<=X.length/\i=.int .i64 (j:Int)/\Hid (X.take j=Y.take j)/\Hid (Below W0.heap.size W0 wx)) (fun i _=>X.length-(intOf i).toNat)
  case atStart=>exact⟨0,by omega,rfl,by rw[Hid,LS,LS],zT (Lo _ _) _⟩
  case round=>
   obtain⟨j,hj,rfl,hq,hbx⟩:=hrel;have hbt:=hbl.out.trans (hbx.out.mono HS0.out);have HBT:=zH hbt;have p1:=zh (La hbt HD0.out) 1 rfl;have q1:=zh (La hbt HD1.out) 1 rfl;have a0:=hca.out _ hbx.out;have b0:=hcb.out _ hbx.out;clear hbt
   by_cases hjl:j<X.length
   case neg=>
    obtain rfl:j=X.length:=by omega
    have hR:=zH (h0.out (qA HLL.out hq.out));clear h0 hN hq H3 H4;go_wp2_with fail
    go_roundw
    case rel=>exact⟨k+1,by omega,by go_num,hR,HBT⟩
    case measure=>simp[intOf];omega
   case pos=>
   have hjy:j<Y.length:=by have:=HLL.out;omega
   obtain⟨b3,o3,e3,_,x0,x1,x2,x3,x4,x5,x6,x7⟩:=(HIA.out.keep hbx.out).row j hjl;obtain⟨b4,o4,e4,_,y0,y1,y2,y3,y4,y5,y6,y7⟩:=(HIB.out.keep hbx.out).row j hjy;subst e3;subst e4;have hm:=fun W=>neq_move X[j] Y[j] W
   have g0:Hid (X[j]=Y[j]->X.take (j+1)=Y.take (j+1)):=fun he=>xt hq.out hjl hjy he
   have gN:Hid (X[j]≠Y[j]->r=false):=fun he=>hN.out (fun h=>he (by simp only[h]))
   obtain⟨m,hmx⟩:=Ki (X[j]);obtain⟨m',hmy⟩:=Ki (Y[j]);rw[hmx] at x0 x1 x2 x3 x4 x5 x6 x7 hm g0 gN;rw[hmy] at y0 y1 y2 y3 y4 y5 y6 y7 hm g0 gN;clear hmx hmy hq
   by_cases he:m=m'
   . have hR:=zH (g0.out he)
     rw[Li (by simpa using he)] at hm;unfold Mv.cells at hm;subst he;clear g0 gN h0 hN H3 H4;go_wp2_with fail;go_quiet (fail);go_wp2_with fail
     go_roundw
     case rel=>exact⟨j+1,by omega,by go_num,hR,zT hbx.out _⟩
     case measure=>simp[intOf];omega
   . have hR:=zH (gN.out he)
     rw[Lk (by simpa using he)] at hm;unfold Mv.cells at hm;clear g0 gN h0 hN H3 H4 he;go_wp2_with fail;go_quiet (fail);go_wp2_with fail;go_ret;exact⟨zm hR.out.symm,zT (Lc HBW.out HBT.out) _⟩
end
end Go.Proofs.YtohjmddnennajaaGreatDoor
namespace Go.Proofs
set_option maxHeartbeats 4000000
open Go.Shelf
def Tryz.lays212_ren:Go.Shelf.Ren:=⟨fun | 212=>46 | 263=>76 | 264=>77 | n=>n,fun | 46=>109 | 51=>140 | 146=>141 | 53=>143 | 148=>144 | n=>n,fun | n=>n⟩
theorem Tryz.lays212:Go.Proofs.Lays.n212 Tryz.prog Tryz.lays212_ren:={
 mixed:=by kernel_rfl
 f212:=Tryz.func46.trans (congrArg some (by kernel_rfl))
 f263:=Tryz.func76.trans (congrArg some (by kernel_rfl))
 f264:=Tryz.func77.trans (congrArg some (by kernel_rfl))
 t46:=Tryz.underlying109
 a46:=Tryz.isAgg109
 z46:=Tryz.sizeOf109
 v46:=Tryz.zeroValue109
 t51:=Tryz.underlying140
 a51:=Tryz.isAgg140
 z51:=Tryz.sizeOf140
 v51:=Tryz.zeroValue140
 t53:=Tryz.underlying143
 a53:=Tryz.isAgg143
 z53:=Tryz.sizeOf143
 v53:=Tryz.zeroValue143
 t146:=Tryz.underlying141
 a146:=Tryz.isAgg141
 z146:=Tryz.sizeOf141
 v146:=Tryz.zeroValue141
 t148:=Tryz.underlying144
 a148:=Tryz.isAgg144
 z148:=Tryz.sizeOf144
 v148:=Tryz.zeroValue144 }
open Go.RowKit Go.Lib in
/-- math/bits.Mul: "Mul returns the full-width product of x and y": on a machine of 64 bits: Mul64's. (LAID: no walk: one application.) -/
theorem Tryz.bits_Mul (x y:Nat) (hx:x<18446744073709551616) (hy:y<18446744073709551616) (w:World) :
  Calls Tryz.prog 46 #[.int .u64 x,.int .u64 y] w fun e w'=>e=.returned (.tuple #[.int .u64 ((x*y / 18446744073709551616:Nat):Int),.int .u64 ((x*y % 18446744073709551616:Nat):Int)])∧w'=w:=Any.bits_Mul Tryz.lays212 x y hx hy w
def Tryz.lays111_ren:Go.Shelf.Ren:=⟨fun | 111=>11 | n=>n,fun | 28=>44 | 3=>3 | 4=>4 | 0=>0 | n=>n,fun | n=>n⟩
theorem Tryz.lays111:Go.Proofs.Lays.n111 Tryz.prog Tryz.lays111_ren:={
 mixed:=by kernel_rfl
 f111:=Tryz.func11.trans (congrArg some (by kernel_rfl))
 t0:=Tryz.underlying0
 a0:=Tryz.isAgg0
 z0:=Tryz.sizeOf0
 v0:=Tryz.zeroValue0
 t3:=Tryz.underlying3
 a3:=Tryz.isAgg3
 z3:=Tryz.sizeOf3
 v3:=Tryz.zeroValue3
 t4:=Tryz.underlying4
 a4:=Tryz.isAgg4
 z4:=Tryz.sizeOf4
 v4:=Tryz.zeroValue4
 t28:=Tryz.underlying44
 a28:=Tryz.isAgg44
 z28:=Tryz.sizeOf44
 v28:=Tryz.zeroValue44 }
open Go.RowKit Go.Lib in
/-- slices.Equal at []int: "Equal reports whether two slices are equal: the same length and all elements equal. If the lengths are different, Equal returns false. Otherwise, the elements are compared in increasing index order, and the comparison stops at the first unequal pair. Empty and nil slices are considered equal.": IT RETURNS WHETHER THE TWO LISTS OF ELEMENTS ARE ONE; the world is as it was but for the count of draws (the test 's1[i] != s2[i]' has two reads, whose order the model draws, once a round). 'xs', 'ys': what the cells xd the two addresses hold (the spare capacity too, if you have it); 'xs.take n', 'ys.take m': the elements. THE TWO SLICES MAY OVERLAP. (LAID: no walk: one application.) -/
theorem Tryz.slices_Equal_int (b1 o1 n c b2 o2 m d:Nat) (xs ys:List Int) (w:World) (hx:n≤xs.length) (hy:m≤ys.length) (hbig:n≤9223372036854775807) (hbig2:m≤9223372036854775807) (hc1:∀j,j<xs.length→w.cell? ⟨b1,o1+j,none⟩=some (.int .i64 (xs.getD j 0))) (hc2:∀j,j<ys.length→w.cell? ⟨b2,o2+j,none⟩=some (.int .i64 (ys.getD j 0))) :
  Calls Tryz.prog 11 #[.slice (some ⟨b1,o1,none⟩) n c,.slice (some ⟨b2,o2,none⟩) m d] w fun e w'=>e=.returned (.bool (xs.take n==ys.take m))∧∃q,w'=w.drewN q:=Any.slices_Equal_int Tryz.lays111 b1 o1 n c b2 o2 m d xs ys w hx hy hbig hbig2 hc1 hc2
open Go.RowKit Go.Lib in
/-- The same where the first is of length 0 (a nil one too): no cell is asked for. (LAID: no walk: one application.) -/
theorem Tryz.slices_Equal_int_empty (a1 a2:Option Addr) (c m d:Nat) (w:World) (hbig2:m≤9223372036854775807) :
  Calls Tryz.prog 11 #[.slice a1 0 c,.slice a2 m d] w fun e w'=>e=.returned (.bool (decide (m=0)))∧w'=w:=Any.slices_Equal_int_empty Tryz.lays111 a1 a2 c m d w hbig2
open Go.RowKit Go.Lib in
theorem Tryz.slices_Equal_int_lens (a1 a2:Option Addr) (n c m d:Nat) (w:World) (hnm:n≠m) :
  Calls Tryz.prog 11 #[.slice a1 n c,.slice a2 m d] w fun e w'=>e=.returned (.bool false)∧w'=w:=Any.slices_Equal_int_lens Tryz.lays111 a1 a2 n c m d w hnm
end Go.Proofs
namespace Go.Proofs.YtohjmddnennajaaGreatDoor
set_option maxRecDepth 100000
set_option maxHeartbeats 4000000
section
open Go.RowKit
def RetIdx(b:Bool)(w:Ba)(e:Ending)(w':Ba):Prop:=∃i:Int,e=.returned (.int .i64 i)/\decide (0<=i)=b/\∃n,w'=w.drewN n
theorem ut{α:Type}{p:α->Bool}{l:List α}{k:Nat}(hk:k<l.length):(l.drop k).any p=(p l[k]||(l.drop (k+1)).any p):=by
 rw[Ly hk];rfl
theorem gW{α:Type}{p:α->Bool}{l:List α}{k:Nat}(hk:k=l.length):(l.drop k).any p=false:=by subst hk;rw[Nm];rfl
theorem XW(x m:Int)(bm:Nat)(w:Ba)(hb:w.heap[bm]?=some (.cells #[.int .i64 m] 3 (0,0))) :
  Calls Tryz.prog 167 #[.int .i64 x,.pointer (some ⟨bm,0,none⟩)] w fun e w'=>e=.returned (.bool (kp m x))/\w=w':=by
 have H:Hid (kp m x=decide (x<0\/m<=x)):=rfl;have c0:=zh hb 0 rfl;clear hb;go_enter Tryz.func167,Tryz.ntmps167;go_wp2
 all_goals
  go_ret;refine⟨zm ?_,rfl⟩;rw[H.out];simp
  try omega
theorem Jg(A:Bb)(c:Nat)(xs:List Int)(m:Int)(bm:Nat)(hl:xs.length<=17592186044416)(w:Ba)(hA:IAt w w.heap.size A xs)(hb:w.heap[bm]?=some (.cells #[.int .i64 m] 3 (0,0))) :
  Calls Tryz.prog 174 #[.slice A xs.length c,.func (.func 167) #[] #[.pointer (some ⟨bm,0,none⟩)]] w (RetIdx (xs.any (kp m)) w):=by
 have HA:=zH hA;have HV:=zH (fun x=>XW x m bm w hb);obtain⟨r,hr⟩:=Ki (xs.any (kp m));rw[hr];have HR:Hid (r=(xs.drop 0).any (kp m)):=by rw[L4];exact hr.symm
 clear hA hb hr;go_enter Tryz.func174,Tryz.ntmps174;go_wp2_with fail
 go_loop [8] (fun i=>∃k:Nat,k<=xs.length/\i=.int .i64 (k:Int)/\Hid (r=(xs.drop k).any (kp m))) (fun i=>xs.length-(intOf i).toNat)
 case atStart=>exact⟨0,by omega,rfl,HR⟩
 case round=>
  obtain⟨k,hk,rfl,hrk⟩:=hrel;clear HR
  by_cases hlt:k<xs.length
  . obtain⟨b,o,rfl,hbB,c1⟩:=HA.out.at_ k hlt
    have hs:=ut (p:=kp m) hlt;obtain⟨x,hx⟩:=Ki (xs[k]);rw[hx] at c1 hs;have HS:=zH hs;have HC:=zH (HV.out x);obtain⟨bo,hbo⟩:=Ki (kp m x);rw[hbo] at HS HC;clear hs hx hbo;go_wp2_with fail;refine HC.out.mono ?_;rintro e w' ⟨rfl,rfl⟩
    cases bo with
    | true=>
     have hR:r=true:=by rw[hrk.out,HS.out];rfl
     subst hR;go_wp2_with fail;go_ret;exact⟨(k:Int),rfl,by simp,0,rfl⟩
    | false=>
     have HR2:Hid (r=(xs.drop (k+1)).any (kp m)):=by rw[hrk.out,HS.out];rfl
     clear HS HC;go_wp2_with fail
     go_round
     case rel=>exact⟨k+1,by omega,by go_num,HR2⟩
     case measure=>simp[intOf];omega
  . obtain rfl:k=xs.length:=by omega
    have hR:r=false:=hrk.out.trans (gW rfl);subst hR;go_wp2_with fail;go_ret;exact⟨-1,rfl,by decide,0,rfl⟩
theorem Z9(A:Bb)(c:Nat)(xs:List Int)(m:Int)(bm:Nat)(hl:xs.length<=17592186044416)(w:Ba)(hA:IAt w w.heap.size A xs)(hb:w.heap[bm]?=some (.cells #[.int .i64 m] 3 (0,0))) :
  Calls Tryz.prog 166 #[.slice A xs.length c,.func (.func 167) #[] #[.pointer (some ⟨bm,0,none⟩)]] w fun e w'=>e=.returned (.bool (xs.any (kp m)))/\∃n,w'=w.drewN n:=by
 have hc:=Jg A c xs m bm hl w hA hb;obtain⟨r,hr⟩:=Ki (xs.any (kp m));rw[hr] at hc ⊢;have HC:=zH hc;clear hc hA hb hr;go_enter Tryz.func166,Tryz.ntmps166;go_wp2_with fail;refine HC.out.mono ?_;rintro e w' ⟨i,rfl,hi,n,rfl⟩;have HI:=zH hi;clear hi HC;go_wp2_with fail;go_ret;exact⟨zm HI.out,_,rfl⟩
theorem j9{v:List Int}{n m:Int}(h:(v.length:Int)≠n):zK v n m=15:=Lh h
theorem va{v:List Int}{n m:Int}(h:(v.length:Int)=n)(h2:v.any (kp m)=true):zK v n m=2:=by unfold zK;rw[Lg (by simpa using h),Lh h2]
theorem hP{v:List Int}{n m:Int}(h:(v.length:Int)=n)(h2:v.any (kp m)=false):zK v n m=0:=by unfold zK;rw[Lg (by simpa using h),Lg (by rw[h2];decide)]
theorem wz(A:Bb)(c:Nat)(xs:List Int)(n m:Int)(hl:xs.length<=17592186044416)(w:Ba)(hA:IAt w w.heap.size A xs) :
  Calls Tryz.prog 159 #[.slice A xs.length c,.int .i64 n,.int .i64 m] w fun e w'=>e=.returned (.int .i64 (zK xs n m))/\Below w.heap.size w w':=by
 have HE1:=zH (@j9 xs n m);have HE2:=zH (@va xs n m);have HE3:=zH (@hP xs n m);have HC:=zH (Z9 A c xs m w.heap.size hl (w.alloc (.cells #[.int .i64 m] 3)) ((hA.keep (zW w _)).more (by simp)) (zw _ _));obtain⟨r,hr⟩:=Ki (xs.any (kp m));rw[hr] at HE2 HE3 HC;obtain⟨E,hE⟩:=Ki (zK xs n m);rw[hE] at HE1 HE2 HE3 ⊢;clear hA hr hE;go_enter Tryz.func159,Tryz.ntmps159
 by_cases hn:(xs.length:Int)=n
 . have e0:((xs.length:Int) != n)=false:=by simp[hn]
   have HN:=zH hn;clear hn;go_wp2_with fail;refine HC.out.mono ?_;rintro e w' ⟨rfl,q,rfl⟩
   cases r with
   | true=>
    have HR:=zH (HE2.out HN.out (by rfl));clear HE1 HE2 HE3 HC;go_wp2_with fail;go_ret;exact⟨zk HR.out.symm,zT (zW w _) _⟩
   | false=>
    have HR:=zH (HE3.out HN.out (by rfl));clear HE1 HE2 HE3 HC;go_wp2_with fail;go_ret;exact⟨zk HR.out.symm,zT (zW w _) _⟩
 . have HR:=zH (HE1.out hn)
   have e0:((xs.length:Int) != n)=true:=by simp[hn]
   clear hn HE1 HE2 HE3 HC;go_wp2_with fail;go_ret;exact⟨zk HR.out.symm,zW w _⟩
theorem Yv(A:Bb)(c:Nat)(xss:List (List Int))(k:Nat)(hk:k<xss.length)(hl:xss.length<=17592186044416)(hll:∀v∈xss,v.length<=17592186044416)(w:Ba)(hA:LAt w w.heap.size A xss) :
  Calls Tryz.prog 169 #[.slice A xss.length c,.int .i64 k] w fun e w'=>e=.returned (.bool (qj (zD xss k) xss[k]))/\∃n,w'=w.drewN n:=by
 cases k with
 | zero=>
  have HR:Hid (qj (zD xss 0) xss[0]=false):=by rw[wK];rfl
  have e0:decide ((0:Int)<0)=false:=by decide
  go_enter Tryz.func169,Tryz.ntmps169;go_wp2_with fail;go_quiet (fail);go_wp2_with fail;go_ret;exact⟨zm HR.out.symm,_,rfl⟩
 | succ j=>
  have hj:j<xss.length:=by omega
  have hb:qj (zD xss (j+1)) xss[j+1]=decide (0<=zy xss[j] xss[j+1]):=by rw[yq xss j hj];rfl
  obtain⟨b,o,A1,c1,rfl,hb1,q1,I1⟩:=hA.at_ (j+1) hk;obtain⟨b2,o2,A2,c2,e2,hb2,q2,I2⟩:=hA.at_ j hj
  cases e2
  have l1:=hll _ (Ld hk);have l2:=hll _ (Ld hj);have hc:=fun n=>vU A2 A1 c2 c1 xss[j] xss[j+1] l2 l1 (w.drewN n) I2 I1
  obtain⟨r,hr⟩:=Ki (zy xss[j] xss[j+1]);rw[hr] at hb hc;have HB:=zH hb;have HC:=zH hc;obtain⟨n1,hn1⟩:=Ki (xss[j+1].length);obtain⟨n2,hn2⟩:=Ki (xss[j].length);rw[hn1,hn2] at HC;rw[hn1] at q1 l1;rw[hn2] at q2 l2;have e1:((j:Int)+1).toNat=j+1:=by omega
  have e3:IntKind.i64.wrap ((j:Int)+1-1)=(j:Int):=by rw[Lp];omega
  have e5:IntKind.i64.wrap ((j:Int)+1)=(j:Int)+1:=by rw[Lp];omega
  have e6:decide ((0:Int)<(j:Int)+1)=true:=Lk (by omega);clear hA hb hc I1 I2 hr hn1 hn2 hll hb2;go_enter Tryz.func169,Tryz.ntmps169;go_wp2_with fail;go_quiet ((go_at_call 160;exact Rw (HC.out _)));go_wp2_with fail;go_ret;exact⟨zm HB.out.symm,_,rfl⟩
theorem Xh{xs ys:List Int}{k:Nat}(hk:k<xs.length)(hl:xs.length=ys.length)(h:xs.take k=ys.take k)(h2:xs[k]=ys[k]'(by omega)):xs.take (k+1)=ys.take (k+1):=by
 rw[Lu hk,Lu (by omega),h,h2]
theorem Jo(A B:Bb)(ca cb:Nat)(xs ys:List Int)(hl:xs.length<=17592186044416)(hl2:ys.length<=17592186044416)(w:Ba)(hA:IAt w w.heap.size A xs)(hB:IAt w w.heap.size B ys) :
  Calls Tryz.prog 11 #[.slice A xs.length ca,.slice B ys.length cb] w fun e w'=>e=.returned (.bool (decide (xs=ys)))/\∃n,w'=w.drewN n:=by
 have HA:=zH hA;have HB:=zH hB;clear hA hB;go_enter Tryz.func11,Tryz.ntmps11
 by_cases he:xs.length=ys.length
 . have e0:((xs.length:Int) != (ys.length:Int))=false:=by simp[he]
   go_wp2_with fail
   go_loopw [13] (fun i wr=>∃k n:Nat,k<=xs.length/\i=.int .i64 (k:Int)/\Hid (xs.take k=ys.take k)/\wr=w.drewN n) (fun i _=>xs.length-(intOf i).toNat)
   case atStart=>exact⟨0,0,by omega,rfl,by simp[Hid],rfl⟩
   case round=>
    obtain⟨k,n,hk,rfl,htk,rfl⟩:=hrel
    by_cases hlt:k<xs.length
    . obtain⟨b1,o1,rfl,hb1,c1⟩:=HA.out.at_ k hlt
      obtain⟨b2,o2,rfl,hb2,c2⟩:=HB.out.at_ k (by omega);have hlt2:k<ys.length:=by omega
      obtain⟨x,hx⟩:=Ki (xs[k]);obtain⟨y,hy⟩:=Ki (ys[k]);have HX:=zH hx;have HY:=zH hy;rw[hx] at c1;rw[hy] at c2;clear hx hy
      by_cases hxy:x=y
      . subst hxy
        go_wp2_with fail;go_quiet (fail);go_wp2_with fail
        go_roundw
        case rel=>exact⟨k+1,_,by omega,by go_num,Xh hlt he htk.out (HX.out.trans HY.out.symm),rfl⟩
        case measure=>simp[intOf];omega
      . go_wp2_with fail
        go_quiet (fail);go_wp2_with fail;go_ret;refine⟨zm (Li ?_).symm,by first | exact⟨_,rfl⟩ | exact drew2 _ _ _⟩;rintro rfl;exact hxy (HX.out.symm.trans HY.out)
    . obtain rfl:k=xs.length:=by omega
      go_wp2_with fail;go_ret;refine⟨zm (Lk ?_).symm,_,rfl⟩;have:=htk.out;rwa[LG,he,LG] at this
 . have e0:((xs.length:Int) != (ys.length:Int))=true:=by simp;omega
   go_wp2_with fail;go_ret;exact⟨zm (Li (fun h=>he (by rw[h]))).symm,0,rfl⟩
theorem has1_any(A B:Bb)(ca cb:Nat)(xs ys:List Int)(hl:xs.length<=17592186044416)(hl2:ys.length<=17592186044416)(bv:Nat)(w:Ba)(hA:IAt w w.heap.size A xs)(hB:IAt w w.heap.size B ys)(hb:w.heap[bv]?=some (.cells #[.slice B ys.length cb] 44 (0,0))) :
  Calls Tryz.prog 177 #[.slice A xs.length ca,.pointer (some ⟨bv,0,none⟩)] w fun e w'=>e=.returned (.bool (decide (xs=ys)))/\∃n,w'=w.drewN n:=by
 have c0:=zh hb 0 rfl;have HC:=zH (Jo A B ca cb xs ys hl hl2 w hA hB);obtain⟨r,hr⟩:∃r,decide (xs=ys)=r:=⟨_,rfl⟩;rw[hr] at HC ⊢;clear hA hB hb hr;go_enter Tryz.func177,Tryz.ntmps177;go_wp2_with fail;refine HC.out.mono ?_;rintro e w' ⟨rfl,n,rfl⟩;clear c0 HC;go_wp2_with fail;go_ret;exact⟨rfl,_,rfl⟩
theorem hindex_any(A:Bb)(c:Nat)(xss:List (List Int))(B:Bb)(cb:Nat)(ys:List Int)(bv:Nat)(hl:xss.length<=17592186044416)(hll:∀v∈xss,v.length<=17592186044416)(hl2:ys.length<=17592186044416)(w:Ba)(hA:LAt w w.heap.size A xss)(hB:IAt w w.heap.size B ys)
  (hb:w.heap[bv]?=some (.cells #[.slice B ys.length cb] 44 (0,0))) :
  Calls Tryz.prog 180 #[.slice A xss.length c,.func (.func 177) #[] #[.pointer (some ⟨bv,0,none⟩)]] w (RetIdx (xss.any fun x=>decide (x=ys)) w):=by
 have HA:=zH hA;have HB:=zH hB;have HBb:=zH hb;have HLL:=zH hll;obtain⟨r,hr⟩:∃r,(xss.any fun x=>decide (x=ys))=r:=⟨_,rfl⟩;rw[hr];have HR:Hid (r=(xss.drop 0).any fun x=>decide (x=ys)):=by rw[L4];exact hr.symm
 clear hA hB hb hr hll;go_enter Tryz.func180,Tryz.ntmps180;go_wp2_with fail
 go_loopw [8] (fun i wr=>∃k n:Nat,k<=xss.length/\i=.int .i64 (k:Int)/\Hid (r=(xss.drop k).any fun x=>decide (x=ys))/\wr=w.drewN n) (fun i _=>xss.length-(intOf i).toNat)
 case atStart=>exact⟨0,0,by omega,rfl,HR,rfl⟩
 case round=>
  obtain⟨k,n,hk,rfl,hrk,rfl⟩:=hrel;clear HR
  by_cases hlt:k<xss.length
  . obtain⟨b,o,A1,c1,rfl,hbB,q1,I1⟩:=HA.out.at_ k hlt
    have l1:=HLL.out _ (Ld hlt);have hs:=ut (p:=fun x=>decide (x=ys)) hlt;have HC:=zH (has1_any A1 B c1 cb xss[k] ys l1 hl2 bv (w.drewN n) I1 HB.out HBb.out);obtain⟨x,hx⟩:=Ki (xss[k]);rw[hx] at q1 hs HC l1;have HS:=zH hs;obtain⟨bo,hbo⟩:∃bo,decide (x=ys)=bo:=⟨_,rfl⟩;rw[hbo] at HS HC;obtain⟨xl,hxl⟩:=Ki x.length;rw[hxl] at q1 HC l1;clear hs hx hbo hxl I1;go_wp2_with fail;refine HC.out.mono ?_;rintro e w' ⟨rfl,n2,rfl⟩
    cases bo with
    | true=>
     have hR:r=true:=by rw[hrk.out,HS.out];rfl
     subst hR;clear HS HC;go_wp2_with fail;go_ret;exact⟨(k:Int),rfl,by simp,_,rfl⟩
    | false=>
     have HR2:Hid (r=(xss.drop (k+1)).any fun x=>decide (x=ys)):=by rw[hrk.out,HS.out];rfl
     clear HS HC;go_wp2_with fail
     go_roundw
     case rel=>exact⟨k+1,_,by omega,by go_num,HR2,rfl⟩
     case measure=>simp[intOf];omega
  . obtain rfl:k=xss.length:=by omega
    have hR:r=false:=hrk.out.trans (gW rfl);subst hR;go_wp2_with fail;go_ret;exact⟨-1,rfl,by decide,_,rfl⟩
theorem Yl(A:Bb)(c:Nat)(xss:List (List Int))(B:Bb)(cb:Nat)(ys:List Int)(bv:Nat)(hl:xss.length<=17592186044416)(hll:∀v∈xss,v.length<=17592186044416)(hl2:ys.length<=17592186044416)(w:Ba)(hA:LAt w w.heap.size A xss)(hB:IAt w w.heap.size B ys)
  (hb:w.heap[bv]?=some (.cells #[.slice B ys.length cb] 44 (0,0))) :
  Calls Tryz.prog 176 #[.slice A xss.length c,.func (.func 177) #[] #[.pointer (some ⟨bv,0,none⟩)]] w fun e w'=>e=.returned (.bool (xss.any fun x=>decide (x=ys)))/\∃n,w'=w.drewN n:=by
 have hc:=hindex_any A c xss B cb ys bv hl hll hl2 w hA hB hb;obtain⟨r,hr⟩:∃r,(xss.any fun x=>decide (x=ys))=r:=⟨_,rfl⟩;rw[hr] at hc ⊢;have HC:=zH hc;clear hc hA hB hb hr hll;go_enter Tryz.func176,Tryz.ntmps176;go_wp2_with fail;refine HC.out.mono ?_;rintro e w' ⟨i,rfl,hi,n,rfl⟩;have HI:=zH hi;clear hi HC;go_wp2_with fail;go_ret;exact⟨zm HI.out,_,rfl⟩
theorem any_mem{xss:List (List Int)}{ys:List Int}:(xss.any fun x=>decide (x=ys))=decide (ys∈xss):=by
 rw[Pd,List.any_eq_true,Np];constructor
 . rintro⟨x,h,e⟩
   rw[<-LF e];exact h
 . exact fun h=>⟨ys,h,Lk rfl⟩
theorem thas_any(A:Bb)(c:Nat)(xss:List (List Int))(B:Bb)(cb:Nat)(ys:List Int)(hl:xss.length<=17592186044416)(hll:∀v∈xss,v.length<=17592186044416)(hl2:ys.length<=17592186044416)(w:Ba)(hA:LAt w w.heap.size A xss)(hB:IAt w w.heap.size B ys) :
  Calls Tryz.prog 170 #[.slice A xss.length c,.slice B ys.length cb] w fun e w'=>e=.returned (.bool (decide (ys∈xss)))/\Below w.heap.size w w':=by
 have HC:=zH (Yl A c xss B cb ys w.heap.size hl hll hl2 (w.alloc (.cells #[.slice B ys.length cb] 44)) ((hA.keep (zW w _)).more (by simp)) ((hB.keep (zW w _)).more (by simp)) (zw _ _));rw[any_mem] at HC;obtain⟨r,hr⟩:=Ki (decide (ys∈xss));rw[hr] at HC ⊢;clear hA hB hr hll;go_enter Tryz.func170,Tryz.ntmps170;go_wp2_with fail;refine HC.out.mono ?_;rintro e w' ⟨rfl,n,rfl⟩;clear HC;go_wp2_with fail;go_ret;exact⟨rfl,zT (zW w _) _⟩
theorem tboxes(w:Ba)(c1 c2:Array Value)(t1 t2:TypeId):∃W0,(w.alloc (.cells c1 t1)).alloc (.cells c2 t2)=W0/\W0.heap[w.heap.size]?=some (.cells c1 t1 (0,0))/\W0.heap[w.heap.size+1]?=some (.cells c2 t2 (0,0))/\w.heap.size+2<=W0.heap.size/\Below w.heap.size w W0:=
 ⟨_,rfl,yM (zw _ _) _,by have:=zw (w.alloc (.cells c1 t1)) (.cells c2 t2);rwa[Nw] at this,by simp,kh w _ _⟩
def FewL(l:List (List Int)):Prop:=l.length<=30/\∀v∈l,v.length<=10
def FewC(c:Cs):Prop:=c.inp.length<=10/\FewL c.out/\FewL c.calm
def FewT(t:Tk):Prop:=t.cases.length<=30/\∀c∈t.cases,FewC c
theorem gi{n m:Int}{c:Cs}(h:c.out.length<1):kC n m c=5:=Lh (.inl h)
theorem Z1{n m:Int}{c:Cs}(h:1<=c.out.length)(h1:c.out.length<=30)(h2:qQ (fun v=>zK v n m) c.out≠0):kC n m c=qQ (fun v=>zK v n m) c.out:=by unfold kC;rw[Lg (by omega),Lh h2]
theorem gj{n m:Int}{c:Cs}(h:1<=c.out.length)(h1:c.out.length<=30)(h2:qQ (fun v=>zK v n m) c.out=0):kC n m c=qQ (qE c.out) c.calm:=by unfold kC;rw[Lg (by omega),Lg (by simpa using h2)]
theorem Xf(n ins m:Int)(cs:Value)(A0 A1 A2:Bb)(k0 k1 k2:Nat)(x:Cs)(hf:FewC x)(w:Ba)(h1:LAt w w.heap.size A1 x.out)(h2:LAt w w.heap.size A2 x.calm) :
  Calls Tryz.prog 161 #[.agg #[.int .i64 n,.int .i64 ins,.int .i64 m,cs],.agg #[.slice A0 x.inp.length k0,.slice A1 x.out.length k1,.slice A2 x.calm.length k2]] w fun e w'=>e=.returned (.int .i64 (kC n m x))/\Below w.heap.size w w':=by
 obtain⟨hf0,⟨hf1,hf2⟩,hf3,hf4⟩:=hf;have HF2:=zH hf2;have HF4:=zH hf4;have H1:=zH h1;have H2:=zH h2;have HE1:=zH (@gi n m x);have HE2:=zH (@Z1 n m x);have HE3:=zH (@gj n m x);obtain⟨E,hE⟩:=Ki (kC n m x);rw[hE] at HE1 HE2 HE3 ⊢;obtain⟨xi,xo,xc⟩:=x;dsimp only at hf0 hf1 hf3 HF2 HF4 H1 H2 HE1 HE2 HE3 ⊢;clear hE h1 h2 hf2 hf4
 by_cases hz:xo.length<1
 . have HR:=zH (HE1.out hz)
   clear HE1 HE2 HE3;go_enter Tryz.func161,Tryz.ntmps161;go_wp2_with fail
   all_goals first | (exfalso;omega) | skip
   go_ret;exact⟨zk HR.out.symm,kh w _ _⟩
 have hz1:¬((xo.length:Int)<1):=by omega
 have HE2:=zH (HE2.out (by omega) (by omega));have HE3:=zH (HE3.out (by omega) (by omega));clear HE1;go_enter Tryz.func161,Tryz.ntmps161;go_wp2_with fail
 all_goals first | (exfalso;omega) | skip
 obtain⟨W0,hW0,b0,b1,hsz,hB0⟩:=tboxes w #[.int .i64 n,.int .i64 ins,.int .i64 m,cs] #[.slice A0 xi.length k0,.slice A1 xo.length k1,.slice A2 xc.length k2] 24 87;rw[hW0];have HB0:=zH hB0;have HX0:=zH b0;have HX1:=zH b1;clear hW0 hB0 b0 b1;obtain⟨F,hF⟩:∃F,qQ (fun v=>zK v n m) xo=F:=⟨_,rfl⟩;have HF:Hid (F=yG (fun v=>zK v n m) xo 0):=by rw[qa];exact hF.symm
 rw[hF] at HE2 HE3;clear hF
 go_loopw [23] (fun i wr=>∃k:Nat,k<=xo.length/\i=.int .i64 (k:Int)/\Hid (F=yG (fun v=>zK v n m) xo k)/\Below W0.heap.size W0 wr) (fun i _=>xo.length-(intOf i).toNat)
 case atStart=>exact⟨0,by omega,rfl,HF,Lo _ _⟩
 case round=>
  obtain⟨k,hk,rfl,hrk,hbl⟩:=hrel;clear HF;have HBL:=zH (Lc HB0.out hbl);have d0:=Lb hbl (by omega) HX0.out;have d1:=Lb hbl (by omega) HX1.out;have q0:=zh d0 0 rfl;have q2:=zh d0 2 rfl;have q3:=zh d1 1 rfl;have q4:=zh d1 2 rfl;have HW:=zH hbl
  by_cases hlt:k<xo.length
  . have HL:=zH (H1.out.keep HBL.out)
    obtain⟨b,o,A3,k3,rfl,hb,c3,I3⟩:=HL.out.at_ k hlt;have l3:=HF2.out _ (Ld hlt);have hbd:=zH (@qo (fun v=>zK v n m) xo k hlt);have hod:=zH (@xH (fun v=>zK v n m) xo k hlt);have hon:=zH (@qO (fun v=>zK v n m) xo k hlt);have HV:=zH (fun (w':Ba) (h:IAt w' w'.heap.size A3 xo[k])=>wz A3 k3 xo[k] n m (by omega) w' h);have HU:=zH (fun (w':Ba) (h:LAt w' w'.heap.size (some ⟨b,o,none⟩) xo)=>Yv (some ⟨b,o,none⟩) k1 xo k hlt (by omega) (fun v hv=>by have:=HF2.out v hv;omega) w' h);obtain⟨v,hv⟩:=Ki (xo[k]);obtain⟨bo,hbo⟩:=Ki (qj (zD xo k) xo[k]);rw[hbo] at hod hon HU;rw[hv] at c3 I3 l3 hbd hod hon HV;obtain⟨ev,hev⟩:=Ki (zK v n m);rw[hev] at hbd hod hon HV;obtain⟨vl,hvl⟩:=Ki v.length;rw[hvl] at c3 l3 HV;have HI:=zH I3;clear hv hbo hev hvl I3 hbl d0 d1;go_wp2_with fail;refine(HV.out _ ((HI.out.more (by have:=HBL.out.size;omega)))).mono ?_;rintro e w1 ⟨rfl,hb1⟩;have HBL1:=zH (Lc HBL.out hb1);have HW1:=zH (Lc HW.out hb1);have d0:=Lb HW1.out (by omega) HX0.out;have d1:=Lb HW1.out (by omega) HX1.out;have q0:=zh d0 0 rfl;have q2:=zh d0 2 rfl;have q3:=zh d1 1 rfl;have q4:=zh d1 2 rfl;clear hb1 d0 d1
    by_cases he:ev=0
    . subst he
      have HL1:=zH ((H1.out.keep HBL1.out).more HBL1.out.size);clear hbd;go_wp2_with fail;refine(HU.out _ HL1.out).mono ?_;rintro e w2 ⟨rfl,nq,rfl⟩
      cases bo with
      | true=>
       have hR:=zH (hrk.out.trans (hod.out (by simp) (by simp)));have HR:=zH ((HE2.out (by rw[hR.out];decide)).trans hR.out);clear hrk hod hon HE2 HE3 HV HU;go_wp2_with fail;go_ret;exact⟨zk HR.out.symm,zT HBL1.out _⟩
      | false=>
       have hR:=zH (hrk.out.trans (hon.out (by simp) (by simp)));clear hrk hod hon HV HU;go_wp2_with fail
       go_roundw
       case rel=>exact⟨k+1,by omega,by go_num,hR,zT HW1.out _⟩
       case measure=>simp[intOf];omega
    . have hR:=zH (hrk.out.trans (hbd.out he))
      have HR:=zH ((HE2.out (by rw[hR.out];exact he)).trans hR.out);clear hrk hod hon hbd HE2 HE3 HV HU;have e0:(ev != 0)=true:=by simpa using he
      clear he;go_wp2_with fail;go_ret;exact⟨zk HR.out.symm,HBL1.out⟩
  . obtain rfl:k=xo.length:=by omega
    have hR:=zH (hrk.out.trans qn);have HR:=zH (HE3.out hR.out);clear hrk HE2 HE3 hbl d0 d1;go_wp2_with fail;obtain⟨W1,hW1⟩:∃W1,W1=wr:=⟨_,rfl⟩;rw[<-hW1] at HBL HW q0 q2 q3 q4 ⊢;clear hW1 q0 q2 q3 q4;have hW1s:=HW.out.size;obtain⟨G,hG⟩:=Ki (qQ (qE xo) xc);have HG:Hid (G=yG (qE xo) xc 0):=by rw[qa];exact hG.symm
    rw[hG] at HR;clear hG
    go_loopw [45] (fun i wr=>∃k:Nat,k<=xc.length/\i=.int .i64 (k:Int)/\Hid (G=yG (qE xo) xc k)/\Below W1.heap.size W1 wr) (fun i _=>xc.length-(intOf i).toNat)
    case atStart=>exact⟨0,by omega,rfl,HG,Lo _ _⟩
    case round=>
     obtain⟨k,hk,rfl,hrk,hbl⟩:=hrel;clear HG;have HBL1:=zH (Lc HBL.out hbl);have HW1:=zH (Lc HW.out hbl);have HWl:=zH hbl;have d1:=Lb HW1.out (by omega) HX1.out;have q3:=zh d1 1 rfl;have q4:=zh d1 2 rfl;clear hbl
     by_cases hlt:k<xc.length
     . have HL:=zH (H2.out.keep HBL1.out)
       have HL0:=zH ((H1.out.keep HBL1.out).more HBL1.out.size);obtain⟨b,o,A3,k3,rfl,hb,c3,I3⟩:=HL.out.at_ k hlt;have l3:=HF4.out _ (Ld hlt);have hbd:=zH (@qo (qE xo) xc k hlt);have hod:=zH (@xH (qE xo) xc k hlt);have hon:=zH (@qO (qE xo) xc k hlt);have HV:=zH (fun (w':Ba) (h0:LAt w' w'.heap.size A1 xo) (h:IAt w' w'.heap.size A3 xc[k])=>thas_any A1 k1 xo A3 k3 xc[k] (by omega) (fun v hv=>by have:=HF2.out v hv;omega) (by omega) w' h0 h);have HU:=zH (fun (w':Ba) (h:LAt w' w'.heap.size (some ⟨b,o,none⟩) xc)=>Yv (some ⟨b,o,none⟩) k2 xc k hlt (by omega) (fun v hv=>by have:=HF4.out v hv;omega) w' h);have hhe:Hid (∀v,qE xo v=if v∈xo then 0 else 6):=fun _=>rfl
       obtain⟨v,hv⟩:=Ki (xc[k]);obtain⟨bo,hbo⟩:=Ki (qj (zD xc k) xc[k]);rw[hbo] at hod hon HU;rw[hv] at c3 I3 l3 hbd hod hon HV;have hhe:=zH (hhe.out v);obtain⟨ev,hev⟩:=Ki (qE xo v);rw[hev] at hbd hod hon hhe;obtain⟨vl,hvl⟩:=Ki v.length;rw[hvl] at c3 l3 HV;have HI:=zH I3;clear hv hbo hev hvl I3
       by_cases hm:v∈xo
       . have he:ev=0:=hhe.out.trans (Lh hm)
         subst he;rw[Lk hm] at HV;clear hbd hm hhe;go_wp2_with fail;refine(HV.out _ HL0.out ((HI.out.more (by have:=HBL1.out.size;omega)))).mono ?_;rintro e w1 ⟨rfl,hb1⟩;have HBL2:=zH (Lc HBL1.out hb1);have HW2:=zH (Lc HW1.out hb1);have d1:=Lb HW2.out (by omega) HX1.out;have q3:=zh d1 1 rfl;have q4:=zh d1 2 rfl;have HL1:=zH ((H2.out.keep HBL2.out).more HBL2.out.size);have HWm:=zH (Lc HWl.out hb1);clear hb1 d1;go_wp2_with fail;refine(HU.out _ HL1.out).mono ?_;rintro e w2 ⟨rfl,nq,rfl⟩
         cases bo with
         | true=>
          have hR:=zH (hrk.out.trans (hod.out (by simp) (by simp)));have HR2:=zH (HR.out.trans hR.out);clear hrk hod hon HR HV HU;go_wp2_with fail;go_ret;exact⟨zk HR2.out.symm,zT HBL2.out _⟩
         | false=>
          have hR:=zH (hrk.out.trans (hon.out (by simp) (by simp)));clear hrk hod hon HV HU;go_wp2_with fail
          go_roundw
          case rel=>exact⟨k+1,by omega,by go_num,hR,zT HWm.out _⟩
          case measure=>simp[intOf];omega
       . have he:ev=6:=hhe.out.trans (Lg hm)
         subst he;rw[Li hm] at HV;have hR:=zH (hrk.out.trans (hbd.out (by decide)));have HR2:=zH (HR.out.trans hR.out);clear hrk hod hon hbd hm hhe HR HU;go_wp2_with fail;refine(HV.out _ HL0.out ((HI.out.more (by have:=HBL1.out.size;omega)))).mono ?_;rintro e w1 ⟨rfl,hb1⟩;have HBL2:=zH (Lc HBL1.out hb1);clear hb1 HV;go_wp2_with fail;go_ret;exact⟨zk HR2.out.symm,HBL2.out⟩
     . obtain rfl:k=xc.length:=by omega
       have hR:=zH (hrk.out.trans qn);have HR2:=zH (HR.out.trans hR.out);clear hrk HR hR;go_wp2_with fail;go_ret;exact⟨zk HR2.out.symm,HBL1.out⟩
theorem jm(A:Bb)(c:Nat)(xs:List Int)(n m:Int)(hl:xs.length<=17592186044416)(w:Ba)(hA:IAt w w.heap.size A xs) :
  Calls Tryz.prog 120 #[.slice A xs.length c,.int .i64 n,.int .i64 m] w fun e w'=>e=.returned (.int .i64 (zK xs n m))/\w'=w:=by
 have HA:=zH hA;have HE1:=zH (@j9 xs n m);have HE2:=zH (@va xs n m);have HE3:=zH (@hP xs n m);obtain⟨E,hE⟩:=Ki (zK xs n m);rw[hE] at HE1 HE2 HE3 ⊢;clear hA hE
 by_cases hn:(xs.length:Int)=n
 . subst hn
   have HE2:=zH (HE2.out rfl);have HE3:=zH (HE3.out rfl);obtain⟨r,hr⟩:=Ki (xs.any (kp m));rw[hr] at HE2 HE3;have HR:Hid (r=(xs.drop 0).any (kp m)):=by rw[L4];exact hr.symm
   clear HE1 hr;go_enter Tryz.func120,Tryz.ntmps120;go_wp2_with fail
   go_loop [7] (fun i=>∃k:Nat,k<=xs.length/\i=.int .i64 (k:Int)/\Hid (r=(xs.drop k).any (kp m))) (fun i=>xs.length-(intOf i).toNat)
   case atStart=>exact⟨0,by omega,rfl,HR⟩
   case round=>
    obtain⟨k,hk,rfl,hrk⟩:=hrel;clear HR
    by_cases hlt:k<xs.length
    . obtain⟨b,o,rfl,hbB,c1⟩:=HA.out.at_ k hlt
      have hs:=ut (p:=kp m) hlt;have ho:Hid (∀x,kp m x=decide (x<0\/m<=x)):=fun _=>rfl
      obtain⟨x,hx⟩:=Ki (xs[k]);rw[hx] at c1 hs;rw[ho.out x] at hs;have HS:=zH hs;clear hs hx ho
      by_cases h1:x<0\/m<=x
      . have hR:r=true:=by rw[hrk.out,HS.out,Lk h1];rfl
        subst hR;have HE:=zH (HE2.out rfl);clear HS hrk HE2 HE3
        by_cases h2:x<0
        . clear h1
          go_wp2_with fail;go_ret;exact⟨zk HE.out.symm,rfl⟩
        . have h3:m<=x:=by omega
          clear h1;go_wp2_with fail;go_ret;exact⟨zk HE.out.symm,rfl⟩
      . have HR2:Hid (r=(xs.drop (k+1)).any (kp m)):=by rw[hrk.out,HS.out,Li h1];rfl
        have h2:¬x<0:=by omega
        have h3:¬m<=x:=by omega
        clear HS hrk h1;go_wp2_with fail
        go_round
        case rel=>exact⟨k+1,by omega,by go_num,HR2⟩
        case measure=>simp[intOf];omega
    . obtain rfl:k=xs.length:=by omega
      have hR:r=false:=hrk.out.trans (gW rfl);subst hR;have HE:=zH (HE3.out rfl);clear HE2 HE3 hrk;go_wp2_with fail;go_ret;exact⟨zk HE.out.symm,rfl⟩
 . have HR:=zH (HE1.out hn)
   have e0:((xs.length:Int) != n)=true:=by simp[hn]
   clear hn HE1 HE2 HE3;go_enter Tryz.func120,Tryz.ntmps120;go_wp2_with fail;go_ret;exact⟨zk HR.out.symm,rfl⟩
theorem X9(A:Bb)(c:Nat)(xss:List (List Int))(B:Bb)(cb:Nat)(ys:List Int)(hl:xss.length<=17592186044416)(hll:∀v∈xss,v.length<=17592186044416)(hl2:ys.length<=17592186044416)(w:Ba)(hA:LAt w w.heap.size A xss)(hB:IAt w w.heap.size B ys) :
  Calls Tryz.prog 122 #[.slice A xss.length c,.slice B ys.length cb] w fun e w'=>e=.returned (.bool (decide (ys∈xss)))/\∃n,w'=w.drewN n:=by
 have HA:=zH hA;have HB:=zH hB;have HLL:=zH hll;rw[<-any_mem];obtain⟨r,hr⟩:∃r,(xss.any fun x=>decide (x=ys))=r:=⟨_,rfl⟩;rw[hr];have HR:Hid (r=(xss.drop 0).any fun x=>decide (x=ys)):=by rw[L4];exact hr.symm
 clear hA hB hr hll;go_enter Tryz.func122,Tryz.ntmps122;go_wp2_with fail
 go_loopw [5] (fun i wr=>∃k n:Nat,k<=xss.length/\i=.int .i64 (k:Int)/\Hid (r=(xss.drop k).any fun x=>decide (x=ys))/\wr=w.drewN n) (fun i _=>xss.length-(intOf i).toNat)
 case atStart=>exact⟨0,0,by omega,rfl,HR,rfl⟩
 case round=>
  obtain⟨k,n,hk,rfl,hrk,rfl⟩:=hrel;clear HR
  by_cases hlt:k<xss.length
  . obtain⟨b,o,A1,c1,rfl,hbB,q1,I1⟩:=HA.out.at_ k hlt
    have l1:=HLL.out _ (Ld hlt);have hs:=ut (p:=fun x=>decide (x=ys)) hlt;have HC:=zH (xA A1 B c1 cb xss[k] ys l1 hl2 (w.drewN n) I1 HB.out);obtain⟨x,hx⟩:=Ki (xss[k]);rw[hx] at q1 hs HC l1;have HS:=zH hs;have hz:Hid (zy x ys=0->x=ys):=qB;have hz2:Hid (x=ys->zy x ys=0):=fun h=>by rw[h];exact xB _
    obtain⟨bo,hbo⟩:=Ki (zy x ys);rw[hbo] at hz HC hz2;obtain⟨xl,hxl⟩:=Ki x.length;rw[hxl] at q1 HC l1;clear hs hx hbo hxl I1;go_wp2_with fail;refine HC.out.mono ?_;rintro e w' ⟨rfl,n2,rfl⟩
    by_cases hb:bo=0
    . have hR:r=true:=by rw[hrk.out,HS.out,Lk (hz.out hb)];rfl
      subst hR;subst hb;clear HS HC hz hz2;go_wp2_with fail;go_ret;exact⟨rfl,_,rfl⟩
    . have HR2:Hid (r=(xss.drop (k+1)).any fun x=>decide (x=ys)):=by rw[hrk.out,HS.out,Li (fun h=>hb (hz2.out h))];rfl
      have e0:(bo==0)=false:=by simpa using hb
      clear HS HC hz hz2 hb;go_wp2_with fail
      go_roundw
      case rel=>exact⟨k+1,_,by omega,by go_num,HR2,rfl⟩
      case measure=>simp[intOf];omega
  . obtain rfl:k=xss.length:=by omega
    have hR:r=false:=hrk.out.trans (gW rfl);subst hR;go_wp2_with fail;go_ret;exact⟨rfl,_,rfl⟩
def jF(l:List (List Int))(m:Nat):Bool:=decide (l.length<=m)&&l.all fun v=>decide (v.length<=10)
theorem Jc{α:Type}{p:α->Bool}{l:List α}{k:Nat}(hk:k<l.length):(l.drop k).all p=(p l[k]&&(l.drop (k+1)).all p):=by
 rw[Ly hk];rfl
theorem all_end{α:Type}{p:α->Bool}{l:List α}{k:Nat}(hk:k=l.length):(l.drop k).all p=true:=by subst hk;rw[Nm];rfl
theorem QS(A:Bb)(c:Nat)(xss:List (List Int))(hl:xss.length<=17592186044416)(hll:∀v∈xss,v.length<=17592186044416)(w:Ba)(hA:LAt w w.heap.size A xss) :
  Calls Tryz.prog 50 #[.slice A xss.length c,.int .i64 30] w fun e w'=>e=.returned (.bool (jF xss 30))/\w'=w:=by
 have HA:=zH hA;have HLL:=zH hll;have H:Hid (jF xss 30=(decide (xss.length<=30)&&xss.all fun v=>decide (v.length<=10))):=rfl;obtain⟨r,hr⟩:=Ki (jF xss 30);rw[hr] at H ⊢;clear hA hll hr
 by_cases hz:xss.length<=30
 . have HR:Hid (r=(xss.drop 0).all fun v=>decide (v.length<=10)):=by rw[L4,H.out,Lk hz,Nv];rfl
   have hz1:¬(30<(xss.length:Int)):=by omega
   clear H;go_enter Tryz.func50,Tryz.ntmps50;go_wp2_with fail
   all_goals first | (exfalso;omega) | skip
   go_loop [5] (fun i=>∃k:Nat,k<=xss.length/\i=.int .i64 (k:Int)/\Hid (r=(xss.drop k).all fun v=>decide (v.length<=10))) (fun i=>xss.length-(intOf i).toNat)
   case atStart=>exact⟨0,by omega,rfl,HR⟩
   case round=>
    obtain⟨k,hk,rfl,hrk⟩:=hrel;clear HR
    by_cases hlt:k<xss.length
    . obtain⟨b,o,A1,c1,rfl,hbB,q1,_⟩:=HA.out.at_ k hlt
      have l1:=HLL.out _ (Ld hlt);have HS:=zH (Jc (p:=fun v=>decide (v.length<=10)) hlt);obtain⟨xl,hxl⟩:=Ki (xss[k].length);rw[hxl] at q1 HS l1;clear hxl
      by_cases hx:xl<=10
      . have HR2:Hid (r=(xss.drop (k+1)).all fun v=>decide (v.length<=10)):=by rw[hrk.out,HS.out,Lk hx];rfl
        clear HS hrk;go_wp2_with fail
        all_goals first | (exfalso;omega) | skip
        go_round
        case rel=>exact⟨k+1,by omega,by go_num,HR2⟩
        case measure=>simp[intOf];omega
      . have hR:r=false:=by rw[hrk.out,HS.out,Li hx];rfl
        subst hR;clear HS hrk;go_wp2_with fail
        all_goals first | (exfalso;omega) | skip
        go_ret;exact⟨rfl,rfl⟩
    . obtain rfl:k=xss.length:=by omega
      have hR:r=true:=hrk.out.trans (all_end rfl);subst hR;go_wp2_with fail;go_ret;exact⟨rfl,rfl⟩
 . have hR:r=false:=by rw[H.out,Li hz];rfl
   subst hR;clear H;go_enter Tryz.func50,Tryz.ntmps50;go_wp2_with fail
   all_goals first | (exfalso;omega) | skip
   go_ret;exact⟨rfl,rfl⟩
theorem wC{t:Tk}(h:t.n<1\/5<t.n\/t.ins<1\/8<t.ins\/t.outs<1\/8<t.outs):xn t=2:=Lh h
theorem Za{t:Tk}(h:¬(t.n<1\/5<t.n\/t.ins<1\/8<t.ins\/t.outs<1\/8<t.outs))(h2:t.cases.length<1):xn t=5:=by unfold xn;rw[Lg h,Lh (.inl h2)]
theorem wF{t:Tk}(h:¬(t.n<1\/5<t.n\/t.ins<1\/8<t.ins\/t.outs<1\/8<t.outs))(h2:1<=t.cases.length)(h3:t.cases.length<=30):xn t=xM t t.cases 0:=by unfold xn;rw[Lg h,Lg (by omega)]
theorem Y7{t:Tk}{p:Option Cs}{c:Cs}(h:zK c.inp t.n t.ins≠0):qJ t p c=zK c.inp t.n t.ins:=Lh h
theorem gu{t:Tk}{p:Option Cs}{c:Cs}(h:zK c.inp t.n t.ins=0)(h2:qj (p.map Cs.inp) c.inp=true):qJ t p c=14:=by unfold qJ;rw[Lg (by simpa using h),Lh h2]
theorem Y8{t:Tk}{p:Option Cs}{c:Cs}(h:zK c.inp t.n t.ins=0)(h2:qj (p.map Cs.inp) c.inp=false):qJ t p c=kC t.n t.outs c:=by unfold qJ;rw[Lg (by simpa using h),Lg (by rw[h2];decide)]
theorem Jj(t:Tk)(A:Bb)(kc:Nat)(hf:FewT t)(w:Ba)(hA:CAt w w.heap.size A t.cases) :
  Calls Tryz.prog 149 #[.agg #[.int .i64 t.n,.int .i64 t.ins,.int .i64 t.outs,.slice A t.cases.length kc]] w fun e w'=>e=.returned (.int .i64 (xn t))/\Below w.heap.size w w':=by
 obtain⟨hf1,hf2⟩:=hf;have HF2:=zH hf2;have HA:=zH hA;have HE1:=zH (@wC t);have HE2:=zH (@Za t);have HE3:=zH (@wF t);obtain⟨E,hE⟩:=Ki (xn t);rw[hE] at HE1 HE2 HE3 ⊢;obtain⟨cv,hcv⟩:=Ki (Value.slice A t.cases.length kc)
 by_cases hr:t.n<1\/5<t.n\/t.ins<1\/8<t.ins\/t.outs<1\/8<t.outs
 . have HR:=zH (HE1.out hr)
   obtain⟨n,ins,outs,cases⟩:=t;dsimp only at hr hcv ⊢;rw[hcv];have HN:=zH hr;clear HE1 HE2 HE3 hcv hA hf2 HF2 HA hE hr;go_enter Tryz.func149,Tryz.ntmps149;go_wp2_with fail
   all_goals first | (exfalso;have:=HN.out;omega) | (go_ret;exact⟨zk HR.out.symm,zW w _⟩)
 have r1:¬t.n<1:=by omega
 have r2:¬5<t.n:=by omega
 have r3:¬t.ins<1:=by omega
 have r4:¬8<t.ins:=by omega
 have r5:¬t.outs<1:=by omega
 have r6:¬8<t.outs:=by omega
 have HE2:=zH (HE2.out hr);have HE3:=zH (HE3.out hr);clear hr HE1 hcv hE hA hf2
 by_cases hz:t.cases.length<1
 . have HR:=zH (HE2.out hz)
   obtain⟨n,ins,outs,cases⟩:=t;dsimp only at hf1 r1 r2 r3 r4 r5 r6 hz ⊢;clear HE2 HE3 HF2 HA;go_enter Tryz.func149,Tryz.ntmps149;go_wp2_with fail
   all_goals first | (exfalso;omega) | skip
   go_ret;exact⟨zk HR.out.symm,zW w _⟩
 have hz1:¬((t.cases.length:Int)<1):=by omega
 have HE3:=zH (HE3.out (by omega) (by omega));clear HE2 hz;obtain⟨n,hn⟩:=Ki t.n;obtain⟨ins,hins⟩:=Ki t.ins;obtain⟨outs,houts⟩:=Ki t.outs;obtain⟨cs,hcs⟩:=Ki t.cases;have HT:Hid (t.n=n/\t.ins=ins/\t.outs=outs):=⟨hn,hins,houts⟩;rw[hn] at r1 r2 ⊢;rw[hins] at r3 r4 ⊢;rw[houts] at r5 r6 ⊢;rw[hcs] at hf1 HF2 HA hz1 HE3 ⊢;clear hn hins houts hcs;go_enter Tryz.func149,Tryz.ntmps149;go_wp2_with fail
 all_goals first | (exfalso;omega) | skip
 obtain⟨W0,hW0,b0,hsz,hB0⟩:∃W0,w.alloc (.cells #[.int .i64 n,.int .i64 ins,.int .i64 outs,.slice A cs.length kc] 24)=W0/\W0.heap[w.heap.size]?=some (.cells #[.int .i64 n,.int .i64 ins,.int .i64 outs,.slice A cs.length kc] 24 (0,0))/\w.heap.size+1<=W0.heap.size/\Below w.heap.size w W0:=
  ⟨_,rfl,zw _ _,by simp,zW w _⟩
 rw[hW0];have HB0:=zH hB0;have HX0:=zH b0;clear hW0 hB0 b0
 go_loopw [46] (fun i wr=>∃k:Nat,k<=cs.length/\i=.int .i64 (k:Int)/\Hid (E=xM t cs k)/\Below W0.heap.size W0 wr) (fun i _=>cs.length-(intOf i).toNat)
 case atStart=>exact⟨0,by omega,rfl,HE3,Lo _ _⟩
 case round=>
  obtain⟨k,hk,rfl,hrk,hbl⟩:=hrel;clear HE3;have HBL:=zH (Lc HB0.out hbl);have HW:=zH hbl;have d0:=Lb hbl (by omega) HX0.out;obtain⟨q0,q1,q2,q3,_⟩:=Kb d0;clear d0 hbl
  by_cases hlt:k<cs.length
  . obtain⟨b,o,A0,k0,A1,k1,A2,k2,rfl,hbB,c0,c1,c2,I0,I1,I2⟩:=(HA.out.keep HBL.out).row k hlt
    obtain⟨f0,f1,f2⟩:=HF2.out _ (Ld hlt);have hbd:=zH (@gt t cs k hlt);have hon:=zH (@Z2 t cs k hlt);obtain⟨e1,e2,e3⟩:=HT.out;have hvc:=zH (@Y7 t (zD cs k) cs[k]);have hod:=zH (@gu t (zD cs k) cs[k]);have hou:=zH (@Y8 t (zD cs k) cs[k]);rw[e1,e2] at hvc hod hou;rw[e3] at hou;have HV:=zH (fun (w':Ba) (h:IAt w' w'.heap.size A0 cs[k].inp)=>wz A0 k0 cs[k].inp n ins (by omega) w' h);have HG:=zH (fun (w':Ba) (h1:LAt w' w'.heap.size A1 cs[k].out) (h2:LAt w' w'.heap.size A2 cs[k].calm)=>Xf n ins outs (.slice (some ⟨b,o,none⟩) cs.length kc) A0 A1 A2 k0 k1 k2 cs[k] (HF2.out _ (Ld hlt)) w' h1 h2);obtain⟨bo,hbo⟩:=Ki (qj ((zD cs k).map Cs.inp) cs[k].inp);have HBO:=zH hbo;rw[hbo] at hod hou;obtain⟨ev,hev⟩:=Ki (zK cs[k].inp n ins);rw[hev] at hvc hod hou HV;obtain⟨gv,hgv⟩:=Ki (kC n outs cs[k]);rw[hgv] at hou HG;obtain⟨x,hx⟩:=Ki (cs[k]);have HX:=zH hx;rw[hx] at c0 c1 c2 I0 I1 I2 f0 hbd hon hvc hod hou HV HG;obtain⟨xi,xo,xc⟩:=x;dsimp only at c0 c1 c2 I0 I1 I2 f0 HV HG;have HBw:=HBL.out.size;have hws:w.heap.size<wr.heap.size:=by have:=HW.out.size;omega
    have J0:=I0.more HBw;have J1:=I1.more HBw;have J2:=I2.more HBw;clear hbo hev hgv hx f1 f2 e1 e2 e3 HT I0 I1 I2;go_wp2_with fail
    obtain⟨W1,hW1,b1,hs1,hB1⟩:∃W1,wr.alloc (.cells #[.slice A0 xi.length k0,.slice A1 xo.length k1,.slice A2 xc.length k2] 87)=W1/\W1.heap[wr.heap.size]?=some (.cells #[.slice A0 xi.length k0,.slice A1 xo.length k1,.slice A2 xc.length k2] 87 (0,0))/\wr.heap.size+1<=W1.heap.size/\Below wr.heap.size wr W1:=
     ⟨_,rfl,zw _ _,by simp,zW wr _⟩
    rw[hW1];have K0:=(J0.keep hB1).more hB1.size;have K1:=zH ((J1.keep hB1).more hB1.size);have K2:=zH ((J2.keep hB1).more hB1.size);have BL:=zH (HBL.out.trans (hB1.mono HBw));have BW:=zH (Lc HW.out hB1);have HX1:=zH b1;clear hW1 b1 hB1 J0 J1 J2 q0 q1 q2 q3 c0 c1 c2;refine(HV.out _ K0).mono ?_;rintro e w1 ⟨rfl,hb1⟩;have M1:=zH ((K1.out.keep hb1).more hb1.size);have M2:=zH ((K2.out.keep hb1).more hb1.size);have BL1:=zH (Lc BL.out hb1);have BW1:=zH (Lc BW.out hb1);have M0:=zH ((K0.keep hb1).more hb1.size);have d0:=Lb BW1.out (by omega) HX0.out;have d1:=Lb hb1 (by omega) HX1.out;obtain⟨q0,q1,q2,q3,_⟩:=Kb d0;obtain⟨p0,p1,p2,_⟩:=Kc d1;clear hb1 d0 d1 K0
    by_cases hev:ev=0
    case neg=>
     have hd:=hvc.out hev;have hR:=zH (hrk.out.trans ((hbd.out (by rw[hd];exact hev)).trans hd));have e0:(ev != 0)=true:=by simpa using hev
     clear hd hev hrk hbd hon hvc hod hou HV HG p0 p1 p2;go_wp2_with fail;go_ret;exact⟨zk hR.out.symm,BL1.out⟩
    case pos=>
    subst hev;clear hvc
    cases k with
    | zero=>
     obtain rfl:bo=false:=by rw[<-HBO.out];rfl
     have g0:decide ((0:Int)<0)=false:=by decide
     clear HBO HX;go_wp2_with fail;go_quiet (fail);have hou:=zH (hou.out (by simp) (by simp));clear hod;go_wp2_with fail;refine(HG.out _ (by exact M1.out.keep (zT (Lo _ _) _)) (by exact M2.out.keep (zT (Lo _ _) _))).mono ?_;rintro e w2 ⟨rfl,hb2⟩;have BL2:=zH (BL1.out.trans ((belD hb2).mono BL1.out.size));have BW2:=zH (BW1.out.trans ((belD hb2).mono BW1.out.size));clear hb2
     by_cases hg:gv=0
     . subst hg
       have hR:=zH (hrk.out.trans (hon.out hou.out));clear hrk hbd hon hou HV HG;go_wp2_with fail
       go_roundw
       case rel=>exact⟨_,hlt,by go_num,hR,BW2.out⟩
       case measure=>simp[intOf];omega
     . have hR:=zH (hrk.out.trans ((hbd.out (by rw[hou.out];exact hg)).trans hou.out))
       clear hrk hbd hon hou HV HG;have e0:(gv != 0)=true:=by simpa using hg
       clear hg;go_wp2_with fail;go_ret;exact⟨zk hR.out.symm,BL2.out⟩
    | succ j=>
     have hj:j<cs.length:=by omega
     have hbj:qj ((zD cs (j+1)).map Cs.inp) cs[j+1].inp=decide (0<=zy cs[j].inp cs[j+1].inp):=by rw[yq cs j hj];rfl
     obtain⟨b',o',A0',k0',_,_,_,_,e',_,u0,_,_,U0,_,_⟩:=((HA.out.keep BL1.out).row j hj)
     cases e'
     obtain⟨f0',_,_⟩:=HF2.out _ (Ld hj);rw[HX.out] at hbj;have hc:=fun n=>vU A0' A0 k0' k0 cs[j].inp xi (by omega) (by omega) (w1.drewN n) (U0.more BL1.out.size) M0.out
     rw[show qj ((zD cs (j+1)).map Cs.inp) xi=bo by have:=HBO.out;rwa[HX.out] at this] at hbj;obtain⟨r,hr⟩:=Ki (zy cs[j].inp xi);rw[hr] at hbj hc;have HBJ:=zH hbj;obtain⟨nl,hnl⟩:=Ki (cs[j].inp.length);rw[hnl] at u0 hc f0';have HC:=zH hc;have g1:((j:Int)+1).toNat=j+1:=by omega
     have g3:IntKind.i64.wrap ((j:Int)+1-1)=(j:Int):=by rw[Lp];omega
     have g5:IntKind.i64.wrap ((j:Int)+1)=(j:Int)+1:=by rw[Lp];omega
     have g6:decide ((0:Int)<(j:Int)+1)=true:=Lk (by omega);clear hbj hc hr hnl U0 HBO HX
     cases bo with
     | true=>
      have g7:decide (0<=r)=true:=HBJ.out.symm;have g8:0<=r:=LF g7;have hd:=hod.out (by simp) (by simp);have hR:=zH (hrk.out.trans ((hbd.out (by rw[hd];decide)).trans hd));clear hrk hbd hon hod hou HV HG hd HBJ;go_wp2_with fail;go_quiet ((go_at_call 160;exact Rw (HC.out _)));clear HC g1 g3 g5 g6 u0;go_wp2_with fail;go_ret;exact⟨zk hR.out.symm,zT BL1.out _⟩
     | false=>
      have g7:decide (0<=r)=false:=HBJ.out.symm;have g8:¬0<=r:=NO g7;clear HBJ;go_wp2_with fail;go_quiet ((go_at_call 160;exact Rw (HC.out _)));clear HC g1 g3 g5 g6 u0;have hou:=zH (hou.out (by simp) (by simp));clear hod;go_wp2_with fail;refine(HG.out _ (by exact M1.out.keep (zT (Lo _ _) _)) (by exact M2.out.keep (zT (Lo _ _) _))).mono ?_;rintro e w2 ⟨rfl,hb2⟩;have BL2:=zH (BL1.out.trans ((belD hb2).mono BL1.out.size));have BW2:=zH (BW1.out.trans ((belD hb2).mono BW1.out.size));clear hb2
      by_cases hg:gv=0
      . subst hg
        have hR:=zH (hrk.out.trans (hon.out hou.out));clear hrk hbd hon hou HV HG;go_wp2_with fail
        go_roundw
        case rel=>exact⟨j+1+1,hlt,by go_num,hR,BW2.out⟩
        case measure=>simp[intOf];omega
      . have hR:=zH (hrk.out.trans ((hbd.out (by rw[hou.out];exact hg)).trans hou.out))
        clear hrk hbd hon hou HV HG;have e0:(gv != 0)=true:=by simpa using hg
        clear hg;go_wp2_with fail;go_ret;exact⟨zk hR.out.symm,BL2.out⟩
  . obtain rfl:k=cs.length:=by omega
    have HR:=zH (hrk.out.trans gq);clear hrk;go_wp2_with fail;go_ret;exact⟨zk HR.out.symm,HBL.out⟩
end
end Go.Proofs.YtohjmddnennajaaGreatDoor
