/- Merged. -/
import Derived.WalkKit
import Derived.WalkSpells
import Derived.WalkLawsBesides
import Derived.Outline
import Derived.Below
import Derived.Laws.OwnMore
import Derived.Lib.Hide
import Derived.Deep.Draws
import Derived.Deep.AppendLies
import Derived.Test.YtjedjoeidcbffaaGreatDoorRows
import Derived.ProofKit
import Derived.LaidMore
import Derived.OpenShut
import Derived.Carry
import Derived.Deep.Slices
import Derived.Deep.Fields
import Derived.ChangeSame
import Derived.Stop.Joined
import Derived.Test.YtjedjoeidcbffaaGreatDoorProg
import Derived.Deep.QuietTactic
import Derived.BigQuiet
import Derived.Laws.StructEq
import Derived.Laws.BitsAllLaws
import Derived.Laws.BitsLemmas
import Derived.StillTactics
import Derived.Shelf.Small.Wraps
import Derived.Shelf.Bits.Mul64
import Derived.Shelf.Slices.Equal
import Derived.Ground.Names2Prog
import Derived.Shelf.Slices.Clone
import Derived.Shelf.Slices.SearchI
import Derived.Shelf.Slices.Empties2
open Go.Proofs.Tryz
open Go.Value renaming int->O,slice->I,bool->Aj,agg->Ak,pointer->Al
open Go.IntKind renaming i64->U
open Option renaming none->Z,some->J
open Go.Obj renaming cells->Ai
open Go.Ending renaming returned->Am
open Go.Proofs.Tryz renaming prog->Aq
open Go.RowKit renaming Below->Ar,intOf->Au,Hid->Aw
open Go renaming Calls->As,Value->Ax,run_equalIn_struct->Rm
open Bool renaming true->AA,false->AC
namespace Go.Proofs.YtjedjoeidcbffaaGreatDoor
abbrev Bb:=Option Addr
abbrev Ba:=World
abbrev Rh:=@List.range_succ
abbrev Py:=@List.mem_range
abbrev Li:=@if_pos
abbrev Lu:=@Array.getElem?_eq_some_iff
abbrev N9:=@Go.RowKit.Below.heap_alloc
abbrev Ll:=@Go.RowKit.Below.refl
abbrev Le:=@Nat.le_refl
abbrev Nk:=@Go.World.size_alloc
abbrev Nh:=@List.mem_append
abbrev RZ:=@List.mem_cons_of_mem
abbrev Sb:=@List.mem_cons_self
abbrev Rf:=@List.mem_append_left
abbrev Nr:=@List.append_nil
abbrev Ni:=@Go.DataW.trod_struct
abbrev LP:=@Go.DataW.trod_int
abbrev Lx:=@Go.Proofs.Tryz.underlying3
abbrev Sv:=@Go.DataW.trod_array
abbrev Pt:=@Go.Proofs.Tryz.underlying88
abbrev PF:=@Nat.add_assoc
abbrev Lr:=@List.take_succ_eq_append_getElem
abbrev LC:=@List.take_length
abbrev L1:=@List.take_zero
abbrev NT:=@Nat.add_sub_cancel
abbrev NW:=@Nat.mul_one
abbrev Rc:=@if_true
abbrev PV:=@if_false
abbrev Nt:=@Bool.true_and
abbrev L5:=@List.map_cons
abbrev NE:=@List.map_nil
abbrev Rn:=@and_true
abbrev NG:=@Bool.eq_iff_iff
abbrev PU:=@not_false_eq_true
abbrev LT:=@List.all_eq_true
abbrev Lg:=@if_neg
abbrev L6:=@Nat.pow_le_pow_right
abbrev Lp:=@Int.eq_ofNat_of_zero_le
abbrev LB:=@List.drop_eq_getElem_cons
abbrev NB:=@List.drop_length
abbrev Nc:=@List.drop_zero
abbrev Lj:=@decide_eq_false
abbrev Lm:=@decide_eq_true
abbrev RE:=@Bool.false_or
abbrev P9:=@beq_iff_eq
abbrev Rr:=@Go.World.drewN_drewN
abbrev Ld:=@List.getElem_mem
abbrev LF:=@Nat.lt_of_lt_of_le
abbrev Ls:=@Go.IntKind.wrap_i64
abbrev Lf:=@Go.Calls.quiet_of_same
abbrev NK:=@List.any_eq_true
abbrev Ng:=@decide_eq_true_eq
abbrev LR:=@of_decide_eq_true
abbrev N6:=@of_decide_eq_false
set_option maxRecDepth 100000
theorem zH{p:Prop}(h:p):Go.RowKit.Hid p:=h
set_option maxHeartbeats 4000000
section
open Go.RowKit
theorem dec_eq{p q:Prop}[Decidable p][Decidable q](h:p↔q):decide p=decide q:=by simp[h]
theorem zn{a b:Bool}(h:a=b):Am (Aj a)=Am (Aj b):=by rw[h]
theorem zm{k:IntKind}{a b:Int}(h:a=b):Am (.int k a)=Am (.int k b):=by rw[h]
structure Vw where
 p:Int
 r:Int
 i:Int
 h0:Int
 h1:Int
 h2:Int
 h3:Int
 h4:Int
deriving DecidableEq,Inhabited
def Vw.h(v:Vw):Nat->Int
 | 0=>v.h0
 | 1=>v.h1
 | 2=>v.h2
 | 3=>v.h3
 | _=>v.h4
def Vw.cells(v:Vw):Array Ax:=#[O U v.p,O U v.r,O U v.i,O U v.h0,O U v.h1,O U v.h2,O U v.h3,O U v.h4]
theorem Vw.cells_h(v:Vw)(q:Nat)(hq:q<5):v.cells[3+q]?=J (O U (v.h q)):=by
 match q,hq with
 | 0,_=>rfl
 | 1,_=>rfl
 | 2,_=>rfl
 | 3,_=>rfl
 | 4,_=>rfl
def VAt(w:Ba)(B:Nat)(A:Bb)(vs:List Vw):Prop:=
 0<vs.length->∃b off,A=J ⟨b,off,Z⟩/\b<B/\∀(i:Nat) (hi:i<vs.length) (k:Nat) (u:Ax),vs[i].cells[k]?=J u->w.cell? ⟨b,off+i*8+k,Z⟩=J u
theorem VAt.keep{w w':Ba}{B:Nat}{A:Bb}{vs:List Vw}(h:VAt w B A vs)(hb:Ar B w w'):VAt w' B A vs:=fun h0=>by
 obtain⟨b,off,e,aa,hc⟩:=h h0;exact⟨b,off,e,aa,fun i hi k u hk=>(hb.cell (p:=⟨b,_,Z⟩) aa).trans (hc i hi k u hk)⟩
theorem VAt.more{w:Ba}{B B':Nat}{A:Bb}{vs:List Vw}(h:VAt w B A vs)(hB:B<=B'):VAt w B' A vs:=fun h0=>by
 obtain⟨b,off,e,aa,hc⟩:=h h0;exact⟨b,off,e,by omega,hc⟩
theorem VAt.row{w:Ba}{B:Nat}{A:Bb}{vs:List Vw}(h:VAt w B A vs)(k:Nat)(hk:k<vs.length) :
  ∃b off,A=J ⟨b,off,Z⟩/\b<B/\w.cell? ⟨b,off+k*8,Z⟩=J (O U vs[k].p)/\w.cell? ⟨b,off+k*8+1,Z⟩=J (O U vs[k].r) /\
   w.cell? ⟨b,off+k*8+2,Z⟩=J (O U vs[k].i)/\w.cell? ⟨b,off+k*8+3,Z⟩=J (O U vs[k].h0)/\w.cell? ⟨b,off+k*8+4,Z⟩=J (O U vs[k].h1) /\
   w.cell? ⟨b,off+k*8+5,Z⟩=J (O U vs[k].h2)/\w.cell? ⟨b,off+k*8+6,Z⟩=J (O U vs[k].h3)/\w.cell? ⟨b,off+k*8+7,Z⟩=J (O U vs[k].h4):=by
 obtain⟨b,off,e,aa,hc⟩:=h (by omega);exact⟨b,off,e,aa,hc k hk 0 _ rfl,hc k hk 1 _ rfl,hc k hk 2 _ rfl,hc k hk 3 _ rfl,hc k hk 4 _ rfl,hc k hk 5 _ rfl,hc k hk 6 _ rfl,hc k hk 7 _ rfl⟩
def yI(v:Vw)(k:Nat):List (Int×Int):=if 0<v.r then (List.range k).filterMap fun q=>if 0<=v.h q then J ((q:Int),v.h q) else Z else []
def uQ(v:Vw):List (Int×Int):=yI v 5
theorem heardTo_yes{v:Vw}{k:Nat}(hr:0<v.r)(hq:0<=v.h k):yI v (k+1)=yI v k++[((k:Int),v.h k)]:=by
 simp[yI,hr,List.range_succ,List.filterMap_append,hq]
theorem Y7{v:Vw}{k:Nat}(hq:¬(0<v.r/\0<=v.h k)):yI v (k+1)=yI v k:=by
 unfold yI
 by_cases hr:0<v.r
 . have:¬0<=v.h k:=fun h=>hq ⟨hr,h⟩
   simp[hr,List.range_succ,List.filterMap_append,this]
 simp[hr]
theorem uO{v:Vw}{x:Int×Int}:x∈uQ v↔0<v.r/\∃q:Nat,q<5/\x=((q:Int),v.h q)/\0<=v.h q:=by
 unfold uQ yI
 split
 . rename_i hr
   simp only[List.mem_filterMap,List.mem_range,hr,true_and];constructor
   . rintro⟨q,hq,h⟩
     split at h
     . rename_i h0
       cases h
       exact⟨q,hq,rfl,h0⟩
     cases h
   rintro⟨q,hq,rfl,h0⟩;exact⟨q,hq,by rw[Li h0]⟩
 rename_i hr;simp[hr]
def IAt(w:Ba)(B:Nat)(A:Bb)(xs:List Int):Prop:=
 0<xs.length->∃b off,A=J ⟨b,off,Z⟩/\b<B/\∀(i:Nat) (hi:i<xs.length),w.cell? ⟨b,off+i,Z⟩=J (O U xs[i])
theorem IAt.keep{w w':Ba}{B:Nat}{A:Bb}{xs:List Int}(h:IAt w B A xs)(hb:Ar B w w'):IAt w' B A xs:=fun h0=>by
 obtain⟨b,off,e,aa,hc⟩:=h h0;exact⟨b,off,e,aa,fun i hi=>(hb.cell (p:=⟨b,_,Z⟩) aa).trans (hc i hi)⟩
theorem IAt.more{w:Ba}{B B':Nat}{A:Bb}{xs:List Int}(h:IAt w B A xs)(hB:B<=B'):IAt w B' A xs:=fun h0=>by
 obtain⟨b,off,e,aa,hc⟩:=h h0;exact⟨b,off,e,by omega,hc⟩
theorem IAt.at_{w:Ba}{B:Nat}{A:Bb}{xs:List Int}(h:IAt w B A xs)(k:Nat)(hk:k<xs.length):∃b off,A=J ⟨b,off,Z⟩/\b<B/\w.cell? ⟨b,off+k,Z⟩=J (O U xs[k]):=by
 obtain⟨b,off,e,aa,hc⟩:=h (by omega);exact⟨b,off,e,aa,hc k hk⟩
theorem IAt.nil(w:Ba)(B:Nat)(A:Bb):IAt w B A []:=fun h=>absurd h (by simp)
theorem IAt.of_own{w:Ba}{base:Nat}{e:TypeId}{A:Bb}{n c:Nat}{xs:List Int}(h:w.ownsRow base e 1 (I A n c) n (xs.map (O U))):IAt w w.heap.size A xs:=fun h0=>by
 have hn:xs.length=n:=by simpa using h.1
 obtain⟨g,cap,hv,_,aa⟩:=h.form (by omega);have hA:A=J ⟨g,0,Z⟩:=by injection hv
 subst hA;refine⟨g,0,rfl,aa,fun i hi=>?_⟩;have:=h.cells (g:=g) rfl i (O U xs[i]) (by simp[hi]);rw[show(⟨g,0,Z⟩:Addr).add i=⟨g,0+i,Z⟩ from by unfold Addr.add;split<;>simp_all] at this;exact this
theorem zh{w:Ba}{g:Nat}{t:TypeId}{cs:Array Ax}(h:w.heap[g]?=J (Ai cs t (0,0)))(i:Nat){u:Ax}(hu:cs[i]?=J u):w.cell? ⟨g,i,Z⟩=J u:=by
 rw[cell_of_row w g i cs t (0,0) h];exact hu
theorem Ka{w:Ba}{b:Nat}{v0 v1:Ax}{l:List Ax}{t:TypeId}(h:w.heap[b]?=J (Ai ⟨v0::v1::l⟩ t (0,0))):w.cell? ⟨b,0,Z⟩=J v0/\w.cell? ⟨b,1,Z⟩=J v1/\True:=⟨zh h 0 rfl,zh h 1 rfl,trivial⟩
theorem Kb{w:Ba}{b:Nat}{v0 v1 v2 v3:Ax}{l:List Ax}{t:TypeId}(h:w.heap[b]?=J (Ai ⟨v0::v1::v2::v3::l⟩ t (0,0))):w.cell? ⟨b,0,Z⟩=J v0/\w.cell? ⟨b,1,Z⟩=J v1/\w.cell? ⟨b,2,Z⟩=J v2/\w.cell? ⟨b,3,Z⟩=J v3/\True:=⟨zh h 0 rfl,zh h 1 rfl,zh h 2 rfl,zh h 3 rfl,trivial⟩
theorem Kc{w:Ba}{b:Nat}{v0 v1 v2:Ax}{l:List Ax}{t:TypeId}(h:w.heap[b]?=J (Ai ⟨v0::v1::v2::l⟩ t (0,0))):w.cell? ⟨b,0,Z⟩=J v0/\w.cell? ⟨b,1,Z⟩=J v1/\w.cell? ⟨b,2,Z⟩=J v2/\True:=⟨zh h 0 rfl,zh h 1 rfl,zh h 2 rfl,trivial⟩
theorem Ke{w:Ba}{b:Nat}{v0 v1 v2 v3 v4 v5 v6 v7:Ax}{l:List Ax}{t:TypeId}(h:w.heap[b]?=J (Ai ⟨v0::v1::v2::v3::v4::v5::v6::v7::l⟩ t (0,0))):w.cell? ⟨b,0,Z⟩=J v0/\w.cell? ⟨b,1,Z⟩=J v1/\w.cell? ⟨b,2,Z⟩=J v2/\w.cell? ⟨b,3,Z⟩=J v3/\w.cell? ⟨b,4,Z⟩=J v4/\w.cell? ⟨b,5,Z⟩=J v5/\w.cell? ⟨b,6,Z⟩=J v6/\w.cell? ⟨b,7,Z⟩=J v7/\True:=⟨zh h 0 rfl,zh h 1 rfl,zh h 2 rfl,zh h 3 rfl,zh h 4 rfl,zh h 5 rfl,zh h 6 rfl,zh h 7 rfl,trivial⟩
theorem Kf{w:Ba}{b:Nat}{v0 v1 v2 v3 v4 v5 v6:Ax}{l:List Ax}{t:TypeId}(h:w.heap[b]?=J (Ai ⟨v0::v1::v2::v3::v4::v5::v6::l⟩ t (0,0))):w.cell? ⟨b,0,Z⟩=J v0/\w.cell? ⟨b,1,Z⟩=J v1/\w.cell? ⟨b,2,Z⟩=J v2/\w.cell? ⟨b,3,Z⟩=J v3/\w.cell? ⟨b,4,Z⟩=J v4/\w.cell? ⟨b,5,Z⟩=J v5/\w.cell? ⟨b,6,Z⟩=J v6/\True:=⟨zh h 0 rfl,zh h 1 rfl,zh h 2 rfl,zh h 3 rfl,zh h 4 rfl,zh h 5 rfl,zh h 6 rfl,trivial⟩
theorem Kg{w:Ba}{b:Nat}{v0 v1 v2 v3 v4 v5:Ax}{l:List Ax}{t:TypeId}(h:w.heap[b]?=J (Ai ⟨v0::v1::v2::v3::v4::v5::l⟩ t (0,0))):w.cell? ⟨b,0,Z⟩=J v0/\w.cell? ⟨b,1,Z⟩=J v1/\w.cell? ⟨b,2,Z⟩=J v2/\w.cell? ⟨b,3,Z⟩=J v3/\w.cell? ⟨b,4,Z⟩=J v4/\w.cell? ⟨b,5,Z⟩=J v5/\True:=⟨zh h 0 rfl,zh h 1 rfl,zh h 2 rfl,zh h 3 rfl,zh h 4 rfl,zh h 5 rfl,trivial⟩
theorem Kh{w:Ba}{b:Nat}{v0 v1 v2 v3 v4:Ax}{l:List Ax}{t:TypeId}(h:w.heap[b]?=J (Ai ⟨v0::v1::v2::v3::v4::l⟩ t (0,0))):w.cell? ⟨b,0,Z⟩=J v0/\w.cell? ⟨b,1,Z⟩=J v1/\w.cell? ⟨b,2,Z⟩=J v2/\w.cell? ⟨b,3,Z⟩=J v3/\w.cell? ⟨b,4,Z⟩=J v4/\True:=⟨zh h 0 rfl,zh h 1 rfl,zh h 2 rfl,zh h 3 rfl,zh h 4 rfl,trivial⟩
theorem Ki{α:Sort _}(a:α):∃u,a=u:=⟨_,rfl⟩
theorem zN{w:Ba}{b:Nat}{v0 v1 v2 v3 v4 v5 v6 v7 v8 v9:Ax}{l:List Ax}{t:TypeId}(h:w.heap[b]?=J (Ai ⟨v0::v1::v2::v3::v4::v5::v6::v7::v8::v9::l⟩ t (0,0))):w.cell? ⟨b,0,Z⟩=J v0/\w.cell? ⟨b,1,Z⟩=J v1/\w.cell? ⟨b,2,Z⟩=J v2/\w.cell? ⟨b,3,Z⟩=J v3/\w.cell? ⟨b,4,Z⟩=J v4/\w.cell? ⟨b,5,Z⟩=J v5/\w.cell? ⟨b,6,Z⟩=J v6/\w.cell? ⟨b,7,Z⟩=J v7/\w.cell? ⟨b,8,Z⟩=J v8/\w.cell? ⟨b,9,Z⟩=J v9:=
 ⟨zh h 0 rfl,zh h 1 rfl,zh h 2 rfl,zh h 3 rfl,zh h 4 rfl,zh h 5 rfl,zh h 6 rfl,zh h 7 rfl,zh h 8 rfl,zh h 9 rfl⟩
theorem zi{w:Ba}{g:Nat}{t:TypeId}{cs:Array Ax}(h:w.heap[g]?=J (Ai cs t (0,0)))(i:Nat):w.frozen? ⟨g,i,Z⟩=AC:=by
 simp[World.frozen?,h]
theorem zj{w:Ba}{g:Nat}{o:Obj}(h:w.heap[g]?=J o):g<w.heap.size:=(Lu.1 h).1
theorem La{w w':Ba}{k:Nat}{o:Obj}(h:Ar w.heap.size w w')(e:w.heap[k]?=J o):w'.heap[k]?=J o:=(h.block _ (zj e)).trans e
theorem Lb{n k:Nat}{w w':Ba}{x:Option Obj}(h:Ar n w w')(o:k<n)(e:w.heap[k]?=x):w'.heap[k]?=x:=(h.block _ o).trans e
theorem Lc{w w1 w2:Ba}(h:Ar w.heap.size w w1)(g:Ar w1.heap.size w1 w2):Ar w.heap.size w w2:=h.trans (g.mono h.size)
theorem zy(w:Ba)(o:Obj):(w.alloc o).heap[w.heap.size]?=J o:=heap_alloc_new w o
theorem yU{w:Ba}{g:Nat}{o:Obj}(h:w.heap[g]?=J o)(o':Obj):(w.alloc o').heap[g]?=J o:=(N9 w o' g (zj h)).trans h
theorem jN{w w':Ba}{g B:Nat}{o:Obj}(h:w.heap[g]?=J o)(hb:Ar B w w')(hg:g<B):w'.heap[g]?=J o:=(hb.block g hg).trans h
theorem ye(w:Ba)(a:Obj):Ar w.heap.size w (w.alloc a):=(Ll _ _).alloc (Le _) _
theorem kJ(w:Ba)(a b:Obj):Ar w.heap.size w ((w.alloc a).alloc b):=(ye w a).alloc (by simp) _
theorem bel3(w:Ba)(a b c:Obj):Ar w.heap.size w (((w.alloc a).alloc b).alloc c):=(kJ w a b).alloc (by simp;omega) _
theorem wp_one{P:Program}{c:Code}{Q:Exit->Act->Ba->Prop}{a:Act}{w:Ba}{c1:Array Ax}{t1:TypeId}
  (h:∀W0:Ba,W0.heap[w.heap.size]?=J (Ai c1 t1)->W0.heap.size=w.heap.size+1->Ar w.heap.size w W0->c.wp P Q a W0):c.wp P Q a (w.alloc (Ai c1 t1)):=
 h _ (zy _ _) (by simp) (ye w _)
theorem wp_two{P:Program}{c:Code}{Q:Exit->Act->Ba->Prop}{a:Act}{w:Ba}{c1 c2:Array Ax}{t1 t2:TypeId}
  (h:∀W0:Ba,W0.heap[w.heap.size]?=J (Ai c1 t1)->W0.heap[w.heap.size+1]?=J (Ai c2 t2)->W0.heap.size=w.heap.size+2->Ar w.heap.size w W0->c.wp P Q a W0) :
  c.wp P Q a ((w.alloc (Ai c1 t1)).alloc (Ai c2 t2)):=
 h _ (yU (zy _ _) _) (by have:=zy (w.alloc (Ai c1 t1)) (Ai c2 t2);rwa[Nk] at this) (by simp) (kJ w _ _)
theorem two_kept{w w1:Ba}{c1 c2:Array Ax}{t1 t2:TypeId}(hb:Ar ((w.alloc (Ai c1 t1)).alloc (Ai c2 t2)).heap.size ((w.alloc (Ai c1 t1)).alloc (Ai c2 t2)) w1) :
  w1.heap[w.heap.size]?=J (Ai c1 t1)/\w1.heap[w.heap.size+1]?=J (Ai c2 t2)/\w.heap.size+2<=w1.heap.size/\Ar w.heap.size w w1:=
 ⟨Lb hb (by simp;omega) (yU (zy _ _) _),Lb hb (by simp) (by have:=zy (w.alloc (Ai c1 t1)) (Ai c2 t2);rwa[Nk] at this),
  by have:=hb.size;simpa using this,(kJ w _ _).trans (hb.mono (by simp;omega))⟩
theorem kF{B:Nat}{w w':Ba}(h:Ar B w.drew w'):Ar B w w':=⟨h.os,h.tape,h.output,h.size,h.block⟩
theorem vP{B:Nat}{w w':Ba}{n:Nat}(h:Ar B (w.drewN n) w'):Ar B w w':=⟨h.os,h.tape,h.output,h.size,h.block⟩
theorem zP{B:Nat}{a w:Ba}(h:Ar B a w)(n:Nat):Ar B a (w.drewN n):=⟨h.os,h.tape,h.output,h.size,h.block⟩
end
section
open Go.ChangeShapes Go.WideShapes Go.ChangeAt Go.RowKit Go.Deep
section
variable {H:Type} {enc:TypeId×Ax->H} {P:Program}
theorem post_below{f:Func}{s:ChangeSpec}{apart fresh DS TK:Bool}{W W':Ba}{args:Array Ax}{v:Ax}{ds gs:List (DataW H)}{before pa pv:List MemPlace}
  (hW:DataW.Whole enc P f.params.toList s.vars apart W args.toList ds gs before)
  (bJ:∀(b:Nat) (sp:Nat->Bool) (hd:Bool),DataW.TrodAll enc P W' b sp hd f.resultTypes.toList (v.resultList f.resultTypes.size) (s.fn H (ds++gs)).results [])
  (rQ:∀sp:Nat->Bool,(∀p∈before,sp p.block=AA)->DataW.TrodAll enc P W' 0 sp AA f.params.toList args.toList (s.fn H (ds++gs)).args pa)
  (np:∀sp:Nat->Bool,(∀p∈before,sp p.block=AA)->DataW.TrodVars enc P W' sp s.vars (s.fn H (ds++gs)).vars pv)
  (i9:before=pa++pv) (hb:Ar W.heap.size W W')
  (fB:∀(j:Nat) (t:TypeId) (r:Ax),f.resultTypes[j]?=J t->(v.resultList f.resultTypes.size)[j]?=J r->Value.okWide P W' .any 0 t r) :
  s.post enc P f apart fresh DS TK W args v W':=by
 have aa:∀p∈before,p.block<W.heap.size:=fun p hp=>hW.lt p hp
 have hold:∀p∈before,(fun b=>decide (b<W.heap.size)) p.block=AA:=fun p hp=>by simpa using aa p hp
 refine⟨ds,gs,before,[],pa,pv,hW,bJ _ _ _,rQ _ hold,np _ hold,World.keptBut_mono (fun p hp=>⟨hp,?_⟩) (hb.frame (·∈before)),fun _=>?_⟩
 . rw[i9,Nh] at hp
   exact Or.inr hp
 obtain⟨_,_,_,_,_,hz,hn⟩:=hW;refine⟨fB,_,_,([]++pa)++pv,⟨[]++pa,pv,trodAll_append (rQ _ (fun _ _=>rfl)) (bJ _ _ _),np _ (fun _ _=>rfl),rfl,?_,?_⟩,?_⟩
 . intro b off hp
   have dm:MemPlace.cell b off∈before:=by rw[i9];simpa using hp
   rw[hb.frozen (aa _ dm)];exact hz b off dm
 . intro ha
   have:=hn ha;rw[i9] at this;simpa using this
 intro p hp _;rw[i9];simpa using hp
theorem ur(hl:laidOutB P=AA){W W':Ba}{sp:Nat->Bool}(hb:Ar W.heap.size W W') :
  ∀ {ts:List TypeId} {vs:List Ax} {ds:List (DataW H)} {ps:List MemPlace},(∀t∈ts,P.readableRec t=AA/\t<P.types.size)->DataW.TrodAll enc P W 0 (fun _=>AA) AA ts vs ds ps ->
   (∀x∈ps,x.block<W.heap.size)->(∀x∈ps,sp x.block=AA)->DataW.TrodAll enc P W' 0 sp AA ts vs ds ps
 | [],[],[],_,_,h,_,_=>h
 | _::_,_::_,_::_,_,hT,⟨p,q,h1,h2,e⟩,aa,hs=>by
  subst e;refine⟨p,q,?_,ur hl hb (fun t ht=>hT t (RZ _ ht)) h2 (fun x hx=>aa x (List.mem_append_right _ hx)) (fun x hx=>hs x (List.mem_append_right _ hx)),rfl⟩;have hh:=hT _ (Sb ..);exact WideElems.Trod_stays hl hh.1 hh.2 h1 (fun x hx=>hb.same (aa x (Rf _ hx))) (fun x hx=>hs x (Rf _ hx))
theorem law_lifted{C:Checked}{os:Os}{f:FuncId}{fn:Func}{s:ChangeSpec}{X:Ba->Array Ax->Prop}{tb:TypeId}(iw:os.Started)
  (hX:∀(w w':Ba) (args:Array Ax),w.heap=w'.heap->X w args->X w' args) (own:ownKnob C.prog.godebug=Z) (Hr:C.prog.inits.idxOf? f=Z) (nR:C.prog.funcs[f]?=J fn)
  (Dk:∃(w:Ba) (tape:Tape) (i:Input),w.os=os/\(w.forCall tape i).Shaped C.prog/\i.vars=[]/\Input.okWide C.prog (w.forCall tape i) .any w.heap.size f i /\
   ((s.pre enc C.prog fn [] AC (w.forCall tape i).memory i.args/\X (w.forCall tape i).memory i.args)/\sizedMet enc C.prog fn (OpenSpec.ofChange s) AC (w.forCall tape i).memory i.args)/\({}:Assume).holds C.prog (lone (Frame.enter C.prog f i.args .normal) [] (w.forCall tape i)))
  (bJ:fn.resultTypes=#[tb]) (EQ:C.prog.underlying tb=J .bool) (hl:laidOutB C.prog=AA) (OT:∀t∈fn.params.toList,C.prog.readableRec t=AA/\t<C.prog.types.size) (np:s.vars=[])
  (hs:∀ds:List (DataW H),ds.length=fn.params.size->s.fn H ds={ results:=[.lit (.bool AA)],args:=ds })
  (walk:∀(W:Ba) (base:Nat) (args:Array Ax) (ds:List (DataW H)) (ps:List MemPlace),(∀(j:Nat) t v,fn.params[j]?=J t->args[j]?=J v->Value.okWide C.prog W .any base t v) ->
   DataW.TrodAll enc C.prog W 0 (fun _=>AA) AA fn.params.toList args.toList ds ps->(DataW.weightsEach C.prog fn.params.toList ds).all (·<=reachBytes)=AA->(∀x∈ps,x.block<W.heap.size)->X W args ->
   As C.prog f args W fun e W'=>e=Am (Aj AA)/\Ar W.heap.size W W') :
  ReturnsInHanded {} C os f .any (fun w args=>(s.pre enc C.prog fn [] AC w args/\X w args)/\sizedMet enc C.prog fn (OpenSpec.ofChange s) AC w args) (s.post enc C.prog fn AC AA AC AC):=by
 refine returnsInHanded_of_change_and (C:=C) (X:=X) hX own iw Hr nR Dk ?_;intro W base args ds gs before OG hW _ aX hL _;have tt:=hW;obtain⟨p,q,Km,hV,VT,hfz,hnd⟩:=hW;have hA:DataW.TrodAll enc C.prog W 0 (fun _=>AA) AA fn.params.toList args.toList ds p:=Km
 have MQ:gs=[]/\q=[]:=by
  rw[np] at hV;exact trodVars_none hV
 obtain⟨rfl,rfl⟩:=MQ
 have aS:∀ {ts:List TypeId} {vs:List Ax} {ds:List (DataW H)} {ps:List MemPlace},DataW.TrodAll enc C.prog W 0 (fun _=>AA) AA ts vs ds ps->ds.length=ts.length:=by
  intro ts
  induction ts with
  | nil=>intro vs ds ps h;obtain⟨_,rfl,_⟩:=trodAll_nil h;rfl
  | cons t ts ih=>intro vs ds ps h;obtain⟨_,_,_,_,_,_,_,rfl,_,_,h2⟩:=trodAll_cons h;simp[ih h2]
 have hdl:ds.length=fn.params.size:=by rw[aS hA];simp
 have mX:before=p:=by rw[VT,Nr]
 subst mX;have aa:∀x∈before,x.block<W.heap.size:=fun x hx=>tt.lt x hx
 have sq:(DataW.weightsEach C.prog fn.params.toList ds).all (·<=reachBytes)=AA:=by
  have e:s.plain.varTypes C.prog=[]:=by simp[ChangeSpec.plain,DataSpec.varTypes,np]
  rw[e,Nr,Nr] at aX;exact aX
 refine(walk W base args ds before OG hA sq aa hL).mono fun e W' ⟨he,hb⟩=>?_
 subst he;refine⟨_,rfl,post_below (pa:=before) (pv:=[]) tt ?_ ?_ ?_ (by rw[Nr]) hb ?_⟩
 . intro b sp hd
   rw[Nr,hs ds hdl,bJ];exact trodAll_mk1 (shut_bool EQ _)
 . intro sp hsp
   rw[Nr,hs ds hdl];exact ur hl hb OT hA aa hsp
 . intro sp hsp
   rw[Nr,hs ds hdl,np]
   rfl
 exact ok_one bJ rfl (okWide_bool_mk EQ _)
end
theorem cellsT:Aq.cellsOf 32=2:=by kernel_rfl
theorem cellsV:Aq.cellsOf 111=8:=by kernel_rfl
theorem yG:Aq.cellsOf 3=1:=by kernel_rfl
theorem cells5:Aq.cellsOf 88=5:=by kernel_rfl
theorem bytesV:Aq.bytesOf 111=64:=by kernel_rfl
theorem lawLaidOut:laidOutB Aq=AA:=by kernel_rfl
theorem lawOwn:ownKnob Aq.godebug=Z:=by kernel_rfl
section
variable {H:Type} {enc:TypeId×Ax->H} {W:Ba} {base:Nat} {spare:Nat->Bool} {ap:Bool}
/-- Eight cells that read as a view are eight integers. -/
theorem open_view{fuel:Nat}{cs:List Ax}{x:DataW H×List MemPlace}(h:DataW.trod enc Aq W base spare ap fuel 111 cs=J x):∃v:Vw,cs=v.cells.toList:=by
 obtain⟨xs,n,rfl,_,hl,ed,hf⟩:=Ni underlying111 h;rw[cellsV] at hl;have hxl4:xs.length=4:=ed
 match cs,hl with
 | [c0,c1,c2,c3,c4,c5,c6,c7],_=>
  have f0:=hf 0 _ rfl;have f1:=hf 1 _ rfl;have f2:=hf 2 _ rfl;have f3:=hf 3 _ rfl
  match xs,hxl4 with
  | [x0,x1,x2,x3],_=>
   have g0:DataW.trod enc Aq W base spare ap n 3 [c0]=J x0:=by simpa[yG] using f0
   have g1:DataW.trod enc Aq W base spare ap n 3 [c1]=J x1:=by simpa[yG] using f1
   have g2:DataW.trod enc Aq W base spare ap n 3 [c2]=J x2:=by simpa[yG] using f2
   have g3:DataW.trod enc Aq W base spare ap n 88 [c3,c4,c5,c6,c7]=J x3:=by simpa[cells5] using f3
   obtain⟨i0,e0,_,_⟩:=LP Lx g0;obtain⟨i1,e1,_,_⟩:=LP Lx g1;obtain⟨i2,e2,_,_⟩:=LP Lx g2;obtain⟨ys,m,rfl,_,_,fY,hi⟩:=Sv Pt g3;have k0:=hi 0 (by decide);have k1:=hi 1 (by decide);have k2:=hi 2 (by decide);have k3:=hi 3 (by decide);have k4:=hi 4 (by decide)
   match ys,fY with
   | [y0,y1,y2,y3,y4],_=>
    have j0:DataW.trod enc Aq W base spare ap m 3 [c3]=J y0:=by simpa[yG] using k0
    have j1:DataW.trod enc Aq W base spare ap m 3 [c4]=J y1:=by simpa[yG] using k1
    have j2:DataW.trod enc Aq W base spare ap m 3 [c5]=J y2:=by simpa[yG] using k2
    have j3:DataW.trod enc Aq W base spare ap m 3 [c6]=J y3:=by simpa[yG] using k3
    have j4:DataW.trod enc Aq W base spare ap m 3 [c7]=J y4:=by simpa[yG] using k4
    obtain⟨a0,b0,_,_⟩:=LP Lx j0;obtain⟨a1,b1,_,_⟩:=LP Lx j1;obtain⟨a2,b2,_,_⟩:=LP Lx j2;obtain⟨a3,b3,_,_⟩:=LP Lx j3;obtain⟨a4,b4,_,_⟩:=LP Lx j4
    cases e0;cases e1;cases e2;cases b0;cases b1;cases b2;cases b3;cases b4
    exact⟨⟨i0,i1,i2,a0,a1,a2,a3,a4⟩,rfl⟩
end
end
section
open Go.RowKit
structure Rd where
 n:Int
 h0:Int
 h1:Int
 h2:Int
 h3:Int
 h4:Int
 f:Int
deriving DecidableEq,Inhabited
def Rd.h(r:Rd):Nat->Int
 | 0=>r.h0
 | 1=>r.h1
 | 2=>r.h2
 | 3=>r.h3
 | _=>r.h4
def Rd.cells(r:Rd):Array Ax:=#[O U r.n,O U r.h0,O U r.h1,O U r.h2,O U r.h3,O U r.h4,O U r.f]
structure Mv where
 r:Rd
 to:Int
deriving DecidableEq,Inhabited
def Mv.cells(m:Mv):Array Ax:=#[O U m.r.n,O U m.r.h0,O U m.r.h1,O U m.r.h2,O U m.r.h3,O U m.r.h4,O U m.r.f,O U m.to]
structure Cs where
 inp:List Int
 out:List (List Int)
 calm:List (List Int)
deriving DecidableEq,Inhabited
structure Tk where
 n:Int
 ins:Int
 outs:Int
 cases:List Cs
deriving DecidableEq,Inhabited
structure Ad where
 n:Int
 sts:List (List Mv)
deriving DecidableEq,Inhabited
structure Pb where
 t:Tk
 a:Ad
 k:Int
deriving DecidableEq,Inhabited
structure Exn where
 c:Int
 word:List Rd
 views:List (List Int)
deriving DecidableEq,Inhabited
structure Sy where
 p:Pb
 n:Int
 vs:List Vw
 xs:List Exn
deriving DecidableEq,Inhabited
section
variable {w w':Ba} {B B':Nat} {A:Bb}
def LAt(w:Ba)(B:Nat)(A:Bb)(xss:List (List Int)):Prop:=
 0<xss.length->∃b off,A=J ⟨b,off,Z⟩/\b<B/\∀(i:Nat) (hi:i<xss.length),∃A' c,w.cell? ⟨b,off+i,Z⟩=J (I A' xss[i].length c)/\IAt w B A' xss[i]
theorem LAt.keep{xss:List (List Int)}(h:LAt w B A xss)(hb:Ar B w w'):LAt w' B A xss:=fun h0=>by
 obtain⟨b,off,e,aa,hc⟩:=h h0;refine⟨b,off,e,aa,fun i hi=>?_⟩;obtain⟨A',c,h1,h2⟩:=hc i hi;exact⟨A',c,(hb.cell (p:=⟨b,_,Z⟩) aa).trans h1,h2.keep hb⟩
theorem LAt.more{xss:List (List Int)}(h:LAt w B A xss)(hB:B<=B'):LAt w B' A xss:=fun h0=>by
 obtain⟨b,off,e,aa,hc⟩:=h h0;refine⟨b,off,e,by omega,fun i hi=>?_⟩;obtain⟨A',c,h1,h2⟩:=hc i hi;exact⟨A',c,h1,h2.more hB⟩
theorem LAt.at_{xss:List (List Int)}(h:LAt w B A xss)(i:Nat)(hi:i<xss.length):∃b off A' c,A=J ⟨b,off,Z⟩/\b<B/\w.cell? ⟨b,off+i,Z⟩=J (I A' xss[i].length c)/\IAt w B A' xss[i]:=by
 obtain⟨b,off,e,aa,hc⟩:=h (by omega);obtain⟨A',c,h1,h2⟩:=hc i hi;exact⟨b,off,A',c,e,aa,h1,h2⟩
theorem LAt.nil(w:Ba)(B:Nat)(A:Bb):LAt w B A []:=fun h=>absurd h (by simp)
def RAt(w:Ba)(B:Nat)(A:Bb)(rs:List Rd):Prop:=
 0<rs.length->∃b off,A=J ⟨b,off,Z⟩/\b<B/\∀(i:Nat) (hi:i<rs.length) (k:Nat) (u:Ax),rs[i].cells[k]?=J u->w.cell? ⟨b,off+i*7+k,Z⟩=J u
theorem RAt.keep{rs:List Rd}(h:RAt w B A rs)(hb:Ar B w w'):RAt w' B A rs:=fun h0=>by
 obtain⟨b,off,e,aa,hc⟩:=h h0;exact⟨b,off,e,aa,fun i hi k u hk=>(hb.cell (p:=⟨b,_,Z⟩) aa).trans (hc i hi k u hk)⟩
theorem RAt.more{rs:List Rd}(h:RAt w B A rs)(hB:B<=B'):RAt w B' A rs:=fun h0=>by
 obtain⟨b,off,e,aa,hc⟩:=h h0;exact⟨b,off,e,by omega,hc⟩
theorem RAt.row{rs:List Rd}(h:RAt w B A rs)(k:Nat)(hk:k<rs.length) :
  ∃b off,A=J ⟨b,off,Z⟩/\b<B/\w.cell? ⟨b,off+k*7,Z⟩=J (O U rs[k].n)/\w.cell? ⟨b,off+k*7+1,Z⟩=J (O U rs[k].h0) /\
   w.cell? ⟨b,off+k*7+2,Z⟩=J (O U rs[k].h1)/\w.cell? ⟨b,off+k*7+3,Z⟩=J (O U rs[k].h2)/\w.cell? ⟨b,off+k*7+4,Z⟩=J (O U rs[k].h3) /\
   w.cell? ⟨b,off+k*7+5,Z⟩=J (O U rs[k].h4)/\w.cell? ⟨b,off+k*7+6,Z⟩=J (O U rs[k].f):=by
 obtain⟨b,off,e,aa,hc⟩:=h (by omega);exact⟨b,off,e,aa,hc k hk 0 _ rfl,hc k hk 1 _ rfl,hc k hk 2 _ rfl,hc k hk 3 _ rfl,hc k hk 4 _ rfl,hc k hk 5 _ rfl,hc k hk 6 _ rfl⟩
def MAt(w:Ba)(B:Nat)(A:Bb)(ms:List Mv):Prop:=
 0<ms.length->∃b off,A=J ⟨b,off,Z⟩/\b<B/\∀(i:Nat) (hi:i<ms.length) (k:Nat) (u:Ax),ms[i].cells[k]?=J u->w.cell? ⟨b,off+i*8+k,Z⟩=J u
theorem MAt.keep{ms:List Mv}(h:MAt w B A ms)(hb:Ar B w w'):MAt w' B A ms:=fun h0=>by
 obtain⟨b,off,e,aa,hc⟩:=h h0;exact⟨b,off,e,aa,fun i hi k u hk=>(hb.cell (p:=⟨b,_,Z⟩) aa).trans (hc i hi k u hk)⟩
theorem MAt.more{ms:List Mv}(h:MAt w B A ms)(hB:B<=B'):MAt w B' A ms:=fun h0=>by
 obtain⟨b,off,e,aa,hc⟩:=h h0;exact⟨b,off,e,by omega,hc⟩
theorem MAt.row{ms:List Mv}(h:MAt w B A ms)(k:Nat)(hk:k<ms.length) :
  ∃b off,A=J ⟨b,off,Z⟩/\b<B/\w.cell? ⟨b,off+k*8,Z⟩=J (O U ms[k].r.n)/\w.cell? ⟨b,off+k*8+1,Z⟩=J (O U ms[k].r.h0) /\
   w.cell? ⟨b,off+k*8+2,Z⟩=J (O U ms[k].r.h1)/\w.cell? ⟨b,off+k*8+3,Z⟩=J (O U ms[k].r.h2)/\w.cell? ⟨b,off+k*8+4,Z⟩=J (O U ms[k].r.h3) /\
   w.cell? ⟨b,off+k*8+5,Z⟩=J (O U ms[k].r.h4)/\w.cell? ⟨b,off+k*8+6,Z⟩=J (O U ms[k].r.f)/\w.cell? ⟨b,off+k*8+7,Z⟩=J (O U ms[k].to):=by
 obtain⟨b,off,e,aa,hc⟩:=h (by omega);exact⟨b,off,e,aa,hc k hk 0 _ rfl,hc k hk 1 _ rfl,hc k hk 2 _ rfl,hc k hk 3 _ rfl,hc k hk 4 _ rfl,hc k hk 5 _ rfl,hc k hk 6 _ rfl,hc k hk 7 _ rfl⟩
def SAt(w:Ba)(B:Nat)(A:Bb)(xss:List (List Mv)):Prop:=
 0<xss.length->∃b off,A=J ⟨b,off,Z⟩/\b<B/\∀(i:Nat) (hi:i<xss.length),∃A' c,w.cell? ⟨b,off+i,Z⟩=J (I A' xss[i].length c)/\MAt w B A' xss[i]
theorem SAt.keep{xss:List (List Mv)}(h:SAt w B A xss)(hb:Ar B w w'):SAt w' B A xss:=fun h0=>by
 obtain⟨b,off,e,aa,hc⟩:=h h0;refine⟨b,off,e,aa,fun i hi=>?_⟩;obtain⟨A',c,h1,h2⟩:=hc i hi;exact⟨A',c,(hb.cell (p:=⟨b,_,Z⟩) aa).trans h1,h2.keep hb⟩
theorem SAt.more{xss:List (List Mv)}(h:SAt w B A xss)(hB:B<=B'):SAt w B' A xss:=fun h0=>by
 obtain⟨b,off,e,aa,hc⟩:=h h0;refine⟨b,off,e,by omega,fun i hi=>?_⟩;obtain⟨A',c,h1,h2⟩:=hc i hi;exact⟨A',c,h1,h2.more hB⟩
theorem SAt.at_{xss:List (List Mv)}(h:SAt w B A xss)(i:Nat)(hi:i<xss.length):∃b off A' c,A=J ⟨b,off,Z⟩/\b<B/\w.cell? ⟨b,off+i,Z⟩=J (I A' xss[i].length c)/\MAt w B A' xss[i]:=by
 obtain⟨b,off,e,aa,hc⟩:=h (by omega);obtain⟨A',c,h1,h2⟩:=hc i hi;exact⟨b,off,A',c,e,aa,h1,h2⟩
theorem SAt.nil(w:Ba)(B:Nat)(A:Bb):SAt w B A []:=fun h=>absurd h (by simp)
def WAt(w:Ba)(B:Nat)(A:Bb)(xss:List (List Rd)):Prop:=
 0<xss.length->∃b off,A=J ⟨b,off,Z⟩/\b<B/\∀(i:Nat) (hi:i<xss.length),∃A' c,w.cell? ⟨b,off+i,Z⟩=J (I A' xss[i].length c)/\RAt w B A' xss[i]
theorem WAt.keep{xss:List (List Rd)}(h:WAt w B A xss)(hb:Ar B w w'):WAt w' B A xss:=fun h0=>by
 obtain⟨b,off,e,aa,hc⟩:=h h0;refine⟨b,off,e,aa,fun i hi=>?_⟩;obtain⟨A',c,h1,h2⟩:=hc i hi;exact⟨A',c,(hb.cell (p:=⟨b,_,Z⟩) aa).trans h1,h2.keep hb⟩
theorem WAt.more{xss:List (List Rd)}(h:WAt w B A xss)(hB:B<=B'):WAt w B' A xss:=fun h0=>by
 obtain⟨b,off,e,aa,hc⟩:=h h0;refine⟨b,off,e,by omega,fun i hi=>?_⟩;obtain⟨A',c,h1,h2⟩:=hc i hi;exact⟨A',c,h1,h2.more hB⟩
theorem WAt.at_{xss:List (List Rd)}(h:WAt w B A xss)(i:Nat)(hi:i<xss.length):∃b off A' c,A=J ⟨b,off,Z⟩/\b<B/\w.cell? ⟨b,off+i,Z⟩=J (I A' xss[i].length c)/\RAt w B A' xss[i]:=by
 obtain⟨b,off,e,aa,hc⟩:=h (by omega);obtain⟨A',c,h1,h2⟩:=hc i hi;exact⟨b,off,A',c,e,aa,h1,h2⟩
def CsV(w:Ba)(B:Nat)(v0 v1 v2:Ax)(x:Cs):Prop:=
 (∃A c,v0=I A x.inp.length c/\IAt w B A x.inp)/\(∃A c,v1=I A x.out.length c/\LAt w B A x.out)/\(∃A c,v2=I A x.calm.length c/\LAt w B A x.calm)
theorem CsV.keep{v0 v1 v2:Ax}{x:Cs}(h:CsV w B v0 v1 v2 x)(hb:Ar B w w'):CsV w' B v0 v1 v2 x:=by
 obtain⟨⟨A,c,e,h1⟩,⟨A2,c2,e2,h2⟩,⟨A3,c3,e3,h3⟩⟩:=h;exact⟨⟨A,c,e,h1.keep hb⟩,⟨A2,c2,e2,h2.keep hb⟩,⟨A3,c3,e3,h3.keep hb⟩⟩
theorem CsV.more{v0 v1 v2:Ax}{x:Cs}(h:CsV w B v0 v1 v2 x)(hB:B<=B'):CsV w B' v0 v1 v2 x:=by
 obtain⟨⟨A,c,e,h1⟩,⟨A2,c2,e2,h2⟩,⟨A3,c3,e3,h3⟩⟩:=h;exact⟨⟨A,c,e,h1.more hB⟩,⟨A2,c2,e2,h2.more hB⟩,⟨A3,c3,e3,h3.more hB⟩⟩
def CAt(w:Ba)(B:Nat)(A:Bb)(cs:List Cs):Prop:=
 0<cs.length->∃b off,A=J ⟨b,off,Z⟩/\b<B/\∀(i:Nat) (hi:i<cs.length),∃v0 v1 v2,w.cell? ⟨b,off+i*3,Z⟩=J v0/\w.cell? ⟨b,off+i*3+1,Z⟩=J v1/\w.cell? ⟨b,off+i*3+2,Z⟩=J v2/\CsV w B v0 v1 v2 cs[i]
theorem CAt.keep{cs:List Cs}(h:CAt w B A cs)(hb:Ar B w w'):CAt w' B A cs:=fun h0=>by
 obtain⟨b,off,e,aa,hc⟩:=h h0;refine⟨b,off,e,aa,fun i hi=>?_⟩;obtain⟨v0,v1,v2,c0,c1,c2,hv⟩:=hc i hi;exact⟨v0,v1,v2,(hb.cell (p:=⟨b,_,Z⟩) aa).trans c0,(hb.cell (p:=⟨b,_,Z⟩) aa).trans c1,(hb.cell (p:=⟨b,_,Z⟩) aa).trans c2,hv.keep hb⟩
theorem CAt.more{cs:List Cs}(h:CAt w B A cs)(hB:B<=B'):CAt w B' A cs:=fun h0=>by
 obtain⟨b,off,e,aa,hc⟩:=h h0;refine⟨b,off,e,by omega,fun i hi=>?_⟩;obtain⟨v0,v1,v2,c0,c1,c2,hv⟩:=hc i hi;exact⟨v0,v1,v2,c0,c1,c2,hv.more hB⟩
theorem CAt.nil(w:Ba)(B:Nat)(A:Bb):CAt w B A []:=fun h=>absurd h (by simp)
theorem CAt.row{cs:List Cs}(h:CAt w B A cs)(i:Nat)(hi:i<cs.length) :
  ∃b off A0 c0 A1 c1 A2 c2,A=J ⟨b,off,Z⟩/\b<B/\w.cell? ⟨b,off+i*3,Z⟩=J (I A0 cs[i].inp.length c0)/\w.cell? ⟨b,off+i*3+1,Z⟩=J (I A1 cs[i].out.length c1)/\w.cell? ⟨b,off+i*3+2,Z⟩=J (I A2 cs[i].calm.length c2) /\
   IAt w B A0 cs[i].inp/\LAt w B A1 cs[i].out/\LAt w B A2 cs[i].calm:=by
 obtain⟨b,off,e,aa,hc⟩:=h (by omega);obtain⟨v0,v1,v2,c0,c1,c2,⟨A0,k0,rfl,h0⟩,⟨A1,k1,rfl,h1⟩,⟨A2,k2,rfl,h2⟩⟩:=hc i hi;exact⟨b,off,A0,k0,A1,k1,A2,k2,e,aa,c0,c1,c2,h0,h1,h2⟩
def XsV(w:Ba)(B:Nat)(v0 v1 v2:Ax)(x:Exn):Prop:=
 v0=O U x.c/\(∃A c,v1=I A x.word.length c/\RAt w B A x.word)/\(∃A c,v2=I A x.views.length c/\LAt w B A x.views)
theorem XsV.keep{v0 v1 v2:Ax}{x:Exn}(h:XsV w B v0 v1 v2 x)(hb:Ar B w w'):XsV w' B v0 v1 v2 x:=by
 obtain⟨e,⟨A2,c2,e2,h2⟩,⟨A3,c3,e3,h3⟩⟩:=h;exact⟨e,⟨A2,c2,e2,h2.keep hb⟩,⟨A3,c3,e3,h3.keep hb⟩⟩
theorem XsV.more{v0 v1 v2:Ax}{x:Exn}(h:XsV w B v0 v1 v2 x)(hB:B<=B'):XsV w B' v0 v1 v2 x:=by
 obtain⟨e,⟨A2,c2,e2,h2⟩,⟨A3,c3,e3,h3⟩⟩:=h;exact⟨e,⟨A2,c2,e2,h2.more hB⟩,⟨A3,c3,e3,h3.more hB⟩⟩
def XAt(w:Ba)(B:Nat)(A:Bb)(xs:List Exn):Prop:=
 0<xs.length->∃b off,A=J ⟨b,off,Z⟩/\b<B/\∀(i:Nat) (hi:i<xs.length),∃v0 v1 v2,w.cell? ⟨b,off+i*3,Z⟩=J v0/\w.cell? ⟨b,off+i*3+1,Z⟩=J v1/\w.cell? ⟨b,off+i*3+2,Z⟩=J v2/\XsV w B v0 v1 v2 xs[i]
theorem XAt.keep{xs:List Exn}(h:XAt w B A xs)(hb:Ar B w w'):XAt w' B A xs:=fun h0=>by
 obtain⟨b,off,e,aa,hc⟩:=h h0;refine⟨b,off,e,aa,fun i hi=>?_⟩;obtain⟨v0,v1,v2,c0,c1,c2,hv⟩:=hc i hi;exact⟨v0,v1,v2,(hb.cell (p:=⟨b,_,Z⟩) aa).trans c0,(hb.cell (p:=⟨b,_,Z⟩) aa).trans c1,(hb.cell (p:=⟨b,_,Z⟩) aa).trans c2,hv.keep hb⟩
theorem XAt.more{xs:List Exn}(h:XAt w B A xs)(hB:B<=B'):XAt w B' A xs:=fun h0=>by
 obtain⟨b,off,e,aa,hc⟩:=h h0;refine⟨b,off,e,by omega,fun i hi=>?_⟩;obtain⟨v0,v1,v2,c0,c1,c2,hv⟩:=hc i hi;exact⟨v0,v1,v2,c0,c1,c2,hv.more hB⟩
theorem XAt.nil(w:Ba)(B:Nat)(A:Bb):XAt w B A []:=fun h=>absurd h (by simp)
theorem XAt.row{xs:List Exn}(h:XAt w B A xs)(i:Nat)(hi:i<xs.length) :
  ∃b off A1 c1 A2 c2,A=J ⟨b,off,Z⟩/\b<B/\w.cell? ⟨b,off+i*3,Z⟩=J (O U xs[i].c)/\w.cell? ⟨b,off+i*3+1,Z⟩=J (I A1 xs[i].word.length c1)/\w.cell? ⟨b,off+i*3+2,Z⟩=J (I A2 xs[i].views.length c2) /\
   RAt w B A1 xs[i].word/\LAt w B A2 xs[i].views:=by
 obtain⟨b,off,e,aa,hc⟩:=h (by omega);obtain⟨v0,v1,v2,c0,c1,c2,rfl,⟨A1,k1,rfl,h1⟩,⟨A2,k2,rfl,h2⟩⟩:=hc i hi;exact⟨b,off,A1,k1,A2,k2,e,aa,c0,c1,c2,h1,h2⟩
end
end
section
open Go.RowKit
attribute [local go_sem] Oper.semAt_some
theorem je(w:Ba)(n m:Nat):(w.drewN n).drewN m=w.drewN (n+m):=by unfold World.drewN;simp[Nat.add_assoc]
theorem xO{α:Type}{xs ys:List α}{k:Nat}(h:xs.take k=ys.take k)(h1:k<xs.length)(h2:k<ys.length)(he:xs[k]=ys[k]):xs.take (k+1)=ys.take (k+1):=by
 rw[Lr h1,Lr h2,h,he]
theorem ku{α:Type}{xs ys:List α}(hl:xs.length=ys.length)(h:xs.take xs.length=ys.take xs.length):xs=ys:=by
 rw[LC] at h
 conv at h=>rhs;rw[hl,LC]
 exact h
theorem XG(A B:Bb)(ca cb:Nat)(xs ys:List Int)(hx:xs.length<=17592186044416)(_TL:ys.length<=17592186044416)(w:Ba)(hA:IAt w w.heap.size A xs)(hB:IAt w w.heap.size B ys) :
  As Aq 173 #[I A xs.length ca,I B ys.length cb] w fun e w'=>e=Am (Aj (decide (xs=ys)))/\∃n,w'=w.drewN n:=by
 have HA:=zH hA;have HB:=zH hB;have HT:Aw (∀b,(xs=ys↔b=AA)->decide (xs=ys)=b):=fun b h=>by cases b<;>simp_all
 obtain⟨r,hr⟩:∃r,decide (xs=ys)=r:=⟨_,rfl⟩;rw[hr] at HT ⊢;go_enter func173,ntmps173
 by_cases hl:xs.length=ys.length
 case neg=>
  have hR:Aw (r=AC):=HT.out AC ⟨fun h=>absurd (congrArg List.length h) hl,fun h=>by cases h⟩;have e0:((xs.length:Int) != (ys.length:Int))=AA:=by simp;omega
  go_wp2_with fail;go_ret;exact⟨zn hR.out.symm,0,rfl⟩
 case pos=>
 have HL:=zH hl;rw[<-hl] at _TL ⊢;go_wp2_with fail
 go_loopw [5] (fun i wr=>∃k n:Nat,k<=xs.length/\i=O U (k:Int)/\Aw (xs.take k=ys.take k)/\Aw (wr=w.drewN n)) (fun i _=>xs.length-(Au i).toNat)
 case atStart=>exact⟨0,0,by omega,rfl,by rw[Aw,L1,L1],rfl⟩
 obtain⟨k,n,hk,rfl,hp,hw⟩:=hrel
 by_cases aa:k<xs.length
 case neg=>
  obtain rfl:k=xs.length:=by omega
  have hR:Aw (r=AA):=HT.out AA ⟨fun _=>rfl,fun _=>ku HL.out hp.out⟩;go_wp2_with fail;go_ret;exact⟨zn hR.out.symm,n,hw.out⟩
 case pos=>
 have lp:k<ys.length:=by have:=HL.out;omega
 obtain⟨ba,oa,ea,_,c1⟩:=HA.out.at_ k aa;obtain⟨bb,ob,eb,_,c2⟩:=HB.out.at_ k lp;subst ea;subst eb;have c1:wr.cell? ⟨ba,oa+k,Z⟩=J (O U xs[k]):=by rw[hw.out];exact c1
 have c2:wr.cell? ⟨bb,ob+k,Z⟩=J (O U ys[k]):=by rw[hw.out];exact c2
 by_cases he:xs[k]=ys[k]
 . have hR:=zH (xO hp.out aa lp he)
   rw[<-he] at c2;obtain⟨u,hu⟩:=Ki (xs[k]);rw[hu] at c1 c2;go_wp2_with fail;go_quiet (fail);go_wp2_with fail
   go_roundw
   case rel=>exact⟨k+1,n+nq,by omega,by go_num,hR,by rw[Aw,hw.out,je]⟩
   simp[Au];omega
 have hR:Aw (r=AC):=HT.out AC ⟨fun h=>absurd (by subst h;rfl) he,fun h=>by cases h⟩;obtain⟨u,hu⟩:=Ki (xs[k]);obtain⟨v,hv⟩:=Ki (ys[k]);rw[hu,hv] at he;rw[hu] at c1;rw[hv] at c2;have e0:(u != v)=AA:=by simpa using he
 go_wp2_with fail;go_quiet (fail);go_wp2_with fail;go_ret;exact⟨zn hR.out.symm,n+nq,by rw[hw.out,je]⟩
end
section
open Go.RowKit
theorem yK(xs:Array Ax)(i:Nat)(x:Ax)(h:xs[i]?=J x)(w:Ba):(part 3 xs i).run Aq w=.ok x w:=by
 have hi:Aq.underlying 3=J (.int U):=Lx;unfold part isAgg;simp[go_sem,run_underlying hi,h]
def hE(v u:Vw):Bool:=v.h0==u.h0&&(v.h1==u.h1&&(v.h2==u.h2&&(v.h3==u.h3&&v.h4==u.h4)))
theorem gT(d:Nat)(v u:Vw)(w:Ba):(Op.equalIn (d+2) 88 (Ak #[O U v.h0,O U v.h1,O U v.h2,O U v.h3,O U v.h4]) (Ak #[O U u.h0,O U u.h1,O U u.h2,O U u.h3,O U u.h4])).run Aq w =
  .ok (hE v u) w:=by
 have hu:Aq.underlying 88=J (.array 5 3):=Pt;have hi:Aq.underlying 3=J (.int U):=Lx;have hs:(sizeOf 3).run Aq w=.ok 1 w:=by kernel_rfl
 have p0:=fun x0 x1 x2 x3 x4=>yK #[x0,x1,x2,x3,x4] 0 x0 rfl w
 have p1:=fun x0 x1 x2 x3 x4=>yK #[x0,x1,x2,x3,x4] 1 x1 rfl w
 have p2:=fun x0 x1 x2 x3 x4=>yK #[x0,x1,x2,x3,x4] 2 x2 rfl w
 have p3:=fun x0 x1 x2 x3 x4=>yK #[x0,x1,x2,x3,x4] 3 x3 rfl w
 have p4:=fun x0 x1 x2 x3 x4=>yK #[x0,x1,x2,x3,x4] 4 x4 rfl w
 unfold Op.equalIn hE
 cases h0:(v.h0==u.h0)
 . simp only[Sem.run_bind,run_underlying hu,Result.andThen_ok,hs,Std.Legacy.Range.forIn_eq_forIn_range',Std.Legacy.Range.size,Nat.sub_zero,Nat.add_sub_cancel,Nat.div_one,show List.range' 0 5 1=[0,1,2,3,4] from rfl,List.forIn_cons,List.forIn_nil,p0,Nat.mul_one,run_equalIn_int w d 3 _ _ _ _ hi,h0,Bool.not_false,if_true,Sem.run_pure,Bool.false_and]
 cases h1:(v.h1==u.h1)
 . simp only[Sem.run_bind,run_underlying hu,Result.andThen_ok,hs,Std.Legacy.Range.forIn_eq_forIn_range',Std.Legacy.Range.size,Nat.sub_zero,Nat.add_sub_cancel,Nat.div_one,show List.range' 0 5 1=[0,1,2,3,4] from rfl,List.forIn_cons,List.forIn_nil,p0,p1,Nat.mul_one,run_equalIn_int w d 3 _ _ _ _ hi,h0,h1,Bool.not_false,Bool.not_true,if_true,Bool.false_eq_true,if_false,Sem.run_pure,Bool.true_and,Bool.false_and]
 cases h2:(v.h2==u.h2)
 . simp only[Sem.run_bind,run_underlying hu,Result.andThen_ok,hs,Std.Legacy.Range.forIn_eq_forIn_range',Std.Legacy.Range.size,Nat.sub_zero,Nat.add_sub_cancel,Nat.div_one,show List.range' 0 5 1=[0,1,2,3,4] from rfl,List.forIn_cons,List.forIn_nil,p0,p1,p2,Nat.mul_one,run_equalIn_int w d 3 _ _ _ _ hi,h0,h1,h2,Bool.not_false,Bool.not_true,if_true,Bool.false_eq_true,if_false,Sem.run_pure,Bool.true_and,Bool.false_and]
 cases h3:(v.h3==u.h3)
 . simp only[Sem.run_bind,run_underlying hu,Result.andThen_ok,hs,Std.Legacy.Range.forIn_eq_forIn_range',Std.Legacy.Range.size,Nat.sub_zero,Nat.add_sub_cancel,Nat.div_one,show List.range' 0 5 1=[0,1,2,3,4] from rfl,List.forIn_cons,List.forIn_nil,p0,p1,p2,p3,Nat.mul_one,run_equalIn_int w d 3 _ _ _ _ hi,h0,h1,h2,h3,Bool.not_false,Bool.not_true,if_true,Bool.false_eq_true,if_false,Sem.run_pure,Bool.true_and,Bool.false_and]
 cases h4:(v.h4==u.h4)
 . simp only[Sem.run_bind,run_underlying hu,Result.andThen_ok,hs,Std.Legacy.Range.forIn_eq_forIn_range',Std.Legacy.Range.size,Nat.sub_zero,Nat.add_sub_cancel,Nat.div_one,show List.range' 0 5 1=[0,1,2,3,4] from rfl,List.forIn_cons,List.forIn_nil,p0,p1,p2,p3,p4,Nat.mul_one,run_equalIn_int w d 3 _ _ _ _ hi,h0,h1,h2,h3,h4,Bool.not_false,Bool.not_true,if_true,Bool.false_eq_true,if_false,Sem.run_pure,Bool.true_and]
 simp only[Sem.run_bind,run_underlying hu,Result.andThen_ok,hs,Std.Legacy.Range.forIn_eq_forIn_range',Std.Legacy.Range.size,Nat.sub_zero,Nat.add_sub_cancel,Nat.div_one,show List.range' 0 5 1=[0,1,2,3,4] from rfl,List.forIn_cons,List.forIn_nil,p0,p1,p2,p3,p4,Nat.mul_one,run_equalIn_int w d 3 _ _ _ _ hi,h0,h1,h2,h3,h4,Bool.not_true,Bool.false_eq_true,if_false,Sem.run_pure,Bool.true_and]
theorem uU(d:Nat)(v u:Vw)(w:Ba):(Op.equalIn (d+3) 111 (.agg v.cells) (.agg u.cells)).run Aq w=.ok (decide (v=u)) w:=by
 have hu:Aq.underlying 111=J (.struct (Aq.fieldsOf 111)):=by kernel_rfl
 have hi:Aq.underlying 3=J (.int U):=Lx;have hf : (Aq.fieldsOf 111).toList.map (fun f => (f.name, f.type, f.offset)) = [("Proc", 3, 0), ("Round", 3, 1), ("Input", 3, 2), ("Heard", 88, 3)] := by kernel_rfl
 rw[Rm w (d+2) 111 _ _ hu (by kernel_rfl)];have p0:∀x:Vw,(part 3 x.cells 0).run Aq w=.ok (O U x.p) w:=fun x=>yK _ 0 _ rfl w
 have p1:∀x:Vw,(part 3 x.cells 1).run Aq w=.ok (O U x.r) w:=fun x=>yK _ 1 _ rfl w
 have p2:∀x:Vw,(part 3 x.cells 2).run Aq w=.ok (O U x.i) w:=fun x=>yK _ 2 _ rfl w
 have p3:∀x:Vw,(part 88 x.cells 3).run Aq w=.ok (Ak #[O U x.h0,O U x.h1,O U x.h2,O U x.h3,O U x.h4]) w:=fun x=>by unfold Vw.cells;kernel_rfl
 generalize (Aq.fieldsOf 111).toList=fs at hf
 obtain⟨f0,f1,f2,f3,rfl⟩:∃f0 f1 f2 f3,fs=[f0,f1,f2,f3]:=by
  have hl:fs.length=4:=by simpa using congrArg List.length hf
  rcases fs with _ | ⟨f0,_ | ⟨f1,_ | ⟨f2,_ | ⟨f3,_ | ⟨f4,r⟩⟩⟩⟩⟩<;>simp at hl
  exact⟨_,_,_,_,rfl⟩
 clear hu;simp only[List.map_cons,List.map_nil,List.cons.injEq,Prod.mk.injEq,and_true] at hf;obtain⟨⟨n0,t0,o0⟩,⟨n1,t1,o1⟩,⟨n2,t2,o2⟩,⟨n3,t3,o3⟩⟩:=hf
 have hd:decide (v=u)=(v.p==u.p&&(v.r==u.r&&(v.i==u.i&&hE v u))):=by
  unfold hE;obtain⟨a0,a1,a2,a3,a4,a5,a6,a7⟩:=v;obtain⟨b0,b1,b2,b3,b4,b5,b6,b7⟩:=u;rw[NG];simp
 rw[hd]
 cases h0:(v.p==u.p)<;>cases h1:(v.r==u.r)<;>cases h2:(v.i==u.i)<;>cases h3:hE v u <;>
  simp only[Op.eqFields,n0,n1,n2,n3,t0,t1,t2,t3,o0,o1,o2,o3,p0,p1,p2,p3,Sem.run_bind,Result.andThen_ok,run_equalIn_int w _ 3 _ _ _ _ hi,gT,h0,h1,h2,h3,ne_eq,not_false_eq_true,if_true,Bool.not_false,Bool.not_true,Bool.false_eq_true,if_false,Sem.run_pure,Bool.true_and,Bool.false_and,String.reduceEq]
theorem eql_view(v u:Vw)(w:Ba):(binOp .eql 111 (.agg v.cells) (.agg u.cells)).run Aq w=.ok (Aj (decide (v=u))) w:=by
 simp only[binOp];simp[Op.equal,Op.maxDepth,uU 9997 v u w]
theorem neq_view(v u:Vw)(w:Ba):(binOp .neq 111 (.agg v.cells) (.agg u.cells)).run Aq w=.ok (Aj (decide (v≠u))) w:=by
 simp only[binOp];simp[Op.equal,Op.maxDepth,uU 9997 v u w]
def wU(p:Nat->Bool):Bool:=(List.range 32).all p
theorem vf{p:Nat->Bool}(h:wU p=AA){s:Nat}(hs:s<32):p s=AA:=LT.1 h s (by simpa using hs)
def zS(s k:Nat):List Nat:=(List.range k).filter fun p=>s.testBit p
theorem jn{s k:Nat}:zS s (k+1)=if s.testBit k=AA then zS s k++[k] else zS s k:=by
 unfold zS;rw[Rh,List.filter_append]
 by_cases h:s.testBit k=AA<;>simp[h]
def gu(n:Int):Int:=if n<1\/5<n then 1 else 0
def xC(n s:Int):Int:=if n<1\/5<n then 1 else if s<0\/(2^n.toNat:Nat)<=s then 2 else 0
theorem procs_any(n:Int)(w:Ba):As Aq 181 #[O U n] w fun e w'=>e=Am (O U (gu n))/\w=w':=by
 have H:Aw (gu n=if n<1\/5<n then 1 else 0):=rfl;go_enter func181,ntmps181;go_wp2
 all_goals
  go_ret;refine⟨zm ?_,rfl⟩;rw[H.out]
  first | (rw[Li (by omega)]) | (rw[Lg (by omega)])
theorem rprocs_any(n:Int)(w:Ba):As Aq 192 #[O U n] w fun e w'=>e=Am (O U (gu n))/\w=w':=by
 have H:Aw (gu n=if n<1\/5<n then 1 else 0):=rfl;go_enter func192,ntmps192;go_wp2
 all_goals
  go_ret;refine⟨zm ?_,rfl⟩;rw[H.out]
  first | (rw[Li (by omega)]) | (rw[Lg (by omega)])
theorem procs_ok{n:Int}(h:¬(n<1\/5<n)):n=1\/n=2\/n=3\/n=4\/n=5:=by omega
theorem YI{n:Int}(h:n<1\/5<n):gu n=1:=Li h
theorem Qj{n:Int}(h:¬(n<1\/5<n)):gu n=0:=Lg h
theorem QS(n s:Int)(w:Ba):As Aq 165 #[O U n,O U s] w fun e w'=>e=Am (O U (xC n s))/\w=w':=by
 have H:Aw (xC n s=if n<1\/5<n then 1 else if s<0\/(2^n.toNat:Nat)<=s then 2 else 0):=rfl;go_enter func165,ntmps165;go_wp2_with fail;refine(procs_any n w).mono ?_;rintro e w' ⟨rfl,rfl⟩
 by_cases hn:n<1\/5<n
 . rw[YI hn]
   rw[Li hn] at H;go_wp2;go_ret;exact⟨zm H.out.symm,rfl⟩
 rw[Qj hn];rw[Lg hn] at H;rcases procs_ok hn with rfl | rfl | rfl | rfl | rfl
 all_goals
  go_wp2
 all_goals
  try simp only[bne_iff_ne,ne_eq,bne_eq_false_iff_eq] at *
  go_ret;refine⟨zm ?_,rfl⟩;rw[H.out]
  first | (rw[Li (by simp;omega)]) | (rw[Lg (by simp;omega)])
theorem check_ok{n s:Int}(h:xC n s=0):∃m k:Nat,n=(m:Int)/\s=(k:Int)/\1<=m/\m<=5/\k<2^m/\k<32:=by
 unfold xC at h
 split at h
 . cases h
 split at h
 . cases h
 rename_i h1 h2;refine⟨n.toNat,s.toNat,by omega,by omega,by omega,by omega,?_,?_⟩
 . omega
 have:2^n.toNat<=2^5:=L6 (by omega) (by omega);omega
theorem gB(k:Nat)(hk:k<=5)(w:Ba):As Aq 156 #[O U k] w fun e w'=>e=Am (O U ((2^k:Nat):Int))/\w=w':=by
 go_enter func156,ntmps156;go_wp2
 go_loop [3,4] (fun v i=>∃j q:Nat,j<=k/\q=2^j/\q<=32/\v=O U (q:Int)/\i=O U (j:Int)) (fun _ i=>5-(Au i).toNat)
 case atStart=>exact⟨0,1,by omega,rfl,by omega,rfl,rfl⟩
 obtain⟨j,q,hj,hq,hq2,rfl,rfl⟩:=hrel;have H:Aw (q=2^j):=hq;clear hq
 by_cases aa:j<k
 . go_wp2
   go_round
   case rel=>
    have h1:q*2=2^(j+1):=by rw[H.out,Nat.pow_succ]
    have h2:(2^(j+1):Nat)<=2^5:=L6 (by omega) (by omega);exact⟨j+1,q*2,by omega,h1,by omega,by go_num,by go_num⟩
   simp[Au];omega
 obtain rfl:j=k:=by omega
 go_wp2;go_ret;exact⟨by have:=H.out;subst this;simp,rfl⟩
theorem rcheck_any(n s:Int)(w:Ba):As Aq 179 #[O U n,O U s] w fun e w'=>e=Am (O U (xC n s))/\w=w':=by
 have H:Aw (xC n s=if n<1\/5<n then 1 else if s<0\/(2^n.toNat:Nat)<=s then 2 else 0):=rfl;go_enter func179,ntmps179;go_wp2_with fail;refine(rprocs_any n w).mono ?_;rintro e w' ⟨rfl,rfl⟩
 by_cases hn:n<1\/5<n
 . rw[YI hn]
   rw[Li hn] at H;go_wp2;go_ret;exact⟨zm H.out.symm,rfl⟩
 rw[Qj hn];rw[Lg hn] at H;obtain⟨m,rfl⟩:=Lp (show 0<=n by omega);have hp:=gB m (by omega) w;go_wp2_with fail
 . refine hp.mono ?_
   rintro e w' ⟨rfl,rfl⟩;go_wp2_with fail
   all_goals
    go_ret;refine⟨zm ?_,rfl⟩;rw[H.out]
    first | (rw[Li (by simp;omega)]) | (rw[Lg (by simp;omega)])
 go_ret;refine⟨zm ?_,rfl⟩;rw[H.out,Li (by omega)]
def zJ:List Int->List Int->Int
 | [],[]=>0
 | [],_::_=>-1
 | _::_,[]=>1
 | a::l,b::m=>if a<b then -1 else if b<a then 1 else zJ l m
theorem xZ:∀l:List Int,zJ l l=0
 | []=>rfl
 | a::l=>by rw[zJ,Lg (Int.lt_irrefl a),Lg (Int.lt_irrefl a),xZ l]
theorem kB:∀ {l m:List Int},zJ l m=0->l=m
 | [],[],_=>rfl
 | [],_::_,h=>by cases h
 | _::_,[],h=>by cases h
 | a::l,b::m,h=>by
  rw[zJ] at h
  split at h
  . cases h
  . split at h
    . cases h
    . rw[kB h,show a=b by omega]
theorem YN{l m:List Int}{k:Nat}(h1:k<l.length)(h2:k<m.length):zJ (l.drop k) (m.drop k)=if l[k]<m[k] then -1 else if m[k]<l[k] then 1 else zJ (l.drop (k+1)) (m.drop (k+1)):=by
 rw[LB h1,LB h2,zJ]
theorem gD{l m:List Int}{k:Nat}(h:k=l.length\/k=m.length)(h1:k<=l.length)(h2:k<=m.length):zJ (l.drop k) (m.drop k)=if l.length<m.length then -1 else if m.length<l.length then 1 else 0:=by
 rcases h with h | h
 . subst h
   rw[NB]
   by_cases hm:l.length<m.length
   . rw[Li hm,LB hm];rfl
   have:m.drop l.length=[]:=List.drop_of_length_le (by omega);rw[this,Lg hm,Lg (by omega)];rfl
 subst h;rw[NB]
 by_cases hm:m.length<l.length
 . rw[Lg (by omega),Li hm,LB hm];rfl
 have:l.drop m.length=[]:=List.drop_of_length_le (by omega);rw[this,Lg (by omega),Lg hm];rfl
def kZ(m x:Int):Bool:=decide (x<0\/m<=x)
def zR(v:List Int)(n m:Int):Int:=if (v.length:Int)≠n then 15 else if v.any (kZ m)=AA then 2 else 0
def zM{α:Type}(l:List α)(k:Nat):Option α:=if k=0 then Z else l[k-1]?
theorem Zt{α:Type}(l:List α):zM l 0=Z:=rfl
theorem yM{α:Type}(l:List α)(k:Nat)(hk:k<l.length):zM l (k+1)=J l[k]:=by unfold zM;simp[hk]
def qO(p:Option (List Int))(v:List Int):Bool:=match p with | none=>AC | some q=>decide (0<=zJ q v)
def vS(f:List Int->Int):Option (List Int)->List (List Int)->Int
 | _,[]=>0
 | p,v::r=>if f v≠0 then f v else if qO p v=AA then 14 else vS f (J v) r
def kV(f:List Int->Int)(l:List (List Int)):Int:=vS f Z l
def xf(f:List Int->Int)(l:List (List Int))(k:Nat):Int:=vS f (zM l k) (l.drop k)
theorem qx{f:List Int->Int}{l:List (List Int)}:xf f l 0=kV f l:=by unfold xf kV;rw[Zt,Nc]
theorem qT{f:List Int->Int}{l:List (List Int)}:xf f l l.length=0:=by unfold xf;rw[NB];rfl
theorem qU{f:List Int->Int}{l:List (List Int)}{k:Nat}(hk:k<l.length)(h:f l[k]≠0):xf f l k=f l[k]:=by
 unfold xf;rw[LB hk,vS,Li h]
theorem qe{f:List Int->Int}{l:List (List Int)}{k:Nat}(hk:k<l.length)(h:f l[k]=0)(h2:qO (zM l k) l[k]=AA):xf f l k=14:=by
 unfold xf;rw[LB hk,vS,Lg (by simpa using h),Li h2]
theorem kQ{f:List Int->Int}{l:List (List Int)}{k:Nat}(hk:k<l.length)(h:f l[k]=0)(h2:qO (zM l k) l[k]=AC):xf f l k=xf f l (k+1):=by
 unfold xf;rw[LB hk,vS,Lg (by simpa using h),Lg (by rw[h2];decide),yM l k hk]
def kD(l:List (List Int))(v:List Int):Int:=if v∈l then 0 else 6
def jt(n m:Int)(c:Cs):Int:=
 if c.out.length<1\/1024<c.out.length then 5 else if kV (fun v=>zR v n m) c.out≠0 then kV (fun v=>zR v n m) c.out else kV (kD c.out) c.calm
def qS(t:Tk)(p:Option Cs)(c:Cs):Int:=
 if zR c.inp t.n t.ins≠0 then zR c.inp t.n t.ins else if qO (p.map Cs.inp) c.inp=AA then 14 else jt t.n t.outs c
def kE(t:Tk):Option Cs->List Cs->Int
 | _,[]=>0
 | p,c::r=>if qS t p c≠0 then qS t p c else kE t (J c) r
def xS(t:Tk)(l:List Cs)(k:Nat):Int:=kE t (zM l k) (l.drop k)
theorem ZL{t:Tk}{l:List Cs}:xS t l l.length=0:=by unfold xS;rw[NB];rfl
theorem ZM{t:Tk}{l:List Cs}{k:Nat}(hk:k<l.length)(h:qS t (zM l k) l[k]≠0):xS t l k=qS t (zM l k) l[k]:=by
 unfold xS;rw[LB hk,kE,Li h]
theorem Xt{t:Tk}{l:List Cs}{k:Nat}(hk:k<l.length)(h:qS t (zM l k) l[k]=0):xS t l k=xS t l (k+1):=by
 unfold xS;rw[LB hk,kE,Lg (by simpa using h),yM l k hk]
def xD(t:Tk):Int:=
 if t.n<1\/5<t.n\/t.ins<1\/8<t.ins\/t.outs<1\/8<t.outs then 2 else if t.cases.length<1\/1024<t.cases.length then 5 else xS t t.cases 0
def qj(n:Int)(p:Nat)(x:Int):Int:=
 if n<=p then (if x≠0 then 3 else 0) else if x<0\/(2^n.toNat-1:Nat)<x then 2 else if x.toNat.testBit p=AA then 0 else 3
def yY(r:Rd):Nat->Nat->Int
 | 0,_=>0
 | k+1,p=>if qj r.n p (r.h p)≠0 then qj r.n p (r.h p) else yY r k (p+1)
def xj(r:Rd):Int:=if r.n<1\/5<r.n then 2 else yY r 5 0
def yD(r:Rd):Int:=if xj r≠0 then xj r else xC r.n r.f
def Rd.gl(r:Rd):List Int:=[r.n,r.h0,r.h1,r.h2,r.h3,r.h4]
def Rd.l(r:Rd):List Int:=[r.n,r.h0,r.h1,r.h2,r.h3,r.h4,r.f]
def XU(p:Option Mv)(m:Mv):Bool:=match p with | none=>AC | some q=>decide (0<=zJ q.r.l m.r.l)
def qB(a:Ad)(p:Option Mv)(m:Mv):Int:=
 if yD m.r≠0 then yD m.r else if m.r.n≠a.n then 22 else if XU p m=AA then 14 else if m.to<0\/(a.sts.length:Int)<=m.to then 2 else 0
def jF(a:Ad):Option Mv->List Mv->Int
 | _,[]=>0
 | p,m::r=>if qB a p m≠0 then qB a p m else jF a (J m) r
def qr(a:Ad)(l:List Mv)(k:Nat):Int:=jF a (zM l k) (l.drop k)
theorem Zy{a:Ad}{l:List Mv}:qr a l l.length=0:=by unfold qr;rw[NB];rfl
theorem Zz{a:Ad}{l:List Mv}{k:Nat}(hk:k<l.length)(h:qB a (zM l k) l[k]≠0):qr a l k=qB a (zM l k) l[k]:=by
 unfold qr;rw[LB hk,jF,Li h]
theorem YS{a:Ad}{l:List Mv}{k:Nat}(hk:k<l.length)(h:qB a (zM l k) l[k]=0):qr a l k=qr a l (k+1):=by
 unfold qr;rw[LB hk,jF,Lg (by simpa using h),yM l k hk]
def qW(a:Ad)(l:List Mv):Int:=if l.length=0 then 19 else qr a l 0
def zQ(a:Ad):List (List Mv)->Int
 | []=>0
 | l::r=>if qW a l≠0 then qW a l else zQ a r
theorem ut{a:Ad}{l:List (List Mv)}{k:Nat}(h:k=l.length):zQ a (l.drop k)=0:=by subst h;rw[NB];rfl
theorem uu{a:Ad}{l:List (List Mv)}{k:Nat}(hk:k<l.length)(h:qW a l[k]≠0):zQ a (l.drop k)=qW a l[k]:=by
 rw[LB hk,zQ,Li h]
theorem wj{a:Ad}{l:List (List Mv)}{k:Nat}(hk:k<l.length)(h:qW a l[k]=0):zQ a (l.drop k)=zQ a (l.drop (k+1)):=by
 rw[LB hk,zQ,Lg (by simpa using h)]
def Ad.mvs(a:Ad):List Mv:=a.sts.flatten
def Ad.at_(a:Ad)(s:Int):List Mv:=a.sts.getD s.toNat []
def jb(m k:Mv):Bool:=m.r.f.toNat &&& k.r.f.toNat==m.r.f.toNat
def qk(a:Ad):Bool:=a.mvs.all fun m=>(a.at_ m.to).all fun k=>jb m k
def qQ(a:Ad):Int:=
 if a.n<1\/5<a.n then 2 else if a.sts.length<1\/256<a.sts.length\/4096<a.mvs.length then 5 else if zQ a a.sts≠0 then zQ a a.sts else if qk a=AA then 0 else 21
def zY(p:Pb):Int:=
 if xD p.t≠0 then xD p.t else if qQ p.a≠0 then qQ p.a else if p.t.n≠p.a.n then 22 else if p.k<0\/6<p.k then 2 else 0
def Rd.gcells(r:Rd):Array Ax:=#[O U r.n,O U r.h0,O U r.h1,O U r.h2,O U r.h3,O U r.h4]
def hR(v u:Rd):Bool:=v.h0==u.h0&&(v.h1==u.h1&&(v.h2==u.h2&&(v.h3==u.h3&&v.h4==u.h4)))
theorem eqlIn_arrR(d:Nat)(v u:Rd)(w:Ba):(Op.equalIn (d+2) 88 (Ak #[O U v.h0,O U v.h1,O U v.h2,O U v.h3,O U v.h4]) (Ak #[O U u.h0,O U u.h1,O U u.h2,O U u.h3,O U u.h4])).run Aq w =
  .ok (hR v u) w:=gT d ⟨0,0,0,v.h0,v.h1,v.h2,v.h3,v.h4⟩ ⟨0,0,0,u.h0,u.h1,u.h2,u.h3,u.h4⟩ w
theorem vM(d:Nat)(v u:Rd)(w:Ba):(Op.equalIn (d+3) 90 (.agg v.gcells) (.agg u.gcells)).run Aq w=.ok (decide (v.gl=u.gl)) w:=by
 have hu:Aq.underlying 90=J (.struct (Aq.fieldsOf 90)):=by kernel_rfl
 have hi:Aq.underlying 3=J (.int U):=Lx;have hf : (Aq.fieldsOf 90).toList.map (fun f => (f.name, f.type, f.offset)) = [("N", 3, 0), ("Hears", 88, 1)] := by kernel_rfl
 rw[Rm w (d+2) 90 _ _ hu (by kernel_rfl)];have p0:∀x:Rd,(part 3 x.gcells 0).run Aq w=.ok (O U x.n) w:=fun x=>yK _ 0 _ rfl w
 have p1:∀x:Rd,(part 88 x.gcells 1).run Aq w=.ok (Ak #[O U x.h0,O U x.h1,O U x.h2,O U x.h3,O U x.h4]) w:=fun x=>by unfold Rd.gcells;kernel_rfl
 generalize (Aq.fieldsOf 90).toList=fs at hf
 obtain⟨f0,f1,rfl⟩:∃f0 f1,fs=[f0,f1]:=by
  have hl:fs.length=2:=by simpa using congrArg List.length hf
  rcases fs with _ | ⟨f0,_ | ⟨f1,_ | ⟨f2,r⟩⟩⟩<;>simp at hl
  exact⟨_,_,rfl⟩
 clear hu;simp only[List.map_cons,List.map_nil,List.cons.injEq,Prod.mk.injEq,and_true] at hf;obtain⟨⟨n0,t0,o0⟩,⟨n1,t1,o1⟩⟩:=hf
 have hd:decide (v.gl=u.gl)=(v.n==u.n&&hR v u):=by
  unfold hR Rd.gl;obtain⟨a0,a1,a2,a3,a4,a5,a6⟩:=v;obtain⟨b0,b1,b2,b3,b4,b5,b6⟩:=u;rw[NG];simp
 rw[hd]
 cases h0:(v.n==u.n)<;>cases h3:hR v u <;>
  simp only[Op.eqFields,n0,n1,t0,t1,o0,o1,p0,p1,Sem.run_bind,Result.andThen_ok,run_equalIn_int w _ 3 _ _ _ _ hi,eqlIn_arrR,h0,h3,ne_eq,not_false_eq_true,if_true,Bool.not_false,Bool.not_true,Bool.false_eq_true,if_false,Sem.run_pure,Bool.true_and,Bool.false_and,String.reduceEq]
theorem vL(d:Nat)(v u:Rd)(w:Ba):(Op.equalIn (d+4) 92 (.agg v.cells) (.agg u.cells)).run Aq w=.ok (decide (v=u)) w:=by
 have hu:Aq.underlying 92=J (.struct (Aq.fieldsOf 92)):=by kernel_rfl
 have hi:Aq.underlying 3=J (.int U):=Lx;have hf : (Aq.fieldsOf 92).toList.map (fun f => (f.name, f.type, f.offset)) = [("Graph", 90, 0), ("Faulty", 3, 6)] := by kernel_rfl
 rw[Rm w (d+3) 92 _ _ hu (by kernel_rfl)];have p0:∀x:Rd,(part 90 x.cells 0).run Aq w=.ok (.agg x.gcells) w:=fun x=>by unfold Rd.cells;kernel_rfl
 have p1:∀x:Rd,(part 3 x.cells 6).run Aq w=.ok (O U x.f) w:=fun x=>yK _ 6 _ rfl w
 generalize (Aq.fieldsOf 92).toList=fs at hf
 obtain⟨f0,f1,rfl⟩:∃f0 f1,fs=[f0,f1]:=by
  have hl:fs.length=2:=by simpa using congrArg List.length hf
  rcases fs with _ | ⟨f0,_ | ⟨f1,_ | ⟨f2,r⟩⟩⟩<;>simp at hl
  exact⟨_,_,rfl⟩
 clear hu;simp only[List.map_cons,List.map_nil,List.cons.injEq,Prod.mk.injEq,and_true] at hf;obtain⟨⟨n0,t0,o0⟩,⟨n1,t1,o1⟩⟩:=hf
 have hd:decide (v=u)=(decide (v.gl=u.gl)&&v.f==u.f):=by
  unfold Rd.gl;obtain⟨a0,a1,a2,a3,a4,a5,a6⟩:=v;obtain⟨b0,b1,b2,b3,b4,b5,b6⟩:=u;rw[NG];simp;constructor
  . rintro⟨h0,h1,h2,h3,h4,h5,h6⟩;exact⟨⟨h0,h1,h2,h3,h4,h5⟩,h6⟩
  rintro⟨⟨h0,h1,h2,h3,h4,h5⟩,h6⟩;exact⟨h0,h1,h2,h3,h4,h5,h6⟩
 rw[hd]
 cases h0:decide (v.gl=u.gl)<;>cases h3:(v.f==u.f) <;>
  simp only[Op.eqFields,n0,n1,t0,t1,o0,o1,p0,p1,Sem.run_bind,Result.andThen_ok,run_equalIn_int w _ 3 _ _ _ _ hi,vM,h0,h3,ne_eq,not_false_eq_true,if_true,Bool.not_false,Bool.not_true,Bool.false_eq_true,if_false,Sem.run_pure,Bool.true_and,Bool.false_and,String.reduceEq]
theorem eqlIn_move(d:Nat)(v u:Mv)(w:Ba):(Op.equalIn (d+5) 94 (.agg v.cells) (.agg u.cells)).run Aq w=.ok (decide (v=u)) w:=by
 have hu:Aq.underlying 94=J (.struct (Aq.fieldsOf 94)):=by kernel_rfl
 have hi:Aq.underlying 3=J (.int U):=Lx;have hf : (Aq.fieldsOf 94).toList.map (fun f => (f.name, f.type, f.offset)) = [("Round", 92, 0), ("To", 3, 7)] := by kernel_rfl
 rw[Rm w (d+4) 94 _ _ hu (by kernel_rfl)];have p0:∀x:Mv,(part 92 x.cells 0).run Aq w=.ok (.agg x.r.cells) w:=fun x=>by unfold Mv.cells;kernel_rfl
 have p1:∀x:Mv,(part 3 x.cells 7).run Aq w=.ok (O U x.to) w:=fun x=>yK _ 7 _ rfl w
 generalize (Aq.fieldsOf 94).toList=fs at hf
 obtain⟨f0,f1,rfl⟩:∃f0 f1,fs=[f0,f1]:=by
  have hl:fs.length=2:=by simpa using congrArg List.length hf
  rcases fs with _ | ⟨f0,_ | ⟨f1,_ | ⟨f2,r⟩⟩⟩<;>simp at hl
  exact⟨_,_,rfl⟩
 clear hu;simp only[List.map_cons,List.map_nil,List.cons.injEq,Prod.mk.injEq,and_true] at hf;obtain⟨⟨n0,t0,o0⟩,⟨n1,t1,o1⟩⟩:=hf
 have hd:decide (v=u)=(decide (v.r=u.r)&&v.to==u.to):=by
  obtain⟨a0,a1⟩:=v;obtain⟨b0,b1⟩:=u;rw[NG];simp
 rw[hd]
 cases h0:decide (v.r=u.r)<;>cases h3:(v.to==u.to) <;>
  simp only[Op.eqFields,n0,n1,t0,t1,o0,o1,p0,p1,Sem.run_bind,Result.andThen_ok,run_equalIn_int w _ 3 _ _ _ _ hi,vL,h0,h3,ne_eq,not_false_eq_true,if_true,Bool.not_false,Bool.not_true,Bool.false_eq_true,if_false,Sem.run_pure,Bool.true_and,Bool.false_and,String.reduceEq]
theorem eql_graph(v u:Rd)(w:Ba):(binOp .eql 90 (.agg v.gcells) (.agg u.gcells)).run Aq w=.ok (Aj (decide (v.gl=u.gl))) w:=by
 simp only[binOp];simp[Op.equal,Op.maxDepth,vM 9997 v u w]
theorem neq_graph(v u:Rd)(w:Ba):(binOp .neq 90 (.agg v.gcells) (.agg u.gcells)).run Aq w=.ok (Aj (decide (v.gl≠u.gl))) w:=by
 simp only[binOp];simp[Op.equal,Op.maxDepth,vM 9997 v u w]
theorem eql_round(v u:Rd)(w:Ba):(binOp .eql 92 (.agg v.cells) (.agg u.cells)).run Aq w=.ok (Aj (decide (v=u))) w:=by
 simp only[binOp];simp[Op.equal,Op.maxDepth,vL 9996 v u w]
theorem Qq(v u:Rd)(w:Ba):(binOp .neq 92 (.agg v.cells) (.agg u.cells)).run Aq w=.ok (Aj (decide (v≠u))) w:=by
 simp only[binOp];simp[Op.equal,Op.maxDepth,vL 9996 v u w]
theorem neq_move(v u:Mv)(w:Ba):(binOp .neq 94 (.agg v.cells) (.agg u.cells)).run Aq w=.ok (Aj (decide (v≠u))) w:=by
 simp only[binOp];simp[Op.equal,Op.maxDepth,eqlIn_move 9995 v u w]
end
section
open Go.RowKit
attribute [local go_sem] Oper.semAt_some
theorem ZP(A B:Bb)(ca cb:Nat)(xs ys:List Rd)(hx:xs.length<=17592186044416)(_TL:ys.length<=17592186044416)(w:Ba)(hA:RAt w w.heap.size A xs)(hB:RAt w w.heap.size B ys) :
  As Aq 172 #[I A xs.length ca,I B ys.length cb] w fun e w'=>e=Am (Aj (decide (xs=ys)))/\∃n,w'=w.drewN n:=by
 have HA:=zH hA;have HB:=zH hB;have HT:Aw (∀b,(xs=ys↔b=AA)->decide (xs=ys)=b):=fun b h=>by cases b<;>simp_all
 obtain⟨r,hr⟩:∃r,decide (xs=ys)=r:=⟨_,rfl⟩;rw[hr] at HT ⊢;go_enter func172,ntmps172
 by_cases hl:xs.length=ys.length
 case neg=>
  have hR:Aw (r=AC):=HT.out AC ⟨fun h=>absurd (congrArg List.length h) hl,fun h=>by cases h⟩;have e0:((xs.length:Int) != (ys.length:Int))=AA:=by simp;omega
  go_wp2_with fail;go_ret;exact⟨zn hR.out.symm,0,rfl⟩
 case pos=>
 have HL:=zH hl;rw[<-hl] at _TL ⊢;go_wp2_with fail
 go_loopw [5] (fun i wr=>∃k n:Nat,k<=xs.length/\i=O U (k:Int)/\Aw (xs.take k=ys.take k)/\Aw (wr=w.drewN n)) (fun i _=>xs.length-(Au i).toNat)
 case atStart=>exact⟨0,0,by omega,rfl,by rw[Aw,L1,L1],rfl⟩
 obtain⟨k,n,hk,rfl,hp,hw⟩:=hrel
 by_cases aa:k<xs.length
 case neg=>
  obtain rfl:k=xs.length:=by omega
  have hR:Aw (r=AA):=HT.out AA ⟨fun _=>rfl,fun _=>ku HL.out hp.out⟩;go_wp2_with fail;go_ret;exact⟨zn hR.out.symm,n,hw.out⟩
 case pos=>
 have lp:k<ys.length:=by have:=HL.out;omega
 obtain⟨ba,oa,ea,_,a0,a1,a2,a3,a4,a5,a6⟩:=(HA.out).row k aa;obtain⟨bb,ob,eb,_,b0,b1,b2,b3,b4,b5,b6⟩:=(HB.out).row k lp;subst ea;subst eb;have nz:Aw (∀p,wr.cell? p=w.cell? p):=fun p=>by rw[hw.out];rfl
 rw[<-nz.out] at a0 a1 a2 a3 a4 a5 a6 b0 b1 b2 b3 b4 b5 b6;have hq:=fun W=>Qq xs[k] ys[k] W
 by_cases he:xs[k]=ys[k]
 . have hR:=zH (xO hp.out aa lp he)
   rw[Lj (by simpa using he)] at hq;rw[<-he] at b0 b1 b2 b3 b4 b5 b6 hq;obtain⟨u,hu⟩:=Ki (xs[k]);rw[hu] at a0 a1 a2 a3 a4 a5 a6 b0 b1 b2 b3 b4 b5 b6 hq;unfold Rd.cells at hq;go_wp2_with fail;go_quiet (fail);go_wp2_with fail
   go_roundw
   case rel=>exact⟨k+1,n+nq,by omega,by go_num,hR,by rw[Aw,hw.out,je]⟩
   simp[Au];omega
 have hR:Aw (r=AC):=HT.out AC ⟨fun h=>absurd (by subst h;rfl) he,fun h=>by cases h⟩;rw[Lm (by simpa using he)] at hq;obtain⟨u,hu⟩:=Ki (xs[k]);obtain⟨v,hv⟩:=Ki (ys[k]);rw[hu] at a0 a1 a2 a3 a4 a5 a6 hq;rw[hv] at b0 b1 b2 b3 b4 b5 b6 hq;unfold Rd.cells at hq;go_wp2_with fail;go_quiet (fail);go_wp2_with fail;go_ret;exact⟨zn hR.out.symm,n+nq,by rw[hw.out,je]⟩
end
section
open Go.RowKit
theorem has_fact{s p:Nat}(hs:s<32)(hp:p<5):((wrap64 ((s:Int) / ((2^p:Nat):Int))).tmod 2==1)=s.testBit p:=by
 have h:=vf (p:=fun s=>wU fun p=>!decide (p<5)||(((wrap64 ((s:Int) / ((2^p:Nat):Int))).tmod 2==1)==s.testBit p)) (by decide +kernel) hs;have h:=vf h (show p<32 by omega);simpa only[hp,decide_true,Bool.not_true,Bool.false_or,beq_iff_eq] using h
theorem jZ(s p:Nat)(hs:s<32)(hp:p<5)(w:Ba):As Aq 118 #[O U s,O U p] w fun e w'=>e=Am (Aj (s.testBit p))/\w=w':=by
 have H:=zH (has_fact hs hp);have hq:(2^p:Nat)<=2^5:=L6 (by omega) (by omega);have pW:1<=(2^p:Nat):=Nat.one_le_two_pow;have hp':=gB p (by omega) w;obtain⟨q,MG⟩:∃q:Nat,q=2^p:=⟨_,rfl⟩;rw[<-MG] at hp' hq pW H;clear MG;go_enter func118,ntmps118;go_wp2_with fail;refine hp'.mono ?_;rintro e w' ⟨rfl,rfl⟩;go_wp2_with fail;go_ret;exact⟨zn H.out,rfl⟩
theorem inside_fact{a b:Nat}(ha:a<32)(hb:b<32):(a &&& b==a)=AA↔(∀p,p<5->a.testBit p=AA->b.testBit p=AA):=by
 have h:=vf (p:=fun a=>wU fun b=>((List.range 5).all fun p=>!a.testBit p||b.testBit p)==(a &&& b==a)) (by decide +kernel) ha;have h:=vf h hb;simp only[beq_iff_eq] at h;rw[<-h];simp only[List.all_eq_true,List.mem_range,Bool.or_eq_true,Bool.not_eq_true'];constructor
 . intro h p hp h1
   rcases h p hp with h2 | h2
   . rw[h1] at h2;cases h2
   exact h2
 intro h p hp
 by_cases h1:a.testBit p=AA
 . exact .inr (h p hp h1)
 exact .inl (by simpa using h1)
theorem inside_any(a b:Nat)(ha:a<32)(hb:b<32)(w:Ba):As Aq 163 #[O U a,O U b] w fun e w'=>e=Am (Aj (a &&& b==a))/\w=w':=by
 have H:=zH (inside_fact ha hb);have HA:=zH (fun p hp w=>jZ a p ha hp w);have HB:=zH (fun p hp w=>jZ b p hb hp w);go_enter func163,ntmps163;go_wp2_with fail
 go_loop [5] (fun i=>∃k:Nat,k<=5/\i=O U (k:Int)/\Aw (∀p,p<k->a.testBit p=AA->b.testBit p=AA)) (fun i=>5-(Au i).toNat)
 case atStart=>exact⟨0,by omega,rfl,fun p hp=>by omega⟩
 obtain⟨k,hk,rfl,aO⟩:=hrel
 by_cases aa:k<5
 . have c1:=HA.out k aa w
   have c2:=HB.out k aa w;go_wp2_with fail;refine c1.mono ?_;rintro e w' ⟨rfl,rfl⟩
   by_cases h1:a.testBit k=AA
   . rw[h1]
     go_wp2_with fail;refine c2.mono ?_;rintro e w' ⟨rfl,rfl⟩
     by_cases h2:b.testBit k=AA
     . rw[h2]
       go_wp2_with fail
       go_round
       case rel=>
        refine⟨k+1,by omega,by go_num,fun p hp h=>?_⟩
        by_cases e:p=k
        . subst e;exact h2
        exact aO.out p (by omega) h
       simp[Au];omega
     have h2':b.testBit k=AC:=by simpa using h2
     rw[h2'];go_wp2_with fail;go_ret;refine⟨zn ?_,rfl⟩;symm;rw[Bool.eq_false_iff];exact fun e=>h2 (H.out.1 e k aa h1)
   have h1':a.testBit k=AC:=by simpa using h1
   rw[h1'];go_wp2_with fail
   go_round
   case rel=>
    refine⟨k+1,by omega,by go_num,fun p hp h=>?_⟩
    by_cases e:p=k
    . subst e;exact absurd h h1
    exact aO.out p (by omega) h
   simp[Au];omega
 obtain rfl:k=5:=by omega
 go_wp2_with fail;go_ret;refine⟨zn ?_,rfl⟩;exact(H.out.2 aO.out).symm
theorem drew2(w:Ba)(a b:Nat):∃m,(w.drewN a).drewN b=w.drewN m:=⟨a+b,by simp[World.drewN_drewN]⟩
theorem drew3(w:Ba)(a b c:Nat):∃m,((w.drewN a).drewN b).drewN c=w.drewN m:=⟨a+b+c,by simp[World.drewN_drewN]⟩
theorem xY(A1 A2:Bb)(c1 c2:Nat)(xs ys:List Int)(hl:xs.length<=17592186044416)(mT:ys.length<=17592186044416)(w:Ba)(h1:IAt w w.heap.size A1 xs)(h2:IAt w w.heap.size A2 ys) :
  As Aq 159 #[I A1 xs.length c1,I A2 ys.length c2] w fun e w'=>e=Am (O U (zJ xs ys))/\∃m,w'=w.drewN m:=by
 have HA:=zH h1;have HB:=zH h2;go_enter func159,ntmps159;go_wp2_with fail
 go_loopw [5] (fun i wr=>∃k:Nat,k<=xs.length/\k<=ys.length/\i=O U (k:Int)/\Aw (zJ xs ys=zJ (xs.drop k) (ys.drop k))/\∃m:Nat,wr=w.drewN m) (fun i _=>xs.length-(Au i).toNat)
 case atStart=>exact⟨0,by omega,by omega,rfl,rfl,0,rfl⟩
 obtain⟨k,aW,iH,rfl,DE,m,rfl⟩:=hrel
 by_cases aa:k<xs.length/\k<ys.length
 . obtain⟨hx,hy⟩:=aa
   obtain⟨b1,o1,rfl,aq,c1⟩:=HA.out.at_ k hx;obtain⟨b2,o2,rfl,ag,c2⟩:=HB.out.at_ k hy;have hs:=YN hx hy;obtain⟨x,tL⟩:=Ki (xs[k]);obtain⟨y,hye⟩:=Ki (ys[k]);rw[tL] at c1 hs;rw[hye] at c2 hs;have HS:=zH (DE.out.trans hs)
   by_cases l1:x<y
   . have HR:=zH (HS.out.trans (Li l1))
     go_wp2_with fail;go_quiet (fail);go_wp2_with fail;go_ret;exact⟨zm HR.out.symm,by first | exact drew2 _ _ _ | exact drew3 _ _ _ _⟩
   by_cases l2:y<x
   . have HR:=zH (HS.out.trans ((Lg l1).trans (Li l2)))
     go_wp2_with fail;go_quiet (fail);go_wp2_with fail;go_quiet (fail);go_wp2_with fail;go_ret;exact⟨zm HR.out.symm,by first | exact drew2 _ _ _ | exact drew3 _ _ _ _⟩
   have HR:=zH (HS.out.trans ((Lg l1).trans (Lg l2)));go_wp2_with fail;go_quiet (fail);go_wp2_with fail;go_quiet (fail);go_wp2_with fail
   go_roundw
   case rel=>exact⟨k+1,by omega,by omega,by go_num,HR,by first | exact drew2 _ _ _ | exact drew3 _ _ _ _ | exact⟨_,rfl⟩⟩
   simp[Au];omega
 have he:=gD (l:=xs) (m:=ys) (k:=k) (by omega) aW iH;have HR:=zH (DE.out.trans he);have hd:(decide ((k:Int)<(xs.length:Int))&&decide ((k:Int)<(ys.length:Int)))=AC:=by simp;omega
 by_cases hx:k<xs.length
 . obtain rfl:k=ys.length:=by omega
   go_wp2_with fail
   all_goals first | (exfalso;omega) | skip
   all_goals
    go_ret;exact⟨zm (by rw[HR.out];first | (rw[Li (by omega)]) | (rw[Lg (by omega),Li (by omega)]) | (rw[Lg (by omega),Lg (by omega)])),_,rfl⟩
 obtain rfl:k=xs.length:=by omega
 go_wp2_with fail
 all_goals first | (exfalso;omega) | skip
 all_goals
  go_ret;exact⟨zm (by rw[HR.out];first | (rw[Li (by omega)]) | (rw[Lg (by omega),Li (by omega)]) | (rw[Lg (by omega),Lg (by omega)])),_,rfl⟩
def jK(x y:Int):Int:=if x<y then -1 else if y<x then 1 else 0
theorem Yd(x y:Int)(w:Ba):As Aq 195 #[O U x,O U y] w fun e w'=>e=Am (O U (jK x y))/\w=w':=by
 have H:Aw (jK x y=if x<y then -1 else if y<x then 1 else 0):=rfl
 have hn:∀(x:Int) (w:Ba),As Aq 203 #[O U x] w fun e w'=>e=Am (Aj AC)/\w=w':=fun x w=>by
  go_enter func203,ntmps203;go_wp2;go_ret;exact⟨by simp,rfl⟩
 have HN:=zH hn;go_enter func195,ntmps195;go_wp2_with (go_at_call 203;refine(HN.out _ _).mono ?_;rintro e w' ⟨rfl,rfl⟩)
 all_goals
  go_ret;refine⟨zm ?_,rfl⟩;rw[H.out]
  first | (rw[Li (by omega)]) | (rw[Lg (by omega),Li (by omega)]) | (rw[Lg (by omega),Lg (by omega)])
theorem ws(A1 A2:Bb)(c1 c2:Nat)(xs ys:List Int)(hl:xs.length<=17592186044416)(mT:ys.length<=17592186044416)(w:Ba)(h1:IAt w w.heap.size A1 xs)(h2:IAt w w.heap.size A2 ys) :
  As Aq 183 #[I A1 xs.length c1,I A2 ys.length c2] w fun e w'=>e=Am (O U (zJ xs ys))/\w'=w:=by
 have HA:=zH h1;have HB:=zH h2;go_enter func183,ntmps183;go_wp2_with fail
 go_loop [11] (fun i=>∃k:Nat,k<=xs.length/\k<=ys.length/\i=O U (k:Int)/\Aw (zJ xs ys=zJ (xs.drop k) (ys.drop k))) (fun i=>xs.length-(Au i).toNat)
 case atStart=>exact⟨0,by omega,by omega,rfl,rfl⟩
 obtain⟨k,aW,iH,rfl,DE⟩:=hrel
 by_cases hx:k<xs.length
 . obtain⟨b1,o1,rfl,aq,c1⟩:=HA.out.at_ k hx
   by_cases hy:k<ys.length
   . obtain⟨b2,o2,rfl,ag,c2⟩:=HB.out.at_ k hy
     have hs:=YN hx hy;obtain⟨x,tL⟩:=Ki (xs[k]);obtain⟨y,hye⟩:=Ki (ys[k]);rw[tL] at c1 hs;rw[hye] at c2 hs;have HS:=zH (DE.out.trans hs);have mV:Aw (jK x y=if x<y then -1 else if y<x then 1 else 0):=rfl;have hc:=zH (fun w=>Yd x y w);obtain⟨cv,rf⟩:=Ki (jK x y);rw[rf] at hc mV;go_wp2_with fail;refine(hc.out _).mono ?_;rintro e w' ⟨rfl,rfl⟩
     by_cases l1:x<y
     . have HR:=zH (HS.out.trans (Li l1))
       obtain rfl:cv=-1:=mV.out.trans (Li l1);go_wp2_with fail;go_ret;exact⟨zm HR.out.symm,rfl⟩
     by_cases l2:y<x
     . have HR:=zH (HS.out.trans ((Lg l1).trans (Li l2)))
       obtain rfl:cv=1:=mV.out.trans ((Lg l1).trans (Li l2));go_wp2_with fail;go_ret;exact⟨zm HR.out.symm,rfl⟩
     have HR:=zH (HS.out.trans ((Lg l1).trans (Lg l2)));obtain rfl:cv=0:=mV.out.trans ((Lg l1).trans (Lg l2));go_wp2_with fail
     go_round
     case rel=>exact⟨k+1,by omega,by omega,by go_num,HR⟩
     simp[Au];omega
   obtain rfl:k=ys.length:=by omega
   have he:=gD (l:=xs) (m:=ys) (k:=ys.length) (by omega) aW iH;have HR:=zH (DE.out.trans he);go_wp2_with fail;go_ret;exact⟨zm (by rw[HR.out,Lg (by omega),Li (by omega)]),rfl⟩
 obtain rfl:k=xs.length:=by omega
 have he:=gD (l:=xs) (m:=ys) (k:=xs.length) (by omega) aW iH;have HR:=zH (DE.out.trans he);go_wp2_with fail
 all_goals
  go_ret;exact⟨zm (by rw[HR.out];first | (rw[Li (by omega)]) | (rw[Lg (by omega),Lg (by omega)])),rfl⟩
theorem QF{r:Rd}{k:Nat}(hk:k<5)(h:qj r.n k (r.h k)≠0):yY r (5-k) k=qj r.n k (r.h k):=by
 rw[show 5-k=(4-k)+1 by omega,yY,Li h]
theorem hears_on{r:Rd}{k:Nat}(hk:k<5)(h:qj r.n k (r.h k)=0):yY r (5-k) k=yY r (5-(k+1)) (k+1):=by
 rw[show 5-k=(4-k)+1 by omega,yY,Lg (by simpa using h),show 4-k=5-(k+1) by omega]
theorem Y9{n x:Int}{p:Nat}(h:n<=p)(hx:x≠0):qj n p x=3:=by unfold qj;rw[Li h,Li hx]
theorem Y8{n:Int}{p:Nat}(h:n<=p):qj n p 0=0:=by unfold qj;rw[Li h];rfl
theorem QH{n x:Int}{p:Nat}(h:¬n<=p)(hx:x<0\/(2^n.toNat-1:Nat)<x):qj n p x=2:=by unfold qj;rw[Lg h,Li hx]
theorem QG{n x:Int}{p:Nat}(h:¬n<=p)(hx:¬(x<0\/(2^n.toNat-1:Nat)<x))(hb:x.toNat.testBit p=AA):qj n p x=0:=by unfold qj;rw[Lg h,Lg hx,Li hb]
theorem hearE_no{n x:Int}{p:Nat}(h:¬n<=p)(hx:¬(x<0\/(2^n.toNat-1:Nat)<x))(hb:x.toNat.testBit p=AC):qj n p x=3:=by unfold qj;rw[Lg h,Lg hx,Lg (by rw[hb];decide)]
theorem bit_zero{s p:Nat}(hs:s<32)(hp:p<5):(bits BinOp.and U ((s:Int) / 2^p) 1==0)=!s.testBit p:=by
 have h:=vf (p:=fun s=>wU fun p=>!decide (p<5)||((bits BinOp.and U ((s:Int) / 2^p) 1==0)==!s.testBit p)) (by decide +kernel) hs;have h:=vf h (show p<32 by omega);simpa only[hp,decide_true,Bool.not_true,Bool.false_or,beq_iff_eq] using h
theorem gfull_any(n:Int)(h1:1<=n)(h5:n<=5)(w:Ba):As Aq 209 #[O U n] w fun e w'=>e=Am (O U ((2^n.toNat-1:Nat):Int))/\w'=w:=by
 obtain rfl | rfl | rfl | rfl | rfl:n=1\/n=2\/n=3\/n=4\/n=5:=by omega
 all_goals
  go_enter func209,ntmps209;go_wp2;go_ret;exact⟨rfl,rfl⟩
theorem rfull5_any(n:Int)(h1:1<=n)(hn:n<=5)(w:Ba):As Aq 191 #[O U n] w fun e w'=>e=Am (O U ((2^n.toNat-1:Nat):Int))/\w'=w:=by
 obtain⟨m,rfl⟩:=Lp (show 0<=n by omega);have hp:=gB m (by omega) w;go_enter func191,ntmps191;go_wp2_with fail;refine hp.mono ?_;rintro e w' ⟨rfl,rfl⟩;obtain rfl | rfl | rfl | rfl | rfl:m=1\/m=2\/m=3\/m=4\/m=5:=by omega
 all_goals
  go_wp2_with fail;go_ret;exact⟨rfl,rfl⟩
theorem wO{r:Rd}(h:r.n<1\/5<r.n):xj r=2:=Li h
theorem Xa{r:Rd}(h:¬(r.n<1\/5<r.n)):xj r=yY r (5-0) 0:=Lg h
theorem pow_le{n:Int}(h5:n<=5):(2^n.toNat-1:Nat)<=31:=by
 have:2^n.toNat<=2^5:=L6 (by omega) (by omega);omega
theorem gcheck_any(r:Rd)(w:Ba):As Aq 206 #[.agg r.gcells] w fun e w'=>e=Am (O U (xj r))/\Ar w.heap.size w w':=by
 have az:=zH (@wO r);have au:=zH (@Xa r);obtain⟨E,hE⟩:=Ki (xj r);rw[hE] at az au ⊢
 have DM:∀k,k<5->∀w,(Instr.index 88 (Ak #[O U r.h0,O U r.h1,O U r.h2,O U r.h3,O U r.h4]) (O U (k:Nat))).run Aq w=.ok (O U (r.h k)) w:=fun k hk w=>by
  obtain rfl | rfl | rfl | rfl | rfl:k=0\/k=1\/k=2\/k=3\/k=4:=by omega
  all_goals exact(by kernel_rfl)
 have tB:=zH DM;unfold Rd.gcells
 by_cases hr:r.n<1\/5<r.n
 . have HR:=zH (az.out hr)
   have HN:=zH hr;go_enter func206,ntmps206;go_wp2_with fail
   all_goals first | (exfalso;have:=HN.out;omega) | (go_ret;exact⟨zm HR.out.symm,ye w _⟩)
 have r1:¬r.n<1:=by omega
 have r2:¬5<r.n:=by omega
 have HE:=zH (au.out hr);go_enter func206,ntmps206;go_wp2_with fail
 all_goals first | (exfalso;omega) | skip
 go_loop [15] (fun i=>∃k:Nat,k<=5/\i=O U (k:Int)/\Aw (E=yY r (5-k) k)) (fun i=>5-(Au i).toNat)
 case atStart=>exact⟨0,by omega,rfl,HE⟩
 obtain⟨k,hk,rfl,aC⟩:=hrel
 by_cases aa:k<5
 . have hx:=tB.out k aa
   have aT:=zH (@QF r k aa);have bh:=zH (@hears_on r k aa);have h1:=zH (@Y9 r.n (r.h k) k);have h2:=zH (@Y8 r.n k);have h3:=zH (@QH r.n (r.h k) k);have h4:=zH (@QG r.n (r.h k) k);have h5:=zH (@hearE_no r.n (r.h k) k);obtain⟨x,tL⟩:=Ki (r.h k);rw[tL] at hx aT bh h1 h3 h4 h5
   by_cases hp:r.n<=(k:Int)
   . by_cases hz:x=0
     . subst hz
       have hR:=zH (aC.out.trans (bh.out (h2.out hp)));go_wp2_with fail
       all_goals first | (exfalso;omega) | skip
       go_round
       case rel=>exact⟨k+1,by omega,by go_num,hR⟩
       simp[Au];omega
     have he:=h1.out hp hz;have hR:=zH (aC.out.trans ((aT.out (by rw[he];decide)).trans he));have e0:(x != 0)=AA:=by simpa using hz
     go_wp2_with fail
     all_goals first | (exfalso;omega) | skip
     go_ret;exact⟨zm hR.out.symm,ye w _⟩
   have hF:=zH (gfull_any r.n (by omega) (by omega));have DD:=pow_le (n:=r.n) (by omega);obtain⟨F,hFe⟩:∃F:Nat,(2^r.n.toNat-1:Nat)=F:=⟨_,rfl⟩;rw[hFe] at h3 h4 h5 hF DD
   by_cases ho:x<0\/(F:Int)<x
   . have he:=h3.out hp ho
     have hR:=zH (aC.out.trans ((aT.out (by rw[he];decide)).trans he))
     by_cases oK:x<0
     . clear ho
       go_wp2_with fail
       all_goals first | (exfalso;omega) | skip
       go_ret;exact⟨zm hR.out.symm,ye w _⟩
     have my:(F:Int)<x:=by omega
     go_wp2_with (go_at_call 209;refine(hF.out _).mono ?_;rintro e w' ⟨rfl,rfl⟩)
     all_goals first | (exfalso;omega) | skip
     go_ret;exact⟨zm hR.out.symm,ye w _⟩
   obtain⟨m,rfl⟩:=Lp (show 0<=x by omega);have hm:m<32:=by omega
   have hbz:=bit_zero hm aa;have oK:¬((m:Int)<0):=by omega
   have my:¬((F:Int)<(m:Int)):=by omega
   by_cases hb:m.testBit k=AA
   . have hR:=zH (aC.out.trans (bh.out (h4.out hp ho (by simpa using hb))))
     rw[hb] at hbz;go_wp2_with (go_at_call 209;refine(hF.out _).mono ?_;rintro e w' ⟨rfl,rfl⟩)
     all_goals first | (exfalso;omega) | skip
     go_round
     case rel=>exact⟨k+1,by omega,by go_num,hR⟩
     simp[Au];omega
   have di:m.testBit k=AC:=by simpa using hb
   have he:=h5.out hp ho (by simpa using di);have hR:=zH (aC.out.trans ((aT.out (by rw[he];decide)).trans he));rw[di] at hbz;go_wp2_with (go_at_call 209;refine(hF.out _).mono ?_;rintro e w' ⟨rfl,rfl⟩)
   all_goals first | (exfalso;omega) | skip
   go_ret;exact⟨zm hR.out.symm,ye w _⟩
 obtain rfl:k=5:=by omega
 have hR:Aw (E=0):=aC.out;go_wp2_with fail;go_ret;exact⟨zm hR.out.symm,ye w _⟩
theorem vB(r:Rd)(k:Nat)(hk:k<5):r.gcells[1+k]?=J (O U (r.h k)):=by
 obtain rfl | rfl | rfl | rfl | rfl:k=0\/k=1\/k=2\/k=3\/k=4:=by omega
 all_goals rfl
theorem rgcheck_any(r:Rd)(w:Ba):As Aq 178 #[.agg r.gcells] w fun e w'=>e=Am (O U (xj r))/\Ar w.heap.size w w':=by
 have az:=zH (@wO r);have au:=zH (@Xa r);obtain⟨E,hE⟩:=Ki (xj r);rw[hE] at az au ⊢;have mL:=zH (fun k hk=>zh (zy w (Ai r.gcells 90)) (1+k) (vB r k hk));unfold Rd.gcells at mL ⊢
 by_cases hr:r.n<1\/5<r.n
 . have HR:=zH (az.out hr)
   have HN:=zH hr;go_enter func178,ntmps178;go_wp2_with fail
   all_goals first | (exfalso;have:=HN.out;omega) | (go_ret;exact⟨zm HR.out.symm,ye w _⟩)
 have r1:¬r.n<1:=by omega
 have r2:¬5<r.n:=by omega
 have HE:=zH (au.out hr);go_enter func178,ntmps178;go_wp2_with fail
 all_goals first | (exfalso;omega) | skip
 obtain⟨W0,dN⟩:=Ki (w.alloc (Ai #[O U r.n,O U r.h0,O U r.h1,O U r.h2,O U r.h3,O U r.h4] 90));have ig:W0.heap[w.heap.size]?=J (Ai #[O U r.n,O U r.h0,O U r.h1,O U r.h2,O U r.h3,O U r.h4] 90 (0,0)):=by rw[<-dN];exact zy _ _
 have HB:=zH (show Ar w.heap.size w W0 by rw[<-dN];exact ye w _);have q0:=zh ig 0 rfl;rw[dN] at mL ⊢
 go_loop [3] (fun i=>∃k:Nat,k<=5/\i=O U (k:Int)/\Aw (E=yY r (5-k) k)) (fun i=>5-(Au i).toNat)
 case atStart=>exact⟨0,by omega,rfl,HE⟩
 obtain⟨k,hk,rfl,aC⟩:=hrel
 by_cases aa:k<5
 . have hx:=mL.out k aa
   have aT:=zH (@QF r k aa);have bh:=zH (@hears_on r k aa);have h1:=zH (@Y9 r.n (r.h k) k);have h2:=zH (@Y8 r.n k);have h3:=zH (@QH r.n (r.h k) k);have h4:=zH (@QG r.n (r.h k) k);have h5:=zH (@hearE_no r.n (r.h k) k);obtain⟨x,tL⟩:=Ki (r.h k);rw[tL] at hx aT bh h1 h3 h4 h5
   by_cases hp:r.n<=(k:Int)
   . by_cases hz:x=0
     . subst hz
       have hR:=zH (aC.out.trans (bh.out (h2.out hp)));go_wp2_with fail
       all_goals first | (exfalso;omega) | skip
       go_round
       case rel=>exact⟨k+1,by omega,by go_num,hR⟩
       simp[Au];omega
     have he:=h1.out hp hz;have hR:=zH (aC.out.trans ((aT.out (by rw[he];decide)).trans he));have e0:(x != 0)=AA:=by simpa using hz
     go_wp2_with fail
     all_goals first | (exfalso;omega) | skip
     go_ret;exact⟨zm hR.out.symm,HB.out⟩
   have hF:=zH (rfull5_any r.n (by omega) (by omega));have DD:=pow_le (n:=r.n) (by omega);obtain⟨F,hFe⟩:∃F:Nat,(2^r.n.toNat-1:Nat)=F:=⟨_,rfl⟩;rw[hFe] at h3 h4 h5 hF DD
   by_cases ho:x<0\/(F:Int)<x
   . have he:=h3.out hp ho
     have hR:=zH (aC.out.trans ((aT.out (by rw[he];decide)).trans he))
     by_cases oK:x<0
     . clear ho
       go_wp2_with fail
       all_goals first | (exfalso;omega) | skip
       go_ret;exact⟨zm hR.out.symm,HB.out⟩
     have my:(F:Int)<x:=by omega
     go_wp2_with (go_at_call 191;refine(hF.out _).mono ?_;rintro e w' ⟨rfl,lX⟩;obtain rfl:=lX.symm)
     all_goals first | (exfalso;omega) | skip
     go_ret;exact⟨zm hR.out.symm,HB.out⟩
   obtain⟨m,rfl⟩:=Lp (show 0<=x by omega);have hm:m<32:=by omega
   have oK:¬((m:Int)<0):=by omega
   have my:¬((F:Int)<(m:Int)):=by omega
   have hH:=zH (fun w=>jZ m k hm aa w)
   by_cases hb:m.testBit k=AA
   . have hR:=zH (aC.out.trans (bh.out (h4.out hp ho (by simpa using hb))))
     rw[hb] at hH;go_wp2_with (first | (go_at_call 191;refine(hF.out _).mono ?_;rintro e w' ⟨rfl,lX⟩;obtain rfl:=lX.symm) | (go_at_call 118;refine(hH.out _).mono ?_;rintro e w' ⟨rfl,rfl⟩))
     all_goals first | (exfalso;omega) | skip
     go_round
     case rel=>exact⟨k+1,by omega,by go_num,hR⟩
     simp[Au];omega
   have di:m.testBit k=AC:=by simpa using hb
   have he:=h5.out hp ho (by simpa using di);have hR:=zH (aC.out.trans ((aT.out (by rw[he];decide)).trans he));rw[di] at hH;go_wp2_with (first | (go_at_call 191;refine(hF.out _).mono ?_;rintro e w' ⟨rfl,lX⟩;obtain rfl:=lX.symm) | (go_at_call 118;refine(hH.out _).mono ?_;rintro e w' ⟨rfl,rfl⟩))
   all_goals first | (exfalso;omega) | skip
   go_ret;exact⟨zm hR.out.symm,HB.out⟩
 obtain rfl:k=5:=by omega
 have hR:Aw (E=0):=aC.out;go_wp2_with fail;go_ret;exact⟨zm hR.out.symm,HB.out⟩
theorem wu{r:Rd}(h:xj r≠0):yD r=xj r:=Li h
theorem Yz{r:Rd}(h:xj r=0):yD r=xC r.n r.f:=Lg (by simpa using h)
theorem Yy(r:Rd)(w:Ba):As Aq 198 #[.agg r.cells] w fun e w'=>e=Am (O U (yD r))/\Ar w.heap.size w w':=by
 have az:=zH (@wu r);have au:=zH (@Yz r);have HG:=zH (fun w=>gcheck_any r w);have HS:=zH (fun w=>QS r.n r.f w);obtain⟨E,hE⟩:=Ki (yD r);rw[hE] at az au ⊢;obtain⟨g,hg⟩:=Ki (xj r);rw[hg] at az au HG;obtain⟨s,hs⟩:=Ki (xC r.n r.f);rw[hs] at au HS;unfold Rd.cells;unfold Rd.gcells at HG;go_enter func198,ntmps198;go_wp2_with fail;obtain⟨W0,dN⟩:=Ki (w.alloc (Ai #[O U r.n,O U r.h0,O U r.h1,O U r.h2,O U r.h3,O U r.h4,O U r.f] 92));have ig:W0.heap[w.heap.size]?=J (Ai #[O U r.n,O U r.h0,O U r.h1,O U r.h2,O U r.h3,O U r.h4,O U r.f] 92 (0,0)):=by rw[<-dN];exact zy _ _
 have hB:Ar w.heap.size w W0:=by rw[<-dN];exact ye w _
 have tg:=zj ig;rw[dN];refine(HG.out W0).mono ?_;rintro e w1 ⟨rfl,aq⟩;have HB:=zH (Lc hB aq);have d0:=Lb aq tg ig;have q0:=zh d0 0 rfl;have q6:=zh d0 6 rfl
 by_cases h0:g=0
 . subst h0
   have hR:=zH (au.out (by simp));go_wp2_with fail;refine(HS.out _).mono ?_;rintro e w2 ⟨rfl,rfl⟩;go_wp2_with fail;go_ret;exact⟨zm hR.out.symm,HB.out⟩
 have hR:=zH (az.out h0);have e0:(g != 0)=AA:=by simpa using h0
 go_wp2_with fail;go_ret;exact⟨zm hR.out.symm,HB.out⟩
theorem ZQ(r:Rd)(w:Ba):As Aq 161 #[.agg r.cells] w fun e w'=>e=Am (O U (yD r))/\Ar w.heap.size w w':=by
 have az:=zH (@wu r);have au:=zH (@Yz r);have HG:=zH (fun w=>rgcheck_any r w);have HS:=zH (fun w=>rcheck_any r.n r.f w);obtain⟨E,hE⟩:=Ki (yD r);rw[hE] at az au ⊢;obtain⟨g,hg⟩:=Ki (xj r);rw[hg] at az au HG;obtain⟨s,hs⟩:=Ki (xC r.n r.f);rw[hs] at au HS;unfold Rd.cells;unfold Rd.gcells at HG;go_enter func161,ntmps161;go_wp2_with fail;obtain⟨W0,dN⟩:=Ki (w.alloc (Ai #[O U r.n,O U r.h0,O U r.h1,O U r.h2,O U r.h3,O U r.h4,O U r.f] 92));have ig:W0.heap[w.heap.size]?=J (Ai #[O U r.n,O U r.h0,O U r.h1,O U r.h2,O U r.h3,O U r.h4,O U r.f] 92 (0,0)):=by rw[<-dN];exact zy _ _
 have hB:Ar w.heap.size w W0:=by rw[<-dN];exact ye w _
 have tg:=zj ig;rw[dN];refine(HG.out W0).mono ?_;rintro e w1 ⟨rfl,aq⟩;have HB:=zH (Lc hB aq);have d0:=Lb aq tg ig;have q0:=zh d0 0 rfl;have q6:=zh d0 6 rfl
 by_cases h0:g=0
 . subst h0
   have hR:=zH (au.out (by simp));go_wp2_with fail;refine(HS.out _).mono ?_;rintro e w2 ⟨rfl,rfl⟩;go_wp2_with fail;go_ret;exact⟨zm hR.out.symm,HB.out⟩
 have hR:=zH (az.out h0);have e0:(g != 0)=AA:=by simpa using h0
 go_wp2_with fail;go_ret;exact⟨zm hR.out.symm,HB.out⟩
theorem yV(w:Ba)(c1 c2:Array Ax)(t1 t2:TypeId):∃W0,(w.alloc (Ai c1 t1)).alloc (Ai c2 t2)=W0/\W0.heap[w.heap.size]?=J (Ai c1 t1 (0,0))/\W0.heap[w.heap.size+1]?=J (Ai c2 t2 (0,0))/\w.heap.size+2<=W0.heap.size/\Ar w.heap.size w W0:=
 ⟨_,rfl,yU (zy _ _) _,by have:=zy (w.alloc (Ai c1 t1)) (Ai c2 t2);rwa[Nk] at this,by simp,kJ w _ _⟩
theorem uM{x y:Int}{l m:List Int}:zJ (x::l) (y::m)=if jK x y≠0 then jK x y else zJ l m:=by
 rw[zJ];unfold jK
 by_cases h1:x<y
 . simp[h1]
 by_cases h2:y<x
 . simp[h1,h2]
 simp[h1,h2]
theorem Z7{r:Rd}{k:Nat}(hk:k<5):r.gl.drop (k+1)=r.h k::r.gl.drop (k+2):=by
 obtain rfl | rfl | rfl | rfl | rfl:k=0\/k=1\/k=2\/k=3\/k=4:=by omega
 all_goals rfl
theorem gl_step{a b:Rd}{k:Nat}(hk:k<5):zJ (a.gl.drop (k+1)) (b.gl.drop (k+1))=if jK (a.h k) (b.h k)≠0 then jK (a.h k) (b.h k) else zJ (a.gl.drop (k+2)) (b.gl.drop (k+2)):=by
 rw[Z7 hk,Z7 hk,uM]
theorem gl_zero{a b:Rd}:zJ a.gl b.gl=if jK a.n b.n≠0 then jK a.n b.n else zJ (a.gl.drop 1) (b.gl.drop 1):=uM
theorem l_split{a b:Rd}:zJ a.l b.l=if zJ a.gl b.gl≠0 then zJ a.gl b.gl else jK a.f b.f:=by
 unfold Rd.l Rd.gl;simp only[uM]
 repeat' split
 all_goals first | rfl | (simp_all [zJ];done) | (exfalso;simp_all [zJ];done)
theorem cmpI_zero{x y:Int}(h:jK x y=0):x=y:=by
 unfold jK at h
 split at h
 . cases h
 split at h
 . cases h
 omega
theorem cmpI_self(x:Int):jK x x=0:=by unfold jK;rw[Lg (by omega),Lg (by omega)]
theorem JA(a b:Rd)(w:Ba):As Aq 207 #[.agg a.gcells,.agg b.gcells] w fun e w'=>e=Am (O U (zJ a.gl b.gl))/\∃W0 n,w'=World.drewN W0 n/\W0=(w.alloc (Ai a.gcells 90)).alloc (Ai b.gcells 90):=by
 have HQ:=zH (fun w=>eql_graph a b w);have H0:=zH (@gl_zero a b);have HS:Aw (a.gl=b.gl->zJ a.gl b.gl=0):=fun h=>by rw[h];exact xZ _
 obtain⟨E,hE⟩:=Ki (zJ a.gl b.gl);rw[hE] at H0 HS ⊢;have mM:=zH (fun k hk=>zh (yU (zy w (Ai a.gcells 90)) (Ai b.gcells 90)) (1+k) (vB a k hk));have cI:=zH (fun k hk=>zh (zy (w.alloc (Ai a.gcells 90)) (Ai b.gcells 90)) (1+k) (vB b k hk));rw[Nk] at cI;have HX:Aw (∃W0,W0=(w.alloc (Ai a.gcells 90)).alloc (Ai b.gcells 90)):=⟨_,rfl⟩;unfold Rd.gcells at HQ mM cI HX ⊢
 by_cases he:a.gl=b.gl
 . have hq:∀w,_:=fun w=>HQ.out w
   rw[Lm he] at hq;have hR:=zH (HS.out he);go_enter func207,ntmps207;go_wp2_with fail;go_ret;exact⟨zm hR.out.symm,_,0,rfl,rfl⟩
 have hq:∀w,_:=fun w=>HQ.out w
 rw[Lj he] at hq;clear HQ HS he;have HN:=zH (fun w=>Yd a.n b.n w);obtain⟨cn,IG⟩:=Ki (jK a.n b.n);have hcz:Aw (cn=0↔a.n=b.n):=by rw[<-IG];exact⟨cmpI_zero,fun h=>by rw[h];exact cmpI_self _⟩
 rw[IG] at H0 HN;clear IG
 by_cases hn:a.n=b.n
 . have pB:cn=0:=hcz.out.2 hn
   subst pB;have HE:=zH (H0.out.trans (Lg (by simp)));have e0:(a.n != b.n)=AC:=by simpa using hn
   clear H0 HN hcz hn;go_enter func207,ntmps207;go_wp2_with fail;obtain⟨W0,dN⟩:=HX.out;rw[<-dN] at mM cI ⊢;clear HX hq e0;have Hb:=zH dN;clear dN
   go_loopw [20] (fun i wr=>∃k n:Nat,k<=5/\i=O U (k:Int)/\Aw (E=zJ (a.gl.drop (k+1)) (b.gl.drop (k+1)))/\wr=W0.drewN n) (fun i _=>5-(Au i).toNat)
   case atStart=>exact⟨0,0,by omega,rfl,HE,rfl⟩
   obtain⟨k,n,hk,rfl,aC,rfl⟩:=hrel;clear HE
   by_cases aa:k<5
   . have c1:=mM.out k aa
     have c2:=cI.out k aa;have hs:=zH (aC.out.trans (gl_step aa));have HC:=zH (fun (p:Nat)=>(Yd (a.h k) (b.h k) (W0.drewN p)));obtain⟨x,hx⟩:=Ki (a.h k);obtain⟨y,hy⟩:=Ki (b.h k);rw[hx] at c1 hs HC;rw[hy] at c2 hs HC;obtain⟨cv,rf⟩:=Ki (jK x y);rw[rf] at hs HC;clear hx hy rf aC
     by_cases hz:cv=0
     . subst hz
       have hR:=zH (hs.out.trans (Lg (by simp)));clear hs;go_wp2_with fail;go_quiet ((go_at_call 195;exact(HC.out _).mono fun e w' h=>⟨h.1,_,h.2.symm⟩));go_wp2_with fail
       go_roundw
       case rel=>exact⟨k+1,_,by omega,by go_num,hR,rfl⟩
       simp[Au];omega
     have hR:=zH (hs.out.trans (Li hz));have e0:(cv != 0)=AA:=by simpa using hz
     clear hs hz;go_wp2_with fail;go_quiet ((go_at_call 195;exact(HC.out _).mono fun e w' h=>⟨h.1,_,h.2.symm⟩));go_wp2_with fail;go_ret;exact⟨zm hR.out.symm,W0,_,by first | rfl | exact(Rr ..),Hb.out⟩
   obtain rfl:k=5:=by omega
   have hR:Aw (E=0):=aC.out;clear aC;go_wp2_with fail;go_ret;exact⟨zm hR.out.symm,W0,_,rfl,Hb.out⟩
 have pB:¬cn=0:=fun h=>hn (hcz.out.1 h)
 have HE:=zH (H0.out.trans (Li pB));have e0:(a.n != b.n)=AA:=by simpa using hn
 go_enter func207,ntmps207;go_wp2_with fail;refine(HN.out _).mono ?_;rintro e w1 ⟨rfl,rfl⟩;go_wp2_with fail;go_ret;exact⟨zm HE.out.symm,_,0,rfl,rfl⟩
theorem gcomp_any(a b:Rd)(w:Ba):As Aq 207 #[.agg a.gcells,.agg b.gcells] w fun e w'=>e=Am (O U (zJ a.gl b.gl))/\Ar w.heap.size w w':=
 (JA a b w).mono fun e w' ⟨h1,W0,n,h2,h3⟩=>⟨h1,by rw[h2,h3];exact zP (kJ w _ _) n⟩
theorem XH(a b:Rd)(w:Ba):As Aq 199 #[.agg a.cells,.agg b.cells] w fun e w'=>e=Am (O U (zJ a.l b.l))/\Ar w.heap.size w w':=by
 have HQ:=zH (fun w=>eql_round a b w);have HN:=zH (fun w=>neq_graph a b w);have HS:=zH (@l_split a b);have HZ:Aw (a=b->zJ a.l b.l=0):=fun h=>by rw[h];exact xZ _
 have HG:=zH (fun w=>gcomp_any a b w);have HF:=zH (fun w=>Yd a.f b.f w);have HGZ:Aw (a.gl=b.gl↔zJ a.gl b.gl=0):=⟨fun h=>by rw[h];exact xZ _,kB⟩;obtain⟨E,hE⟩:=Ki (zJ a.l b.l);rw[hE] at HS HZ ⊢;obtain⟨g,hg⟩:=Ki (zJ a.gl b.gl);rw[hg] at HS HG HGZ;obtain⟨c,hc⟩:=Ki (jK a.f b.f);rw[hc] at HS HF;unfold Rd.gcells at HN HG;unfold Rd.cells at HQ ⊢
 by_cases he:a=b
 . have hq:∀w,_:=fun w=>HQ.out w
   rw[Lm he] at hq;have hR:=zH (HZ.out he);clear HQ HN HS HZ HG HF HGZ he;go_enter func199,ntmps199;go_wp2_with fail;go_ret;exact⟨zm hR.out.symm,kJ w _ _⟩
 have hq:∀w,_:=fun w=>HQ.out w
 rw[Lj he] at hq
 by_cases ia:a.gl=b.gl
 . have hn:∀w,_:=fun w=>HN.out w
   rw[show decide (a.gl≠b.gl)=AC by simpa using ia] at hn;have hR:=zH (HS.out.trans (Lg (by simpa using HGZ.out.1 ia)));go_enter func199,ntmps199;go_wp2_with fail;refine(HF.out _).mono ?_;rintro e w1 ⟨rfl,rfl⟩;go_wp2_with fail;go_ret;exact⟨zm hR.out.symm,kJ w _ _⟩
 have hn:∀w,_:=fun w=>HN.out w
 rw[show decide (a.gl≠b.gl)=AA by simpa using ia] at hn;have hR:=zH (HS.out.trans (Li (fun h=>ia (HGZ.out.2 h))));go_enter func199,ntmps199;go_wp2_with fail;refine(HG.out _).mono ?_;rintro e w1 ⟨rfl,hb⟩;have HB:=zH ((kJ w (Ai #[O U a.n,O U a.h0,O U a.h1,O U a.h2,O U a.h3,O U a.h4,O U a.f] 92) (Ai #[O U b.n,O U b.h0,O U b.h1,O U b.h2,O U b.h3,O U b.h4,O U b.f] 92)).trans (hb.mono (by simp;omega)));go_wp2_with fail;go_ret;exact⟨zm hR.out.symm,HB.out⟩
theorem rgcomp_any(a b:Rd)(w:Ba):As Aq 180 #[.agg a.gcells,.agg b.gcells] w fun e w'=>e=Am (O U (zJ a.gl b.gl))/\Ar w.heap.size w w':=by
 have H0:Aw (zJ a.gl b.gl=if a.n<b.n then -1 else if b.n<a.n then 1 else zJ (a.gl.drop 1) (b.gl.drop 1)):=rfl;obtain⟨E,hE⟩:=Ki (zJ a.gl b.gl);rw[hE] at H0 ⊢;have mM:=zH (fun k hk=>zh (yU (zy w (Ai a.gcells 90)) (Ai b.gcells 90)) (1+k) (vB a k hk));have cI:=zH (fun k hk=>zh (zy (w.alloc (Ai a.gcells 90)) (Ai b.gcells 90)) (1+k) (vB b k hk));rw[Nk] at cI;have HX:Aw (∃W0,W0=(w.alloc (Ai a.gcells 90)).alloc (Ai b.gcells 90)):=⟨_,rfl⟩;unfold Rd.gcells at mM cI HX ⊢;clear hE
 by_cases h1:a.n<b.n
 . have hR:=zH (H0.out.trans (Li h1))
   clear H0 mM cI HX;go_enter func180,ntmps180;go_wp2_with fail;go_ret;exact⟨zm hR.out.symm,kJ w _ _⟩
 by_cases h2:b.n<a.n
 . have hR:=zH (H0.out.trans ((Lg h1).trans (Li h2)))
   clear H0 mM cI HX;go_enter func180,ntmps180;go_wp2_with fail
   all_goals first | (exfalso;omega) | skip
   go_ret;exact⟨zm hR.out.symm,kJ w _ _⟩
 have HE:=zH (H0.out.trans ((Lg h1).trans (Lg h2)));clear H0;go_enter func180,ntmps180;go_wp2_with fail
 all_goals first | (exfalso;omega) | skip
 obtain⟨W0,dN⟩:=HX.out;rw[<-dN] at mM cI ⊢;clear HX;have Hb:=zH (show Ar w.heap.size w W0 by rw[dN];exact kJ w _ _);clear dN
 go_loopw [5] (fun i wr=>∃k n:Nat,k<=5/\i=O U (k:Int)/\Aw (E=zJ (a.gl.drop (k+1)) (b.gl.drop (k+1)))/\wr=W0.drewN n) (fun i _=>5-(Au i).toNat)
 case atStart=>exact⟨0,0,by omega,rfl,HE,rfl⟩
 obtain⟨k,n,hk,rfl,aC,rfl⟩:=hrel;clear HE
 by_cases aa:k<5
 . have c1:=mM.out k aa
   have c2:=cI.out k aa;have hs:E=if a.h k<b.h k then -1 else if b.h k<a.h k then 1 else zJ (a.gl.drop (k+1+1)) (b.gl.drop (k+1+1)):=by rw[aC.out,Z7 aa,Z7 aa,zJ]
   obtain⟨x,hx⟩:=Ki (a.h k);obtain⟨y,hy⟩:=Ki (b.h k);rw[hx] at c1 hs;rw[hy] at c2 hs;have HS:=zH hs;clear hx hy aC hs
   by_cases l1:x<y
   . have hR:=zH (HS.out.trans (Li l1))
     clear HS;go_wp2_with fail;go_quiet (fail);go_wp2_with fail;go_ret;exact⟨zm hR.out.symm,by repeat (first | exact Hb.out | refine zP ?_ _)⟩
   by_cases l2:y<x
   . have hR:=zH (HS.out.trans ((Lg l1).trans (Li l2)))
     clear HS;go_wp2_with fail;go_quiet (fail);go_wp2_with fail;go_quiet (fail);go_wp2_with fail;go_ret;exact⟨zm hR.out.symm,by repeat (first | exact Hb.out | refine zP ?_ _)⟩
   have hR:=zH (HS.out.trans ((Lg l1).trans (Lg l2)));clear HS;go_wp2_with fail;go_quiet (fail);go_wp2_with fail;go_quiet (fail);go_wp2_with fail
   go_roundw
   case rel=>exact⟨k+1,_,by omega,by go_num,hR,rfl⟩
   simp[Au];omega
 obtain rfl:k=5:=by omega
 have hR:Aw (E=0):=aC.out;clear aC;go_wp2_with fail;go_ret;exact⟨zm hR.out.symm,by repeat (first | exact Hb.out | refine zP ?_ _)⟩
theorem Yv(a b:Rd)(w:Ba):As Aq 162 #[.agg a.cells,.agg b.cells] w fun e w'=>e=Am (O U (zJ a.l b.l))/\Ar w.heap.size w w':=by
 have HS:=zH (@l_split a b);have HG:=zH (fun w=>rgcomp_any a b w);have HF:Aw (jK a.f b.f=if a.f<b.f then -1 else if b.f<a.f then 1 else 0):=rfl;obtain⟨E,hE⟩:=Ki (zJ a.l b.l);rw[hE] at HS ⊢;obtain⟨g,hg⟩:=Ki (zJ a.gl b.gl);rw[hg] at HS HG;rw[HF.out] at HS;unfold Rd.gcells at HG;unfold Rd.cells;go_enter func162,ntmps162;go_wp2_with fail;obtain⟨W0,dN,b0,b1,aX,ce⟩:=yV w #[O U a.n,O U a.h0,O U a.h1,O U a.h2,O U a.h3,O U a.h4,O U a.f] #[O U b.n,O U b.h0,O U b.h1,O U b.h2,O U b.h3,O U b.h4,O U b.f] 92 92;rw[dN];refine(HG.out W0).mono ?_;rintro e w1 ⟨rfl,aq⟩;have HB:=zH (Lc ce aq);have d0:=Lb aq (by omega) b0;have d1:=Lb aq (by omega) b1;have q6:=zh d0 6 rfl;have p6:=zh d1 6 rfl
 by_cases h0:g=0
 . subst h0
   have hR:=zH (HS.out.trans (Lg (by simp)))
   by_cases l1:a.f<b.f
   . have hR:=zH (hR.out.trans (Li l1))
     go_wp2_with fail;go_ret;exact⟨zm hR.out.symm,HB.out⟩
   by_cases l2:b.f<a.f
   . have hR:=zH (hR.out.trans ((Lg l1).trans (Li l2)))
     go_wp2_with fail
     all_goals first | (exfalso;omega) | skip
     go_ret;exact⟨zm hR.out.symm,HB.out⟩
   have hR:=zH (hR.out.trans ((Lg l1).trans (Lg l2)));go_wp2_with fail
   all_goals first | (exfalso;omega) | skip
   go_ret;exact⟨zm hR.out.symm,HB.out⟩
 have hR:=zH (HS.out.trans (Li h0));have e0:(g != 0)=AA:=by simpa using h0
 go_wp2_with fail;go_ret;exact⟨zm hR.out.symm,HB.out⟩
end
section
open Go.RowKit
attribute [local go_sem] Oper.semAt_some
def LowA(a:Ad):Prop:=a.sts.length<=17592186044416/\∀l∈a.sts,l.length<=17592186044416
theorem ad_eq{a b:Ad}(h1:a.n=b.n)(h2:a.sts=b.sts):a=b:=by cases a;cases b;simp_all
theorem rsameA_any(a b:Ad)(ha:LowA a)(hb:LowA b)(A B:Bb)(ca cb:Nat)(w:Ba)(hA:SAt w w.heap.size A a.sts)(hB:SAt w w.heap.size B b.sts) :
  As Aq 171 #[Ak #[O U a.n,I A a.sts.length ca],Ak #[O U b.n,I B b.sts.length cb]] w fun e w'=>e=Am (Aj (decide (a=b)))/\Ar w.heap.size w w':=by
 obtain⟨fK,iK⟩:=ha;obtain⟨aq,ag⟩:=hb;have G9:=zH iK;have Ef:=zH ag;obtain⟨w1,ab,d0,d1,aK,dj⟩:=yV w #[O U a.n,I A a.sts.length ca] #[O U b.n,I B b.sts.length cb] 27 27;have HA:=zH ((hA.keep dj).more dj.size);have HB:=zH ((hB.keep dj).more dj.size);have cu:=zH dj;have bK:=zH d0;have cN:=zH d1;have ai:=zH ab;obtain⟨p0,p1,_⟩:=Ka d0;obtain⟨q0,q1,_⟩:=Ka d1;clear ab d0 d1 dj hA hB iK ag;have HT:Aw (a≠b->decide (a=b)=AC):=fun h=>Lj h
 have HU:Aw (a=b->decide (a=b)=AA):=fun h=>Lm h
 obtain⟨r,hr⟩:∃r,decide (a=b)=r:=⟨_,rfl⟩;rw[hr] at HT HU ⊢;clear hr;go_enter func171,ntmps171
 by_cases h1:a.n=b.n
 case neg=>
  have hR:=zH (HT.out (fun h=>h1 (congrArg Ad.n h)));have e0:(a.n != b.n)=AA:=by simpa using h1
  clear HT HU;go_wp2_with fail;rw[ai.out];go_wp2_with fail
  all_goals
   go_ret;exact⟨zn hR.out.symm,cu.out⟩
 case pos=>
 have H3:Aw (a.sts=b.sts->r=AA):=fun h=>HU.out (ad_eq h1 h)
 have H4:Aw (a.sts≠b.sts->r=AC):=fun h=>HT.out (fun e=>h (congrArg Ad.sts e))
 rw[h1] at p0 ai bK ⊢;clear h1 HT HU
 by_cases h3:a.sts.length=b.sts.length
 case neg=>
  have hR:=zH (H4.out (fun h=>h3 (by rw[h])));have e0:((a.sts.length:Int) != (b.sts.length:Int))=AA:=by simp;omega
  have e1:¬((a.sts.length:Int)=(b.sts.length:Int)):=by omega
  clear H3 H4 h3;go_wp2_with fail;rw[ai.out];go_wp2_with fail;go_ret;exact⟨zn hR.out.symm,cu.out⟩
 case pos=>
 have HL:=zH h3;rw[<-h3] at q1 aq ai cN ⊢;clear h3;go_wp2_with fail;rw[ai.out];go_wp2_with fail;clear p0 p1 q0 q1 ai
 go_loopw [5] (fun i wr=>∃k:Nat,k<=a.sts.length/\i=O U (k:Int)/\Aw (a.sts.take k=b.sts.take k)/\Aw (Ar w1.heap.size w1 wr)) (fun i _=>a.sts.length-(Au i).toNat)
 case atStart=>exact⟨0,by omega,rfl,by rw[Aw,L1,L1],Ll _ _⟩
 obtain⟨k,hk,rfl,hp,aL⟩:=hrel;have p1:=zh (La aL.out bK.out) 1 rfl;have q1:=zh (La aL.out cN.out) 1 rfl;have HLy:=HL.out
 by_cases aa:k<a.sts.length
 case neg=>
  obtain rfl:k=a.sts.length:=by omega
  have hR:=zH (H3.out (ku HL.out hp.out));clear H3 H4 hp;go_wp2_with fail;go_ret;exact⟨zn hR.out.symm,Lc cu.out aL.out⟩
 case pos=>
 have lp:k<b.sts.length:=by omega
 obtain⟨ba,oa,A',k1,ea,IM,a0,IA⟩:=(HA.out.keep aL.out).at_ k aa;obtain⟨bb,ob,B',k2,eb,aY,b0,IB⟩:=(HB.out.keep aL.out).at_ k lp;subst ea;subst eb;have lK:=G9.out _ (Ld aa);have mu:=Ef.out _ (Ld lp);have h0:Aw (a.sts[k]=b.sts[k]->a.sts.take (k+1)=b.sts.take (k+1)):=fun he=>xO hp.out aa lp he
 have hN:Aw (a.sts[k]≠b.sts[k]->r=AC):=fun he=>H4.out (fun h=>he (by simp only[h]))
 obtain⟨X,hX⟩:=Ki (a.sts[k]);obtain⟨Y,hY⟩:=Ki (b.sts[k]);rw[hX] at a0 IA lK h0 hN;rw[hY] at b0 IB mu h0 hN
 by_cases hl:X.length=Y.length
 case neg=>
  have hR:=zH (hN.out (fun h=>hl (by rw[h])));have e0:((X.length:Int) != (Y.length:Int))=AA:=by simp;omega
  go_wp2_with fail;go_quiet (fail);go_wp2_with fail;go_ret;exact⟨zn hR.out.symm,zP (Lc cu.out aL.out) _⟩
 case pos=>
 have ic:=zH hl;rw[<-hl] at b0 mu;have hca:Aw (∀W,Ar wr.heap.size wr W->W.cell? ⟨ba,oa+k,Z⟩=J (I A' X.length k1)):=fun W hW=>(hW.cell (p:=⟨ba,_,Z⟩) (LF IM aL.out.size)).trans a0
 have tq:Aw (∀W,Ar wr.heap.size wr W->W.cell? ⟨bb,ob+k,Z⟩=J (I B' X.length k2)):=fun W hW=>(hW.cell (p:=⟨bb,_,Z⟩) (LF aY aL.out.size)).trans b0
 have HIA:=zH (IA.more aL.out.size);have HIB:=zH (IB.more aL.out.size);obtain⟨W0,dN⟩:=Ki wr;rw[dN] at aL hca tq HIA HIB p1 q1 a0 b0 ⊢;have Dc:=zH aL.out.size;go_wp2_with fail;go_quiet (fail);go_wp2_with fail
 go_loopw [6] (fun i wx=>∃j:Nat,j<=X.length/\i=O U (j:Int)/\Aw (X.take j=Y.take j)/\Aw (Ar W0.heap.size W0 wx)) (fun i _=>X.length-(Au i).toNat)
 case atStart=>exact⟨0,by omega,rfl,by rw[Aw,L1,L1],zP (Ll _ _) _⟩
 obtain⟨j,hj,rfl,hq,bk⟩:=hrel;have mW:=aL.out.trans (bk.out.mono Dc.out);have Mj:=zH mW;have p1:=zh (La mW bK.out) 1 rfl;have q1:=zh (La mW cN.out) 1 rfl;have a0:=hca.out _ bk.out;have b0:=tq.out _ bk.out;clear mW
 by_cases cq:j<X.length
 case neg=>
  obtain rfl:j=X.length:=by omega
  have hR:=zH (h0.out (ku ic.out hq.out));clear h0 hN hq H3 H4;go_wp2_with fail
  go_roundw
  case rel=>exact⟨k+1,by omega,by go_num,hR,Mj⟩
  simp[Au];omega
 case pos=>
 have hjy:j<Y.length:=by have:=ic.out;omega
 obtain⟨b3,o3,e3,_,x0,x1,x2,x3,x4,x5,x6,x7⟩:=(HIA.out.keep bk.out).row j cq;obtain⟨b4,o4,e4,_,y0,y1,y2,y3,y4,y5,y6,y7⟩:=(HIB.out.keep bk.out).row j hjy;subst e3;subst e4;have hm:=fun W=>neq_move X[j] Y[j] W
 have g0:Aw (X[j]=Y[j]->X.take (j+1)=Y.take (j+1)):=fun he=>xO hq.out cq hjy he
 have gN:Aw (X[j]≠Y[j]->r=AC):=fun he=>hN.out (fun h=>he (by simp only[h]))
 obtain⟨m,Im⟩:=Ki (X[j]);obtain⟨m',hmy⟩:=Ki (Y[j]);rw[Im] at x0 x1 x2 x3 x4 x5 x6 x7 hm g0 gN;rw[hmy] at y0 y1 y2 y3 y4 y5 y6 y7 hm g0 gN;clear Im hmy hq
 by_cases he:m=m'
 . have hR:=zH (g0.out he)
   rw[Lj (by simpa using he)] at hm;unfold Mv.cells at hm;subst he;clear g0 gN h0 hN H3 H4;go_wp2_with fail;go_quiet (fail);go_wp2_with fail
   go_roundw
   case rel=>exact⟨j+1,by omega,by go_num,hR,zP bk.out _⟩
   simp[Au];omega
 have hR:=zH (gN.out he);rw[Lm (by simpa using he)] at hm;unfold Mv.cells at hm;clear g0 gN h0 hN H3 H4 he;go_wp2_with fail;go_quiet (fail);go_wp2_with fail;go_ret;exact⟨zn hR.out.symm,zP (Lc cu.out Mj.out) _⟩
end
end Go.Proofs.YtjedjoeidcbffaaGreatDoor
namespace Go.Proofs
set_option maxHeartbeats 4000000
open Go.Shelf
def Tryz.lays212_ren:Go.Shelf.Ren:=⟨fun | 212=>82 | 263=>133 | 264=>134 | n=>n,fun | 46=>137 | 51=>191 | 146=>192 | 53=>194 | 148=>195 | n=>n,fun | n=>n⟩
theorem Tryz.lays212:Go.Proofs.Lays.n212 Tryz.prog Tryz.lays212_ren:={
 mixed:=by kernel_rfl
 f212:=Tryz.func82.trans (congrArg some (by kernel_rfl))
 f263:=Tryz.func133.trans (congrArg some (by kernel_rfl))
 f264:=Tryz.func134.trans (congrArg some (by kernel_rfl))
 t46:=Tryz.underlying137
 a46:=Tryz.isAgg137
 z46:=Tryz.sizeOf137
 v46:=Tryz.zeroValue137
 t51:=Tryz.underlying191
 a51:=Tryz.isAgg191
 z51:=Tryz.sizeOf191
 v51:=Tryz.zeroValue191
 t53:=Tryz.underlying194
 a53:=Tryz.isAgg194
 z53:=Tryz.sizeOf194
 v53:=Tryz.zeroValue194
 t146:=Tryz.underlying192
 a146:=Tryz.isAgg192
 z146:=Tryz.sizeOf192
 v146:=Tryz.zeroValue192
 t148:=Tryz.underlying195
 a148:=Tryz.isAgg195
 z148:=Tryz.sizeOf195
 v148:=Tryz.zeroValue195 }
open Go.RowKit Go.Lib in
/-- math/bits.Mul: "Mul returns the full-width product of x and y": on a machine of 64 bits: Mul64's. (LAID: no walk: one application.) -/
theorem Tryz.bits_Mul (x y:Nat) (hx:x<18446744073709551616) (hy:y<18446744073709551616) (w:World) :
  Calls Tryz.prog 82 #[.int .u64 x,.int .u64 y] w fun e w'=>e=.returned (.tuple #[.int .u64 ((x*y / 18446744073709551616:Nat):Int),.int .u64 ((x*y % 18446744073709551616:Nat):Int)])∧w'=w:=Any.bits_Mul Tryz.lays212 x y hx hy w
def Tryz.lays111_ren:Go.Shelf.Ren:=⟨fun | 111=>23 | n=>n,fun | 28=>36 | 3=>3 | 4=>4 | 0=>0 | n=>n,fun | n=>n⟩
theorem Tryz.lays111:Go.Proofs.Lays.n111 Tryz.prog Tryz.lays111_ren:={
 mixed:=by kernel_rfl
 f111:=Tryz.func23.trans (congrArg some (by kernel_rfl))
 t0:=Tryz.underlying0
 a0:=Tryz.isAgg0
 z0:=Tryz.sizeOf0
 v0:=Tryz.zeroValue0
 t3:=Tryz.underlying3
 a3:=Tryz.isAgg3
 z3:=Tryz.sizeOf3
 v3:=Tryz.zeroValue3
 t4:=Tryz.underlying4
 a4:=Tryz.isAgg4
 z4:=Tryz.sizeOf4
 v4:=Tryz.zeroValue4
 t28:=Tryz.underlying36
 a28:=Tryz.isAgg36
 z28:=Tryz.sizeOf36
 v28:=Tryz.zeroValue36 }
open Go.RowKit Go.Lib in
/-- slices.Equal at []int: "Equal reports whether two slices are equal: the same length and all elements equal. If the lengths are different, Equal returns false. Otherwise, the elements are compared in increasing index order, and the comparison stops at the first unequal pair. Empty and nil slices are considered equal.": IT RETURNS WHETHER THE TWO LISTS OF ELEMENTS ARE ONE; the world is as it was but for the count of draws (the test 's1[i] != s2[i]' has two reads, whose order the model draws, once a round). 'xs', 'ys': what the cells xG the two addresses hold (the spare capacity too, if you have it); 'xs.take n', 'ys.take m': the elements. THE TWO SLICES MAY OVERLAP. (LAID: no walk: one application.) -/
theorem Tryz.slices_Equal_int (b1 o1 n c b2 o2 m d:Nat) (xs ys:List Int) (w:World) (hx:n≤xs.length) (hy:m≤ys.length) (hbig:n≤9223372036854775807) (hbig2:m≤9223372036854775807) (hc1:∀j,j<xs.length→w.cell? ⟨b1,o1+j,none⟩=some (.int .i64 (xs.getD j 0))) (hc2:∀j,j<ys.length→w.cell? ⟨b2,o2+j,none⟩=some (.int .i64 (ys.getD j 0))) :
  Calls Tryz.prog 23 #[.slice (some ⟨b1,o1,none⟩) n c,.slice (some ⟨b2,o2,none⟩) m d] w fun e w'=>e=.returned (.bool (xs.take n==ys.take m))∧∃q,w'=w.drewN q:=Any.slices_Equal_int Tryz.lays111 b1 o1 n c b2 o2 m d xs ys w hx hy hbig hbig2 hc1 hc2
open Go.RowKit Go.Lib in
/-- The same where the first is of length 0 (a nil one too): no cell is asked for. (LAID: no walk: one application.) -/
theorem Tryz.slices_Equal_int_empty (a1 a2:Option Addr) (c m d:Nat) (w:World) (hbig2:m≤9223372036854775807) :
  Calls Tryz.prog 23 #[.slice a1 0 c,.slice a2 m d] w fun e w'=>e=.returned (.bool (decide (m=0)))∧w'=w:=Any.slices_Equal_int_empty Tryz.lays111 a1 a2 c m d w hbig2
open Go.RowKit Go.Lib in
theorem Tryz.slices_Equal_int_lens (a1 a2:Option Addr) (n c m d:Nat) (w:World) (hnm:n≠m) :
  Calls Tryz.prog 23 #[.slice a1 n c,.slice a2 m d] w fun e w'=>e=.returned (.bool false)∧w'=w:=Any.slices_Equal_int_lens Tryz.lays111 a1 a2 n c m d w hnm
end Go.Proofs
namespace Go.Proofs.YtjedjoeidcbffaaGreatDoor
set_option maxRecDepth 100000
set_option maxHeartbeats 4000000
section
open Go.RowKit
def RetIdx(b:Bool)(w:Ba)(e:Ending)(w':Ba):Prop:=∃i:Int,e=Am (O U i)/\decide (0<=i)=b/\∃n,w'=w.drewN n
theorem wW{α:Type}{p:α->Bool}{l:List α}{k:Nat}(hk:k<l.length):(l.drop k).any p=(p l[k]||(l.drop (k+1)).any p):=by
 rw[LB hk];rfl
theorem Ye{α:Type}{p:α->Bool}{l:List α}{k:Nat}(hk:k=l.length):(l.drop k).any p=AC:=by subst hk;rw[NB];rfl
theorem JW(x m:Int)(bm:Nat)(w:Ba)(hb:w.heap[bm]?=J (Ai #[O U m] 3 (0,0))) :
  As Aq 194 #[O U x,Al (J ⟨bm,0,Z⟩)] w fun e w'=>e=Am (Aj (kZ m x))/\w=w':=by
 have H:Aw (kZ m x=decide (x<0\/m<=x)):=rfl;have c0:=zh hb 0 rfl;go_enter func194,ntmps194;go_wp2
 all_goals
  go_ret;refine⟨zn ?_,rfl⟩;rw[H.out];simp
  try omega
theorem vindex_any(A:Bb)(c:Nat)(xs:List Int)(m:Int)(bm:Nat)(hl:xs.length<=17592186044416)(w:Ba)(hA:IAt w w.heap.size A xs)(hb:w.heap[bm]?=J (Ai #[O U m] 3 (0,0))) :
  As Aq 202 #[I A xs.length c,.func (.func 194) #[] #[Al (J ⟨bm,0,Z⟩)]] w (RetIdx (xs.any (kZ m)) w):=by
 have HA:=zH hA;have HV:=zH (fun x=>JW x m bm w hb);obtain⟨r,hr⟩:=Ki (xs.any (kZ m));rw[hr];have HR:Aw (r=(xs.drop 0).any (kZ m)):=by rw[Nc];exact hr.symm
 go_enter func202,ntmps202;go_wp2_with fail
 go_loop [8] (fun i=>∃k:Nat,k<=xs.length/\i=O U (k:Int)/\Aw (r=(xs.drop k).any (kZ m))) (fun i=>xs.length-(Au i).toNat)
 case atStart=>exact⟨0,by omega,rfl,HR⟩
 obtain⟨k,hk,rfl,aC⟩:=hrel
 by_cases aa:k<xs.length
 . obtain⟨b,o,rfl,lz,c1⟩:=HA.out.at_ k aa
   have hs:=wW (p:=kZ m) aa;obtain⟨x,hx⟩:=Ki (xs[k]);rw[hx] at c1 hs;have HS:=zH hs;have HC:=zH (HV.out x);obtain⟨bo,dF⟩:=Ki (kZ m x);rw[dF] at HS HC;go_wp2_with fail;refine HC.out.mono ?_;rintro e w' ⟨rfl,rfl⟩
   cases bo with
   | true=>
    have hR:r=AA:=by rw[aC.out,HS.out];rfl
    subst hR;go_wp2_with fail;go_ret;exact⟨(k:Int),rfl,by simp,0,rfl⟩
   | false=>
    have dk:Aw (r=(xs.drop (k+1)).any (kZ m)):=by rw[aC.out,HS.out];rfl
    go_wp2_with fail
    go_round
    case rel=>exact⟨k+1,by omega,by go_num,dk⟩
    case measure=>simp[Au];omega
 obtain rfl:k=xs.length:=by omega
 have hR:r=AC:=aC.out.trans (Ye rfl);subst hR;go_wp2_with fail;go_ret;exact⟨-1,rfl,by decide,0,rfl⟩
theorem XD(A:Bb)(c:Nat)(xs:List Int)(m:Int)(bm:Nat)(hl:xs.length<=17592186044416)(w:Ba)(hA:IAt w w.heap.size A xs)(hb:w.heap[bm]?=J (Ai #[O U m] 3 (0,0))) :
  As Aq 193 #[I A xs.length c,.func (.func 194) #[] #[Al (J ⟨bm,0,Z⟩)]] w fun e w'=>e=Am (Aj (xs.any (kZ m)))/\∃n,w'=w.drewN n:=by
 have hc:=vindex_any A c xs m bm hl w hA hb;obtain⟨r,hr⟩:=Ki (xs.any (kZ m));rw[hr] at hc ⊢;have HC:=zH hc;go_enter func193,ntmps193;go_wp2_with fail;refine HC.out.mono ?_;rintro e w' ⟨i,rfl,hi,n,rfl⟩;have HI:=zH hi;clear hi HC;go_wp2_with fail;go_ret;exact⟨zn HI.out,_,rfl⟩
theorem um{v:List Int}{n m:Int}(h:(v.length:Int)≠n):zR v n m=15:=Li h
theorem un{v:List Int}{n m:Int}(h:(v.length:Int)=n)(h2:v.any (kZ m)=AA):zR v n m=2:=by unfold zR;rw[Lg (by simpa using h),Li h2]
theorem Yh{v:List Int}{n m:Int}(h:(v.length:Int)=n)(h2:v.any (kZ m)=AC):zR v n m=0:=by unfold zR;rw[Lg (by simpa using h),Lg (by rw[h2];decide)]
theorem Zh(A:Bb)(c:Nat)(xs:List Int)(n m:Int)(hl:xs.length<=17592186044416)(w:Ba)(hA:IAt w w.heap.size A xs) :
  As Aq 182 #[I A xs.length c,O U n,O U m] w fun e w'=>e=Am (O U (zR xs n m))/\Ar w.heap.size w w':=by
 have az:=zH (@um xs n m);have au:=zH (@un xs n m);have aN:=zH (@Yh xs n m);have HC:=zH (XD A c xs m w.heap.size hl (w.alloc (Ai #[O U m] 3)) ((hA.keep (ye w _)).more (by simp)) (zy _ _));obtain⟨r,hr⟩:=Ki (xs.any (kZ m));rw[hr] at au aN HC;obtain⟨E,hE⟩:=Ki (zR xs n m);rw[hE] at az au aN ⊢;go_enter func182,ntmps182
 by_cases hn:(xs.length:Int)=n
 . have e0:((xs.length:Int) != n)=AC:=by simp[hn]
   have HN:=zH hn;go_wp2_with fail;refine HC.out.mono ?_;rintro e w' ⟨rfl,q,rfl⟩
   cases r with
   | true=>
    have HR:=zH (au.out HN.out (by rfl));go_wp2_with fail;go_ret;exact⟨zm HR.out.symm,zP (ye w _) _⟩
   | false=>
    have HR:=zH (aN.out HN.out (by rfl));go_wp2_with fail;go_ret;exact⟨zm HR.out.symm,zP (ye w _) _⟩
 have HR:=zH (az.out hn);have e0:((xs.length:Int) != n)=AA:=by simp[hn]
 go_wp2_with fail;go_ret;exact⟨zm HR.out.symm,ye w _⟩
theorem X0(A:Bb)(c:Nat)(xss:List (List Int))(k:Nat)(hk:k<xss.length)(hl:xss.length<=17592186044416)(aU:∀v∈xss,v.length<=17592186044416)(w:Ba)(hA:LAt w w.heap.size A xss) :
  As Aq 196 #[I A xss.length c,O U k] w fun e w'=>e=Am (Aj (qO (zM xss k) xss[k]))/\∃n,w'=w.drewN n:=by
 cases k with
 | zero=>
  have HR:Aw (qO (zM xss 0) xss[0]=AC):=by rw[Zt];rfl
  go_enter func196,ntmps196;go_wp2_with fail;go_quiet (fail);go_wp2_with fail;go_ret;exact⟨zn HR.out.symm,_,rfl⟩
 | succ j=>
  have hj:j<xss.length:=by omega
  have hb:qO (zM xss (j+1)) xss[j+1]=decide (0<=zJ xss[j] xss[j+1]):=by rw[yM xss j hj];rfl
  obtain⟨b,o,A1,c1,rfl,aq,q1,I1⟩:=hA.at_ (j+1) hk;obtain⟨b2,o2,A2,c2,e2,ag,q2,I2⟩:=hA.at_ j hj
  cases e2
  have l1:=aU _ (Ld hk);have l2:=aU _ (Ld hj);have hc:=fun n=>ws A2 A1 c2 c1 xss[j] xss[j+1] l2 l1 (w.drewN n) I2 I1
  obtain⟨r,hr⟩:=Ki (zJ xss[j] xss[j+1]);rw[hr] at hb hc;have HB:=zH hb;have HC:=zH hc;obtain⟨n1,cU⟩:=Ki (xss[j+1].length);obtain⟨n2,EF⟩:=Ki (xss[j].length);rw[cU,EF] at HC;rw[cU] at q1 l1;rw[EF] at q2 l2;have e1:((j:Int)+1).toNat=j+1:=by omega
  have e3:IntKind.i64.wrap ((j:Int)+1-1)=(j:Int):=by rw[Ls];omega
  have e5:IntKind.i64.wrap ((j:Int)+1)=(j:Int)+1:=by rw[Ls];omega
  go_enter func196,ntmps196;go_wp2_with fail;go_quiet ((go_at_call 183;exact Lf (HC.out _)));go_wp2_with fail;go_ret;exact⟨zn HB.out.symm,_,rfl⟩
theorem Q5{xs ys:List Int}{k:Nat}(hk:k<xs.length)(hl:xs.length=ys.length)(h:xs.take k=ys.take k)(h2:xs[k]=ys[k]'(by omega)):xs.take (k+1)=ys.take (k+1):=by
 rw[Lr hk,Lr (by omega),h,h2]
theorem sequal_any(A B:Bb)(ca cb:Nat)(xs ys:List Int)(hl:xs.length<=17592186044416)(mT:ys.length<=17592186044416)(w:Ba)(hA:IAt w w.heap.size A xs)(hB:IAt w w.heap.size B ys) :
  As Aq 23 #[I A xs.length ca,I B ys.length cb] w fun e w'=>e=Am (Aj (decide (xs=ys)))/\∃n,w'=w.drewN n:=by
 have HA:=zH hA;have HB:=zH hB;go_enter func23,ntmps23
 by_cases he:xs.length=ys.length
 . have e0:((xs.length:Int) != (ys.length:Int))=AC:=by simp[he]
   go_wp2_with fail
   go_loopw [13] (fun i wr=>∃k n:Nat,k<=xs.length/\i=O U (k:Int)/\Aw (xs.take k=ys.take k)/\wr=w.drewN n) (fun i _=>xs.length-(Au i).toNat)
   case atStart=>exact⟨0,0,by omega,rfl,by simp[Aw],rfl⟩
   obtain⟨k,n,hk,rfl,iG,rfl⟩:=hrel
   by_cases aa:k<xs.length
   . obtain⟨b1,o1,rfl,aq,c1⟩:=HA.out.at_ k aa
     obtain⟨b2,o2,rfl,ag,c2⟩:=HB.out.at_ k (by omega);have DH:k<ys.length:=by omega
     obtain⟨x,hx⟩:=Ki (xs[k]);obtain⟨y,hy⟩:=Ki (ys[k]);have HX:=zH hx;have HY:=zH hy;rw[hx] at c1;rw[hy] at c2
     by_cases Hw:x=y
     . subst Hw
       go_wp2_with fail;go_quiet (fail);go_wp2_with fail
       go_roundw
       case rel=>exact⟨k+1,_,by omega,by go_num,Q5 aa he iG.out (HX.out.trans HY.out.symm),rfl⟩
       simp[Au];omega
     go_wp2_with fail;go_quiet (fail);go_wp2_with fail;go_ret;refine⟨zn (Lj ?_).symm,by first | exact⟨_,rfl⟩ | exact drew2 _ _ _⟩;rintro rfl;exact Hw (HX.out.symm.trans HY.out)
   obtain rfl:k=xs.length:=by omega
   go_wp2_with fail;go_ret;refine⟨zn (Lm ?_).symm,_,rfl⟩;have:=iG.out;rwa[LC,he,LC] at this
 have e0:((xs.length:Int) != (ys.length:Int))=AA:=by simp;omega
 go_wp2_with fail;go_ret;exact⟨zn (Lj (fun h=>he (by rw[h]))).symm,0,rfl⟩
theorem has1_any(A B:Bb)(ca cb:Nat)(xs ys:List Int)(hl:xs.length<=17592186044416)(mT:ys.length<=17592186044416)(bv:Nat)(w:Ba)(hA:IAt w w.heap.size A xs)(hB:IAt w w.heap.size B ys)(hb:w.heap[bv]?=J (Ai #[I B ys.length cb] 36 (0,0))) :
  As Aq 205 #[I A xs.length ca,Al (J ⟨bv,0,Z⟩)] w fun e w'=>e=Am (Aj (decide (xs=ys)))/\∃n,w'=w.drewN n:=by
 have c0:=zh hb 0 rfl;have HC:=zH (sequal_any A B ca cb xs ys hl mT w hA hB);obtain⟨r,hr⟩:∃r,decide (xs=ys)=r:=⟨_,rfl⟩;rw[hr] at HC ⊢;go_enter func205,ntmps205;go_wp2_with fail;refine HC.out.mono ?_;rintro e w' ⟨rfl,n,rfl⟩;go_wp2_with fail;go_ret;exact⟨rfl,_,rfl⟩
theorem hindex_any(A:Bb)(c:Nat)(xss:List (List Int))(B:Bb)(cb:Nat)(ys:List Int)(bv:Nat)(hl:xss.length<=17592186044416)(aU:∀v∈xss,v.length<=17592186044416)(mT:ys.length<=17592186044416)(w:Ba)(hA:LAt w w.heap.size A xss)(hB:IAt w w.heap.size B ys)
  (hb:w.heap[bv]?=J (Ai #[I B ys.length cb] 36 (0,0))) :
  As Aq 208 #[I A xss.length c,.func (.func 205) #[] #[Al (J ⟨bv,0,Z⟩)]] w (RetIdx (xss.any fun x=>decide (x=ys)) w):=by
 have HA:=zH hA;have HB:=zH hB;have HBb:=zH hb;have ic:=zH aU;obtain⟨r,hr⟩:∃r,(xss.any fun x=>decide (x=ys))=r:=⟨_,rfl⟩;rw[hr];have HR:Aw (r=(xss.drop 0).any fun x=>decide (x=ys)):=by rw[Nc];exact hr.symm
 go_enter func208,ntmps208;go_wp2_with fail
 go_loopw [8] (fun i wr=>∃k n:Nat,k<=xss.length/\i=O U (k:Int)/\Aw (r=(xss.drop k).any fun x=>decide (x=ys))/\wr=w.drewN n) (fun i _=>xss.length-(Au i).toNat)
 case atStart=>exact⟨0,0,by omega,rfl,HR,rfl⟩
 obtain⟨k,n,hk,rfl,aC,rfl⟩:=hrel
 by_cases aa:k<xss.length
 . obtain⟨b,o,A1,c1,rfl,lz,q1,I1⟩:=HA.out.at_ k aa
   have l1:=ic.out _ (Ld aa);have hs:=wW (p:=fun x=>decide (x=ys)) aa;have HC:=zH (has1_any A1 B c1 cb xss[k] ys l1 mT bv (w.drewN n) I1 HB.out HBb.out);obtain⟨x,hx⟩:=Ki (xss[k]);rw[hx] at q1 hs HC l1;have HS:=zH hs;obtain⟨bo,dF⟩:∃bo,decide (x=ys)=bo:=⟨_,rfl⟩;rw[dF] at HS HC;obtain⟨xl,ed⟩:=Ki x.length;rw[ed] at q1 HC l1;go_wp2_with fail;refine HC.out.mono ?_;rintro e w' ⟨rfl,n2,rfl⟩
   cases bo with
   | true=>
    have hR:r=AA:=by rw[aC.out,HS.out];rfl
    subst hR;go_wp2_with fail;go_ret;exact⟨(k:Int),rfl,by simp,_,rfl⟩
   | false=>
    have dk:Aw (r=(xss.drop (k+1)).any fun x=>decide (x=ys)):=by rw[aC.out,HS.out];rfl
    go_wp2_with fail
    go_roundw
    case rel=>exact⟨k+1,_,by omega,by go_num,dk,rfl⟩
    case measure=>simp[Au];omega
 obtain rfl:k=xss.length:=by omega
 have hR:r=AC:=aC.out.trans (Ye rfl);subst hR;go_wp2_with fail;go_ret;exact⟨-1,rfl,by decide,_,rfl⟩
theorem XO(A:Bb)(c:Nat)(xss:List (List Int))(B:Bb)(cb:Nat)(ys:List Int)(bv:Nat)(hl:xss.length<=17592186044416)(aU:∀v∈xss,v.length<=17592186044416)(mT:ys.length<=17592186044416)(w:Ba)(hA:LAt w w.heap.size A xss)(hB:IAt w w.heap.size B ys)
  (hb:w.heap[bv]?=J (Ai #[I B ys.length cb] 36 (0,0))) :
  As Aq 204 #[I A xss.length c,.func (.func 205) #[] #[Al (J ⟨bv,0,Z⟩)]] w fun e w'=>e=Am (Aj (xss.any fun x=>decide (x=ys)))/\∃n,w'=w.drewN n:=by
 have hc:=hindex_any A c xss B cb ys bv hl aU mT w hA hB hb;obtain⟨r,hr⟩:∃r,(xss.any fun x=>decide (x=ys))=r:=⟨_,rfl⟩;rw[hr] at hc ⊢;have HC:=zH hc;go_enter func204,ntmps204;go_wp2_with fail;refine HC.out.mono ?_;rintro e w' ⟨i,rfl,hi,n,rfl⟩;have HI:=zH hi;clear hi HC;go_wp2_with fail;go_ret;exact⟨zn HI.out,_,rfl⟩
theorem any_mem{xss:List (List Int)}{ys:List Int}:(xss.any fun x=>decide (x=ys))=decide (ys∈xss):=by
 rw[NG,NK,Ng];constructor
 . rintro⟨x,h,e⟩
   rw[<-LR e];exact h
 exact fun h=>⟨ys,h,Lm rfl⟩
theorem thas_any(A:Bb)(c:Nat)(xss:List (List Int))(B:Bb)(cb:Nat)(ys:List Int)(hl:xss.length<=17592186044416)(aU:∀v∈xss,v.length<=17592186044416)(mT:ys.length<=17592186044416)(w:Ba)(hA:LAt w w.heap.size A xss)(hB:IAt w w.heap.size B ys) :
  As Aq 197 #[I A xss.length c,I B ys.length cb] w fun e w'=>e=Am (Aj (decide (ys∈xss)))/\Ar w.heap.size w w':=by
 have HC:=zH (XO A c xss B cb ys w.heap.size hl aU mT (w.alloc (Ai #[I B ys.length cb] 36)) ((hA.keep (ye w _)).more (by simp)) ((hB.keep (ye w _)).more (by simp)) (zy _ _));rw[any_mem] at HC;obtain⟨r,hr⟩:=Ki (decide (ys∈xss));rw[hr] at HC ⊢;go_enter func197,ntmps197;go_wp2_with fail;refine HC.out.mono ?_;rintro e w' ⟨rfl,n,rfl⟩;go_wp2_with fail;go_ret;exact⟨rfl,zP (ye w _) _⟩
theorem tboxes(w:Ba)(c1 c2:Array Ax)(t1 t2:TypeId):∃W0,(w.alloc (Ai c1 t1)).alloc (Ai c2 t2)=W0/\W0.heap[w.heap.size]?=J (Ai c1 t1 (0,0))/\W0.heap[w.heap.size+1]?=J (Ai c2 t2 (0,0))/\w.heap.size+2<=W0.heap.size/\Ar w.heap.size w W0:=
 ⟨_,rfl,yU (zy _ _) _,by have:=zy (w.alloc (Ai c1 t1)) (Ai c2 t2);rwa[Nk] at this,by simp,kJ w _ _⟩
def FewL(l:List (List Int)):Prop:=l.length<=30/\∀v∈l,v.length<=10
def FewC(c:Cs):Prop:=c.inp.length<=10/\FewL c.out/\FewL c.calm
def FewT(t:Tk):Prop:=t.cases.length<=30/\∀c∈t.cases,FewC c
theorem ZJ{n m:Int}{c:Cs}(h:c.out.length<1):jt n m c=5:=Li (.inl h)
theorem Xs{n m:Int}{c:Cs}(h:1<=c.out.length)(h1:c.out.length<=30)(h2:kV (fun v=>zR v n m) c.out≠0):jt n m c=kV (fun v=>zR v n m) c.out:=by unfold jt;rw[Lg (by omega),Li h2]
theorem ZK{n m:Int}{c:Cs}(h:1<=c.out.length)(h1:c.out.length<=30)(h2:kV (fun v=>zR v n m) c.out=0):jt n m c=kV (kD c.out) c.calm:=by unfold jt;rw[Lg (by omega),Lg (by simpa using h2)]
theorem Q2(n ins m:Int)(cs:Ax)(A0 A1 A2:Bb)(k0 k1 k2:Nat)(x:Cs)(hf:FewC x)(w:Ba)(h1:LAt w w.heap.size A1 x.out)(h2:LAt w w.heap.size A2 x.calm) :
  As Aq 184 #[Ak #[O U n,O U ins,O U m,cs],Ak #[I A0 x.inp.length k0,I A1 x.out.length k1,I A2 x.calm.length k2]] w fun e w'=>e=Am (O U (jt n m x))/\Ar w.heap.size w w':=by
 obtain⟨hf0,⟨ly,ny⟩,hf3,hf4⟩:=hf;have mq:=zH ny;have Dh:=zH hf4;have H1:=zH h1;have H2:=zH h2;have az:=zH (@ZJ n m x);have au:=zH (@Xs n m x);have aN:=zH (@ZK n m x);obtain⟨E,hE⟩:=Ki (jt n m x);rw[hE] at az au aN ⊢;obtain⟨xi,xo,xc⟩:=x;dsimp only at hf0 ly hf3 mq Dh H1 H2 az au aN ⊢
 by_cases hz:xo.length<1
 . have HR:=zH (az.out hz)
   go_enter func184,ntmps184;go_wp2_with fail
   all_goals first | (exfalso;omega) | skip
   go_ret;exact⟨zm HR.out.symm,kJ w _ _⟩
 have cO:¬((xo.length:Int)<1):=by omega
 have au:=zH (au.out (by omega) (by omega));have aN:=zH (aN.out (by omega) (by omega));go_enter func184,ntmps184;go_wp2_with fail
 all_goals first | (exfalso;omega) | skip
 obtain⟨W0,dN,b0,b1,aX,ce⟩:=tboxes w #[O U n,O U ins,O U m,cs] #[I A0 xi.length k0,I A1 xo.length k1,I A2 xc.length k2] 24 87;rw[dN];have iZ:=zH ce;have sP:=zH b0;have G':=zH b1;clear dN ce b0 b1;obtain⟨F,hF⟩:∃F,kV (fun v=>zR v n m) xo=F:=⟨_,rfl⟩;have HF:Aw (F=xf (fun v=>zR v n m) xo 0):=by rw[qx];exact hF.symm
 rw[hF] at au aN;clear hF
 go_loopw [23] (fun i wr=>∃k:Nat,k<=xo.length/\i=O U (k:Int)/\Aw (F=xf (fun v=>zR v n m) xo k)/\Ar W0.heap.size W0 wr) (fun i _=>xo.length-(Au i).toNat)
 case atStart=>exact⟨0,by omega,rfl,HF,Ll _ _⟩
 obtain⟨k,hk,rfl,aC,aL⟩:=hrel;clear HF;have dE:=zH (Lc iZ.out aL);have d0:=Lb aL (by omega) sP.out;have d1:=Lb aL (by omega) G'.out;have q0:=zh d0 0 rfl;have q2:=zh d0 2 rfl;have q3:=zh d1 1 rfl;have q4:=zh d1 2 rfl;have HW:=zH aL
 by_cases aa:k<xo.length
 . have HL:=zH (H1.out.keep dE.out)
   obtain⟨b,o,A3,k3,rfl,hb,c3,I3⟩:=HL.out.at_ k aa;have l3:=mq.out _ (Ld aa);have aT:=zH (@qU (fun v=>zR v n m) xo k aa);have cm:=zH (@qe (fun v=>zR v n m) xo k aa);have bh:=zH (@kQ (fun v=>zR v n m) xo k aa);have HV:=zH (fun (w':Ba) (h:IAt w' w'.heap.size A3 xo[k])=>Zh A3 k3 xo[k] n m (by omega) w' h);have HU:=zH (fun (w':Ba) (h:LAt w' w'.heap.size (J ⟨b,o,Z⟩) xo)=>X0 (J ⟨b,o,Z⟩) k1 xo k aa (by omega) (fun v hv=>by have:=mq.out v hv;omega) w' h);obtain⟨v,hv⟩:=Ki (xo[k]);obtain⟨bo,dF⟩:=Ki (qO (zM xo k) xo[k]);rw[dF] at cm bh HU;rw[hv] at c3 I3 l3 aT cm bh HV;obtain⟨ev,cW⟩:=Ki (zR v n m);rw[cW] at aT cm bh HV;obtain⟨vl,dI⟩:=Ki v.length;rw[dI] at c3 l3 HV;have HI:=zH I3;clear hv dF cW dI I3 aL d0 d1;go_wp2_with fail;refine(HV.out _ ((HI.out.more (by have:=dE.out.size;omega)))).mono ?_;rintro e w1 ⟨rfl,aq⟩;have iY:=zH (Lc dE.out aq);have ai:=zH (Lc HW.out aq);have d0:=Lb ai.out (by omega) sP.out;have d1:=Lb ai.out (by omega) G'.out;have q0:=zh d0 0 rfl;have q2:=zh d0 2 rfl;have q3:=zh d1 1 rfl;have q4:=zh d1 2 rfl;clear aq d0 d1
   by_cases he:ev=0
   . subst he
     have UI:=zH ((H1.out.keep iY.out).more iY.out.size);clear aT;go_wp2_with fail;refine(HU.out _ UI.out).mono ?_;rintro e w2 ⟨rfl,nq,rfl⟩
     cases bo with
     | true=>
      have hR:=zH (aC.out.trans (cm.out (by simp) (by simp)));have HR:=zH ((au.out (by rw[hR.out];decide)).trans hR.out);go_wp2_with fail;go_ret;exact⟨zm HR.out.symm,zP iY.out _⟩
     | false=>
      have hR:=zH (aC.out.trans (bh.out (by simp) (by simp)));go_wp2_with fail
      go_roundw
      case rel=>exact⟨k+1,by omega,by go_num,hR,zP ai.out _⟩
      case measure=>simp[Au];omega
   have hR:=zH (aC.out.trans (aT.out he));have HR:=zH ((au.out (by rw[hR.out];exact he)).trans hR.out);have e0:(ev != 0)=AA:=by simpa using he
   go_wp2_with fail;go_ret;exact⟨zm HR.out.symm,iY.out⟩
 obtain rfl:k=xo.length:=by omega
 have hR:=zH (aC.out.trans qT);have HR:=zH (aN.out hR.out);go_wp2_with fail;obtain⟨W1,eO⟩:∃W1,W1=wr:=⟨_,rfl⟩;rw[<-eO] at dE HW q0 q2 q3 q4 ⊢;have hW1s:=HW.out.size;obtain⟨G,hG⟩:=Ki (kV (kD xo) xc);have HG:Aw (G=xf (kD xo) xc 0):=by rw[qx];exact hG.symm
 rw[hG] at HR;clear hG
 go_loopw [45] (fun i wr=>∃k:Nat,k<=xc.length/\i=O U (k:Int)/\Aw (G=xf (kD xo) xc k)/\Ar W1.heap.size W1 wr) (fun i _=>xc.length-(Au i).toNat)
 case atStart=>exact⟨0,by omega,rfl,HG,Ll _ _⟩
 obtain⟨k,hk,rfl,aC,aL⟩:=hrel;clear HG;have iY:=zH (Lc dE.out aL);have ai:=zH (Lc HW.out aL);have HWl:=zH aL;have d1:=Lb ai.out (by omega) G'.out;have q3:=zh d1 1 rfl;have q4:=zh d1 2 rfl;clear aL
 by_cases aa:k<xc.length
 . have HL:=zH (H2.out.keep iY.out)
   have HL0:=zH ((H1.out.keep iY.out).more iY.out.size);obtain⟨b,o,A3,k3,rfl,hb,c3,I3⟩:=HL.out.at_ k aa;have l3:=Dh.out _ (Ld aa);have aT:=zH (@qU (kD xo) xc k aa);have cm:=zH (@qe (kD xo) xc k aa);have bh:=zH (@kQ (kD xo) xc k aa);have HV:=zH (fun (w':Ba) (h0:LAt w' w'.heap.size A1 xo) (h:IAt w' w'.heap.size A3 xc[k])=>thas_any A1 k1 xo A3 k3 xc[k] (by omega) (fun v hv=>by have:=mq.out v hv;omega) (by omega) w' h0 h);have HU:=zH (fun (w':Ba) (h:LAt w' w'.heap.size (J ⟨b,o,Z⟩) xc)=>X0 (J ⟨b,o,Z⟩) k2 xc k aa (by omega) (fun v hv=>by have:=Dh.out v hv;omega) w' h);have mf:Aw (∀v,kD xo v=if v∈xo then 0 else 6):=fun _=>rfl
   obtain⟨v,hv⟩:=Ki (xc[k]);obtain⟨bo,dF⟩:=Ki (qO (zM xc k) xc[k]);rw[dF] at cm bh HU;rw[hv] at c3 I3 l3 aT cm bh HV;have mf:=zH (mf.out v);obtain⟨ev,cW⟩:=Ki (kD xo v);rw[cW] at aT cm bh mf;obtain⟨vl,dI⟩:=Ki v.length;rw[dI] at c3 l3 HV;have HI:=zH I3;clear hv dF cW dI I3
   by_cases hm:v∈xo
   . have he:ev=0:=mf.out.trans (Li hm)
     subst he;rw[Lm hm] at HV;clear aT hm mf;go_wp2_with fail;refine(HV.out _ HL0.out ((HI.out.more (by have:=iY.out.size;omega)))).mono ?_;rintro e w1 ⟨rfl,aq⟩;have mr:=zH (Lc iY.out aq);have KR:=zH (Lc ai.out aq);have d1:=Lb KR.out (by omega) G'.out;have q3:=zh d1 1 rfl;have q4:=zh d1 2 rfl;have UI:=zH ((H2.out.keep mr.out).more mr.out.size);have HWm:=zH (Lc HWl.out aq);clear aq d1;go_wp2_with fail;refine(HU.out _ UI.out).mono ?_;rintro e w2 ⟨rfl,nq,rfl⟩
     cases bo with
     | true=>
      have hR:=zH (aC.out.trans (cm.out (by simp) (by simp)));have dk:=zH (HR.out.trans hR.out);clear aC cm bh HR HV HU;go_wp2_with fail;go_ret;exact⟨zm dk.out.symm,zP mr.out _⟩
     | false=>
      have hR:=zH (aC.out.trans (bh.out (by simp) (by simp)));clear aC cm bh HV HU;go_wp2_with fail
      go_roundw
      case rel=>exact⟨k+1,by omega,by go_num,hR,zP HWm.out _⟩
      case measure=>simp[Au];omega
   have he:ev=6:=mf.out.trans (Lg hm);subst he;rw[Lj hm] at HV;have hR:=zH (aC.out.trans (aT.out (by decide)));have dk:=zH (HR.out.trans hR.out);clear aC cm bh aT hm mf HR HU;go_wp2_with fail;refine(HV.out _ HL0.out ((HI.out.more (by have:=iY.out.size;omega)))).mono ?_;rintro e w1 ⟨rfl,aq⟩;have mr:=zH (Lc iY.out aq);go_wp2_with fail;go_ret;exact⟨zm dk.out.symm,mr.out⟩
 obtain rfl:k=xc.length:=by omega
 have hR:=zH (aC.out.trans qT);have dk:=zH (HR.out.trans hR.out);go_wp2_with fail;go_ret;exact⟨zm dk.out.symm,iY.out⟩
theorem vi(A:Bb)(c:Nat)(xs:List Int)(n m:Int)(hl:xs.length<=17592186044416)(w:Ba)(hA:IAt w w.heap.size A xs) :
  As Aq 158 #[I A xs.length c,O U n,O U m] w fun e w'=>e=Am (O U (zR xs n m))/\w'=w:=by
 have HA:=zH hA;have az:=zH (@um xs n m);have au:=zH (@un xs n m);have aN:=zH (@Yh xs n m);obtain⟨E,hE⟩:=Ki (zR xs n m);rw[hE] at az au aN ⊢
 by_cases hn:(xs.length:Int)=n
 . subst hn
   have au:=zH (au.out rfl);have aN:=zH (aN.out rfl);obtain⟨r,hr⟩:=Ki (xs.any (kZ m));rw[hr] at au aN;have HR:Aw (r=(xs.drop 0).any (kZ m)):=by rw[Nc];exact hr.symm
   go_enter func158,ntmps158;go_wp2_with fail
   go_loop [7] (fun i=>∃k:Nat,k<=xs.length/\i=O U (k:Int)/\Aw (r=(xs.drop k).any (kZ m))) (fun i=>xs.length-(Au i).toNat)
   case atStart=>exact⟨0,by omega,rfl,HR⟩
   obtain⟨k,hk,rfl,aC⟩:=hrel
   by_cases aa:k<xs.length
   . obtain⟨b,o,rfl,lz,c1⟩:=HA.out.at_ k aa
     have hs:=wW (p:=kZ m) aa;have ho:Aw (∀x,kZ m x=decide (x<0\/m<=x)):=fun _=>rfl
     obtain⟨x,hx⟩:=Ki (xs[k]);rw[hx] at c1 hs;rw[ho.out x] at hs;have HS:=zH hs
     by_cases h1:x<0\/m<=x
     . have hR:r=AA:=by rw[aC.out,HS.out,Lm h1];rfl
       subst hR;have HE:=zH (au.out rfl)
       by_cases h2:x<0
       . clear h1
         go_wp2_with fail;go_ret;exact⟨zm HE.out.symm,rfl⟩
       have h3:m<=x:=by omega
       go_wp2_with fail;go_ret;exact⟨zm HE.out.symm,rfl⟩
     have dk:Aw (r=(xs.drop (k+1)).any (kZ m)):=by rw[aC.out,HS.out,Lj h1];rfl
     have h2:¬x<0:=by omega
     have h3:¬m<=x:=by omega
     go_wp2_with fail
     go_round
     case rel=>exact⟨k+1,by omega,by go_num,dk⟩
     simp[Au];omega
   obtain rfl:k=xs.length:=by omega
   have hR:r=AC:=aC.out.trans (Ye rfl);subst hR;have HE:=zH (aN.out rfl);go_wp2_with fail;go_ret;exact⟨zm HE.out.symm,rfl⟩
 have HR:=zH (az.out hn);have e0:((xs.length:Int) != n)=AA:=by simp[hn]
 go_enter func158,ntmps158;go_wp2_with fail;go_ret;exact⟨zm HR.out.symm,rfl⟩
theorem rhas_any(A:Bb)(c:Nat)(xss:List (List Int))(B:Bb)(cb:Nat)(ys:List Int)(hl:xss.length<=17592186044416)(aU:∀v∈xss,v.length<=17592186044416)(mT:ys.length<=17592186044416)(w:Ba)(hA:LAt w w.heap.size A xss)(hB:IAt w w.heap.size B ys) :
  As Aq 160 #[I A xss.length c,I B ys.length cb] w fun e w'=>e=Am (Aj (decide (ys∈xss)))/\∃n,w'=w.drewN n:=by
 have HA:=zH hA;have HB:=zH hB;have ic:=zH aU;rw[<-any_mem];obtain⟨r,hr⟩:∃r,(xss.any fun x=>decide (x=ys))=r:=⟨_,rfl⟩;rw[hr];have HR:Aw (r=(xss.drop 0).any fun x=>decide (x=ys)):=by rw[Nc];exact hr.symm
 go_enter func160,ntmps160;go_wp2_with fail
 go_loopw [5] (fun i wr=>∃k n:Nat,k<=xss.length/\i=O U (k:Int)/\Aw (r=(xss.drop k).any fun x=>decide (x=ys))/\wr=w.drewN n) (fun i _=>xss.length-(Au i).toNat)
 case atStart=>exact⟨0,0,by omega,rfl,HR,rfl⟩
 obtain⟨k,n,hk,rfl,aC,rfl⟩:=hrel
 by_cases aa:k<xss.length
 . obtain⟨b,o,A1,c1,rfl,lz,q1,I1⟩:=HA.out.at_ k aa
   have l1:=ic.out _ (Ld aa);have hs:=wW (p:=fun x=>decide (x=ys)) aa;have HC:=zH (xY A1 B c1 cb xss[k] ys l1 mT (w.drewN n) I1 HB.out);obtain⟨x,hx⟩:=Ki (xss[k]);rw[hx] at q1 hs HC l1;have HS:=zH hs;have hz:Aw (zJ x ys=0->x=ys):=kB;have dP:Aw (x=ys->zJ x ys=0):=fun h=>by rw[h];exact xZ _
   obtain⟨bo,dF⟩:=Ki (zJ x ys);rw[dF] at hz HC dP;obtain⟨xl,ed⟩:=Ki x.length;rw[ed] at q1 HC l1;go_wp2_with fail;refine HC.out.mono ?_;rintro e w' ⟨rfl,n2,rfl⟩
   by_cases hb:bo=0
   . have hR:r=AA:=by rw[aC.out,HS.out,Lm (hz.out hb)];rfl
     subst hR;subst hb;go_wp2_with fail;go_ret;exact⟨rfl,_,rfl⟩
   have dk:Aw (r=(xss.drop (k+1)).any fun x=>decide (x=ys)):=by rw[aC.out,HS.out,Lj (fun h=>hb (dP.out h))];rfl
   have e0:(bo==0)=AC:=by simpa using hb
   go_wp2_with fail
   go_roundw
   case rel=>exact⟨k+1,_,by omega,by go_num,dk,rfl⟩
   simp[Au];omega
 obtain rfl:k=xss.length:=by omega
 have hR:r=AC:=aC.out.trans (Ye rfl);subst hR;go_wp2_with fail;go_ret;exact⟨rfl,_,rfl⟩
def vG(l:List (List Int))(m:Nat):Bool:=decide (l.length<=m)&&l.all fun v=>decide (v.length<=10)
theorem all_step{α:Type}{p:α->Bool}{l:List α}{k:Nat}(hk:k<l.length):(l.drop k).all p=(p l[k]&&(l.drop (k+1)).all p):=by
 rw[LB hk];rfl
theorem all_end{α:Type}{p:α->Bool}{l:List α}{k:Nat}(hk:k=l.length):(l.drop k).all p=AA:=by subst hk;rw[NB];rfl
theorem fewv_any(A:Bb)(c:Nat)(xss:List (List Int))(hl:xss.length<=17592186044416)(aU:∀v∈xss,v.length<=17592186044416)(w:Ba)(hA:LAt w w.heap.size A xss) :
  As Aq 72 #[I A xss.length c,O U 30] w fun e w'=>e=Am (Aj (vG xss 30))/\w'=w:=by
 have HA:=zH hA;have ic:=zH aU;have H:Aw (vG xss 30=(decide (xss.length<=30)&&xss.all fun v=>decide (v.length<=10))):=rfl;obtain⟨r,hr⟩:=Ki (vG xss 30);rw[hr] at H ⊢
 by_cases hz:xss.length<=30
 . have HR:Aw (r=(xss.drop 0).all fun v=>decide (v.length<=10)):=by rw[Nc,H.out,Lm hz,Nt];rfl
   have cO:¬(30<(xss.length:Int)):=by omega
   go_enter func72,ntmps72;go_wp2_with fail
   all_goals first | (exfalso;omega) | skip
   go_loop [5] (fun i=>∃k:Nat,k<=xss.length/\i=O U (k:Int)/\Aw (r=(xss.drop k).all fun v=>decide (v.length<=10))) (fun i=>xss.length-(Au i).toNat)
   case atStart=>exact⟨0,by omega,rfl,HR⟩
   obtain⟨k,hk,rfl,aC⟩:=hrel
   by_cases aa:k<xss.length
   . obtain⟨b,o,A1,c1,rfl,lz,q1,_⟩:=HA.out.at_ k aa
     have l1:=ic.out _ (Ld aa);have HS:=zH (all_step (p:=fun v=>decide (v.length<=10)) aa);obtain⟨xl,ed⟩:=Ki (xss[k].length);rw[ed] at q1 HS l1
     by_cases hx:xl<=10
     . have dk:Aw (r=(xss.drop (k+1)).all fun v=>decide (v.length<=10)):=by rw[aC.out,HS.out,Lm hx];rfl
       go_wp2_with fail
       all_goals first | (exfalso;omega) | skip
       go_round
       case rel=>exact⟨k+1,by omega,by go_num,dk⟩
       simp[Au];omega
     have hR:r=AC:=by rw[aC.out,HS.out,Lj hx];rfl
     subst hR;go_wp2_with fail
     all_goals first | (exfalso;omega) | skip
     go_ret;exact⟨rfl,rfl⟩
   obtain rfl:k=xss.length:=by omega
   have hR:r=AA:=aC.out.trans (all_end rfl);subst hR;go_wp2_with fail;go_ret;exact⟨rfl,rfl⟩
 have hR:r=AC:=by rw[H.out,Lj hz];rfl
 subst hR;go_enter func72,ntmps72;go_wp2_with fail
 all_goals first | (exfalso;omega) | skip
 go_ret;exact⟨rfl,rfl⟩
theorem Zi{t:Tk}(h:t.n<1\/5<t.n\/t.ins<1\/8<t.ins\/t.outs<1\/8<t.outs):xD t=2:=Li h
theorem Yk{t:Tk}(h:¬(t.n<1\/5<t.n\/t.ins<1\/8<t.ins\/t.outs<1\/8<t.outs))(h2:t.cases.length<1):xD t=5:=by unfold xD;rw[Lg h,Li (.inl h2)]
theorem Zj{t:Tk}(h:¬(t.n<1\/5<t.n\/t.ins<1\/8<t.ins\/t.outs<1\/8<t.outs))(h2:1<=t.cases.length)(h3:t.cases.length<=30):xD t=xS t t.cases 0:=by unfold xD;rw[Lg h,Lg (by omega)]
theorem QT{t:Tk}{p:Option Cs}{c:Cs}(h:zR c.inp t.n t.ins≠0):qS t p c=zR c.inp t.n t.ins:=Li h
theorem ZN{t:Tk}{p:Option Cs}{c:Cs}(h:zR c.inp t.n t.ins=0)(h2:qO (p.map Cs.inp) c.inp=AA):qS t p c=14:=by unfold qS;rw[Lg (by simpa using h),Li h2]
theorem QU{t:Tk}{p:Option Cs}{c:Cs}(h:zR c.inp t.n t.ins=0)(h2:qO (p.map Cs.inp) c.inp=AC):qS t p c=jt t.n t.outs c:=by unfold qS;rw[Lg (by simpa using h),Lg (by rw[h2];decide)]
theorem tcheck_any(t:Tk)(A:Bb)(kc:Nat)(hf:FewT t)(w:Ba)(hA:CAt w w.heap.size A t.cases) :
  As Aq 166 #[Ak #[O U t.n,O U t.ins,O U t.outs,I A t.cases.length kc]] w fun e w'=>e=Am (O U (xD t))/\Ar w.heap.size w w':=by
 obtain⟨ly,ny⟩:=hf;have mq:=zH ny;have HA:=zH hA;have az:=zH (@Zi t);have au:=zH (@Yk t);have aN:=zH (@Zj t);obtain⟨E,hE⟩:=Ki (xD t);rw[hE] at az au aN ⊢;obtain⟨cv,rf⟩:=Ki (I A t.cases.length kc)
 by_cases hr:t.n<1\/5<t.n\/t.ins<1\/8<t.ins\/t.outs<1\/8<t.outs
 . have HR:=zH (az.out hr)
   obtain⟨n,ins,outs,cases⟩:=t;dsimp only at hr rf ⊢;rw[rf];have HN:=zH hr;clear az au aN rf hA ny mq HA hE hr;go_enter func166,ntmps166;go_wp2_with fail
   all_goals first | (exfalso;have:=HN.out;omega) | (go_ret;exact⟨zm HR.out.symm,ye w _⟩)
 have r1:¬t.n<1:=by omega
 have r2:¬5<t.n:=by omega
 have r3:¬t.ins<1:=by omega
 have r4:¬8<t.ins:=by omega
 have r5:¬t.outs<1:=by omega
 have r6:¬8<t.outs:=by omega
 have au:=zH (au.out hr);have aN:=zH (aN.out hr);clear hr az rf hE hA ny
 by_cases hz:t.cases.length<1
 . have HR:=zH (au.out hz)
   obtain⟨n,ins,outs,cases⟩:=t;dsimp only at ly r1 r2 r3 r4 r5 r6 hz ⊢;clear au aN mq HA;go_enter func166,ntmps166;go_wp2_with fail
   all_goals first | (exfalso;omega) | skip
   go_ret;exact⟨zm HR.out.symm,ye w _⟩
 have cO:¬((t.cases.length:Int)<1):=by omega
 have aN:=zH (aN.out (by omega) (by omega));obtain⟨n,hn⟩:=Ki t.n;obtain⟨ins,Rb⟩:=Ki t.ins;obtain⟨outs,EC⟩:=Ki t.outs;obtain⟨cs,cK⟩:=Ki t.cases;have HT:Aw (t.n=n/\t.ins=ins/\t.outs=outs):=⟨hn,Rb,EC⟩;rw[hn] at r1 r2 ⊢;rw[Rb] at r3 r4 ⊢;rw[EC] at r5 r6 ⊢;rw[cK] at ly mq HA cO aN ⊢;go_enter func166,ntmps166;go_wp2_with fail
 all_goals first | (exfalso;omega) | skip
 obtain⟨W0,dN,b0,aX,ce⟩:∃W0,w.alloc (Ai #[O U n,O U ins,O U outs,I A cs.length kc] 24)=W0/\W0.heap[w.heap.size]?=J (Ai #[O U n,O U ins,O U outs,I A cs.length kc] 24 (0,0))/\w.heap.size+1<=W0.heap.size/\Ar w.heap.size w W0:=
  ⟨_,rfl,zy _ _,by simp,ye w _⟩
 rw[dN];have iZ:=zH ce;have sP:=zH b0
 go_loopw [46] (fun i wr=>∃k:Nat,k<=cs.length/\i=O U (k:Int)/\Aw (E=xS t cs k)/\Ar W0.heap.size W0 wr) (fun i _=>cs.length-(Au i).toNat)
 case atStart=>exact⟨0,by omega,rfl,aN,Ll _ _⟩
 obtain⟨k,hk,rfl,aC,aL⟩:=hrel;have dE:=zH (Lc iZ.out aL);have HW:=zH aL;have d0:=Lb aL (by omega) sP.out;obtain⟨q0,q1,q2,q3,_⟩:=Kb d0
 by_cases aa:k<cs.length
 . obtain⟨b,o,A0,k0,A1,k1,A2,k2,rfl,lz,c0,c1,c2,I0,I1,I2⟩:=(HA.out.keep dE.out).row k aa
   obtain⟨f0,f1,f2⟩:=mq.out _ (Ld aa);have aT:=zH (@ZM t cs k aa);have bh:=zH (@Xt t cs k aa);obtain⟨e1,e2,e3⟩:=HT.out;have sm:=zH (@QT t (zM cs k) cs[k]);have cm:=zH (@ZN t (zM cs k) cs[k]);have fI:=zH (@QU t (zM cs k) cs[k]);rw[e1,e2] at sm cm fI;rw[e3] at fI;have HV:=zH (fun (w':Ba) (h:IAt w' w'.heap.size A0 cs[k].inp)=>Zh A0 k0 cs[k].inp n ins (by omega) w' h);have HG:=zH (fun (w':Ba) (h1:LAt w' w'.heap.size A1 cs[k].out) (h2:LAt w' w'.heap.size A2 cs[k].calm)=>Q2 n ins outs (I (J ⟨b,o,Z⟩) cs.length kc) A0 A1 A2 k0 k1 k2 cs[k] (mq.out _ (Ld aa)) w' h1 h2);obtain⟨bo,dF⟩:=Ki (qO ((zM cs k).map Cs.inp) cs[k].inp);have cx:=zH dF;rw[dF] at cm fI;obtain⟨ev,cW⟩:=Ki (zR cs[k].inp n ins);rw[cW] at sm cm fI HV;obtain⟨gv,hgv⟩:=Ki (jt n outs cs[k]);rw[hgv] at fI HG;obtain⟨x,hx⟩:=Ki (cs[k]);have HX:=zH hx;rw[hx] at c0 c1 c2 I0 I1 I2 f0 aT bh sm cm fI HV HG;obtain⟨xi,xo,xc⟩:=x;dsimp only at c0 c1 c2 I0 I1 I2 f0 HV HG;have HBw:=dE.out.size;have hws:w.heap.size<wr.heap.size:=by have:=HW.out.size;omega
   have J0:=I0.more HBw;have J1:=I1.more HBw;have J2:=I2.more HBw;go_wp2_with fail
   obtain⟨W1,eO,b1,aK,bP⟩:∃W1,wr.alloc (Ai #[I A0 xi.length k0,I A1 xo.length k1,I A2 xc.length k2] 87)=W1/\W1.heap[wr.heap.size]?=J (Ai #[I A0 xi.length k0,I A1 xo.length k1,I A2 xc.length k2] 87 (0,0))/\wr.heap.size+1<=W1.heap.size/\Ar wr.heap.size wr W1:=
    ⟨_,rfl,zy _ _,by simp,ye wr _⟩
   rw[eO];have K0:=(J0.keep bP).more bP.size;have K1:=zH ((J1.keep bP).more bP.size);have K2:=zH ((J2.keep bP).more bP.size);have BL:=zH (dE.out.trans (bP.mono HBw));have BW:=zH (Lc HW.out bP);have G':=zH b1;refine(HV.out _ K0).mono ?_;rintro e w1 ⟨rfl,aq⟩;have M1:=zH ((K1.out.keep aq).more aq.size);have M2:=zH ((K2.out.keep aq).more aq.size);have li:=zH (Lc BL.out aq);have CE:=zH (Lc BW.out aq);have M0:=zH ((K0.keep aq).more aq.size);have d0:=Lb CE.out (by omega) sP.out;have d1:=Lb aq (by omega) G'.out;obtain⟨q0,q1,q2,q3,_⟩:=Kb d0;obtain⟨p0,p1,p2,_⟩:=Kc d1
   by_cases cW:ev=0
   case neg=>
    have hd:=sm.out cW;have hR:=zH (aC.out.trans ((aT.out (by rw[hd];exact cW)).trans hd));have e0:(ev != 0)=AA:=by simpa using cW
    go_wp2_with fail;go_ret;exact⟨zm hR.out.symm,li.out⟩
   case pos=>
   subst cW
   cases k with
   | zero=>
    obtain rfl:bo=AC:=by rw[<-cx.out];rfl
    go_wp2_with fail;go_quiet (fail);have fI:=zH (fI.out (by simp) (by simp));go_wp2_with fail;refine(HG.out _ (by exact M1.out.keep (zP (Ll _ _) _)) (by exact M2.out.keep (zP (Ll _ _) _))).mono ?_;rintro e w2 ⟨rfl,ag⟩;have Mr:=zH (li.out.trans ((vP ag).mono li.out.size));have VI:=zH (CE.out.trans ((vP ag).mono CE.out.size))
    by_cases hg:gv=0
    . subst hg
      have hR:=zH (aC.out.trans (bh.out fI.out));go_wp2_with fail
      go_roundw
      case rel=>exact⟨_,aa,by go_num,hR,VI.out⟩
      case measure=>simp[Au];omega
    . have hR:=zH (aC.out.trans ((aT.out (by rw[fI.out];exact hg)).trans fI.out))
      have e0:(gv != 0)=AA:=by simpa using hg
      go_wp2_with fail;go_ret;exact⟨zm hR.out.symm,Mr.out⟩
   | succ j=>
    have hj:j<cs.length:=by omega
    have cV:qO ((zM cs (j+1)).map Cs.inp) cs[j+1].inp=decide (0<=zJ cs[j].inp cs[j+1].inp):=by rw[yM cs j hj];rfl
    obtain⟨b',o',CF,tJ,_,_,_,_,e',_,u0,_,_,U0,_,_⟩:=((HA.out.keep li.out).row j hj)
    cases e'
    obtain⟨Bc,_,_⟩:=mq.out _ (Ld hj);rw[HX.out] at cV;have hc:=fun n=>ws CF A0 tJ k0 cs[j].inp xi (by omega) (by omega) (w1.drewN n) (U0.more li.out.size) M0.out
    rw[show qO ((zM cs (j+1)).map Cs.inp) xi=bo by have:=cx.out;rwa[HX.out] at this] at cV;obtain⟨r,hr⟩:=Ki (zJ cs[j].inp xi);rw[hr] at cV hc;have dZ:=zH cV;obtain⟨nl,eN⟩:=Ki (cs[j].inp.length);rw[eN] at u0 hc Bc;have HC:=zH hc;have g1:((j:Int)+1).toNat=j+1:=by omega
    have g3:IntKind.i64.wrap ((j:Int)+1-1)=(j:Int):=by rw[Ls];omega
    have g5:IntKind.i64.wrap ((j:Int)+1)=(j:Int)+1:=by rw[Ls];omega
    clear cV hc hr eN U0 cx HX
    cases bo with
    | true=>
     have g7:decide (0<=r)=AA:=dZ.out.symm;have g8:0<=r:=LR g7;have hd:=cm.out (by simp) (by simp);have hR:=zH (aC.out.trans ((aT.out (by rw[hd];decide)).trans hd));clear aC aT bh cm fI HV HG hd dZ;go_wp2_with fail;go_quiet ((go_at_call 183;exact Lf (HC.out _)));clear HC g1 g3 g5 u0;go_wp2_with fail;go_ret;exact⟨zm hR.out.symm,zP li.out _⟩
    | false=>
     have g7:decide (0<=r)=AC:=dZ.out.symm;have g8:¬0<=r:=N6 g7;clear dZ;go_wp2_with fail;go_quiet ((go_at_call 183;exact Lf (HC.out _)));have fI:=zH (fI.out (by simp) (by simp));go_wp2_with fail;refine(HG.out _ (by exact M1.out.keep (zP (Ll _ _) _)) (by exact M2.out.keep (zP (Ll _ _) _))).mono ?_;rintro e w2 ⟨rfl,ag⟩;have Mr:=zH (li.out.trans ((vP ag).mono li.out.size));have VI:=zH (CE.out.trans ((vP ag).mono CE.out.size))
     by_cases hg:gv=0
     . subst hg
       have hR:=zH (aC.out.trans (bh.out fI.out));go_wp2_with fail
       go_roundw
       case rel=>exact⟨j+1+1,aa,by go_num,hR,VI.out⟩
       case measure=>simp[Au];omega
     . have hR:=zH (aC.out.trans ((aT.out (by rw[fI.out];exact hg)).trans fI.out))
       have e0:(gv != 0)=AA:=by simpa using hg
       go_wp2_with fail;go_ret;exact⟨zm hR.out.symm,Mr.out⟩
 obtain rfl:k=cs.length:=by omega
 have HR:=zH (aC.out.trans ZL);go_wp2_with fail;go_ret;exact⟨zm HR.out.symm,dE.out⟩
end
end Go.Proofs.YtjedjoeidcbffaaGreatDoor
