/- Merged. -/
import Derived.WalkKit
import Derived.WalkSpells
import Derived.WalkLawsBesides
import Derived.Outline
import Derived.Below
import Derived.Laws.OwnMore
import Derived.Lib.Hide
import Derived.Deep.Draws
import Derived.Deep.AppendLies
import Derived.Test.YtkledihebeidlaaGreatDoorRows
import Derived.ProofKit
import Derived.LaidMore
import Derived.OpenShut
import Derived.Carry
import Derived.Deep.Slices
import Derived.Deep.Fields
import Derived.ChangeSame
import Derived.Stop.Joined
import Derived.Test.YtkledihebeidlaaGreatDoorProg
import Derived.Deep.QuietTactic
import Derived.BigQuiet
import Derived.Laws.StructEq
import Derived.Laws.BitsAllLaws
import Derived.Laws.BitsLemmas
import Derived.StillTactics
import Derived.Shelf.Strings.Builder1
import Derived.Shelf.Small.Wraps
import Derived.Shelf.Strings.BuilderF
import Derived.Shelf.Strings.BuilderK
import Derived.Shelf.Strconv.Itoa0
import Derived.Shelf.Strconv.Itoa1
import Derived.Shelf.LaysM
import Derived.Shelf.Strconv.Itoa2
import Derived.Shelf.Strconv.Itoa3
import Derived.Shelf.Bits.Mul64
import Derived.Shelf.Strings.BuilderCap
import Derived.Shelf.Slices.Equal
import Derived.Ground.Names2Prog
import Derived.Shelf.Slices.Clone
import Derived.Shelf.Slices.SearchI
import Derived.Shelf.Slices.Empties2
open Go.Proofs.Tryz
open Go.Value renaming int->O,slice->I,bool->Ah,agg->Ai,pointer->Aj
open Go.IntKind renaming i64->U
open Option renaming none->Z,some->J
open Go.Obj renaming cells->Ag
open Go.Ending renaming returned->Ak
open Go.Proofs.Tryz renaming prog->Al
open Go.RowKit renaming Below->Am,intOf->Ao,Hid->Ap
open Go renaming Calls->An,Value->Aq
open Bool renaming true->Ar,false->As
open List renaming prefix_refl->RP
open Go.Calls renaming quiet_of_same->Ru
namespace Go.Proofs.YtkledihebeidlaaGreatDoor
abbrev Bb:=Option Addr
abbrev Ba:=World
abbrev NY:=@List.range_succ
abbrev Lm:=@if_pos
abbrev Lf:=@Array.getElem?_eq_some_iff
abbrev NJ:=@Go.RowKit.Below.heap_alloc
abbrev Ln:=@Go.RowKit.Below.refl
abbrev Lh:=@Nat.le_refl
abbrev LM:=@List.mem_append
abbrev PC:=@List.mem_cons_of_mem
abbrev PN:=@List.mem_cons_self
abbrev Rq:=@List.mem_append_left
abbrev L7:=@List.append_nil
abbrev Pw:=@Nat.add_assoc
abbrev Ls:=@List.take_succ_eq_append_getElem
abbrev LC:=@List.take_length
abbrev LQ:=@List.take_zero
abbrev LB:=@Go.Proofs.Tryz.underlying3
abbrev RE:=@Go.Proofs.Tryz.underlying43
abbrev NS:=@Nat.mul_one
abbrev Pv:=@if_true
abbrev Px:=@if_false
abbrev Nt:=@Bool.true_and
abbrev Pn:=@Go.run_equalIn_struct
abbrev L9:=@List.map_cons
abbrev NF:=@List.map_nil
abbrev PI:=@and_true
abbrev NH:=@Bool.eq_iff_iff
abbrev N1:=@not_false_eq_true
abbrev Lz:=@List.all_eq_true
abbrev PH:=@beq_iff_eq
abbrev LL:=@Bool.and_eq_true
abbrev Nw:=@decide_eq_true_eq
abbrev PO:=@List.filter_append
abbrev Lk:=@if_neg
abbrev Nj:=@Nat.pow_le_pow_right
abbrev Lq:=@Int.eq_ofNat_of_zero_le
abbrev Lx:=@List.drop_eq_getElem_cons
abbrev Nv:=@List.drop_length
abbrev L8:=@List.drop_zero
abbrev Lr:=@decide_eq_false
abbrev Lo:=@decide_eq_true
abbrev RW:=@decide_true
abbrev PR:=@Go.World.drewN_drewN
abbrev LS:=@Go.World.size_alloc
abbrev Le:=@List.getElem_mem
abbrev LD:=@Nat.lt_of_lt_of_le
abbrev Lw:=@Go.IntKind.wrap_i64
abbrev NC:=@List.any_eq_true
abbrev LA:=@of_decide_eq_true
abbrev NI:=@of_decide_eq_false
set_option maxRecDepth 100000
theorem zH{p:Prop}(h:p):Go.RowKit.Hid p:=h
set_option maxHeartbeats 4000000
section
open Go.RowKit
theorem ZX{p q:Prop}[Decidable p][Decidable q](h:p↔q):decide p=decide q:=by simp[h]
theorem zg{a b:Bool}(h:a=b):Ak (Ah a)=Ak (Ah b):=by rw[h]
theorem zc{k:IntKind}{a b:Int}(h:a=b):Ak (.int k a)=Ak (.int k b):=by rw[h]
structure Vw where
 p:Int
 r:Int
 i:Int
 h0:Int
 h1:Int
 h2:Int
 h3:Int
 h4:Int
deriving DecidableEq,Inhabited
def Vw.h(v:Vw):Nat->Int
 | 0=>v.h0
 | 1=>v.h1
 | 2=>v.h2
 | 3=>v.h3
 | _=>v.h4
def Vw.cells(v:Vw):Array Aq:=#[O U v.p,O U v.r,O U v.i,O U v.h0,O U v.h1,O U v.h2,O U v.h3,O U v.h4]
theorem Vw.cells_h(v:Vw)(q:Nat)(hq:q<5):v.cells[3+q]?=J (O U (v.h q)):=by
 match q,hq with
 | 0,_=>rfl
 | 1,_=>rfl
 | 2,_=>rfl
 | 3,_=>rfl
 | 4,_=>rfl
def VAt(w:Ba)(B:Nat)(A:Bb)(vs:List Vw):Prop:=
 0<vs.length->∃b off,A=J ⟨b,off,Z⟩/\b<B/\∀(i:Nat) (hi:i<vs.length) (k:Nat) (u:Aq),vs[i].cells[k]?=J u->w.cell? ⟨b,off+i*8+k,Z⟩=J u
theorem VAt.keep{w w':Ba}{B:Nat}{A:Bb}{vs:List Vw}(h:VAt w B A vs)(hb:Am B w w'):VAt w' B A vs:=fun h0=>by
 obtain⟨b,off,e,aa,hc⟩:=h h0;exact⟨b,off,e,aa,fun i hi k u hk=>(hb.cell (p:=⟨b,_,Z⟩) aa).trans (hc i hi k u hk)⟩
theorem VAt.more{w:Ba}{B B':Nat}{A:Bb}{vs:List Vw}(h:VAt w B A vs)(hB:B<=B'):VAt w B' A vs:=fun h0=>by
 obtain⟨b,off,e,aa,hc⟩:=h h0;exact⟨b,off,e,by omega,hc⟩
theorem VAt.take{w:Ba}{B:Nat}{A:Bb}{vs:List Vw}(h:VAt w B A vs)(n:Nat):VAt w B A (vs.take n):=fun h0=>by
 obtain⟨b,off,e,aa,hc⟩:=h (by simp at h0;omega);exact⟨b,off,e,aa,fun i hi k u hk=>hc i (by simp at hi;omega) k u (by simpa using hk)⟩
theorem VAt.row{w:Ba}{B:Nat}{A:Bb}{vs:List Vw}(h:VAt w B A vs)(k:Nat)(hk:k<vs.length) :
  ∃b off,A=J ⟨b,off,Z⟩/\b<B/\w.cell? ⟨b,off+k*8,Z⟩=J (O U vs[k].p)/\w.cell? ⟨b,off+k*8+1,Z⟩=J (O U vs[k].r) /\
   w.cell? ⟨b,off+k*8+2,Z⟩=J (O U vs[k].i)/\w.cell? ⟨b,off+k*8+3,Z⟩=J (O U vs[k].h0)/\w.cell? ⟨b,off+k*8+4,Z⟩=J (O U vs[k].h1) /\
   w.cell? ⟨b,off+k*8+5,Z⟩=J (O U vs[k].h2)/\w.cell? ⟨b,off+k*8+6,Z⟩=J (O U vs[k].h3)/\w.cell? ⟨b,off+k*8+7,Z⟩=J (O U vs[k].h4):=by
 obtain⟨b,off,e,aa,hc⟩:=h (by omega);exact⟨b,off,e,aa,hc k hk 0 _ rfl,hc k hk 1 _ rfl,hc k hk 2 _ rfl,hc k hk 3 _ rfl,hc k hk 4 _ rfl,hc k hk 5 _ rfl,hc k hk 6 _ rfl,hc k hk 7 _ rfl⟩
def yH(v:Vw)(k:Nat):List (Int×Int):=if 0<v.r then (List.range k).filterMap fun q=>if 0<=v.h q then J ((q:Int),v.h q) else Z else []
def yL(v:Vw):List (Int×Int):=yH v 5
theorem uf{v:Vw}{k:Nat}(hr:0<v.r)(hq:0<=v.h k):yH v (k+1)=yH v k++[((k:Int),v.h k)]:=by
 simp[yH,hr,List.range_succ,List.filterMap_append,hq]
theorem ww{v:Vw}{k:Nat}(hq:¬(0<v.r/\0<=v.h k)):yH v (k+1)=yH v k:=by
 unfold yH
 by_cases hr:0<v.r
 . have:¬0<=v.h k:=fun h=>hq ⟨hr,h⟩
   simp[hr,List.range_succ,List.filterMap_append,this]
 simp[hr]
theorem wz{v:Vw}{k m:Nat}(h:k<=m):yH v k <+: yH v m:=by
 induction m with
 | zero => obtain rfl : k = 0 := by omega
           exact RP _
 | succ m ih=>
  by_cases e:k=m+1
  . subst e;exact RP _
  . refine(ih (by omega)).trans ?_
    by_cases hq:0<v.r/\0<=v.h m
    . rw[uf hq.1 hq.2];exact List.prefix_append _ _
    . rw[ww hq];exact RP _
theorem qT{v:Vw}{x:Int×Int}:x∈yL v↔0<v.r/\∃q:Nat,q<5/\x=((q:Int),v.h q)/\0<=v.h q:=by
 unfold yL yH
 split
 . rename_i hr
   simp only[List.mem_filterMap,List.mem_range,hr,true_and];constructor
   . rintro⟨q,hq,h⟩
     split at h
     . rename_i h0
       cases h
       exact⟨q,hq,rfl,h0⟩
     cases h
   rintro⟨q,hq,rfl,h0⟩;exact⟨q,hq,by rw[Lm h0]⟩
 rename_i hr;simp[hr]
def IAt(w:Ba)(B:Nat)(A:Bb)(xs:List Int):Prop:=
 0<xs.length->∃b off,A=J ⟨b,off,Z⟩/\b<B/\∀(i:Nat) (hi:i<xs.length),w.cell? ⟨b,off+i,Z⟩=J (O U xs[i])
theorem IAt.keep{w w':Ba}{B:Nat}{A:Bb}{xs:List Int}(h:IAt w B A xs)(hb:Am B w w'):IAt w' B A xs:=fun h0=>by
 obtain⟨b,off,e,aa,hc⟩:=h h0;exact⟨b,off,e,aa,fun i hi=>(hb.cell (p:=⟨b,_,Z⟩) aa).trans (hc i hi)⟩
theorem IAt.more{w:Ba}{B B':Nat}{A:Bb}{xs:List Int}(h:IAt w B A xs)(hB:B<=B'):IAt w B' A xs:=fun h0=>by
 obtain⟨b,off,e,aa,hc⟩:=h h0;exact⟨b,off,e,by omega,hc⟩
theorem IAt.at_{w:Ba}{B:Nat}{A:Bb}{xs:List Int}(h:IAt w B A xs)(k:Nat)(hk:k<xs.length):∃b off,A=J ⟨b,off,Z⟩/\b<B/\w.cell? ⟨b,off+k,Z⟩=J (O U xs[k]):=by
 obtain⟨b,off,e,aa,hc⟩:=h (by omega);exact⟨b,off,e,aa,hc k hk⟩
theorem IAt.nil(w:Ba)(B:Nat)(A:Bb):IAt w B A []:=fun h=>absurd h (by simp)
theorem IAt.of_own{w:Ba}{base:Nat}{e:TypeId}{A:Bb}{n c:Nat}{xs:List Int}(h:w.ownsRow base e 1 (I A n c) n (xs.map (O U))):IAt w w.heap.size A xs:=fun h0=>by
 have hn:xs.length=n:=by simpa using h.1
 obtain⟨g,cap,hv,_,aa⟩:=h.form (by omega);have hA:A=J ⟨g,0,Z⟩:=by injection hv
 subst hA;refine⟨g,0,rfl,aa,fun i hi=>?_⟩;have:=h.cells (g:=g) rfl i (O U xs[i]) (by simp[hi]);rw[show(⟨g,0,Z⟩:Addr).add i=⟨g,0+i,Z⟩ from by unfold Addr.add;split<;>simp_all] at this;exact this
theorem za{w:Ba}{g:Nat}{t:TypeId}{cs:Array Aq}(h:w.heap[g]?=J (Ag cs t (0,0)))(i:Nat){u:Aq}(hu:cs[i]?=J u):w.cell? ⟨g,i,Z⟩=J u:=by
 rw[cell_of_row w g i cs t (0,0) h];exact hu
theorem Ka{w:Ba}{b:Nat}{v0 v1:Aq}{l:List Aq}{t:TypeId}(h:w.heap[b]?=J (Ag ⟨v0::v1::l⟩ t (0,0))):w.cell? ⟨b,0,Z⟩=J v0/\w.cell? ⟨b,1,Z⟩=J v1/\True:=⟨za h 0 rfl,za h 1 rfl,trivial⟩
theorem Kb{w:Ba}{b:Nat}{v0 v1 v2 v3:Aq}{l:List Aq}{t:TypeId}(h:w.heap[b]?=J (Ag ⟨v0::v1::v2::v3::l⟩ t (0,0))):w.cell? ⟨b,0,Z⟩=J v0/\w.cell? ⟨b,1,Z⟩=J v1/\w.cell? ⟨b,2,Z⟩=J v2/\w.cell? ⟨b,3,Z⟩=J v3/\True:=⟨za h 0 rfl,za h 1 rfl,za h 2 rfl,za h 3 rfl,trivial⟩
theorem Kc{w:Ba}{b:Nat}{v0 v1 v2:Aq}{l:List Aq}{t:TypeId}(h:w.heap[b]?=J (Ag ⟨v0::v1::v2::l⟩ t (0,0))):w.cell? ⟨b,0,Z⟩=J v0/\w.cell? ⟨b,1,Z⟩=J v1/\w.cell? ⟨b,2,Z⟩=J v2/\True:=⟨za h 0 rfl,za h 1 rfl,za h 2 rfl,trivial⟩
theorem Ke{w:Ba}{b:Nat}{v0 v1 v2 v3 v4 v5 v6 v7:Aq}{l:List Aq}{t:TypeId}(h:w.heap[b]?=J (Ag ⟨v0::v1::v2::v3::v4::v5::v6::v7::l⟩ t (0,0))):w.cell? ⟨b,0,Z⟩=J v0/\w.cell? ⟨b,1,Z⟩=J v1/\w.cell? ⟨b,2,Z⟩=J v2/\w.cell? ⟨b,3,Z⟩=J v3/\w.cell? ⟨b,4,Z⟩=J v4/\w.cell? ⟨b,5,Z⟩=J v5/\w.cell? ⟨b,6,Z⟩=J v6/\w.cell? ⟨b,7,Z⟩=J v7/\True:=⟨za h 0 rfl,za h 1 rfl,za h 2 rfl,za h 3 rfl,za h 4 rfl,za h 5 rfl,za h 6 rfl,za h 7 rfl,trivial⟩
theorem Kf{w:Ba}{b:Nat}{v0 v1 v2 v3 v4 v5 v6:Aq}{l:List Aq}{t:TypeId}(h:w.heap[b]?=J (Ag ⟨v0::v1::v2::v3::v4::v5::v6::l⟩ t (0,0))):w.cell? ⟨b,0,Z⟩=J v0/\w.cell? ⟨b,1,Z⟩=J v1/\w.cell? ⟨b,2,Z⟩=J v2/\w.cell? ⟨b,3,Z⟩=J v3/\w.cell? ⟨b,4,Z⟩=J v4/\w.cell? ⟨b,5,Z⟩=J v5/\w.cell? ⟨b,6,Z⟩=J v6/\True:=⟨za h 0 rfl,za h 1 rfl,za h 2 rfl,za h 3 rfl,za h 4 rfl,za h 5 rfl,za h 6 rfl,trivial⟩
theorem Kg{w:Ba}{b:Nat}{v0 v1 v2 v3 v4 v5:Aq}{l:List Aq}{t:TypeId}(h:w.heap[b]?=J (Ag ⟨v0::v1::v2::v3::v4::v5::l⟩ t (0,0))):w.cell? ⟨b,0,Z⟩=J v0/\w.cell? ⟨b,1,Z⟩=J v1/\w.cell? ⟨b,2,Z⟩=J v2/\w.cell? ⟨b,3,Z⟩=J v3/\w.cell? ⟨b,4,Z⟩=J v4/\w.cell? ⟨b,5,Z⟩=J v5/\True:=⟨za h 0 rfl,za h 1 rfl,za h 2 rfl,za h 3 rfl,za h 4 rfl,za h 5 rfl,trivial⟩
theorem Kh{α:Sort _}(a:α):∃u,a=u:=⟨_,rfl⟩
theorem qe{w:Ba}{b:Nat}{v0 v1 v2 v3 v4 v5 v6 v7 v8 v9:Aq}{l:List Aq}{t:TypeId}(h:w.heap[b]?=J (Ag ⟨v0::v1::v2::v3::v4::v5::v6::v7::v8::v9::l⟩ t (0,0))):w.cell? ⟨b,0,Z⟩=J v0/\w.cell? ⟨b,1,Z⟩=J v1/\w.cell? ⟨b,2,Z⟩=J v2/\w.cell? ⟨b,3,Z⟩=J v3/\w.cell? ⟨b,4,Z⟩=J v4/\w.cell? ⟨b,5,Z⟩=J v5/\w.cell? ⟨b,6,Z⟩=J v6/\w.cell? ⟨b,7,Z⟩=J v7/\w.cell? ⟨b,8,Z⟩=J v8/\w.cell? ⟨b,9,Z⟩=J v9:=
 ⟨za h 0 rfl,za h 1 rfl,za h 2 rfl,za h 3 rfl,za h 4 rfl,za h 5 rfl,za h 6 rfl,za h 7 rfl,za h 8 rfl,za h 9 rfl⟩
theorem zb{w:Ba}{g:Nat}{t:TypeId}{cs:Array Aq}(h:w.heap[g]?=J (Ag cs t (0,0)))(i:Nat):w.frozen? ⟨g,i,Z⟩=As:=by
 simp[World.frozen?,h]
theorem zd{w:Ba}{g:Nat}{o:Obj}(h:w.heap[g]?=J o):g<w.heap.size:=(Lf.1 h).1
theorem La{w w':Ba}{k:Nat}{o:Obj}(h:Am w.heap.size w w')(e:w.heap[k]?=J o):w'.heap[k]?=J o:=(h.block _ (zd e)).trans e
theorem Lb{n k:Nat}{w w':Ba}{x:Option Obj}(h:Am n w w')(o:k<n)(e:w.heap[k]?=x):w'.heap[k]?=x:=(h.block _ o).trans e
theorem Lc{w w1 w2:Ba}(h:Am w.heap.size w w1)(g:Am w1.heap.size w1 w2):Am w.heap.size w w2:=h.trans (g.mono h.size)
theorem ze(w:Ba)(o:Obj):(w.alloc o).heap[w.heap.size]?=J o:=heap_alloc_new w o
theorem zC{w:Ba}{g:Nat}{o:Obj}(h:w.heap[g]?=J o)(o':Obj):(w.alloc o').heap[g]?=J o:=(NJ w o' g (zd h)).trans h
theorem vG{w w':Ba}{g B:Nat}{o:Obj}(h:w.heap[g]?=J o)(hb:Am B w w')(hg:g<B):w'.heap[g]?=J o:=(hb.block g hg).trans h
theorem zw(w:Ba)(a:Obj):Am w.heap.size w (w.alloc a):=(Ln _ _).alloc (Lh _) _
theorem xk(w:Ba)(a b:Obj):Am w.heap.size w ((w.alloc a).alloc b):=(zw w a).alloc (by simp) _
theorem bel3(w:Ba)(a b c:Obj):Am w.heap.size w (((w.alloc a).alloc b).alloc c):=(xk w a b).alloc (by simp;omega) _
theorem wp_one{P:Program}{c:Code}{Q:Exit->Act->Ba->Prop}{a:Act}{w:Ba}{c1:Array Aq}{t1:TypeId}
  (h:∀W0:Ba,W0.heap[w.heap.size]?=J (Ag c1 t1)->W0.heap.size=w.heap.size+1->Am w.heap.size w W0->c.wp P Q a W0):c.wp P Q a (w.alloc (Ag c1 t1)):=
 h _ (ze _ _) (by simp) (zw w _)
theorem gx{B:Nat}{w w':Ba}(h:Am B w.drew w'):Am B w w':=⟨h.os,h.tape,h.output,h.size,h.block⟩
theorem belD{B:Nat}{w w':Ba}{n:Nat}(h:Am B (w.drewN n) w'):Am B w w':=⟨h.os,h.tape,h.output,h.size,h.block⟩
theorem zF{B:Nat}{a w:Ba}(h:Am B a w)(n:Nat):Am B a (w.drewN n):=⟨h.os,h.tape,h.output,h.size,h.block⟩
end
section
open Go.ChangeShapes Go.WideShapes Go.ChangeAt Go.RowKit Go.Deep
section
variable {H:Type} {enc:TypeId×Aq->H} {P:Program}
theorem XL{f:Func}{s:ChangeSpec}{apart fresh oG CD:Bool}{W W':Ba}{args:Array Aq}{v:Aq}{ds gs:List (DataW H)}{before pa pv:List MemPlace}
  (hW:DataW.Whole enc P f.params.toList s.vars apart W args.toList ds gs before)
  (aR:∀(b:Nat) (sp:Nat->Bool) (hd:Bool),DataW.TrodAll enc P W' b sp hd f.resultTypes.toList (v.resultList f.resultTypes.size) (s.fn H (ds++gs)).results [])
  (pM:∀sp:Nat->Bool,(∀p∈before,sp p.block=Ar)->DataW.TrodAll enc P W' 0 sp Ar f.params.toList args.toList (s.fn H (ds++gs)).args pa)
  (eD:∀sp:Nat->Bool,(∀p∈before,sp p.block=Ar)->DataW.TrodVars enc P W' sp s.vars (s.fn H (ds++gs)).vars pv)
  (lh:before=pa++pv) (hb:Am W.heap.size W W')
  (nc:∀(j:Nat) (t:TypeId) (r:Aq),f.resultTypes[j]?=J t->(v.resultList f.resultTypes.size)[j]?=J r->Value.okWide P W' .any 0 t r) :
  s.post enc P f apart fresh oG CD W args v W':=by
 have aa:∀p∈before,p.block<W.heap.size:=fun p hp=>hW.lt p hp
 have Bp:∀p∈before,(fun b=>decide (b<W.heap.size)) p.block=Ar:=fun p hp=>by simpa using aa p hp
 refine⟨ds,gs,before,[],pa,pv,hW,aR _ _ _,pM _ Bp,eD _ Bp,World.keptBut_mono (fun p hp=>⟨hp,?_⟩) (hb.frame (·∈before)),fun _=>?_⟩
 . rw[lh,LM] at hp
   exact Or.inr hp
 obtain⟨_,_,_,_,_,hz,hn⟩:=hW;refine⟨nc,_,_,([]++pa)++pv,⟨[]++pa,pv,trodAll_append (pM _ (fun _ _=>rfl)) (aR _ _ _),eD _ (fun _ _=>rfl),rfl,?_,?_⟩,?_⟩
 . intro b off hp
   have bP:MemPlace.cell b off∈before:=by rw[lh];simpa using hp
   rw[hb.frozen (aa _ bP)];exact hz b off bP
 . intro ha
   have:=hn ha;rw[lh] at this;simpa using this
 intro p hp _;rw[lh];simpa using hp
theorem kY(hl:laidOutB P=Ar){W W':Ba}{sp:Nat->Bool}(hb:Am W.heap.size W W') :
  ∀ {ts:List TypeId} {vs:List Aq} {ds:List (DataW H)} {ps:List MemPlace},(∀t∈ts,P.readableRec t=Ar/\t<P.types.size)->DataW.TrodAll enc P W 0 (fun _=>Ar) Ar ts vs ds ps ->
   (∀x∈ps,x.block<W.heap.size)->(∀x∈ps,sp x.block=Ar)->DataW.TrodAll enc P W' 0 sp Ar ts vs ds ps
 | [],[],[],_,_,h,_,_=>h
 | _::_,_::_,_::_,_,hT,⟨p,q,h1,h2,e⟩,aa,hs=>by
  subst e;refine⟨p,q,?_,kY hl hb (fun t ht=>hT t (PC _ ht)) h2 (fun x hx=>aa x (List.mem_append_right _ hx)) (fun x hx=>hs x (List.mem_append_right _ hx)),rfl⟩;have hh:=hT _ (PN ..);exact WideElems.Trod_stays hl hh.1 hh.2 h1 (fun x hx=>hb.same (aa x (Rq _ hx))) (fun x hx=>hs x (Rq _ hx))
theorem X8{C:Checked}{os:Os}{f:FuncId}{fn:Func}{s:ChangeSpec}{X:Ba->Array Aq->Prop}{tb:TypeId}(cQ:os.Started)
  (hX:∀(w w':Ba) (args:Array Aq),w.heap=w'.heap->X w args->X w' args) (own:ownKnob C.prog.godebug=Z) (rm:C.prog.inits.idxOf? f=Z) (mw:C.prog.funcs[f]?=J fn)
  (nM:∃(w:Ba) (tape:Tape) (i:Input),w.os=os/\(w.forCall tape i).Shaped C.prog/\i.vars=[]/\Input.okWide C.prog (w.forCall tape i) .any w.heap.size f i /\
   ((s.pre enc C.prog fn [] As (w.forCall tape i).memory i.args/\X (w.forCall tape i).memory i.args)/\sizedMet enc C.prog fn (OpenSpec.ofChange s) As (w.forCall tape i).memory i.args)/\({}:Assume).holds C.prog (lone (Frame.enter C.prog f i.args .normal) [] (w.forCall tape i)))
  (aR:fn.resultTypes=#[tb]) (pK:C.prog.underlying tb=J .bool) (hl:laidOutB C.prog=Ar) (Be:∀t∈fn.params.toList,C.prog.readableRec t=Ar/\t<C.prog.types.size) (eD:s.vars=[])
  (hs:∀ds:List (DataW H),ds.length=fn.params.size->s.fn H ds={ results:=[.lit (.bool Ar)],args:=ds })
  (walk:∀(W:Ba) (base:Nat) (args:Array Aq) (ds:List (DataW H)) (ps:List MemPlace),(∀(j:Nat) t v,fn.params[j]?=J t->args[j]?=J v->Value.okWide C.prog W .any base t v) ->
   DataW.TrodAll enc C.prog W 0 (fun _=>Ar) Ar fn.params.toList args.toList ds ps->(DataW.weightsEach C.prog fn.params.toList ds).all (·<=reachBytes)=Ar->(∀x∈ps,x.block<W.heap.size)->X W args ->
   An C.prog f args W fun e W'=>e=Ak (Ah Ar)/\Am W.heap.size W W') :
  ReturnsInHanded {} C os f .any (fun w args=>(s.pre enc C.prog fn [] As w args/\X w args)/\sizedMet enc C.prog fn (OpenSpec.ofChange s) As w args) (s.post enc C.prog fn As Ar As As):=by
 refine returnsInHanded_of_change_and (C:=C) (X:=X) hX own cQ rm mw nM ?_;intro W base args ds gs before AO hW _ bk hL _;have my:=hW;obtain⟨p,q,sE,hV,DC,hfz,hnd⟩:=hW;have hA:DataW.TrodAll enc C.prog W 0 (fun _=>Ar) Ar fn.params.toList args.toList ds p:=sE
 have tz:gs=[]/\q=[]:=by
  rw[eD] at hV;exact trodVars_none hV
 obtain⟨rfl,rfl⟩:=tz
 have aM:∀ {ts:List TypeId} {vs:List Aq} {ds:List (DataW H)} {ps:List MemPlace},DataW.TrodAll enc C.prog W 0 (fun _=>Ar) Ar ts vs ds ps->ds.length=ts.length:=by
  intro ts
  induction ts with
  | nil=>intro vs ds ps h;obtain⟨_,rfl,_⟩:=trodAll_nil h;rfl
  | cons t ts ih=>intro vs ds ps h;obtain⟨_,_,_,_,_,_,_,rfl,_,_,h2⟩:=trodAll_cons h;simp[ih h2]
 have F0:ds.length=fn.params.size:=by rw[aM hA];simp
 have DS:before=p:=by rw[DC,L7]
 subst DS;have aa:∀x∈before,x.block<W.heap.size:=fun x hx=>my.lt x hx
 have nS:(DataW.weightsEach C.prog fn.params.toList ds).all (·<=reachBytes)=Ar:=by
  have e:s.plain.varTypes C.prog=[]:=by simp[ChangeSpec.plain,DataSpec.varTypes,eD]
  rw[e,L7,L7] at bk;exact bk
 refine(walk W base args ds before AO hA nS aa hL).mono fun e W' ⟨he,hb⟩=>?_
 subst he;refine⟨_,rfl,XL (pa:=before) (pv:=[]) my ?_ ?_ ?_ (by rw[L7]) hb ?_⟩
 . intro b sp hd
   rw[L7,hs ds F0,aR];exact trodAll_mk1 (shut_bool pK _)
 . intro sp KB
   rw[L7,hs ds F0];exact kY hl hb Be hA aa KB
 . intro sp KB
   rw[L7,hs ds F0,eD]
   rfl
 exact ok_one aR rfl (okWide_bool_mk pK _)
end
theorem xy:Al.cellsOf 3=1:=by kernel_rfl
theorem cells5:Al.cellsOf 43=5:=by kernel_rfl
theorem X9:laidOutB Al=Ar:=by kernel_rfl
theorem lawOwn:ownKnob Al.godebug=Z:=by kernel_rfl
end
section
open Go.RowKit
structure Rd where
 n:Int
 h0:Int
 h1:Int
 h2:Int
 h3:Int
 h4:Int
 f:Int
deriving DecidableEq,Inhabited
def Rd.h(r:Rd):Nat->Int
 | 0=>r.h0
 | 1=>r.h1
 | 2=>r.h2
 | 3=>r.h3
 | _=>r.h4
def Rd.cells(r:Rd):Array Aq:=#[O U r.n,O U r.h0,O U r.h1,O U r.h2,O U r.h3,O U r.h4,O U r.f]
structure Mv where
 r:Rd
 to:Int
deriving DecidableEq,Inhabited
def Mv.cells(m:Mv):Array Aq:=#[O U m.r.n,O U m.r.h0,O U m.r.h1,O U m.r.h2,O U m.r.h3,O U m.r.h4,O U m.r.f,O U m.to]
structure Cs where
 inp:List Int
 out:List (List Int)
 calm:List (List Int)
deriving DecidableEq,Inhabited
structure Tk where
 n:Int
 ins:Int
 outs:Int
 cases:List Cs
deriving DecidableEq,Inhabited
structure Ad where
 n:Int
 sts:List (List Mv)
deriving DecidableEq,Inhabited
structure Pb where
 t:Tk
 a:Ad
 k:Int
deriving DecidableEq,Inhabited
structure Exn where
 c:Int
 word:List Rd
 views:List (List Int)
deriving DecidableEq,Inhabited
structure Sy where
 p:Pb
 n:Int
 vs:List Vw
 xs:List Exn
deriving DecidableEq,Inhabited
section
variable {w w':Ba} {B B':Nat} {A:Bb}
def LAt(w:Ba)(B:Nat)(A:Bb)(xss:List (List Int)):Prop:=
 0<xss.length->∃b off,A=J ⟨b,off,Z⟩/\b<B/\∀(i:Nat) (hi:i<xss.length),∃A' c,w.cell? ⟨b,off+i,Z⟩=J (I A' xss[i].length c)/\IAt w B A' xss[i]
theorem LAt.keep{xss:List (List Int)}(h:LAt w B A xss)(hb:Am B w w'):LAt w' B A xss:=fun h0=>by
 obtain⟨b,off,e,aa,hc⟩:=h h0;refine⟨b,off,e,aa,fun i hi=>?_⟩;obtain⟨A',c,h1,h2⟩:=hc i hi;exact⟨A',c,(hb.cell (p:=⟨b,_,Z⟩) aa).trans h1,h2.keep hb⟩
theorem LAt.more{xss:List (List Int)}(h:LAt w B A xss)(hB:B<=B'):LAt w B' A xss:=fun h0=>by
 obtain⟨b,off,e,aa,hc⟩:=h h0;refine⟨b,off,e,by omega,fun i hi=>?_⟩;obtain⟨A',c,h1,h2⟩:=hc i hi;exact⟨A',c,h1,h2.more hB⟩
theorem LAt.at_{xss:List (List Int)}(h:LAt w B A xss)(i:Nat)(hi:i<xss.length):∃b off A' c,A=J ⟨b,off,Z⟩/\b<B/\w.cell? ⟨b,off+i,Z⟩=J (I A' xss[i].length c)/\IAt w B A' xss[i]:=by
 obtain⟨b,off,e,aa,hc⟩:=h (by omega);obtain⟨A',c,h1,h2⟩:=hc i hi;exact⟨b,off,A',c,e,aa,h1,h2⟩
theorem LAt.nil(w:Ba)(B:Nat)(A:Bb):LAt w B A []:=fun h=>absurd h (by simp)
def RAt(w:Ba)(B:Nat)(A:Bb)(rs:List Rd):Prop:=
 0<rs.length->∃b off,A=J ⟨b,off,Z⟩/\b<B/\∀(i:Nat) (hi:i<rs.length) (k:Nat) (u:Aq),rs[i].cells[k]?=J u->w.cell? ⟨b,off+i*7+k,Z⟩=J u
theorem RAt.keep{rs:List Rd}(h:RAt w B A rs)(hb:Am B w w'):RAt w' B A rs:=fun h0=>by
 obtain⟨b,off,e,aa,hc⟩:=h h0;exact⟨b,off,e,aa,fun i hi k u hk=>(hb.cell (p:=⟨b,_,Z⟩) aa).trans (hc i hi k u hk)⟩
theorem RAt.more{rs:List Rd}(h:RAt w B A rs)(hB:B<=B'):RAt w B' A rs:=fun h0=>by
 obtain⟨b,off,e,aa,hc⟩:=h h0;exact⟨b,off,e,by omega,hc⟩
theorem RAt.row{rs:List Rd}(h:RAt w B A rs)(k:Nat)(hk:k<rs.length) :
  ∃b off,A=J ⟨b,off,Z⟩/\b<B/\w.cell? ⟨b,off+k*7,Z⟩=J (O U rs[k].n)/\w.cell? ⟨b,off+k*7+1,Z⟩=J (O U rs[k].h0) /\
   w.cell? ⟨b,off+k*7+2,Z⟩=J (O U rs[k].h1)/\w.cell? ⟨b,off+k*7+3,Z⟩=J (O U rs[k].h2)/\w.cell? ⟨b,off+k*7+4,Z⟩=J (O U rs[k].h3) /\
   w.cell? ⟨b,off+k*7+5,Z⟩=J (O U rs[k].h4)/\w.cell? ⟨b,off+k*7+6,Z⟩=J (O U rs[k].f):=by
 obtain⟨b,off,e,aa,hc⟩:=h (by omega);exact⟨b,off,e,aa,hc k hk 0 _ rfl,hc k hk 1 _ rfl,hc k hk 2 _ rfl,hc k hk 3 _ rfl,hc k hk 4 _ rfl,hc k hk 5 _ rfl,hc k hk 6 _ rfl⟩
def MAt(w:Ba)(B:Nat)(A:Bb)(ms:List Mv):Prop:=
 0<ms.length->∃b off,A=J ⟨b,off,Z⟩/\b<B/\∀(i:Nat) (hi:i<ms.length) (k:Nat) (u:Aq),ms[i].cells[k]?=J u->w.cell? ⟨b,off+i*8+k,Z⟩=J u
theorem MAt.keep{ms:List Mv}(h:MAt w B A ms)(hb:Am B w w'):MAt w' B A ms:=fun h0=>by
 obtain⟨b,off,e,aa,hc⟩:=h h0;exact⟨b,off,e,aa,fun i hi k u hk=>(hb.cell (p:=⟨b,_,Z⟩) aa).trans (hc i hi k u hk)⟩
theorem MAt.more{ms:List Mv}(h:MAt w B A ms)(hB:B<=B'):MAt w B' A ms:=fun h0=>by
 obtain⟨b,off,e,aa,hc⟩:=h h0;exact⟨b,off,e,by omega,hc⟩
theorem MAt.row{ms:List Mv}(h:MAt w B A ms)(k:Nat)(hk:k<ms.length) :
  ∃b off,A=J ⟨b,off,Z⟩/\b<B/\w.cell? ⟨b,off+k*8,Z⟩=J (O U ms[k].r.n)/\w.cell? ⟨b,off+k*8+1,Z⟩=J (O U ms[k].r.h0) /\
   w.cell? ⟨b,off+k*8+2,Z⟩=J (O U ms[k].r.h1)/\w.cell? ⟨b,off+k*8+3,Z⟩=J (O U ms[k].r.h2)/\w.cell? ⟨b,off+k*8+4,Z⟩=J (O U ms[k].r.h3) /\
   w.cell? ⟨b,off+k*8+5,Z⟩=J (O U ms[k].r.h4)/\w.cell? ⟨b,off+k*8+6,Z⟩=J (O U ms[k].r.f)/\w.cell? ⟨b,off+k*8+7,Z⟩=J (O U ms[k].to):=by
 obtain⟨b,off,e,aa,hc⟩:=h (by omega);exact⟨b,off,e,aa,hc k hk 0 _ rfl,hc k hk 1 _ rfl,hc k hk 2 _ rfl,hc k hk 3 _ rfl,hc k hk 4 _ rfl,hc k hk 5 _ rfl,hc k hk 6 _ rfl,hc k hk 7 _ rfl⟩
def SAt(w:Ba)(B:Nat)(A:Bb)(xss:List (List Mv)):Prop:=
 0<xss.length->∃b off,A=J ⟨b,off,Z⟩/\b<B/\∀(i:Nat) (hi:i<xss.length),∃A' c,w.cell? ⟨b,off+i,Z⟩=J (I A' xss[i].length c)/\MAt w B A' xss[i]
theorem SAt.keep{xss:List (List Mv)}(h:SAt w B A xss)(hb:Am B w w'):SAt w' B A xss:=fun h0=>by
 obtain⟨b,off,e,aa,hc⟩:=h h0;refine⟨b,off,e,aa,fun i hi=>?_⟩;obtain⟨A',c,h1,h2⟩:=hc i hi;exact⟨A',c,(hb.cell (p:=⟨b,_,Z⟩) aa).trans h1,h2.keep hb⟩
theorem SAt.more{xss:List (List Mv)}(h:SAt w B A xss)(hB:B<=B'):SAt w B' A xss:=fun h0=>by
 obtain⟨b,off,e,aa,hc⟩:=h h0;refine⟨b,off,e,by omega,fun i hi=>?_⟩;obtain⟨A',c,h1,h2⟩:=hc i hi;exact⟨A',c,h1,h2.more hB⟩
theorem SAt.at_{xss:List (List Mv)}(h:SAt w B A xss)(i:Nat)(hi:i<xss.length):∃b off A' c,A=J ⟨b,off,Z⟩/\b<B/\w.cell? ⟨b,off+i,Z⟩=J (I A' xss[i].length c)/\MAt w B A' xss[i]:=by
 obtain⟨b,off,e,aa,hc⟩:=h (by omega);obtain⟨A',c,h1,h2⟩:=hc i hi;exact⟨b,off,A',c,e,aa,h1,h2⟩
theorem SAt.nil(w:Ba)(B:Nat)(A:Bb):SAt w B A []:=fun h=>absurd h (by simp)
def WAt(w:Ba)(B:Nat)(A:Bb)(xss:List (List Rd)):Prop:=
 0<xss.length->∃b off,A=J ⟨b,off,Z⟩/\b<B/\∀(i:Nat) (hi:i<xss.length),∃A' c,w.cell? ⟨b,off+i,Z⟩=J (I A' xss[i].length c)/\RAt w B A' xss[i]
theorem WAt.keep{xss:List (List Rd)}(h:WAt w B A xss)(hb:Am B w w'):WAt w' B A xss:=fun h0=>by
 obtain⟨b,off,e,aa,hc⟩:=h h0;refine⟨b,off,e,aa,fun i hi=>?_⟩;obtain⟨A',c,h1,h2⟩:=hc i hi;exact⟨A',c,(hb.cell (p:=⟨b,_,Z⟩) aa).trans h1,h2.keep hb⟩
theorem WAt.more{xss:List (List Rd)}(h:WAt w B A xss)(hB:B<=B'):WAt w B' A xss:=fun h0=>by
 obtain⟨b,off,e,aa,hc⟩:=h h0;refine⟨b,off,e,by omega,fun i hi=>?_⟩;obtain⟨A',c,h1,h2⟩:=hc i hi;exact⟨A',c,h1,h2.more hB⟩
theorem WAt.at_{xss:List (List Rd)}(h:WAt w B A xss)(i:Nat)(hi:i<xss.length):∃b off A' c,A=J ⟨b,off,Z⟩/\b<B/\w.cell? ⟨b,off+i,Z⟩=J (I A' xss[i].length c)/\RAt w B A' xss[i]:=by
 obtain⟨b,off,e,aa,hc⟩:=h (by omega);obtain⟨A',c,h1,h2⟩:=hc i hi;exact⟨b,off,A',c,e,aa,h1,h2⟩
def CsV(w:Ba)(B:Nat)(v0 v1 v2:Aq)(x:Cs):Prop:=
 (∃A c,v0=I A x.inp.length c/\IAt w B A x.inp)/\(∃A c,v1=I A x.out.length c/\LAt w B A x.out)/\(∃A c,v2=I A x.calm.length c/\LAt w B A x.calm)
theorem CsV.keep{v0 v1 v2:Aq}{x:Cs}(h:CsV w B v0 v1 v2 x)(hb:Am B w w'):CsV w' B v0 v1 v2 x:=by
 obtain⟨⟨A,c,e,h1⟩,⟨A2,c2,e2,h2⟩,⟨A3,c3,e3,h3⟩⟩:=h;exact⟨⟨A,c,e,h1.keep hb⟩,⟨A2,c2,e2,h2.keep hb⟩,⟨A3,c3,e3,h3.keep hb⟩⟩
theorem CsV.more{v0 v1 v2:Aq}{x:Cs}(h:CsV w B v0 v1 v2 x)(hB:B<=B'):CsV w B' v0 v1 v2 x:=by
 obtain⟨⟨A,c,e,h1⟩,⟨A2,c2,e2,h2⟩,⟨A3,c3,e3,h3⟩⟩:=h;exact⟨⟨A,c,e,h1.more hB⟩,⟨A2,c2,e2,h2.more hB⟩,⟨A3,c3,e3,h3.more hB⟩⟩
def CAt(w:Ba)(B:Nat)(A:Bb)(cs:List Cs):Prop:=
 0<cs.length->∃b off,A=J ⟨b,off,Z⟩/\b<B/\∀(i:Nat) (hi:i<cs.length),∃v0 v1 v2,w.cell? ⟨b,off+i*3,Z⟩=J v0/\w.cell? ⟨b,off+i*3+1,Z⟩=J v1/\w.cell? ⟨b,off+i*3+2,Z⟩=J v2/\CsV w B v0 v1 v2 cs[i]
theorem CAt.keep{cs:List Cs}(h:CAt w B A cs)(hb:Am B w w'):CAt w' B A cs:=fun h0=>by
 obtain⟨b,off,e,aa,hc⟩:=h h0;refine⟨b,off,e,aa,fun i hi=>?_⟩;obtain⟨v0,v1,v2,c0,c1,c2,hv⟩:=hc i hi;exact⟨v0,v1,v2,(hb.cell (p:=⟨b,_,Z⟩) aa).trans c0,(hb.cell (p:=⟨b,_,Z⟩) aa).trans c1,(hb.cell (p:=⟨b,_,Z⟩) aa).trans c2,hv.keep hb⟩
theorem CAt.more{cs:List Cs}(h:CAt w B A cs)(hB:B<=B'):CAt w B' A cs:=fun h0=>by
 obtain⟨b,off,e,aa,hc⟩:=h h0;refine⟨b,off,e,by omega,fun i hi=>?_⟩;obtain⟨v0,v1,v2,c0,c1,c2,hv⟩:=hc i hi;exact⟨v0,v1,v2,c0,c1,c2,hv.more hB⟩
theorem CAt.nil(w:Ba)(B:Nat)(A:Bb):CAt w B A []:=fun h=>absurd h (by simp)
theorem CAt.row{cs:List Cs}(h:CAt w B A cs)(i:Nat)(hi:i<cs.length) :
  ∃b off A0 c0 A1 c1 A2 c2,A=J ⟨b,off,Z⟩/\b<B/\w.cell? ⟨b,off+i*3,Z⟩=J (I A0 cs[i].inp.length c0)/\w.cell? ⟨b,off+i*3+1,Z⟩=J (I A1 cs[i].out.length c1)/\w.cell? ⟨b,off+i*3+2,Z⟩=J (I A2 cs[i].calm.length c2) /\
   IAt w B A0 cs[i].inp/\LAt w B A1 cs[i].out/\LAt w B A2 cs[i].calm:=by
 obtain⟨b,off,e,aa,hc⟩:=h (by omega);obtain⟨v0,v1,v2,c0,c1,c2,⟨A0,k0,rfl,h0⟩,⟨A1,k1,rfl,h1⟩,⟨A2,k2,rfl,h2⟩⟩:=hc i hi;exact⟨b,off,A0,k0,A1,k1,A2,k2,e,aa,c0,c1,c2,h0,h1,h2⟩
def XsV(w:Ba)(B:Nat)(v0 v1 v2:Aq)(x:Exn):Prop:=
 v0=O U x.c/\(∃A c,v1=I A x.word.length c/\RAt w B A x.word)/\(∃A c,v2=I A x.views.length c/\LAt w B A x.views)
theorem XsV.keep{v0 v1 v2:Aq}{x:Exn}(h:XsV w B v0 v1 v2 x)(hb:Am B w w'):XsV w' B v0 v1 v2 x:=by
 obtain⟨e,⟨A2,c2,e2,h2⟩,⟨A3,c3,e3,h3⟩⟩:=h;exact⟨e,⟨A2,c2,e2,h2.keep hb⟩,⟨A3,c3,e3,h3.keep hb⟩⟩
theorem XsV.more{v0 v1 v2:Aq}{x:Exn}(h:XsV w B v0 v1 v2 x)(hB:B<=B'):XsV w B' v0 v1 v2 x:=by
 obtain⟨e,⟨A2,c2,e2,h2⟩,⟨A3,c3,e3,h3⟩⟩:=h;exact⟨e,⟨A2,c2,e2,h2.more hB⟩,⟨A3,c3,e3,h3.more hB⟩⟩
def XAt(w:Ba)(B:Nat)(A:Bb)(xs:List Exn):Prop:=
 0<xs.length->∃b off,A=J ⟨b,off,Z⟩/\b<B/\∀(i:Nat) (hi:i<xs.length),∃v0 v1 v2,w.cell? ⟨b,off+i*3,Z⟩=J v0/\w.cell? ⟨b,off+i*3+1,Z⟩=J v1/\w.cell? ⟨b,off+i*3+2,Z⟩=J v2/\XsV w B v0 v1 v2 xs[i]
theorem XAt.keep{xs:List Exn}(h:XAt w B A xs)(hb:Am B w w'):XAt w' B A xs:=fun h0=>by
 obtain⟨b,off,e,aa,hc⟩:=h h0;refine⟨b,off,e,aa,fun i hi=>?_⟩;obtain⟨v0,v1,v2,c0,c1,c2,hv⟩:=hc i hi;exact⟨v0,v1,v2,(hb.cell (p:=⟨b,_,Z⟩) aa).trans c0,(hb.cell (p:=⟨b,_,Z⟩) aa).trans c1,(hb.cell (p:=⟨b,_,Z⟩) aa).trans c2,hv.keep hb⟩
theorem XAt.more{xs:List Exn}(h:XAt w B A xs)(hB:B<=B'):XAt w B' A xs:=fun h0=>by
 obtain⟨b,off,e,aa,hc⟩:=h h0;refine⟨b,off,e,by omega,fun i hi=>?_⟩;obtain⟨v0,v1,v2,c0,c1,c2,hv⟩:=hc i hi;exact⟨v0,v1,v2,c0,c1,c2,hv.more hB⟩
theorem XAt.nil(w:Ba)(B:Nat)(A:Bb):XAt w B A []:=fun h=>absurd h (by simp)
theorem XAt.row{xs:List Exn}(h:XAt w B A xs)(i:Nat)(hi:i<xs.length) :
  ∃b off A1 c1 A2 c2,A=J ⟨b,off,Z⟩/\b<B/\w.cell? ⟨b,off+i*3,Z⟩=J (O U xs[i].c)/\w.cell? ⟨b,off+i*3+1,Z⟩=J (I A1 xs[i].word.length c1)/\w.cell? ⟨b,off+i*3+2,Z⟩=J (I A2 xs[i].views.length c2) /\
   RAt w B A1 xs[i].word/\LAt w B A2 xs[i].views:=by
 obtain⟨b,off,e,aa,hc⟩:=h (by omega);obtain⟨v0,v1,v2,c0,c1,c2,rfl,⟨A1,k1,rfl,h1⟩,⟨A2,k2,rfl,h2⟩⟩:=hc i hi;exact⟨b,off,A1,k1,A2,k2,e,aa,c0,c1,c2,h1,h2⟩
end
end
section
open Go.RowKit
attribute [local go_sem] Oper.semAt_some
theorem vC(w:Ba)(n m:Nat):(w.drewN n).drewN m=w.drewN (n+m):=by unfold World.drewN;simp[Nat.add_assoc]
theorem xp{α:Type}{xs ys:List α}{k:Nat}(h:xs.take k=ys.take k)(h1:k<xs.length)(h2:k<ys.length)(he:xs[k]=ys[k]):xs.take (k+1)=ys.take (k+1):=by
 rw[Ls h1,Ls h2,h,he]
theorem xQ{α:Type}{xs ys:List α}(hl:xs.length=ys.length)(h:xs.take xs.length=ys.take xs.length):xs=ys:=by
 rw[LC] at h
 conv at h=>rhs;rw[hl,LC]
 exact h
theorem gg(A B:Bb)(ca cb:Nat)(xs ys:List Int)(hx:xs.length<=17592186044416)(_hy:ys.length<=17592186044416)(w:Ba)(hA:IAt w w.heap.size A xs)(hB:IAt w w.heap.size B ys) :
  An Al 130 #[I A xs.length ca,I B ys.length cb] w fun e w'=>e=Ak (Ah (decide (xs=ys)))/\∃n,w'=w.drewN n:=by
 have HA:=zH hA;have HB:=zH hB;have HT:Ap (∀b,(xs=ys↔b=Ar)->decide (xs=ys)=b):=fun b h=>by cases b<;>simp_all
 obtain⟨r,hr⟩:∃r,decide (xs=ys)=r:=⟨_,rfl⟩;rw[hr] at HT ⊢;go_enter func130,ntmps130
 by_cases hl:xs.length=ys.length
 case neg=>
  have hR:Ap (r=As):=HT.out As ⟨fun h=>absurd (congrArg List.length h) hl,fun h=>by cases h⟩;have e0:((xs.length:Int) != (ys.length:Int))=Ar:=by simp;omega
  go_wp2_with fail;go_ret;exact⟨zg hR.out.symm,0,rfl⟩
 case pos=>
 have HL:=zH hl;rw[<-hl] at _hy ⊢;go_wp2_with fail
 go_loopw [5] (fun i wr=>∃k n:Nat,k<=xs.length/\i=O U (k:Int)/\Ap (xs.take k=ys.take k)/\Ap (wr=w.drewN n)) (fun i _=>xs.length-(Ao i).toNat)
 case atStart=>exact⟨0,0,by omega,rfl,by rw[Ap,LQ,LQ],rfl⟩
 obtain⟨k,n,hk,rfl,hp,hw⟩:=hrel
 by_cases aa:k<xs.length
 case neg=>
  obtain rfl:k=xs.length:=by omega
  have hR:Ap (r=Ar):=HT.out Ar ⟨fun _=>rfl,fun _=>xQ HL.out hp.out⟩;go_wp2_with fail;go_ret;exact⟨zg hR.out.symm,n,hw.out⟩
 case pos=>
 have dm:k<ys.length:=by have:=HL.out;omega
 obtain⟨ba,oa,ea,_,c1⟩:=HA.out.at_ k aa;obtain⟨bb,ob,eb,_,c2⟩:=HB.out.at_ k dm;subst ea;subst eb;have c1:wr.cell? ⟨ba,oa+k,Z⟩=J (O U xs[k]):=by rw[hw.out];exact c1
 have c2:wr.cell? ⟨bb,ob+k,Z⟩=J (O U ys[k]):=by rw[hw.out];exact c2
 by_cases he:xs[k]=ys[k]
 . have hR:=zH (xp hp.out aa dm he)
   rw[<-he] at c2;obtain⟨u,hu⟩:=Kh (xs[k]);rw[hu] at c1 c2;go_wp2_with fail;go_quiet (fail);go_wp2_with fail
   go_roundw
   case rel=>exact⟨k+1,n+nq,by omega,by go_num,hR,by rw[Ap,hw.out,vC]⟩
   simp[Ao];omega
 have hR:Ap (r=As):=HT.out As ⟨fun h=>absurd (by subst h;rfl) he,fun h=>by cases h⟩;obtain⟨u,hu⟩:=Kh (xs[k]);obtain⟨v,hv⟩:=Kh (ys[k]);rw[hu,hv] at he;rw[hu] at c1;rw[hv] at c2;have e0:(u != v)=Ar:=by simpa using he
 go_wp2_with fail;go_quiet (fail);go_wp2_with fail;go_ret;exact⟨zg hR.out.symm,n+nq,by rw[hw.out,vC]⟩
end
section
open Go.RowKit
theorem zL(xs:Array Aq)(i:Nat)(x:Aq)(h:xs[i]?=J x)(w:Ba):(part 3 xs i).run Al w=.ok x w:=by
 have hi:Al.underlying 3=J (.int U):=LB;unfold part isAgg;simp[go_sem,run_underlying hi,h]
def hE(v u:Vw):Bool:=v.h0==u.h0&&(v.h1==u.h1&&(v.h2==u.h2&&(v.h3==u.h3&&v.h4==u.h4)))
theorem Zg(d:Nat)(v u:Vw)(w:Ba):(Op.equalIn (d+2) 43 (Ai #[O U v.h0,O U v.h1,O U v.h2,O U v.h3,O U v.h4]) (Ai #[O U u.h0,O U u.h1,O U u.h2,O U u.h3,O U u.h4])).run Al w =
  .ok (hE v u) w:=by
 have hu:Al.underlying 43=J (.array 5 3):=RE;have hi:Al.underlying 3=J (.int U):=LB;have hs:(sizeOf 3).run Al w=.ok 1 w:=by kernel_rfl
 have p0:=fun x0 x1 x2 x3 x4=>zL #[x0,x1,x2,x3,x4] 0 x0 rfl w
 have p1:=fun x0 x1 x2 x3 x4=>zL #[x0,x1,x2,x3,x4] 1 x1 rfl w
 have p2:=fun x0 x1 x2 x3 x4=>zL #[x0,x1,x2,x3,x4] 2 x2 rfl w
 have p3:=fun x0 x1 x2 x3 x4=>zL #[x0,x1,x2,x3,x4] 3 x3 rfl w
 have p4:=fun x0 x1 x2 x3 x4=>zL #[x0,x1,x2,x3,x4] 4 x4 rfl w
 unfold Op.equalIn hE
 cases h0:(v.h0==u.h0)
 . simp only[Sem.run_bind,run_underlying hu,Result.andThen_ok,hs,Std.Legacy.Range.forIn_eq_forIn_range',Std.Legacy.Range.size,Nat.sub_zero,Nat.add_sub_cancel,Nat.div_one,show List.range' 0 5 1=[0,1,2,3,4] from rfl,List.forIn_cons,List.forIn_nil,p0,Nat.mul_one,run_equalIn_int w d 3 _ _ _ _ hi,h0,Bool.not_false,if_true,Sem.run_pure,Bool.false_and]
 cases h1:(v.h1==u.h1)
 . simp only[Sem.run_bind,run_underlying hu,Result.andThen_ok,hs,Std.Legacy.Range.forIn_eq_forIn_range',Std.Legacy.Range.size,Nat.sub_zero,Nat.add_sub_cancel,Nat.div_one,show List.range' 0 5 1=[0,1,2,3,4] from rfl,List.forIn_cons,List.forIn_nil,p0,p1,Nat.mul_one,run_equalIn_int w d 3 _ _ _ _ hi,h0,h1,Bool.not_false,Bool.not_true,if_true,Bool.false_eq_true,if_false,Sem.run_pure,Bool.true_and,Bool.false_and]
 cases h2:(v.h2==u.h2)
 . simp only[Sem.run_bind,run_underlying hu,Result.andThen_ok,hs,Std.Legacy.Range.forIn_eq_forIn_range',Std.Legacy.Range.size,Nat.sub_zero,Nat.add_sub_cancel,Nat.div_one,show List.range' 0 5 1=[0,1,2,3,4] from rfl,List.forIn_cons,List.forIn_nil,p0,p1,p2,Nat.mul_one,run_equalIn_int w d 3 _ _ _ _ hi,h0,h1,h2,Bool.not_false,Bool.not_true,if_true,Bool.false_eq_true,if_false,Sem.run_pure,Bool.true_and,Bool.false_and]
 cases h3:(v.h3==u.h3)
 . simp only[Sem.run_bind,run_underlying hu,Result.andThen_ok,hs,Std.Legacy.Range.forIn_eq_forIn_range',Std.Legacy.Range.size,Nat.sub_zero,Nat.add_sub_cancel,Nat.div_one,show List.range' 0 5 1=[0,1,2,3,4] from rfl,List.forIn_cons,List.forIn_nil,p0,p1,p2,p3,Nat.mul_one,run_equalIn_int w d 3 _ _ _ _ hi,h0,h1,h2,h3,Bool.not_false,Bool.not_true,if_true,Bool.false_eq_true,if_false,Sem.run_pure,Bool.true_and,Bool.false_and]
 cases h4:(v.h4==u.h4)
 . simp only[Sem.run_bind,run_underlying hu,Result.andThen_ok,hs,Std.Legacy.Range.forIn_eq_forIn_range',Std.Legacy.Range.size,Nat.sub_zero,Nat.add_sub_cancel,Nat.div_one,show List.range' 0 5 1=[0,1,2,3,4] from rfl,List.forIn_cons,List.forIn_nil,p0,p1,p2,p3,p4,Nat.mul_one,run_equalIn_int w d 3 _ _ _ _ hi,h0,h1,h2,h3,h4,Bool.not_false,Bool.not_true,if_true,Bool.false_eq_true,if_false,Sem.run_pure,Bool.true_and]
 simp only[Sem.run_bind,run_underlying hu,Result.andThen_ok,hs,Std.Legacy.Range.forIn_eq_forIn_range',Std.Legacy.Range.size,Nat.sub_zero,Nat.add_sub_cancel,Nat.div_one,show List.range' 0 5 1=[0,1,2,3,4] from rfl,List.forIn_cons,List.forIn_nil,p0,p1,p2,p3,p4,Nat.mul_one,run_equalIn_int w d 3 _ _ _ _ hi,h0,h1,h2,h3,h4,Bool.not_true,Bool.false_eq_true,if_false,Sem.run_pure,Bool.true_and]
theorem jv(d:Nat)(v u:Vw)(w:Ba):(Op.equalIn (d+3) 100 (.agg v.cells) (.agg u.cells)).run Al w=.ok (decide (v=u)) w:=by
 have hu:Al.underlying 100=J (.struct (Al.fieldsOf 100)):=by kernel_rfl
 have hi:Al.underlying 3=J (.int U):=LB;have hf : (Al.fieldsOf 100).toList.map (fun f => (f.name, f.type, f.offset)) = [("Proc", 3, 0), ("Round", 3, 1), ("Input", 3, 2), ("Heard", 43, 3)] := by kernel_rfl
 rw[Pn w (d+2) 100 _ _ hu (by kernel_rfl)];have p0:∀x:Vw,(part 3 x.cells 0).run Al w=.ok (O U x.p) w:=fun x=>zL _ 0 _ rfl w
 have p1:∀x:Vw,(part 3 x.cells 1).run Al w=.ok (O U x.r) w:=fun x=>zL _ 1 _ rfl w
 have p2:∀x:Vw,(part 3 x.cells 2).run Al w=.ok (O U x.i) w:=fun x=>zL _ 2 _ rfl w
 have p3:∀x:Vw,(part 43 x.cells 3).run Al w=.ok (Ai #[O U x.h0,O U x.h1,O U x.h2,O U x.h3,O U x.h4]) w:=fun x=>by unfold Vw.cells;kernel_rfl
 generalize (Al.fieldsOf 100).toList=fs at hf
 obtain⟨f0,f1,f2,f3,rfl⟩:∃f0 f1 f2 f3,fs=[f0,f1,f2,f3]:=by
  have hl:fs.length=4:=by simpa using congrArg List.length hf
  rcases fs with _ | ⟨f0,_ | ⟨f1,_ | ⟨f2,_ | ⟨f3,_ | ⟨f4,r⟩⟩⟩⟩⟩<;>simp at hl
  exact⟨_,_,_,_,rfl⟩
 clear hu;simp only[List.map_cons,List.map_nil,List.cons.injEq,Prod.mk.injEq,and_true] at hf;obtain⟨⟨n0,t0,o0⟩,⟨n1,t1,o1⟩,⟨n2,t2,o2⟩,⟨n3,t3,o3⟩⟩:=hf
 have hd:decide (v=u)=(v.p==u.p&&(v.r==u.r&&(v.i==u.i&&hE v u))):=by
  unfold hE;obtain⟨a0,a1,a2,a3,a4,a5,a6,a7⟩:=v;obtain⟨b0,b1,b2,b3,b4,b5,b6,b7⟩:=u;rw[NH];simp
 rw[hd]
 cases h0:(v.p==u.p)<;>cases h1:(v.r==u.r)<;>cases h2:(v.i==u.i)<;>cases h3:hE v u <;>
  simp only[Op.eqFields,n0,n1,n2,n3,t0,t1,t2,t3,o0,o1,o2,o3,p0,p1,p2,p3,Sem.run_bind,Result.andThen_ok,run_equalIn_int w _ 3 _ _ _ _ hi,Zg,h0,h1,h2,h3,ne_eq,not_false_eq_true,if_true,Bool.not_false,Bool.not_true,Bool.false_eq_true,if_false,Sem.run_pure,Bool.true_and,Bool.false_and,String.reduceEq]
theorem eql_view(v u:Vw)(w:Ba):(binOp .eql 100 (.agg v.cells) (.agg u.cells)).run Al w=.ok (Ah (decide (v=u))) w:=by
 simp only[binOp];simp[Op.equal,Op.maxDepth,jv 9997 v u w]
theorem neq_view(v u:Vw)(w:Ba):(binOp .neq 100 (.agg v.cells) (.agg u.cells)).run Al w=.ok (Ah (decide (v≠u))) w:=by
 simp only[binOp];simp[Op.equal,Op.maxDepth,jv 9997 v u w]
def xa(s:Nat):List Nat:=(List.range 5).filter fun p=>s.testBit p
def low(s:Nat):Nat:=(xa s).headD 0
def j5(p:Nat->Bool):Bool:=(List.range 32).all p
theorem qH{p:Nat->Bool}(h:j5 p=Ar){s:Nat}(hs:s<32):p s=Ar:=Lz.1 h s (by simpa using hs)
theorem Zp{r:Nat}(h:r<32)(h0:r≠0):xa r=low r::xa (r &&& (r-1))/\low r<5/\r &&& (r-1)<32/\r &&& (r-1)<r:=by
 have:=qH (p:=fun r=>r==0||(xa r==low r::xa (r &&& (r-1))&&decide (low r<5)&&decide (r &&& (r-1)<32)&&decide (r &&& (r-1)<r))) (by decide +kernel) h;simp only[Bool.or_eq_true,beq_iff_eq,Bool.and_eq_true,decide_eq_true_eq] at this;rcases this with h | ⟨⟨⟨h1,h2⟩,h3⟩,h4⟩
 . exact absurd h h0
 exact⟨h1,h2,h3,h4⟩
theorem bits_zero:xa 0=[]:=by decide +kernel
def qV(l:List Nat):List Int:=l.map fun k:Nat=>(k:Int)
theorem qs(l:List Nat):(qV l).length=l.length:=by simp[qV]
theorem JW(a:Nat)(l:List Nat):qV (a::l)=(a:Int)::qV l:=rfl
theorem intL_nil:qV []=[]:=rfl
def kH(s k:Nat):List Nat:=(List.range k).filter fun p=>s.testBit p
theorem Y9{s k:Nat}:kH s (k+1)=if s.testBit k=Ar then kH s k++[k] else kH s k:=by
 unfold kH;rw[NY,PO]
 by_cases h:s.testBit k=Ar<;>simp[h]
def vh(n:Int):Int:=if n<1\/5<n then 1 else 0
def yt(n s:Int):Int:=if n<1\/5<n then 1 else if s<0\/(2^n.toNat:Nat)<=s then 2 else 0
theorem JJ(n:Int)(w:Ba):An Al 132 #[O U n] w fun e w'=>e=Ak (O U (vh n))/\w=w':=by
 have H:Ap (vh n=if n<1\/5<n then 1 else 0):=rfl;go_enter func132,ntmps132;go_wp2
 all_goals
  go_ret;refine⟨zc ?_,rfl⟩;rw[H.out]
  first | (rw[Lm (by omega)]) | (rw[Lk (by omega)])
theorem XA(n:Int)(w:Ba):An Al 181 #[O U n] w fun e w'=>e=Ak (O U (vh n))/\w=w':=by
 have H:Ap (vh n=if n<1\/5<n then 1 else 0):=rfl;go_enter func181,ntmps181;go_wp2
 all_goals
  go_ret;refine⟨zc ?_,rfl⟩;rw[H.out]
  first | (rw[Lm (by omega)]) | (rw[Lk (by omega)])
theorem procs_ok{n:Int}(h:¬(n<1\/5<n)):n=1\/n=2\/n=3\/n=4\/n=5:=by omega
theorem uZ{n:Int}(h:n<1\/5<n):vh n=1:=Lm h
theorem gQ{n:Int}(h:¬(n<1\/5<n)):vh n=0:=Lk h
theorem Zj(n s:Int)(w:Ba):An Al 101 #[O U n,O U s] w fun e w'=>e=Ak (O U (yt n s))/\w=w':=by
 have H:Ap (yt n s=if n<1\/5<n then 1 else if s<0\/(2^n.toNat:Nat)<=s then 2 else 0):=rfl;go_enter func101,ntmps101;go_wp2_with fail;refine(JJ n w).mono ?_;rintro e w' ⟨rfl,rfl⟩
 by_cases hn:n<1\/5<n
 . rw[uZ hn]
   rw[Lm hn] at H;go_wp2;go_ret;exact⟨zc H.out.symm,rfl⟩
 rw[gQ hn];rw[Lk hn] at H;rcases procs_ok hn with rfl | rfl | rfl | rfl | rfl
 all_goals
  go_wp2
 all_goals
  try simp only[bne_iff_ne,ne_eq,bne_eq_false_iff_eq] at *
  go_ret;refine⟨zc ?_,rfl⟩;rw[H.out]
  first | (rw[Lm (by simp;omega)]) | (rw[Lk (by simp;omega)])
theorem Y1{n s:Int}(h:yt n s=0):∃m k:Nat,n=(m:Int)/\s=(k:Int)/\1<=m/\m<=5/\k<2^m/\k<32:=by
 unfold yt at h
 split at h
 . cases h
 split at h
 . cases h
 rename_i h1 h2;refine⟨n.toNat,s.toNat,by omega,by omega,by omega,by omega,?_,?_⟩
 . omega
 have:2^n.toNat<=2^5:=Nj (by omega) (by omega);omega
theorem vj(k:Nat)(hk:k<=5)(w:Ba):An Al 164 #[O U k] w fun e w'=>e=Ak (O U ((2^k:Nat):Int))/\w=w':=by
 go_enter func164,ntmps164;go_wp2
 go_loop [3,4] (fun v i=>∃j q:Nat,j<=k/\q=2^j/\q<=32/\v=O U (q:Int)/\i=O U (j:Int)) (fun _ i=>5-(Ao i).toNat)
 case atStart=>exact⟨0,1,by omega,rfl,by omega,rfl,rfl⟩
 obtain⟨j,q,hj,hq,hq2,rfl,rfl⟩:=hrel;have H:Ap (q=2^j):=hq;clear hq
 by_cases aa:j<k
 . go_wp2
   go_round
   case rel=>
    have h1:q*2=2^(j+1):=by rw[H.out,Nat.pow_succ]
    have h2:(2^(j+1):Nat)<=2^5:=Nj (by omega) (by omega);exact⟨j+1,q*2,by omega,h1,by omega,by go_num,by go_num⟩
   simp[Ao];omega
 obtain rfl:j=k:=by omega
 go_wp2;go_ret;exact⟨by have:=H.out;subst this;simp,rfl⟩
theorem XI(n s:Int)(w:Ba):An Al 175 #[O U n,O U s] w fun e w'=>e=Ak (O U (yt n s))/\w=w':=by
 have H:Ap (yt n s=if n<1\/5<n then 1 else if s<0\/(2^n.toNat:Nat)<=s then 2 else 0):=rfl;go_enter func175,ntmps175;go_wp2_with fail;refine(XA n w).mono ?_;rintro e w' ⟨rfl,rfl⟩
 by_cases hn:n<1\/5<n
 . rw[uZ hn]
   rw[Lm hn] at H;go_wp2;go_ret;exact⟨zc H.out.symm,rfl⟩
 rw[gQ hn];rw[Lk hn] at H;obtain⟨m,rfl⟩:=Lq (show 0<=n by omega);have hp:=vj m (by omega) w;go_wp2_with fail
 . refine hp.mono ?_
   rintro e w' ⟨rfl,rfl⟩;go_wp2_with fail
   all_goals
    go_ret;refine⟨zc ?_,rfl⟩;rw[H.out]
    first | (rw[Lm (by simp;omega)]) | (rw[Lk (by simp;omega)])
 go_ret;refine⟨zc ?_,rfl⟩;rw[H.out,Lm (by omega)]
def zh:List Int->List Int->Int
 | [],[]=>0
 | [],_::_=>-1
 | _::_,[]=>1
 | a::l,b::m=>if a<b then -1 else if b<a then 1 else zh l m
theorem yF:∀l:List Int,zh l l=0
 | []=>rfl
 | a::l=>by rw[zh,Lk (Int.lt_irrefl a),Lk (Int.lt_irrefl a),yF l]
theorem xS:∀ {l m:List Int},zh l m=0->l=m
 | [],[],_=>rfl
 | [],_::_,h=>by cases h
 | _::_,[],h=>by cases h
 | a::l,b::m,h=>by
  rw[zh] at h
  split at h
  . cases h
  . split at h
    . cases h
    . rw[xS h,show a=b by omega]
theorem jd:∀l m:List Int,zh l m=-1\/zh l m=0\/zh l m=1
 | [],[]=>.inr (.inl rfl)
 | [],_::_=>.inl rfl
 | _::_,[]=>.inr (.inr rfl)
 | a::l,b::m=>by
  rw[zh]
  split
  . exact .inl rfl
  . split
    . exact .inr (.inr rfl)
    . exact jd l m
theorem wi{l m:List Int}{k:Nat}(h1:k<l.length)(h2:k<m.length):zh (l.drop k) (m.drop k)=if l[k]<m[k] then -1 else if m[k]<l[k] then 1 else zh (l.drop (k+1)) (m.drop (k+1)):=by
 rw[Lx h1,Lx h2,zh]
theorem vn{l m:List Int}{k:Nat}(h:k=l.length\/k=m.length)(h1:k<=l.length)(h2:k<=m.length):zh (l.drop k) (m.drop k)=if l.length<m.length then -1 else if m.length<l.length then 1 else 0:=by
 rcases h with h | h
 . subst h
   rw[Nv]
   by_cases hm:l.length<m.length
   . rw[Lm hm,Lx hm];rfl
   have:m.drop l.length=[]:=List.drop_of_length_le (by omega);rw[this,Lk hm,Lk (by omega)];rfl
 subst h;rw[Nv]
 by_cases hm:m.length<l.length
 . rw[Lk (by omega),Lm hm,Lx hm];rfl
 have:l.drop m.length=[]:=List.drop_of_length_le (by omega);rw[this,Lk (by omega),Lk hm];rfl
def ql(m x:Int):Bool:=decide (x<0\/m<=x)
def zo(v:List Int)(n m:Int):Int:=if (v.length:Int)≠n then 15 else if v.any (ql m)=Ar then 2 else 0
def zm{α:Type}(l:List α)(k:Nat):Option α:=if k=0 then Z else l[k-1]?
theorem vX{α:Type}(l:List α):zm l 0=Z:=rfl
theorem zV{α:Type}(l:List α)(k:Nat)(hk:k<l.length):zm l (k+1)=J l[k]:=by unfold zm;simp[hk]
def xA(p:Option (List Int))(v:List Int):Bool:=match p with | none=>As | some q=>decide (0<=zh q v)
def kJ(f:List Int->Int):Option (List Int)->List (List Int)->Int
 | _,[]=>0
 | p,v::r=>if f v≠0 then f v else if xA p v=Ar then 14 else kJ f (J v) r
def qi(f:List Int->Int)(l:List (List Int)):Int:=kJ f Z l
def yi(f:List Int->Int)(l:List (List Int))(k:Nat):Int:=kJ f (zm l k) (l.drop k)
theorem xn{f:List Int->Int}{l:List (List Int)}:yi f l 0=qi f l:=by unfold yi qi;rw[vX,L8]
theorem xD{f:List Int->Int}{l:List (List Int)}:yi f l l.length=0:=by unfold yi;rw[Nv];rfl
theorem xE{f:List Int->Int}{l:List (List Int)}{k:Nat}(hk:k<l.length)(h:f l[k]≠0):yi f l k=f l[k]:=by
 unfold yi;rw[Lx hk,kJ,Lm h]
theorem yV{f:List Int->Int}{l:List (List Int)}{k:Nat}(hk:k<l.length)(h:f l[k]=0)(h2:xA (zm l k) l[k]=Ar):yi f l k=14:=by
 unfold yi;rw[Lx hk,kJ,Lk (by simpa using h),Lm h2]
theorem qf{f:List Int->Int}{l:List (List Int)}{k:Nat}(hk:k<l.length)(h:f l[k]=0)(h2:xA (zm l k) l[k]=As):yi f l k=yi f l (k+1):=by
 unfold yi;rw[Lx hk,kJ,Lk (by simpa using h),Lk (by rw[h2];decide),zV l k hk]
def xZ(l:List (List Int))(v:List Int):Int:=if v∈l then 0 else 6
def qy(n m:Int)(c:Cs):Int:=
 if c.out.length<1\/1024<c.out.length then 5 else if qi (fun v=>zo v n m) c.out≠0 then qi (fun v=>zo v n m) c.out else qi (xZ c.out) c.calm
def xB(t:Tk)(p:Option Cs)(c:Cs):Int:=
 if zo c.inp t.n t.ins≠0 then zo c.inp t.n t.ins else if xA (p.map Cs.inp) c.inp=Ar then 14 else qy t.n t.outs c
def qa(t:Tk):Option Cs->List Cs->Int
 | _,[]=>0
 | p,c::r=>if xB t p c≠0 then xB t p c else qa t (J c) r
def yN(t:Tk)(l:List Cs)(k:Nat):Int:=qa t (zm l k) (l.drop k)
theorem un{t:Tk}{l:List Cs}:yN t l l.length=0:=by unfold yN;rw[Nv];rfl
theorem uo{t:Tk}{l:List Cs}{k:Nat}(hk:k<l.length)(h:xB t (zm l k) l[k]≠0):yN t l k=xB t (zm l k) l[k]:=by
 unfold yN;rw[Lx hk,qa,Lm h]
theorem wU{t:Tk}{l:List Cs}{k:Nat}(hk:k<l.length)(h:xB t (zm l k) l[k]=0):yN t l k=yN t l (k+1):=by
 unfold yN;rw[Lx hk,qa,Lk (by simpa using h),zV l k hk]
def yz(t:Tk):Int:=
 if t.n<1\/5<t.n\/t.ins<1\/8<t.ins\/t.outs<1\/8<t.outs then 2 else if t.cases.length<1\/1024<t.cases.length then 5 else yN t t.cases 0
def yB(n:Int)(p:Nat)(x:Int):Int:=
 if n<=p then (if x≠0 then 3 else 0) else if x<0\/(2^n.toNat-1:Nat)<x then 2 else if x.toNat.testBit p=Ar then 0 else 3
def zX(r:Rd):Nat->Nat->Int
 | 0,_=>0
 | k+1,p=>if yB r.n p (r.h p)≠0 then yB r.n p (r.h p) else zX r k (p+1)
def zS(r:Rd):Int:=if r.n<1\/5<r.n then 2 else zX r 5 0
def zJ(r:Rd):Int:=if zS r≠0 then zS r else yt r.n r.f
def Rd.gl(r:Rd):List Int:=[r.n,r.h0,r.h1,r.h2,r.h3,r.h4]
def Rd.l(r:Rd):List Int:=[r.n,r.h0,r.h1,r.h2,r.h3,r.h4,r.f]
def uz(p:Option Mv)(m:Mv):Bool:=match p with | none=>As | some q=>decide (0<=zh q.r.l m.r.l)
def yZ(a:Ad)(p:Option Mv)(m:Mv):Int:=
 if zJ m.r≠0 then zJ m.r else if m.r.n≠a.n then 22 else if uz p m=Ar then 14 else if m.to<0\/(a.sts.length:Int)<=m.to then 2 else 0
def xU(a:Ad):Option Mv->List Mv->Int
 | _,[]=>0
 | p,m::r=>if yZ a p m≠0 then yZ a p m else xU a (J m) r
def yW(a:Ad)(l:List Mv)(k:Nat):Int:=xU a (zm l k) (l.drop k)
theorem ua{a:Ad}{l:List Mv}:yW a l l.length=0:=by unfold yW;rw[Nv];rfl
theorem ub{a:Ad}{l:List Mv}{k:Nat}(hk:k<l.length)(h:yZ a (zm l k) l[k]≠0):yW a l k=yZ a (zm l k) l[k]:=by
 unfold yW;rw[Lx hk,xU,Lm h]
theorem wq{a:Ad}{l:List Mv}{k:Nat}(hk:k<l.length)(h:yZ a (zm l k) l[k]=0):yW a l k=yW a l (k+1):=by
 unfold yW;rw[Lx hk,xU,Lk (by simpa using h),zV l k hk]
def xg(a:Ad)(l:List Mv):Int:=if l.length=0 then 19 else yW a l 0
def zk(a:Ad):List (List Mv)->Int
 | []=>0
 | l::r=>if xg a l≠0 then xg a l else zk a r
theorem kZ{a:Ad}{l:List (List Mv)}{k:Nat}(h:k=l.length):zk a (l.drop k)=0:=by subst h;rw[Nv];rfl
theorem ja{a:Ad}{l:List (List Mv)}{k:Nat}(hk:k<l.length)(h:xg a l[k]≠0):zk a (l.drop k)=xg a l[k]:=by
 rw[Lx hk,zk,Lm h]
theorem jH{a:Ad}{l:List (List Mv)}{k:Nat}(hk:k<l.length)(h:xg a l[k]=0):zk a (l.drop k)=zk a (l.drop (k+1)):=by
 rw[Lx hk,zk,Lk (by simpa using h)]
def Ad.mvs(a:Ad):List Mv:=a.sts.flatten
def Ad.at_(a:Ad)(s:Int):List Mv:=a.sts.getD s.toNat []
def xY(m k:Mv):Bool:=m.r.f.toNat &&& k.r.f.toNat==m.r.f.toNat
def yC(a:Ad):Bool:=a.mvs.all fun m=>(a.at_ m.to).all fun k=>xY m k
def xO(a:Ad):Int:=
 if a.n<1\/5<a.n then 2 else if a.sts.length<1\/256<a.sts.length\/4096<a.mvs.length then 5 else if zk a a.sts≠0 then zk a a.sts else if yC a=Ar then 0 else 21
def zD(p:Pb):Int:=
 if yz p.t≠0 then yz p.t else if xO p.a≠0 then xO p.a else if p.t.n≠p.a.n then 22 else if p.k<0\/6<p.k then 2 else 0
def Rd.gcells(r:Rd):Array Aq:=#[O U r.n,O U r.h0,O U r.h1,O U r.h2,O U r.h3,O U r.h4]
def hR(v u:Rd):Bool:=v.h0==u.h0&&(v.h1==u.h1&&(v.h2==u.h2&&(v.h3==u.h3&&v.h4==u.h4)))
theorem Qs(d:Nat)(v u:Rd)(w:Ba):(Op.equalIn (d+2) 43 (Ai #[O U v.h0,O U v.h1,O U v.h2,O U v.h3,O U v.h4]) (Ai #[O U u.h0,O U u.h1,O U u.h2,O U u.h3,O U u.h4])).run Al w =
  .ok (hR v u) w:=Zg d ⟨0,0,0,v.h0,v.h1,v.h2,v.h3,v.h4⟩ ⟨0,0,0,u.h0,u.h1,u.h2,u.h3,u.h4⟩ w
theorem kE(d:Nat)(v u:Rd)(w:Ba):(Op.equalIn (d+3) 45 (.agg v.gcells) (.agg u.gcells)).run Al w=.ok (decide (v.gl=u.gl)) w:=by
 have hu:Al.underlying 45=J (.struct (Al.fieldsOf 45)):=by kernel_rfl
 have hi:Al.underlying 3=J (.int U):=LB;have hf : (Al.fieldsOf 45).toList.map (fun f => (f.name, f.type, f.offset)) = [("N", 3, 0), ("Hears", 43, 1)] := by kernel_rfl
 rw[Pn w (d+2) 45 _ _ hu (by kernel_rfl)];have p0:∀x:Rd,(part 3 x.gcells 0).run Al w=.ok (O U x.n) w:=fun x=>zL _ 0 _ rfl w
 have p1:∀x:Rd,(part 43 x.gcells 1).run Al w=.ok (Ai #[O U x.h0,O U x.h1,O U x.h2,O U x.h3,O U x.h4]) w:=fun x=>by unfold Rd.gcells;kernel_rfl
 generalize (Al.fieldsOf 45).toList=fs at hf
 obtain⟨f0,f1,rfl⟩:∃f0 f1,fs=[f0,f1]:=by
  have hl:fs.length=2:=by simpa using congrArg List.length hf
  rcases fs with _ | ⟨f0,_ | ⟨f1,_ | ⟨f2,r⟩⟩⟩<;>simp at hl
  exact⟨_,_,rfl⟩
 clear hu;simp only[List.map_cons,List.map_nil,List.cons.injEq,Prod.mk.injEq,and_true] at hf;obtain⟨⟨n0,t0,o0⟩,⟨n1,t1,o1⟩⟩:=hf
 have hd:decide (v.gl=u.gl)=(v.n==u.n&&hR v u):=by
  unfold hR Rd.gl;obtain⟨a0,a1,a2,a3,a4,a5,a6⟩:=v;obtain⟨b0,b1,b2,b3,b4,b5,b6⟩:=u;rw[NH];simp
 rw[hd]
 cases h0:(v.n==u.n)<;>cases h3:hR v u <;>
  simp only[Op.eqFields,n0,n1,t0,t1,o0,o1,p0,p1,Sem.run_bind,Result.andThen_ok,run_equalIn_int w _ 3 _ _ _ _ hi,Qs,h0,h3,ne_eq,not_false_eq_true,if_true,Bool.not_false,Bool.not_true,Bool.false_eq_true,if_false,Sem.run_pure,Bool.true_and,Bool.false_and,String.reduceEq]
theorem kD(d:Nat)(v u:Rd)(w:Ba):(Op.equalIn (d+4) 75 (.agg v.cells) (.agg u.cells)).run Al w=.ok (decide (v=u)) w:=by
 have hu:Al.underlying 75=J (.struct (Al.fieldsOf 75)):=by kernel_rfl
 have hi:Al.underlying 3=J (.int U):=LB;have hf : (Al.fieldsOf 75).toList.map (fun f => (f.name, f.type, f.offset)) = [("Graph", 45, 0), ("Faulty", 3, 6)] := by kernel_rfl
 rw[Pn w (d+3) 75 _ _ hu (by kernel_rfl)];have p0:∀x:Rd,(part 45 x.cells 0).run Al w=.ok (.agg x.gcells) w:=fun x=>by unfold Rd.cells;kernel_rfl
 have p1:∀x:Rd,(part 3 x.cells 6).run Al w=.ok (O U x.f) w:=fun x=>zL _ 6 _ rfl w
 generalize (Al.fieldsOf 75).toList=fs at hf
 obtain⟨f0,f1,rfl⟩:∃f0 f1,fs=[f0,f1]:=by
  have hl:fs.length=2:=by simpa using congrArg List.length hf
  rcases fs with _ | ⟨f0,_ | ⟨f1,_ | ⟨f2,r⟩⟩⟩<;>simp at hl
  exact⟨_,_,rfl⟩
 clear hu;simp only[List.map_cons,List.map_nil,List.cons.injEq,Prod.mk.injEq,and_true] at hf;obtain⟨⟨n0,t0,o0⟩,⟨n1,t1,o1⟩⟩:=hf
 have hd:decide (v=u)=(decide (v.gl=u.gl)&&v.f==u.f):=by
  unfold Rd.gl;obtain⟨a0,a1,a2,a3,a4,a5,a6⟩:=v;obtain⟨b0,b1,b2,b3,b4,b5,b6⟩:=u;rw[NH];simp;constructor
  . rintro⟨h0,h1,h2,h3,h4,h5,h6⟩;exact⟨⟨h0,h1,h2,h3,h4,h5⟩,h6⟩
  rintro⟨⟨h0,h1,h2,h3,h4,h5⟩,h6⟩;exact⟨h0,h1,h2,h3,h4,h5,h6⟩
 rw[hd]
 cases h0:decide (v.gl=u.gl)<;>cases h3:(v.f==u.f) <;>
  simp only[Op.eqFields,n0,n1,t0,t1,o0,o1,p0,p1,Sem.run_bind,Result.andThen_ok,run_equalIn_int w _ 3 _ _ _ _ hi,kE,h0,h3,ne_eq,not_false_eq_true,if_true,Bool.not_false,Bool.not_true,Bool.false_eq_true,if_false,Sem.run_pure,Bool.true_and,Bool.false_and,String.reduceEq]
theorem Qr(d:Nat)(v u:Mv)(w:Ba):(Op.equalIn (d+5) 121 (.agg v.cells) (.agg u.cells)).run Al w=.ok (decide (v=u)) w:=by
 have hu:Al.underlying 121=J (.struct (Al.fieldsOf 121)):=by kernel_rfl
 have hi:Al.underlying 3=J (.int U):=LB;have hf : (Al.fieldsOf 121).toList.map (fun f => (f.name, f.type, f.offset)) = [("Round", 75, 0), ("To", 3, 7)] := by kernel_rfl
 rw[Pn w (d+4) 121 _ _ hu (by kernel_rfl)];have p0:∀x:Mv,(part 75 x.cells 0).run Al w=.ok (.agg x.r.cells) w:=fun x=>by unfold Mv.cells;kernel_rfl
 have p1:∀x:Mv,(part 3 x.cells 7).run Al w=.ok (O U x.to) w:=fun x=>zL _ 7 _ rfl w
 generalize (Al.fieldsOf 121).toList=fs at hf
 obtain⟨f0,f1,rfl⟩:∃f0 f1,fs=[f0,f1]:=by
  have hl:fs.length=2:=by simpa using congrArg List.length hf
  rcases fs with _ | ⟨f0,_ | ⟨f1,_ | ⟨f2,r⟩⟩⟩<;>simp at hl
  exact⟨_,_,rfl⟩
 clear hu;simp only[List.map_cons,List.map_nil,List.cons.injEq,Prod.mk.injEq,and_true] at hf;obtain⟨⟨n0,t0,o0⟩,⟨n1,t1,o1⟩⟩:=hf
 have hd:decide (v=u)=(decide (v.r=u.r)&&v.to==u.to):=by
  obtain⟨a0,a1⟩:=v;obtain⟨b0,b1⟩:=u;rw[NH];simp
 rw[hd]
 cases h0:decide (v.r=u.r)<;>cases h3:(v.to==u.to) <;>
  simp only[Op.eqFields,n0,n1,t0,t1,o0,o1,p0,p1,Sem.run_bind,Result.andThen_ok,run_equalIn_int w _ 3 _ _ _ _ hi,kD,h0,h3,ne_eq,not_false_eq_true,if_true,Bool.not_false,Bool.not_true,Bool.false_eq_true,if_false,Sem.run_pure,Bool.true_and,Bool.false_and,String.reduceEq]
theorem eql_graph(v u:Rd)(w:Ba):(binOp .eql 45 (.agg v.gcells) (.agg u.gcells)).run Al w=.ok (Ah (decide (v.gl=u.gl))) w:=by
 simp only[binOp];simp[Op.equal,Op.maxDepth,kE 9997 v u w]
theorem JT(v u:Rd)(w:Ba):(binOp .neq 45 (.agg v.gcells) (.agg u.gcells)).run Al w=.ok (Ah (decide (v.gl≠u.gl))) w:=by
 simp only[binOp];simp[Op.equal,Op.maxDepth,kE 9997 v u w]
theorem eql_round(v u:Rd)(w:Ba):(binOp .eql 75 (.agg v.cells) (.agg u.cells)).run Al w=.ok (Ah (decide (v=u))) w:=by
 simp only[binOp];simp[Op.equal,Op.maxDepth,kD 9996 v u w]
theorem JS(v u:Rd)(w:Ba):(binOp .neq 75 (.agg v.cells) (.agg u.cells)).run Al w=.ok (Ah (decide (v≠u))) w:=by
 simp only[binOp];simp[Op.equal,Op.maxDepth,kD 9996 v u w]
theorem neq_move(v u:Mv)(w:Ba):(binOp .neq 121 (.agg v.cells) (.agg u.cells)).run Al w=.ok (Ah (decide (v≠u))) w:=by
 simp only[binOp];simp[Op.equal,Op.maxDepth,Qr 9995 v u w]
end
section
open Go.RowKit
attribute [local go_sem] Oper.semAt_some
theorem uv(A B:Bb)(ca cb:Nat)(xs ys:List Rd)(hx:xs.length<=17592186044416)(_hy:ys.length<=17592186044416)(w:Ba)(hA:RAt w w.heap.size A xs)(hB:RAt w w.heap.size B ys) :
  An Al 129 #[I A xs.length ca,I B ys.length cb] w fun e w'=>e=Ak (Ah (decide (xs=ys)))/\∃n,w'=w.drewN n:=by
 have HA:=zH hA;have HB:=zH hB;have HT:Ap (∀b,(xs=ys↔b=Ar)->decide (xs=ys)=b):=fun b h=>by cases b<;>simp_all
 obtain⟨r,hr⟩:∃r,decide (xs=ys)=r:=⟨_,rfl⟩;rw[hr] at HT ⊢;go_enter func129,ntmps129
 by_cases hl:xs.length=ys.length
 case neg=>
  have hR:Ap (r=As):=HT.out As ⟨fun h=>absurd (congrArg List.length h) hl,fun h=>by cases h⟩;have e0:((xs.length:Int) != (ys.length:Int))=Ar:=by simp;omega
  go_wp2_with fail;go_ret;exact⟨zg hR.out.symm,0,rfl⟩
 case pos=>
 have HL:=zH hl;rw[<-hl] at _hy ⊢;go_wp2_with fail
 go_loopw [5] (fun i wr=>∃k n:Nat,k<=xs.length/\i=O U (k:Int)/\Ap (xs.take k=ys.take k)/\Ap (wr=w.drewN n)) (fun i _=>xs.length-(Ao i).toNat)
 case atStart=>exact⟨0,0,by omega,rfl,by rw[Ap,LQ,LQ],rfl⟩
 obtain⟨k,n,hk,rfl,hp,hw⟩:=hrel
 by_cases aa:k<xs.length
 case neg=>
  obtain rfl:k=xs.length:=by omega
  have hR:Ap (r=Ar):=HT.out Ar ⟨fun _=>rfl,fun _=>xQ HL.out hp.out⟩;go_wp2_with fail;go_ret;exact⟨zg hR.out.symm,n,hw.out⟩
 case pos=>
 have dm:k<ys.length:=by have:=HL.out;omega
 obtain⟨ba,oa,ea,_,a0,a1,a2,a3,a4,a5,a6⟩:=(HA.out).row k aa;obtain⟨bb,ob,eb,_,b0,b1,b2,b3,b4,b5,b6⟩:=(HB.out).row k dm;subst ea;subst eb;have np:Ap (∀p,wr.cell? p=w.cell? p):=fun p=>by rw[hw.out];rfl
 rw[<-np.out] at a0 a1 a2 a3 a4 a5 a6 b0 b1 b2 b3 b4 b5 b6;have hq:=fun W=>JS xs[k] ys[k] W
 by_cases he:xs[k]=ys[k]
 . have hR:=zH (xp hp.out aa dm he)
   rw[Lr (by simpa using he)] at hq;rw[<-he] at b0 b1 b2 b3 b4 b5 b6 hq;obtain⟨u,hu⟩:=Kh (xs[k]);rw[hu] at a0 a1 a2 a3 a4 a5 a6 b0 b1 b2 b3 b4 b5 b6 hq;unfold Rd.cells at hq;go_wp2_with fail;go_quiet (fail);go_wp2_with fail
   go_roundw
   case rel=>exact⟨k+1,n+nq,by omega,by go_num,hR,by rw[Ap,hw.out,vC]⟩
   simp[Ao];omega
 have hR:Ap (r=As):=HT.out As ⟨fun h=>absurd (by subst h;rfl) he,fun h=>by cases h⟩;rw[Lo (by simpa using he)] at hq;obtain⟨u,hu⟩:=Kh (xs[k]);obtain⟨v,hv⟩:=Kh (ys[k]);rw[hu] at a0 a1 a2 a3 a4 a5 a6 hq;rw[hv] at b0 b1 b2 b3 b4 b5 b6 hq;unfold Rd.cells at hq;go_wp2_with fail;go_quiet (fail);go_wp2_with fail;go_ret;exact⟨zg hR.out.symm,n+nq,by rw[hw.out,vC]⟩
end
section
open Go.RowKit
theorem has_fact{s p:Nat}(hs:s<32)(hp:p<5):((wrap64 ((s:Int) / ((2^p:Nat):Int))).tmod 2==1)=s.testBit p:=by
 have h:=qH (p:=fun s=>j5 fun p=>!decide (p<5)||(((wrap64 ((s:Int) / ((2^p:Nat):Int))).tmod 2==1)==s.testBit p)) (by decide +kernel) hs;have h:=qH h (show p<32 by omega);simpa only[hp,decide_true,Bool.not_true,Bool.false_or,beq_iff_eq] using h
theorem uD(s p:Nat)(hs:s<32)(hp:p<5)(w:Ba):An Al 146 #[O U s,O U p] w fun e w'=>e=Ak (Ah (s.testBit p))/\w=w':=by
 have H:=zH (has_fact hs hp);have hq:(2^p:Nat)<=2^5:=Nj (by omega) (by omega);have tn:1<=(2^p:Nat):=Nat.one_le_two_pow;have tp:=vj p (by omega) w;obtain⟨q,KJ⟩:∃q:Nat,q=2^p:=⟨_,rfl⟩;rw[<-KJ] at tp hq tn H;clear KJ;go_enter func146,ntmps146;go_wp2_with fail;refine tp.mono ?_;rintro e w' ⟨rfl,rfl⟩;go_wp2_with fail;go_ret;exact⟨zg H.out,rfl⟩
theorem YJ{a b:Nat}(ha:a<32)(hb:b<32):(a &&& b==a)=Ar↔(∀p,p<5->a.testBit p=Ar->b.testBit p=Ar):=by
 have h:=qH (p:=fun a=>j5 fun b=>((List.range 5).all fun p=>!a.testBit p||b.testBit p)==(a &&& b==a)) (by decide +kernel) ha;have h:=qH h hb;simp only[beq_iff_eq] at h;rw[<-h];simp only[List.all_eq_true,List.mem_range,Bool.or_eq_true,Bool.not_eq_true'];constructor
 . intro h p hp h1
   rcases h p hp with h2 | h2
   . rw[h1] at h2;cases h2
   exact h2
 intro h p hp
 by_cases h1:a.testBit p=Ar
 . exact .inr (h p hp h1)
 exact .inl (by simpa using h1)
theorem Qg(a b:Nat)(ha:a<32)(hb:b<32)(w:Ba):An Al 163 #[O U a,O U b] w fun e w'=>e=Ak (Ah (a &&& b==a))/\w=w':=by
 have H:=zH (YJ ha hb);have HA:=zH (fun p hp w=>uD a p ha hp w);have HB:=zH (fun p hp w=>uD b p hb hp w);go_enter func163,ntmps163;go_wp2_with fail
 go_loop [5] (fun i=>∃k:Nat,k<=5/\i=O U (k:Int)/\Ap (∀p,p<k->a.testBit p=Ar->b.testBit p=Ar)) (fun i=>5-(Ao i).toNat)
 case atStart=>exact⟨0,by omega,rfl,fun p hp=>by omega⟩
 obtain⟨k,hk,rfl,ai⟩:=hrel
 by_cases aa:k<5
 . have c1:=HA.out k aa w
   have c2:=HB.out k aa w;go_wp2_with fail;refine c1.mono ?_;rintro e w' ⟨rfl,rfl⟩
   by_cases h1:a.testBit k=Ar
   . rw[h1]
     go_wp2_with fail;refine c2.mono ?_;rintro e w' ⟨rfl,rfl⟩
     by_cases h2:b.testBit k=Ar
     . rw[h2]
       go_wp2_with fail
       go_round
       case rel=>
        refine⟨k+1,by omega,by go_num,fun p hp h=>?_⟩
        by_cases e:p=k
        . subst e;exact h2
        exact ai.out p (by omega) h
       simp[Ao];omega
     have Un:b.testBit k=As:=by simpa using h2
     rw[Un];go_wp2_with fail;go_ret;refine⟨zg ?_,rfl⟩;symm;rw[Bool.eq_false_iff];exact fun e=>h2 (H.out.1 e k aa h1)
   have Up:a.testBit k=As:=by simpa using h1
   rw[Up];go_wp2_with fail
   go_round
   case rel=>
    refine⟨k+1,by omega,by go_num,fun p hp h=>?_⟩
    by_cases e:p=k
    . subst e;exact absurd h h1
    exact ai.out p (by omega) h
   simp[Ao];omega
 obtain rfl:k=5:=by omega
 go_wp2_with fail;go_ret;refine⟨zg ?_,rfl⟩;exact(H.out.2 ai.out).symm
theorem Q2(w:Ba)(a b:Nat):∃m,(w.drewN a).drewN b=w.drewN m:=⟨a+b,by simp[World.drewN_drewN]⟩
theorem drew3(w:Ba)(a b c:Nat):∃m,((w.drewN a).drewN b).drewN c=w.drewN m:=⟨a+b+c,by simp[World.drewN_drewN]⟩
theorem yR(A1 A2:Bb)(c1 c2:Nat)(xs ys:List Int)(hl:xs.length<=17592186044416)(fq:ys.length<=17592186044416)(w:Ba)(h1:IAt w w.heap.size A1 xs)(h2:IAt w w.heap.size A2 ys) :
  An Al 148 #[I A1 xs.length c1,I A2 ys.length c2] w fun e w'=>e=Ak (O U (zh xs ys))/\∃m,w'=w.drewN m:=by
 have HA:=zH h1;have HB:=zH h2;go_enter func148,ntmps148;go_wp2_with fail
 go_loopw [5] (fun i wr=>∃k:Nat,k<=xs.length/\k<=ys.length/\i=O U (k:Int)/\Ap (zh xs ys=zh (xs.drop k) (ys.drop k))/\∃m:Nat,wr=w.drewN m) (fun i _=>xs.length-(Ao i).toNat)
 case atStart=>exact⟨0,by omega,by omega,rfl,rfl,0,rfl⟩
 obtain⟨k,cp,dz,rfl,py,m,rfl⟩:=hrel
 by_cases aa:k<xs.length/\k<ys.length
 . obtain⟨hx,hy⟩:=aa
   obtain⟨b1,o1,rfl,aH,c1⟩:=HA.out.at_ k hx;obtain⟨b2,o2,rfl,ae,c2⟩:=HB.out.at_ k hy;have hs:=wi hx hy;obtain⟨x,rr⟩:=Kh (xs[k]);obtain⟨y,E2⟩:=Kh (ys[k]);rw[rr] at c1 hs;rw[E2] at c2 hs;have HS:=zH (py.out.trans hs)
   by_cases l1:x<y
   . have HR:=zH (HS.out.trans (Lm l1))
     go_wp2_with fail;go_quiet (fail);go_wp2_with fail;go_ret;exact⟨zc HR.out.symm,by first | exact Q2 _ _ _ | exact drew3 _ _ _ _⟩
   by_cases l2:y<x
   . have HR:=zH (HS.out.trans ((Lk l1).trans (Lm l2)))
     go_wp2_with fail;go_quiet (fail);go_wp2_with fail;go_quiet (fail);go_wp2_with fail;go_ret;exact⟨zc HR.out.symm,by first | exact Q2 _ _ _ | exact drew3 _ _ _ _⟩
   have HR:=zH (HS.out.trans ((Lk l1).trans (Lk l2)));go_wp2_with fail;go_quiet (fail);go_wp2_with fail;go_quiet (fail);go_wp2_with fail
   go_roundw
   case rel=>exact⟨k+1,by omega,by omega,by go_num,HR,by first | exact Q2 _ _ _ | exact drew3 _ _ _ _ | exact⟨_,rfl⟩⟩
   simp[Ao];omega
 have he:=vn (l:=xs) (m:=ys) (k:=k) (by omega) cp dz;have HR:=zH (py.out.trans he);have hd:(decide ((k:Int)<(xs.length:Int))&&decide ((k:Int)<(ys.length:Int)))=As:=by simp;omega
 by_cases hx:k<xs.length
 . obtain rfl:k=ys.length:=by omega
   go_wp2_with fail
   all_goals first | (exfalso;omega) | skip
   all_goals
    go_ret;exact⟨zc (by rw[HR.out];first | (rw[Lm (by omega)]) | (rw[Lk (by omega),Lm (by omega)]) | (rw[Lk (by omega),Lk (by omega)])),_,rfl⟩
 obtain rfl:k=xs.length:=by omega
 go_wp2_with fail
 all_goals first | (exfalso;omega) | skip
 all_goals
  go_ret;exact⟨zc (by rw[HR.out];first | (rw[Lm (by omega)]) | (rw[Lk (by omega),Lm (by omega)]) | (rw[Lk (by omega),Lk (by omega)])),_,rfl⟩
def qM(x y:Int):Int:=if x<y then -1 else if y<x then 1 else 0
theorem uG(x y:Int)(w:Ba):An Al 138 #[O U x,O U y] w fun e w'=>e=Ak (O U (qM x y))/\w=w':=by
 have H:Ap (qM x y=if x<y then -1 else if y<x then 1 else 0):=rfl
 have hn:∀(x:Int) (w:Ba),An Al 155 #[O U x] w fun e w'=>e=Ak (Ah As)/\w=w':=fun x w=>by
  go_enter func155,ntmps155;go_wp2;go_ret;exact⟨by simp,rfl⟩
 have HN:=zH hn;go_enter func138,ntmps138;go_wp2_with (go_at_call 155;refine(HN.out _ _).mono ?_;rintro e w' ⟨rfl,rfl⟩)
 all_goals
  go_ret;refine⟨zc ?_,rfl⟩;rw[H.out]
  first | (rw[Lm (by omega)]) | (rw[Lk (by omega),Lm (by omega)]) | (rw[Lk (by omega),Lk (by omega)])
theorem jJ(A1 A2:Bb)(c1 c2:Nat)(xs ys:List Int)(hl:xs.length<=17592186044416)(fq:ys.length<=17592186044416)(w:Ba)(h1:IAt w w.heap.size A1 xs)(h2:IAt w w.heap.size A2 ys) :
  An Al 111 #[I A1 xs.length c1,I A2 ys.length c2] w fun e w'=>e=Ak (O U (zh xs ys))/\w'=w:=by
 have HA:=zH h1;have HB:=zH h2;go_enter func111,ntmps111;go_wp2_with fail
 go_loop [11] (fun i=>∃k:Nat,k<=xs.length/\k<=ys.length/\i=O U (k:Int)/\Ap (zh xs ys=zh (xs.drop k) (ys.drop k))) (fun i=>xs.length-(Ao i).toNat)
 case atStart=>exact⟨0,by omega,by omega,rfl,rfl⟩
 obtain⟨k,cp,dz,rfl,py⟩:=hrel
 by_cases hx:k<xs.length
 . obtain⟨b1,o1,rfl,aH,c1⟩:=HA.out.at_ k hx
   by_cases hy:k<ys.length
   . obtain⟨b2,o2,rfl,ae,c2⟩:=HB.out.at_ k hy
     have hs:=wi hx hy;obtain⟨x,rr⟩:=Kh (xs[k]);obtain⟨y,E2⟩:=Kh (ys[k]);rw[rr] at c1 hs;rw[E2] at c2 hs;have HS:=zH (py.out.trans hs);have iy:Ap (qM x y=if x<y then -1 else if y<x then 1 else 0):=rfl;have hc:=zH (fun w=>uG x y w);obtain⟨cv,lL⟩:=Kh (qM x y);rw[lL] at hc iy;go_wp2_with fail;refine(hc.out _).mono ?_;rintro e w' ⟨rfl,rfl⟩
     by_cases l1:x<y
     . have HR:=zH (HS.out.trans (Lm l1))
       obtain rfl:cv=-1:=iy.out.trans (Lm l1);go_wp2_with fail;go_ret;exact⟨zc HR.out.symm,rfl⟩
     by_cases l2:y<x
     . have HR:=zH (HS.out.trans ((Lk l1).trans (Lm l2)))
       obtain rfl:cv=1:=iy.out.trans ((Lk l1).trans (Lm l2));go_wp2_with fail;go_ret;exact⟨zc HR.out.symm,rfl⟩
     have HR:=zH (HS.out.trans ((Lk l1).trans (Lk l2)));obtain rfl:cv=0:=iy.out.trans ((Lk l1).trans (Lk l2));go_wp2_with fail
     go_round
     case rel=>exact⟨k+1,by omega,by omega,by go_num,HR⟩
     simp[Ao];omega
   obtain rfl:k=ys.length:=by omega
   have he:=vn (l:=xs) (m:=ys) (k:=ys.length) (by omega) cp dz;have HR:=zH (py.out.trans he);go_wp2_with fail;go_ret;exact⟨zc (by rw[HR.out,Lk (by omega),Lm (by omega)]),rfl⟩
 obtain rfl:k=xs.length:=by omega
 have he:=vn (l:=xs) (m:=ys) (k:=xs.length) (by omega) cp dz;have HR:=zH (py.out.trans he);go_wp2_with fail
 all_goals
  go_ret;exact⟨zc (by rw[HR.out];first | (rw[Lm (by omega)]) | (rw[Lk (by omega),Lk (by omega)])),rfl⟩
theorem gZ{r:Rd}{k:Nat}(hk:k<5)(h:yB r.n k (r.h k)≠0):zX r (5-k) k=yB r.n k (r.h k):=by
 rw[show 5-k=(4-k)+1 by omega,zX,Lm h]
theorem YP{r:Rd}{k:Nat}(hk:k<5)(h:yB r.n k (r.h k)=0):zX r (5-k) k=zX r (5-(k+1)) (k+1):=by
 rw[show 5-k=(4-k)+1 by omega,zX,Lk (by simpa using h),show 4-k=5-(k+1) by omega]
theorem wE{n x:Int}{p:Nat}(h:n<=p)(hx:x≠0):yB n p x=3:=by unfold yB;rw[Lm h,Lm hx]
theorem wD{n:Int}{p:Nat}(h:n<=p):yB n p 0=0:=by unfold yB;rw[Lm h];rfl
theorem hZ{n x:Int}{p:Nat}(h:¬n<=p)(hx:x<0\/(2^n.toNat-1:Nat)<x):yB n p x=2:=by unfold yB;rw[Lk h,Lm hx]
theorem hU{n x:Int}{p:Nat}(h:¬n<=p)(hx:¬(x<0\/(2^n.toNat-1:Nat)<x))(hb:x.toNat.testBit p=Ar):yB n p x=0:=by unfold yB;rw[Lk h,Lk hx,Lm hb]
theorem YQ{n x:Int}{p:Nat}(h:¬n<=p)(hx:¬(x<0\/(2^n.toNat-1:Nat)<x))(hb:x.toNat.testBit p=As):yB n p x=3:=by unfold yB;rw[Lk h,Lk hx,Lk (by rw[hb];decide)]
theorem bit_zero{s p:Nat}(hs:s<32)(hp:p<5):(bits BinOp.and U ((s:Int) / 2^p) 1==0)=!s.testBit p:=by
 have h:=qH (p:=fun s=>j5 fun p=>!decide (p<5)||((bits BinOp.and U ((s:Int) / 2^p) 1==0)==!s.testBit p)) (by decide +kernel) hs;have h:=qH h (show p<32 by omega);simpa only[hp,decide_true,Bool.not_true,Bool.false_or,beq_iff_eq] using h
theorem J5(n:Int)(h1:1<=n)(h5:n<=5)(w:Ba):An Al 131 #[O U n] w fun e w'=>e=Ak (O U ((2^n.toNat-1:Nat):Int))/\w'=w:=by
 obtain rfl | rfl | rfl | rfl | rfl:n=1\/n=2\/n=3\/n=4\/n=5:=by omega
 all_goals
  go_enter func131,ntmps131;go_wp2;go_ret;exact⟨rfl,rfl⟩
theorem XF(n:Int)(h1:1<=n)(hn:n<=5)(w:Ba):An Al 180 #[O U n] w fun e w'=>e=Ak (O U ((2^n.toNat-1:Nat):Int))/\w'=w:=by
 obtain⟨m,rfl⟩:=Lq (show 0<=n by omega);have hp:=vj m (by omega) w;go_enter func180,ntmps180;go_wp2_with fail;refine hp.mono ?_;rintro e w' ⟨rfl,rfl⟩;obtain rfl | rfl | rfl | rfl | rfl:m=1\/m=2\/m=3\/m=4\/m=5:=by omega
 all_goals
  go_wp2_with fail;go_ret;exact⟨rfl,rfl⟩
theorem jU{r:Rd}(h:r.n<1\/5<r.n):zS r=2:=Lm h
theorem wF{r:Rd}(h:¬(r.n<1\/5<r.n)):zS r=zX r (5-0) 0:=Lk h
theorem pow_le{n:Int}(h5:n<=5):(2^n.toNat-1:Nat)<=31:=by
 have:2^n.toNat<=2^5:=Nj (by omega) (by omega);omega
theorem wG(r:Rd)(w:Ba):An Al 100 #[.agg r.gcells] w fun e w'=>e=Ak (O U (zS r))/\Am w.heap.size w w':=by
 have aA:=zH (@jU r);have al:=zH (@wF r);obtain⟨E,hE⟩:=Kh (zS r);rw[hE] at aA al ⊢
 have tw:∀k,k<5->∀w,(Instr.index 43 (Ai #[O U r.h0,O U r.h1,O U r.h2,O U r.h3,O U r.h4]) (O U (k:Nat))).run Al w=.ok (O U (r.h k)) w:=fun k hk w=>by
  obtain rfl | rfl | rfl | rfl | rfl:k=0\/k=1\/k=2\/k=3\/k=4:=by omega
  all_goals exact(by kernel_rfl)
 have We:=zH tw;unfold Rd.gcells
 by_cases hr:r.n<1\/5<r.n
 . have HR:=zH (aA.out hr)
   have HN:=zH hr;go_enter func100,ntmps100;go_wp2_with fail
   all_goals first | (exfalso;have:=HN.out;omega) | (go_ret;exact⟨zc HR.out.symm,zw w _⟩)
 have r1:¬r.n<1:=by omega
 have r2:¬5<r.n:=by omega
 have HE:=zH (al.out hr);go_enter func100,ntmps100;go_wp2_with fail
 all_goals first | (exfalso;omega) | skip
 go_loop [15] (fun i=>∃k:Nat,k<=5/\i=O U (k:Int)/\Ap (E=zX r (5-k) k)) (fun i=>5-(Ao i).toNat)
 case atStart=>exact⟨0,by omega,rfl,HE⟩
 obtain⟨k,hk,rfl,ag⟩:=hrel
 by_cases aa:k<5
 . have hx:=We.out k aa
   have aF:=zH (@gZ r k aa);have aB:=zH (@YP r k aa);have h1:=zH (@wE r.n (r.h k) k);have h2:=zH (@wD r.n k);have h3:=zH (@hZ r.n (r.h k) k);have h4:=zH (@hU r.n (r.h k) k);have h5:=zH (@YQ r.n (r.h k) k);obtain⟨x,rr⟩:=Kh (r.h k);rw[rr] at hx aF aB h1 h3 h4 h5
   by_cases hp:r.n<=(k:Int)
   . by_cases hz:x=0
     . subst hz
       have hR:=zH (ag.out.trans (aB.out (h2.out hp)));go_wp2_with fail
       all_goals first | (exfalso;omega) | skip
       go_round
       case rel=>exact⟨k+1,by omega,by go_num,hR⟩
       simp[Ao];omega
     have he:=h1.out hp hz;have hR:=zH (ag.out.trans ((aF.out (by rw[he];decide)).trans he));have e0:(x != 0)=Ar:=by simpa using hz
     go_wp2_with fail
     all_goals first | (exfalso;omega) | skip
     go_ret;exact⟨zc hR.out.symm,zw w _⟩
   have hF:=zH (J5 r.n (by omega) (by omega));have fI:=pow_le (n:=r.n) (by omega);obtain⟨F,GF⟩:∃F:Nat,(2^r.n.toNat-1:Nat)=F:=⟨_,rfl⟩;rw[GF] at h3 h4 h5 hF fI
   by_cases ho:x<0\/(F:Int)<x
   . have he:=h3.out hp ho
     have hR:=zH (ag.out.trans ((aF.out (by rw[he];decide)).trans he))
     by_cases iJ:x<0
     . clear ho
       go_wp2_with fail
       all_goals first | (exfalso;omega) | skip
       go_ret;exact⟨zc hR.out.symm,zw w _⟩
     have lX:(F:Int)<x:=by omega
     go_wp2_with (go_at_call 131;refine(hF.out _).mono ?_;rintro e w' ⟨rfl,rfl⟩)
     all_goals first | (exfalso;omega) | skip
     go_ret;exact⟨zc hR.out.symm,zw w _⟩
   obtain⟨m,rfl⟩:=Lq (show 0<=x by omega);have hm:m<32:=by omega
   have iS:=bit_zero hm aa;have iJ:¬((m:Int)<0):=by omega
   have lX:¬((F:Int)<(m:Int)):=by omega
   by_cases hb:m.testBit k=Ar
   . have hR:=zH (ag.out.trans (aB.out (h4.out hp ho (by simpa using hb))))
     rw[hb] at iS;go_wp2_with (go_at_call 131;refine(hF.out _).mono ?_;rintro e w' ⟨rfl,rfl⟩)
     all_goals first | (exfalso;omega) | skip
     go_round
     case rel=>exact⟨k+1,by omega,by go_num,hR⟩
     simp[Ao];omega
   have cz:m.testBit k=As:=by simpa using hb
   have he:=h5.out hp ho (by simpa using cz);have hR:=zH (ag.out.trans ((aF.out (by rw[he];decide)).trans he));rw[cz] at iS;go_wp2_with (go_at_call 131;refine(hF.out _).mono ?_;rintro e w' ⟨rfl,rfl⟩)
   all_goals first | (exfalso;omega) | skip
   go_ret;exact⟨zc hR.out.symm,zw w _⟩
 obtain rfl:k=5:=by omega
 have hR:Ap (E=0):=ag.out;go_wp2_with fail;go_ret;exact⟨zc hR.out.symm,zw w _⟩
theorem ku(r:Rd)(k:Nat)(hk:k<5):r.gcells[1+k]?=J (O U (r.h k)):=by
 obtain rfl | rfl | rfl | rfl | rfl:k=0\/k=1\/k=2\/k=3\/k=4:=by omega
 all_goals rfl
theorem Yk(r:Rd)(w:Ba):An Al 174 #[.agg r.gcells] w fun e w'=>e=Ak (O U (zS r))/\Am w.heap.size w w':=by
 have aA:=zH (@jU r);have al:=zH (@wF r);obtain⟨E,hE⟩:=Kh (zS r);rw[hE] at aA al ⊢;have Dg:=zH (fun k hk=>za (ze w (Ag r.gcells 45)) (1+k) (ku r k hk));unfold Rd.gcells at Dg ⊢
 by_cases hr:r.n<1\/5<r.n
 . have HR:=zH (aA.out hr)
   have HN:=zH hr;go_enter func174,ntmps174;go_wp2_with fail
   all_goals first | (exfalso;have:=HN.out;omega) | (go_ret;exact⟨zc HR.out.symm,zw w _⟩)
 have r1:¬r.n<1:=by omega
 have r2:¬5<r.n:=by omega
 have HE:=zH (al.out hr);go_enter func174,ntmps174;go_wp2_with fail
 all_goals first | (exfalso;omega) | skip
 obtain⟨W0,bg⟩:=Kh (w.alloc (Ag #[O U r.n,O U r.h0,O U r.h1,O U r.h2,O U r.h3,O U r.h4] 45));have ce:W0.heap[w.heap.size]?=J (Ag #[O U r.n,O U r.h0,O U r.h1,O U r.h2,O U r.h3,O U r.h4] 45 (0,0)):=by rw[<-bg];exact ze _ _
 have HB:=zH (show Am w.heap.size w W0 by rw[<-bg];exact zw w _);have q0:=za ce 0 rfl;rw[bg] at Dg ⊢
 go_loop [3] (fun i=>∃k:Nat,k<=5/\i=O U (k:Int)/\Ap (E=zX r (5-k) k)) (fun i=>5-(Ao i).toNat)
 case atStart=>exact⟨0,by omega,rfl,HE⟩
 obtain⟨k,hk,rfl,ag⟩:=hrel
 by_cases aa:k<5
 . have hx:=Dg.out k aa
   have aF:=zH (@gZ r k aa);have aB:=zH (@YP r k aa);have h1:=zH (@wE r.n (r.h k) k);have h2:=zH (@wD r.n k);have h3:=zH (@hZ r.n (r.h k) k);have h4:=zH (@hU r.n (r.h k) k);have h5:=zH (@YQ r.n (r.h k) k);obtain⟨x,rr⟩:=Kh (r.h k);rw[rr] at hx aF aB h1 h3 h4 h5
   by_cases hp:r.n<=(k:Int)
   . by_cases hz:x=0
     . subst hz
       have hR:=zH (ag.out.trans (aB.out (h2.out hp)));go_wp2_with fail
       all_goals first | (exfalso;omega) | skip
       go_round
       case rel=>exact⟨k+1,by omega,by go_num,hR⟩
       simp[Ao];omega
     have he:=h1.out hp hz;have hR:=zH (ag.out.trans ((aF.out (by rw[he];decide)).trans he));have e0:(x != 0)=Ar:=by simpa using hz
     go_wp2_with fail
     all_goals first | (exfalso;omega) | skip
     go_ret;exact⟨zc hR.out.symm,HB.out⟩
   have hF:=zH (XF r.n (by omega) (by omega));have fI:=pow_le (n:=r.n) (by omega);obtain⟨F,GF⟩:∃F:Nat,(2^r.n.toNat-1:Nat)=F:=⟨_,rfl⟩;rw[GF] at h3 h4 h5 hF fI
   by_cases ho:x<0\/(F:Int)<x
   . have he:=h3.out hp ho
     have hR:=zH (ag.out.trans ((aF.out (by rw[he];decide)).trans he))
     by_cases iJ:x<0
     . clear ho
       go_wp2_with fail
       all_goals first | (exfalso;omega) | skip
       go_ret;exact⟨zc hR.out.symm,HB.out⟩
     have lX:(F:Int)<x:=by omega
     go_wp2_with (go_at_call 180;refine(hF.out _).mono ?_;rintro e w' ⟨rfl,dw⟩;obtain rfl:=dw.symm)
     all_goals first | (exfalso;omega) | skip
     go_ret;exact⟨zc hR.out.symm,HB.out⟩
   obtain⟨m,rfl⟩:=Lq (show 0<=x by omega);have hm:m<32:=by omega
   have iJ:¬((m:Int)<0):=by omega
   have lX:¬((F:Int)<(m:Int)):=by omega
   have hH:=zH (fun w=>uD m k hm aa w)
   by_cases hb:m.testBit k=Ar
   . have hR:=zH (ag.out.trans (aB.out (h4.out hp ho (by simpa using hb))))
     rw[hb] at hH;go_wp2_with (first | (go_at_call 180;refine(hF.out _).mono ?_;rintro e w' ⟨rfl,dw⟩;obtain rfl:=dw.symm) | (go_at_call 146;refine(hH.out _).mono ?_;rintro e w' ⟨rfl,rfl⟩))
     all_goals first | (exfalso;omega) | skip
     go_round
     case rel=>exact⟨k+1,by omega,by go_num,hR⟩
     simp[Ao];omega
   have cz:m.testBit k=As:=by simpa using hb
   have he:=h5.out hp ho (by simpa using cz);have hR:=zH (ag.out.trans ((aF.out (by rw[he];decide)).trans he));rw[cz] at hH;go_wp2_with (first | (go_at_call 180;refine(hF.out _).mono ?_;rintro e w' ⟨rfl,dw⟩;obtain rfl:=dw.symm) | (go_at_call 146;refine(hH.out _).mono ?_;rintro e w' ⟨rfl,rfl⟩))
   all_goals first | (exfalso;omega) | skip
   go_ret;exact⟨zc hR.out.symm,HB.out⟩
 obtain rfl:k=5:=by omega
 have hR:Ap (E=0):=ag.out;go_wp2_with fail;go_ret;exact⟨zc hR.out.symm,HB.out⟩
theorem jM{r:Rd}(h:zS r≠0):zJ r=zS r:=Lm h
theorem uV{r:Rd}(h:zS r=0):zJ r=yt r.n r.f:=Lk (by simpa using h)
theorem km(r:Rd)(w:Ba):An Al 60 #[.agg r.cells] w fun e w'=>e=Ak (O U (zJ r))/\Am w.heap.size w w':=by
 have aA:=zH (@jM r);have al:=zH (@uV r);have HG:=zH (fun w=>wG r w);have HS:=zH (fun w=>Zj r.n r.f w);obtain⟨E,hE⟩:=Kh (zJ r);rw[hE] at aA al ⊢;obtain⟨g,hg⟩:=Kh (zS r);rw[hg] at aA al HG;obtain⟨s,hs⟩:=Kh (yt r.n r.f);rw[hs] at al HS;unfold Rd.cells;unfold Rd.gcells at HG;go_enter func60,ntmps60;go_wp2_with fail;obtain⟨W0,bg⟩:=Kh (w.alloc (Ag #[O U r.n,O U r.h0,O U r.h1,O U r.h2,O U r.h3,O U r.h4,O U r.f] 75));have ce:W0.heap[w.heap.size]?=J (Ag #[O U r.n,O U r.h0,O U r.h1,O U r.h2,O U r.h3,O U r.h4,O U r.f] 75 (0,0)):=by rw[<-bg];exact ze _ _
 have hB:Am w.heap.size w W0:=by rw[<-bg];exact zw w _
 have fG:=zd ce;rw[bg];refine(HG.out W0).mono ?_;rintro e w1 ⟨rfl,aH⟩;have HB:=zH (Lc hB aH);have d0:=Lb aH fG ce;have q0:=za d0 0 rfl;have q6:=za d0 6 rfl
 by_cases h0:g=0
 . subst h0
   have hR:=zH (al.out (by simp));go_wp2_with fail;refine(HS.out _).mono ?_;rintro e w2 ⟨rfl,rfl⟩;go_wp2_with fail;go_ret;exact⟨zc hR.out.symm,HB.out⟩
 have hR:=zH (aA.out h0);have e0:(g != 0)=Ar:=by simpa using h0
 go_wp2_with fail;go_ret;exact⟨zc hR.out.symm,HB.out⟩
theorem uw(r:Rd)(w:Ba):An Al 161 #[.agg r.cells] w fun e w'=>e=Ak (O U (zJ r))/\Am w.heap.size w w':=by
 have aA:=zH (@jM r);have al:=zH (@uV r);have HG:=zH (fun w=>Yk r w);have HS:=zH (fun w=>XI r.n r.f w);obtain⟨E,hE⟩:=Kh (zJ r);rw[hE] at aA al ⊢;obtain⟨g,hg⟩:=Kh (zS r);rw[hg] at aA al HG;obtain⟨s,hs⟩:=Kh (yt r.n r.f);rw[hs] at al HS;unfold Rd.cells;unfold Rd.gcells at HG;go_enter func161,ntmps161;go_wp2_with fail;obtain⟨W0,bg⟩:=Kh (w.alloc (Ag #[O U r.n,O U r.h0,O U r.h1,O U r.h2,O U r.h3,O U r.h4,O U r.f] 75));have ce:W0.heap[w.heap.size]?=J (Ag #[O U r.n,O U r.h0,O U r.h1,O U r.h2,O U r.h3,O U r.h4,O U r.f] 75 (0,0)):=by rw[<-bg];exact ze _ _
 have hB:Am w.heap.size w W0:=by rw[<-bg];exact zw w _
 have fG:=zd ce;rw[bg];refine(HG.out W0).mono ?_;rintro e w1 ⟨rfl,aH⟩;have HB:=zH (Lc hB aH);have d0:=Lb aH fG ce;have q0:=za d0 0 rfl;have q6:=za d0 6 rfl
 by_cases h0:g=0
 . subst h0
   have hR:=zH (al.out (by simp));go_wp2_with fail;refine(HS.out _).mono ?_;rintro e w2 ⟨rfl,rfl⟩;go_wp2_with fail;go_ret;exact⟨zc hR.out.symm,HB.out⟩
 have hR:=zH (aA.out h0);have e0:(g != 0)=Ar:=by simpa using h0
 go_wp2_with fail;go_ret;exact⟨zc hR.out.symm,HB.out⟩
theorem yx(w:Ba)(c1 c2:Array Aq)(t1 t2:TypeId):∃W0,(w.alloc (Ag c1 t1)).alloc (Ag c2 t2)=W0/\W0.heap[w.heap.size]?=J (Ag c1 t1 (0,0))/\W0.heap[w.heap.size+1]?=J (Ag c2 t2 (0,0))/\w.heap.size+2<=W0.heap.size/\Am w.heap.size w W0:=
 ⟨_,rfl,zC (ze _ _) _,by have:=ze (w.alloc (Ag c1 t1)) (Ag c2 t2);rwa[LS] at this,by simp,xk w _ _⟩
theorem js{x y:Int}{l m:List Int}:zh (x::l) (y::m)=if qM x y≠0 then qM x y else zh l m:=by
 rw[zh];unfold qM
 by_cases h1:x<y
 . simp[h1]
 by_cases h2:y<x
 . simp[h1,h2]
 simp[h1,h2]
theorem uE{r:Rd}{k:Nat}(hk:k<5):r.gl.drop (k+1)=r.h k::r.gl.drop (k+2):=by
 obtain rfl | rfl | rfl | rfl | rfl:k=0\/k=1\/k=2\/k=3\/k=4:=by omega
 all_goals rfl
theorem gl_step{a b:Rd}{k:Nat}(hk:k<5):zh (a.gl.drop (k+1)) (b.gl.drop (k+1))=if qM (a.h k) (b.h k)≠0 then qM (a.h k) (b.h k) else zh (a.gl.drop (k+2)) (b.gl.drop (k+2)):=by
 rw[uE hk,uE hk,js]
theorem gl_zero{a b:Rd}:zh a.gl b.gl=if qM a.n b.n≠0 then qM a.n b.n else zh (a.gl.drop 1) (b.gl.drop 1):=js
theorem Q1{a b:Rd}:zh a.l b.l=if zh a.gl b.gl≠0 then zh a.gl b.gl else qM a.f b.f:=by
 unfold Rd.l Rd.gl;simp only[js]
 repeat' split
 all_goals first | rfl | (simp_all [zh];done) | (exfalso;simp_all [zh];done)
theorem cmpI_zero{x y:Int}(h:qM x y=0):x=y:=by
 unfold qM at h
 split at h
 . cases h
 split at h
 . cases h
 omega
theorem cmpI_self(x:Int):qM x x=0:=by unfold qM;rw[Lk (by omega),Lk (by omega)]
theorem ZS(a b:Rd)(w:Ba):An Al 158 #[.agg a.gcells,.agg b.gcells] w fun e w'=>e=Ak (O U (zh a.gl b.gl))/\∃W0 n,w'=World.drewN W0 n/\W0=(w.alloc (Ag a.gcells 45)).alloc (Ag b.gcells 45):=by
 have HQ:=zH (fun w=>eql_graph a b w);have H0:=zH (@gl_zero a b);have HS:Ap (a.gl=b.gl->zh a.gl b.gl=0):=fun h=>by rw[h];exact yF _
 obtain⟨E,hE⟩:=Kh (zh a.gl b.gl);rw[hE] at H0 HS ⊢;have fP:=zH (fun k hk=>za (zC (ze w (Ag a.gcells 45)) (Ag b.gcells 45)) (1+k) (ku a k hk));have fB:=zH (fun k hk=>za (ze (w.alloc (Ag a.gcells 45)) (Ag b.gcells 45)) (1+k) (ku b k hk));rw[LS] at fB;have HX:Ap (∃W0,W0=(w.alloc (Ag a.gcells 45)).alloc (Ag b.gcells 45)):=⟨_,rfl⟩;unfold Rd.gcells at HQ fP fB HX ⊢
 by_cases he:a.gl=b.gl
 . have hq:∀w,_:=fun w=>HQ.out w
   rw[Lo he] at hq;have hR:=zH (HS.out he);go_enter func158,ntmps158;go_wp2_with fail;go_ret;exact⟨zc hR.out.symm,_,0,rfl,rfl⟩
 have hq:∀w,_:=fun w=>HQ.out w
 rw[Lr he] at hq;clear HQ HS he;have HN:=zH (fun w=>uG a.n b.n w);obtain⟨cn,sc⟩:=Kh (qM a.n b.n);have F1:Ap (cn=0↔a.n=b.n):=by rw[<-sc];exact⟨cmpI_zero,fun h=>by rw[h];exact cmpI_self _⟩
 rw[sc] at H0 HN;clear sc
 by_cases hn:a.n=b.n
 . have tI:cn=0:=F1.out.2 hn
   subst tI;have HE:=zH (H0.out.trans (Lk (by simp)));have e0:(a.n != b.n)=As:=by simpa using hn
   clear H0 HN F1 hn;go_enter func158,ntmps158;go_wp2_with fail;obtain⟨W0,bg⟩:=HX.out;rw[<-bg] at fP fB ⊢;clear HX hq e0;have pY:=zH bg;clear bg
   go_loopw [20] (fun i wr=>∃k n:Nat,k<=5/\i=O U (k:Int)/\Ap (E=zh (a.gl.drop (k+1)) (b.gl.drop (k+1)))/\wr=W0.drewN n) (fun i _=>5-(Ao i).toNat)
   case atStart=>exact⟨0,0,by omega,rfl,HE,rfl⟩
   obtain⟨k,n,hk,rfl,ag,rfl⟩:=hrel;clear HE
   by_cases aa:k<5
   . have c1:=fP.out k aa
     have c2:=fB.out k aa;have hs:=zH (ag.out.trans (gl_step aa));have HC:=zH (fun (p:Nat)=>(uG (a.h k) (b.h k) (W0.drewN p)));obtain⟨x,hx⟩:=Kh (a.h k);obtain⟨y,hy⟩:=Kh (b.h k);rw[hx] at c1 hs HC;rw[hy] at c2 hs HC;obtain⟨cv,lL⟩:=Kh (qM x y);rw[lL] at hs HC;clear hx hy lL ag
     by_cases hz:cv=0
     . subst hz
       have hR:=zH (hs.out.trans (Lk (by simp)));clear hs;go_wp2_with fail;go_quiet ((go_at_call 138;exact(HC.out _).mono fun e w' h=>⟨h.1,_,h.2.symm⟩));go_wp2_with fail
       go_roundw
       case rel=>exact⟨k+1,_,by omega,by go_num,hR,rfl⟩
       simp[Ao];omega
     have hR:=zH (hs.out.trans (Lm hz));have e0:(cv != 0)=Ar:=by simpa using hz
     clear hs hz;go_wp2_with fail;go_quiet ((go_at_call 138;exact(HC.out _).mono fun e w' h=>⟨h.1,_,h.2.symm⟩));go_wp2_with fail;go_ret;exact⟨zc hR.out.symm,W0,_,by first | rfl | exact(PR ..),pY.out⟩
   obtain rfl:k=5:=by omega
   have hR:Ap (E=0):=ag.out;clear ag;go_wp2_with fail;go_ret;exact⟨zc hR.out.symm,W0,_,rfl,pY.out⟩
 have tI:¬cn=0:=fun h=>hn (F1.out.1 h)
 have HE:=zH (H0.out.trans (Lm tI));have e0:(a.n != b.n)=Ar:=by simpa using hn
 go_enter func158,ntmps158;go_wp2_with fail;refine(HN.out _).mono ?_;rintro e w1 ⟨rfl,rfl⟩;go_wp2_with fail;go_ret;exact⟨zc HE.out.symm,_,0,rfl,rfl⟩
theorem J6(a b:Rd)(w:Ba):An Al 158 #[.agg a.gcells,.agg b.gcells] w fun e w'=>e=Ak (O U (zh a.gl b.gl))/\Am w.heap.size w w':=
 (ZS a b w).mono fun e w' ⟨h1,W0,n,h2,h3⟩=>⟨h1,by rw[h2,h3];exact zF (xk w _ _) n⟩
theorem gh(a b:Rd)(w:Ba):An Al 141 #[.agg a.cells,.agg b.cells] w fun e w'=>e=Ak (O U (zh a.l b.l))/\Am w.heap.size w w':=by
 have HQ:=zH (fun w=>eql_round a b w);have HN:=zH (fun w=>JT a b w);have HS:=zH (@Q1 a b);have HZ:Ap (a=b->zh a.l b.l=0):=fun h=>by rw[h];exact yF _
 have HG:=zH (fun w=>J6 a b w);have HF:=zH (fun w=>uG a.f b.f w);have Ez:Ap (a.gl=b.gl↔zh a.gl b.gl=0):=⟨fun h=>by rw[h];exact yF _,xS⟩;obtain⟨E,hE⟩:=Kh (zh a.l b.l);rw[hE] at HS HZ ⊢;obtain⟨g,hg⟩:=Kh (zh a.gl b.gl);rw[hg] at HS HG Ez;obtain⟨c,hc⟩:=Kh (qM a.f b.f);rw[hc] at HS HF;unfold Rd.gcells at HN HG;unfold Rd.cells at HQ ⊢
 by_cases he:a=b
 . have hq:∀w,_:=fun w=>HQ.out w
   rw[Lo he] at hq;have hR:=zH (HZ.out he);clear HQ HN HS HZ HG HF Ez he;go_enter func141,ntmps141;go_wp2_with fail;go_ret;exact⟨zc hR.out.symm,xk w _ _⟩
 have hq:∀w,_:=fun w=>HQ.out w
 rw[Lr he] at hq
 by_cases cI:a.gl=b.gl
 . have hn:∀w,_:=fun w=>HN.out w
   rw[show decide (a.gl≠b.gl)=As by simpa using cI] at hn;have hR:=zH (HS.out.trans (Lk (by simpa using Ez.out.1 cI)));go_enter func141,ntmps141;go_wp2_with fail;refine(HF.out _).mono ?_;rintro e w1 ⟨rfl,rfl⟩;go_wp2_with fail;go_ret;exact⟨zc hR.out.symm,xk w _ _⟩
 have hn:∀w,_:=fun w=>HN.out w
 rw[show decide (a.gl≠b.gl)=Ar by simpa using cI] at hn;have hR:=zH (HS.out.trans (Lm (fun h=>cI (Ez.out.2 h))));go_enter func141,ntmps141;go_wp2_with fail;refine(HG.out _).mono ?_;rintro e w1 ⟨rfl,hb⟩;have HB:=zH ((xk w (Ag #[O U a.n,O U a.h0,O U a.h1,O U a.h2,O U a.h3,O U a.h4,O U a.f] 75) (Ag #[O U b.n,O U b.h0,O U b.h1,O U b.h2,O U b.h3,O U b.h4,O U b.f] 75)).trans (hb.mono (by simp;omega)));go_wp2_with fail;go_ret;exact⟨zc hR.out.symm,HB.out⟩
theorem XD(a b:Rd)(w:Ba):An Al 176 #[.agg a.gcells,.agg b.gcells] w fun e w'=>e=Ak (O U (zh a.gl b.gl))/\Am w.heap.size w w':=by
 have H0:Ap (zh a.gl b.gl=if a.n<b.n then -1 else if b.n<a.n then 1 else zh (a.gl.drop 1) (b.gl.drop 1)):=rfl;obtain⟨E,hE⟩:=Kh (zh a.gl b.gl);rw[hE] at H0 ⊢;have fP:=zH (fun k hk=>za (zC (ze w (Ag a.gcells 45)) (Ag b.gcells 45)) (1+k) (ku a k hk));have fB:=zH (fun k hk=>za (ze (w.alloc (Ag a.gcells 45)) (Ag b.gcells 45)) (1+k) (ku b k hk));rw[LS] at fB;have HX:Ap (∃W0,W0=(w.alloc (Ag a.gcells 45)).alloc (Ag b.gcells 45)):=⟨_,rfl⟩;unfold Rd.gcells at fP fB HX ⊢;clear hE
 by_cases h1:a.n<b.n
 . have hR:=zH (H0.out.trans (Lm h1))
   clear H0 fP fB HX;go_enter func176,ntmps176;go_wp2_with fail;go_ret;exact⟨zc hR.out.symm,xk w _ _⟩
 by_cases h2:b.n<a.n
 . have hR:=zH (H0.out.trans ((Lk h1).trans (Lm h2)))
   clear H0 fP fB HX;go_enter func176,ntmps176;go_wp2_with fail
   all_goals first | (exfalso;omega) | skip
   go_ret;exact⟨zc hR.out.symm,xk w _ _⟩
 have HE:=zH (H0.out.trans ((Lk h1).trans (Lk h2)));clear H0;go_enter func176,ntmps176;go_wp2_with fail
 all_goals first | (exfalso;omega) | skip
 obtain⟨W0,bg⟩:=HX.out;rw[<-bg] at fP fB ⊢;clear HX;have pY:=zH (show Am w.heap.size w W0 by rw[bg];exact xk w _ _);clear bg
 go_loopw [5] (fun i wr=>∃k n:Nat,k<=5/\i=O U (k:Int)/\Ap (E=zh (a.gl.drop (k+1)) (b.gl.drop (k+1)))/\wr=W0.drewN n) (fun i _=>5-(Ao i).toNat)
 case atStart=>exact⟨0,0,by omega,rfl,HE,rfl⟩
 obtain⟨k,n,hk,rfl,ag,rfl⟩:=hrel;clear HE
 by_cases aa:k<5
 . have c1:=fP.out k aa
   have c2:=fB.out k aa;have hs:E=if a.h k<b.h k then -1 else if b.h k<a.h k then 1 else zh (a.gl.drop (k+1+1)) (b.gl.drop (k+1+1)):=by rw[ag.out,uE aa,uE aa,zh]
   obtain⟨x,hx⟩:=Kh (a.h k);obtain⟨y,hy⟩:=Kh (b.h k);rw[hx] at c1 hs;rw[hy] at c2 hs;have HS:=zH hs;clear hx hy ag hs
   by_cases l1:x<y
   . have hR:=zH (HS.out.trans (Lm l1))
     clear HS;go_wp2_with fail;go_quiet (fail);go_wp2_with fail;go_ret;exact⟨zc hR.out.symm,by repeat (first | exact pY.out | refine zF ?_ _)⟩
   by_cases l2:y<x
   . have hR:=zH (HS.out.trans ((Lk l1).trans (Lm l2)))
     clear HS;go_wp2_with fail;go_quiet (fail);go_wp2_with fail;go_quiet (fail);go_wp2_with fail;go_ret;exact⟨zc hR.out.symm,by repeat (first | exact pY.out | refine zF ?_ _)⟩
   have hR:=zH (HS.out.trans ((Lk l1).trans (Lk l2)));clear HS;go_wp2_with fail;go_quiet (fail);go_wp2_with fail;go_quiet (fail);go_wp2_with fail
   go_roundw
   case rel=>exact⟨k+1,_,by omega,by go_num,hR,rfl⟩
   simp[Ao];omega
 obtain rfl:k=5:=by omega
 have hR:Ap (E=0):=ag.out;clear ag;go_wp2_with fail;go_ret;exact⟨zc hR.out.symm,by repeat (first | exact pY.out | refine zF ?_ _)⟩
theorem uT(a b:Rd)(w:Ba):An Al 162 #[.agg a.cells,.agg b.cells] w fun e w'=>e=Ak (O U (zh a.l b.l))/\Am w.heap.size w w':=by
 have HS:=zH (@Q1 a b);have HG:=zH (fun w=>XD a b w);have HF:Ap (qM a.f b.f=if a.f<b.f then -1 else if b.f<a.f then 1 else 0):=rfl;obtain⟨E,hE⟩:=Kh (zh a.l b.l);rw[hE] at HS ⊢;obtain⟨g,hg⟩:=Kh (zh a.gl b.gl);rw[hg] at HS HG;rw[HF.out] at HS;unfold Rd.gcells at HG;unfold Rd.cells;go_enter func162,ntmps162;go_wp2_with fail;obtain⟨W0,bg,b0,b1,bk,bh⟩:=yx w #[O U a.n,O U a.h0,O U a.h1,O U a.h2,O U a.h3,O U a.h4,O U a.f] #[O U b.n,O U b.h0,O U b.h1,O U b.h2,O U b.h3,O U b.h4,O U b.f] 75 75;rw[bg];refine(HG.out W0).mono ?_;rintro e w1 ⟨rfl,aH⟩;have HB:=zH (Lc bh aH);have d0:=Lb aH (by omega) b0;have d1:=Lb aH (by omega) b1;have q6:=za d0 6 rfl;have p6:=za d1 6 rfl
 by_cases h0:g=0
 . subst h0
   have hR:=zH (HS.out.trans (Lk (by simp)))
   by_cases l1:a.f<b.f
   . have hR:=zH (hR.out.trans (Lm l1))
     go_wp2_with fail;go_ret;exact⟨zc hR.out.symm,HB.out⟩
   by_cases l2:b.f<a.f
   . have hR:=zH (hR.out.trans ((Lk l1).trans (Lm l2)))
     go_wp2_with fail
     all_goals first | (exfalso;omega) | skip
     go_ret;exact⟨zc hR.out.symm,HB.out⟩
   have hR:=zH (hR.out.trans ((Lk l1).trans (Lk l2)));go_wp2_with fail
   all_goals first | (exfalso;omega) | skip
   go_ret;exact⟨zc hR.out.symm,HB.out⟩
 have hR:=zH (HS.out.trans (Lm h0));have e0:(g != 0)=Ar:=by simpa using h0
 go_wp2_with fail;go_ret;exact⟨zc hR.out.symm,HB.out⟩
end
section
open Go.RowKit
attribute [local go_sem] Oper.semAt_some
def LowA(a:Ad):Prop:=a.sts.length<=17592186044416/\∀l∈a.sts,l.length<=17592186044416
theorem ad_eq{a b:Ad}(h1:a.n=b.n)(h2:a.sts=b.sts):a=b:=by cases a;cases b;simp_all
theorem Xz(a b:Ad)(ha:LowA a)(hb:LowA b)(A B:Bb)(ca cb:Nat)(w:Ba)(hA:SAt w w.heap.size A a.sts)(hB:SAt w w.heap.size B b.sts) :
  An Al 128 #[Ai #[O U a.n,I A a.sts.length ca],Ai #[O U b.n,I B b.sts.length cb]] w fun e w'=>e=Ak (Ah (decide (a=b)))/\Am w.heap.size w w':=by
 obtain⟨dp,eJ⟩:=ha;obtain⟨aH,ae⟩:=hb;have sK:=zH eJ;have oR:=zH ae;obtain⟨w1,af,d0,d1,aW,bE⟩:=yx w #[O U a.n,I A a.sts.length ca] #[O U b.n,I B b.sts.length cb] 27 27;have HA:=zH ((hA.keep bE).more bE.size);have HB:=zH ((hB.keep bE).more bE.size);have aT:=zH bE;have aX:=zH d0;have bH:=zH d1;have au:=zH af;obtain⟨p0,p1,_⟩:=Ka d0;obtain⟨q0,q1,_⟩:=Ka d1;clear af d0 d1 bE hA hB eJ ae;have HT:Ap (a≠b->decide (a=b)=As):=fun h=>Lr h
 have HU:Ap (a=b->decide (a=b)=Ar):=fun h=>Lo h
 obtain⟨r,hr⟩:∃r,decide (a=b)=r:=⟨_,rfl⟩;rw[hr] at HT HU ⊢;clear hr;go_enter func128,ntmps128
 by_cases h1:a.n=b.n
 case neg=>
  have hR:=zH (HT.out (fun h=>h1 (congrArg Ad.n h)));have e0:(a.n != b.n)=Ar:=by simpa using h1
  clear HT HU;go_wp2_with fail;rw[au.out];go_wp2_with fail
  all_goals
   go_ret;exact⟨zg hR.out.symm,aT.out⟩
 case pos=>
 have H3:Ap (a.sts=b.sts->r=Ar):=fun h=>HU.out (ad_eq h1 h)
 have H4:Ap (a.sts≠b.sts->r=As):=fun h=>HT.out (fun e=>h (congrArg Ad.sts e))
 rw[h1] at p0 au aX ⊢;clear h1 HT HU
 by_cases h3:a.sts.length=b.sts.length
 case neg=>
  have hR:=zH (H4.out (fun h=>h3 (by rw[h])));have e0:((a.sts.length:Int) != (b.sts.length:Int))=Ar:=by simp;omega
  have e1:¬((a.sts.length:Int)=(b.sts.length:Int)):=by omega
  clear H3 H4 h3;go_wp2_with fail;rw[au.out];go_wp2_with fail;go_ret;exact⟨zg hR.out.symm,aT.out⟩
 case pos=>
 have HL:=zH h3;rw[<-h3] at q1 aH au bH ⊢;clear h3;go_wp2_with fail;rw[au.out];go_wp2_with fail;clear p0 p1 q0 q1 au
 go_loopw [5] (fun i wr=>∃k:Nat,k<=a.sts.length/\i=O U (k:Int)/\Ap (a.sts.take k=b.sts.take k)/\Ap (Am w1.heap.size w1 wr)) (fun i _=>a.sts.length-(Ao i).toNat)
 case atStart=>exact⟨0,by omega,rfl,by rw[Ap,LQ,LQ],Ln _ _⟩
 obtain⟨k,hk,rfl,hp,aD⟩:=hrel;have p1:=za (La aD.out aX.out) 1 rfl;have q1:=za (La aD.out bH.out) 1 rfl;have Ic:=HL.out
 by_cases aa:k<a.sts.length
 case neg=>
  obtain rfl:k=a.sts.length:=by omega
  have hR:=zH (H3.out (xQ HL.out hp.out));clear H3 H4 hp;go_wp2_with fail;go_ret;exact⟨zg hR.out.symm,Lc aT.out aD.out⟩
 case pos=>
 have dm:k<b.sts.length:=by omega
 obtain⟨ba,oa,A',k1,ea,Gf,a0,IA⟩:=(HA.out.keep aD.out).at_ k aa;obtain⟨bb,ob,B',k2,eb,aL,b0,IB⟩:=(HB.out.keep aD.out).at_ k dm;subst ea;subst eb;have dd:=sK.out _ (Le aa);have dR:=oR.out _ (Le dm);have h0:Ap (a.sts[k]=b.sts[k]->a.sts.take (k+1)=b.sts.take (k+1)):=fun he=>xp hp.out aa dm he
 have hN:Ap (a.sts[k]≠b.sts[k]->r=As):=fun he=>H4.out (fun h=>he (by simp only[h]))
 obtain⟨X,hX⟩:=Kh (a.sts[k]);obtain⟨Y,hY⟩:=Kh (b.sts[k]);rw[hX] at a0 IA dd h0 hN;rw[hY] at b0 IB dR h0 hN
 by_cases hl:X.length=Y.length
 case neg=>
  have hR:=zH (hN.out (fun h=>hl (by rw[h])));have e0:((X.length:Int) != (Y.length:Int))=Ar:=by simp;omega
  go_wp2_with fail;go_quiet (fail);go_wp2_with fail;go_ret;exact⟨zg hR.out.symm,zF (Lc aT.out aD.out) _⟩
 case pos=>
 have iF:=zH hl;rw[<-hl] at b0 dR;have Mb:Ap (∀W,Am wr.heap.size wr W->W.cell? ⟨ba,oa+k,Z⟩=J (I A' X.length k1)):=fun W hW=>(hW.cell (p:=⟨ba,_,Z⟩) (LD Gf aD.out.size)).trans a0
 have tG:Ap (∀W,Am wr.heap.size wr W->W.cell? ⟨bb,ob+k,Z⟩=J (I B' X.length k2)):=fun W hW=>(hW.cell (p:=⟨bb,_,Z⟩) (LD aL aD.out.size)).trans b0
 have Oz:=zH (IA.more aD.out.size);have Oy:=zH (IB.more aD.out.size);obtain⟨W0,bg⟩:=Kh wr;rw[bg] at aD Mb tG Oz Oy p1 q1 a0 b0 ⊢;have i5:=zH aD.out.size;go_wp2_with fail;go_quiet (fail);go_wp2_with fail
 go_loopw [6] (fun i wx=>∃j:Nat,j<=X.length/\i=O U (j:Int)/\Ap (X.take j=Y.take j)/\Ap (Am W0.heap.size W0 wx)) (fun i _=>X.length-(Ao i).toNat)
 case atStart=>exact⟨0,by omega,rfl,by rw[Ap,LQ,LQ],zF (Ln _ _) _⟩
 obtain⟨j,hj,rfl,hq,aI⟩:=hrel;have iT:=aD.out.trans (aI.out.mono i5.out);have OP:=zH iT;have p1:=za (La iT aX.out) 1 rfl;have q1:=za (La iT bH.out) 1 rfl;have a0:=Mb.out _ aI.out;have b0:=tG.out _ aI.out;clear iT
 by_cases bf:j<X.length
 case neg=>
  obtain rfl:j=X.length:=by omega
  have hR:=zH (h0.out (xQ iF.out hq.out));clear h0 hN hq H3 H4;go_wp2_with fail
  go_roundw
  case rel=>exact⟨k+1,by omega,by go_num,hR,OP⟩
  simp[Ao];omega
 case pos=>
 have FJ:j<Y.length:=by have:=iF.out;omega
 obtain⟨b3,o3,e3,_,x0,x1,x2,x3,x4,x5,x6,x7⟩:=(Oz.out.keep aI.out).row j bf;obtain⟨b4,o4,e4,_,y0,y1,y2,y3,y4,y5,y6,y7⟩:=(Oy.out.keep aI.out).row j FJ;subst e3;subst e4;have hm:=fun W=>neq_move X[j] Y[j] W
 have g0:Ap (X[j]=Y[j]->X.take (j+1)=Y.take (j+1)):=fun he=>xp hq.out bf FJ he
 have gN:Ap (X[j]≠Y[j]->r=As):=fun he=>hN.out (fun h=>he (by simp only[h]))
 obtain⟨m,KN⟩:=Kh (X[j]);obtain⟨m',Br⟩:=Kh (Y[j]);rw[KN] at x0 x1 x2 x3 x4 x5 x6 x7 hm g0 gN;rw[Br] at y0 y1 y2 y3 y4 y5 y6 y7 hm g0 gN;clear KN Br hq
 by_cases he:m=m'
 . have hR:=zH (g0.out he)
   rw[Lr (by simpa using he)] at hm;unfold Mv.cells at hm;subst he;clear g0 gN h0 hN H3 H4;go_wp2_with fail;go_quiet (fail);go_wp2_with fail
   go_roundw
   case rel=>exact⟨j+1,by omega,by go_num,hR,zF aI.out _⟩
   simp[Ao];omega
 have hR:=zH (gN.out he);rw[Lo (by simpa using he)] at hm;unfold Mv.cells at hm;clear g0 gN h0 hN H3 H4 he;go_wp2_with fail;go_quiet (fail);go_wp2_with fail;go_ret;exact⟨zg hR.out.symm,zF (Lc aT.out OP.out) _⟩
end
end Go.Proofs.YtkledihebeidlaaGreatDoor
namespace Go.Proofs
set_option maxHeartbeats 4000000
open Go.Shelf
def Tryz.lays212_ren:Go.Shelf.Ren:=⟨fun | 212=>90 | 263=>116 | 264=>117 | n=>n,fun | 46=>168 | 51=>194 | 146=>195 | 53=>197 | 148=>198 | n=>n,fun | n=>n⟩
theorem Tryz.lays212:Go.Proofs.Lays.n212 Tryz.prog Tryz.lays212_ren:={
 mixed:=by kernel_rfl
 f212:=Tryz.func90.trans (congrArg some (by kernel_rfl))
 f263:=Tryz.func116.trans (congrArg some (by kernel_rfl))
 f264:=Tryz.func117.trans (congrArg some (by kernel_rfl))
 t46:=Tryz.underlying168
 a46:=Tryz.isAgg168
 z46:=Tryz.sizeOf168
 v46:=Tryz.zeroValue168
 t51:=Tryz.underlying194
 a51:=Tryz.isAgg194
 z51:=Tryz.sizeOf194
 v51:=Tryz.zeroValue194
 t53:=Tryz.underlying197
 a53:=Tryz.isAgg197
 z53:=Tryz.sizeOf197
 v53:=Tryz.zeroValue197
 t146:=Tryz.underlying195
 a146:=Tryz.isAgg195
 z146:=Tryz.sizeOf195
 v146:=Tryz.zeroValue195
 t148:=Tryz.underlying198
 a148:=Tryz.isAgg198
 z148:=Tryz.sizeOf198
 v148:=Tryz.zeroValue198 }
open Go.RowKit Go.Lib in
/-- math/bits.Mul: "Mul returns the full-width product of x and y": on a machine of 64 bits: Mul64's. (LAID: no walk: one application.) -/
theorem Tryz.bits_Mul (x y:Nat) (hx:x<18446744073709551616) (hy:y<18446744073709551616) (w:World) :
  Calls Tryz.prog 90 #[.int .u64 x,.int .u64 y] w fun e w'=>e=.returned (.tuple #[.int .u64 ((x*y / 18446744073709551616:Nat):Int),.int .u64 ((x*y % 18446744073709551616:Nat):Int)])∧w'=w:=Any.bits_Mul Tryz.lays212 x y hx hy w
end Go.Proofs
namespace Go.Proofs.YtkledihebeidlaaGreatDoor
set_option maxRecDepth 100000
set_option maxHeartbeats 4000000
section
open Go.RowKit
def RetIdx(b:Bool)(w:Ba)(e:Ending)(w':Ba):Prop:=∃i:Int,e=Ak (O U i)/\decide (0<=i)=b/\∃n,w'=w.drewN n
theorem j7{α:Type}{p:α->Bool}{l:List α}{k:Nat}(hk:k<l.length):(l.drop k).any p=(p l[k]||(l.drop (k+1)).any p):=by
 rw[Lx hk];rfl
theorem uH{α:Type}{p:α->Bool}{l:List α}{k:Nat}(hk:k=l.length):(l.drop k).any p=As:=by subst hk;rw[Nv];rfl
theorem Z5(x m:Int)(bm:Nat)(w:Ba)(hb:w.heap[bm]?=J (Ag #[O U m] 3 (0,0))) :
  An Al 137 #[O U x,Aj (J ⟨bm,0,Z⟩)] w fun e w'=>e=Ak (Ah (ql m x))/\w=w':=by
 have H:Ap (ql m x=decide (x<0\/m<=x)):=rfl;have c0:=za hb 0 rfl;go_enter func137,ntmps137;go_wp2
 all_goals
  go_ret;refine⟨zg ?_,rfl⟩;rw[H.out];simp
  try omega
theorem Xk(A:Bb)(c:Nat)(xs:List Int)(m:Int)(bm:Nat)(hl:xs.length<=17592186044416)(w:Ba)(hA:IAt w w.heap.size A xs)(hb:w.heap[bm]?=J (Ag #[O U m] 3 (0,0))) :
  An Al 68 #[I A xs.length c,.func (.func 137) #[] #[Aj (J ⟨bm,0,Z⟩)]] w (RetIdx (xs.any (ql m)) w):=by
 have HA:=zH hA;have HV:=zH (fun x=>Z5 x m bm w hb);obtain⟨r,hr⟩:=Kh (xs.any (ql m));rw[hr];have HR:Ap (r=(xs.drop 0).any (ql m)):=by rw[L8];exact hr.symm
 go_enter func68,ntmps68;go_wp2_with fail
 go_loop [8] (fun i=>∃k:Nat,k<=xs.length/\i=O U (k:Int)/\Ap (r=(xs.drop k).any (ql m))) (fun i=>xs.length-(Ao i).toNat)
 case atStart=>exact⟨0,by omega,rfl,HR⟩
 obtain⟨k,hk,rfl,ag⟩:=hrel
 by_cases aa:k<xs.length
 . obtain⟨b,o,rfl,dC,c1⟩:=HA.out.at_ k aa
   have hs:=j7 (p:=ql m) aa;obtain⟨x,hx⟩:=Kh (xs[k]);rw[hx] at c1 hs;have HS:=zH hs;have HC:=zH (HV.out x);obtain⟨bo,bU⟩:=Kh (ql m x);rw[bU] at HS HC;go_wp2_with fail;refine HC.out.mono ?_;rintro e w' ⟨rfl,rfl⟩
   cases bo with
   | true=>
    have hR:r=Ar:=by rw[ag.out,HS.out];rfl
    subst hR;go_wp2_with fail;go_ret;exact⟨(k:Int),rfl,by simp,0,rfl⟩
   | false=>
    have co:Ap (r=(xs.drop (k+1)).any (ql m)):=by rw[ag.out,HS.out];rfl
    go_wp2_with fail
    go_round
    case rel=>exact⟨k+1,by omega,by go_num,co⟩
    case measure=>simp[Ao];omega
 obtain rfl:k=xs.length:=by omega
 have hR:r=As:=ag.out.trans (uH rfl);subst hR;go_wp2_with fail;go_ret;exact⟨-1,rfl,by decide,0,rfl⟩
theorem gc(A:Bb)(c:Nat)(xs:List Int)(m:Int)(bm:Nat)(hl:xs.length<=17592186044416)(w:Ba)(hA:IAt w w.heap.size A xs)(hb:w.heap[bm]?=J (Ag #[O U m] 3 (0,0))) :
  An Al 29 #[I A xs.length c,.func (.func 137) #[] #[Aj (J ⟨bm,0,Z⟩)]] w fun e w'=>e=Ak (Ah (xs.any (ql m)))/\∃n,w'=w.drewN n:=by
 have hc:=Xk A c xs m bm hl w hA hb;obtain⟨r,hr⟩:=Kh (xs.any (ql m));rw[hr] at hc ⊢;have HC:=zH hc;go_enter func29,ntmps29;go_wp2_with fail;refine HC.out.mono ?_;rintro e w' ⟨i,rfl,hi,n,rfl⟩;have HI:=zH hi;clear hi HC;go_wp2_with fail;go_ret;exact⟨zg HI.out,_,rfl⟩
theorem kU{v:List Int}{n m:Int}(h:(v.length:Int)≠n):zo v n m=15:=Lm h
theorem kV{v:List Int}{n m:Int}(h:(v.length:Int)=n)(h2:v.any (ql m)=Ar):zo v n m=2:=by unfold zo;rw[Lk (by simpa using h),Lm h2]
theorem uJ{v:List Int}{n m:Int}(h:(v.length:Int)=n)(h2:v.any (ql m)=As):zo v n m=0:=by unfold zo;rw[Lk (by simpa using h),Lk (by rw[h2];decide)]
theorem vP(A:Bb)(c:Nat)(xs:List Int)(n m:Int)(hl:xs.length<=17592186044416)(w:Ba)(hA:IAt w w.heap.size A xs) :
  An Al 110 #[I A xs.length c,O U n,O U m] w fun e w'=>e=Ak (O U (zo xs n m))/\Am w.heap.size w w':=by
 have aA:=zH (@kU xs n m);have al:=zH (@kV xs n m);have az:=zH (@uJ xs n m);have HC:=zH (gc A c xs m w.heap.size hl (w.alloc (Ag #[O U m] 3)) ((hA.keep (zw w _)).more (by simp)) (ze _ _));obtain⟨r,hr⟩:=Kh (xs.any (ql m));rw[hr] at al az HC;obtain⟨E,hE⟩:=Kh (zo xs n m);rw[hE] at aA al az ⊢;go_enter func110,ntmps110
 by_cases hn:(xs.length:Int)=n
 . have e0:((xs.length:Int) != n)=As:=by simp[hn]
   have HN:=zH hn;go_wp2_with fail;refine HC.out.mono ?_;rintro e w' ⟨rfl,q,rfl⟩
   cases r with
   | true=>
    have HR:=zH (al.out HN.out (by rfl));go_wp2_with fail;go_ret;exact⟨zc HR.out.symm,zF (zw w _) _⟩
   | false=>
    have HR:=zH (az.out HN.out (by rfl));go_wp2_with fail;go_ret;exact⟨zc HR.out.symm,zF (zw w _) _⟩
 have HR:=zH (aA.out hn);have e0:((xs.length:Int) != n)=Ar:=by simp[hn]
 go_wp2_with fail;go_ret;exact⟨zc HR.out.symm,zw w _⟩
theorem gI(A:Bb)(c:Nat)(xss:List (List Int))(k:Nat)(hk:k<xss.length)(hl:xss.length<=17592186044416)(bq:∀v∈xss,v.length<=17592186044416)(w:Ba)(hA:LAt w w.heap.size A xss) :
  An Al 139 #[I A xss.length c,O U k] w fun e w'=>e=Ak (Ah (xA (zm xss k) xss[k]))/\∃n,w'=w.drewN n:=by
 cases k with
 | zero=>
  have HR:Ap (xA (zm xss 0) xss[0]=As):=by rw[vX];rfl
  go_enter func139,ntmps139;go_wp2_with fail;go_quiet (fail);go_wp2_with fail;go_ret;exact⟨zg HR.out.symm,_,rfl⟩
 | succ j=>
  have hj:j<xss.length:=by omega
  have hb:xA (zm xss (j+1)) xss[j+1]=decide (0<=zh xss[j] xss[j+1]):=by rw[zV xss j hj];rfl
  obtain⟨b,o,A1,c1,rfl,aH,q1,I1⟩:=hA.at_ (j+1) hk;obtain⟨b2,o2,A2,c2,e2,ae,q2,I2⟩:=hA.at_ j hj
  cases e2
  have l1:=bq _ (Le hk);have l2:=bq _ (Le hj);have hc:=fun n=>jJ A2 A1 c2 c1 xss[j] xss[j+1] l2 l1 (w.drewN n) I2 I1
  obtain⟨r,hr⟩:=Kh (zh xss[j] xss[j+1]);rw[hr] at hb hc;have HB:=zH hb;have HC:=zH hc;obtain⟨n1,dT⟩:=Kh (xss[j+1].length);obtain⟨n2,ol⟩:=Kh (xss[j].length);rw[dT,ol] at HC;rw[dT] at q1 l1;rw[ol] at q2 l2;have e1:((j:Int)+1).toNat=j+1:=by omega
  have e3:IntKind.i64.wrap ((j:Int)+1-1)=(j:Int):=by rw[Lw];omega
  have e5:IntKind.i64.wrap ((j:Int)+1)=(j:Int)+1:=by rw[Lw];omega
  go_enter func139,ntmps139;go_wp2_with fail;go_quiet ((go_at_call 111;exact Ru (HC.out _)));go_wp2_with fail;go_ret;exact⟨zg HB.out.symm,_,rfl⟩
theorem Zw{xs ys:List Int}{k:Nat}(hk:k<xs.length)(hl:xs.length=ys.length)(h:xs.take k=ys.take k)(h2:xs[k]=ys[k]'(by omega)):xs.take (k+1)=ys.take (k+1):=by
 rw[Ls hk,Ls (by omega),h,h2]
theorem Xs(A B:Bb)(ca cb:Nat)(xs ys:List Int)(hl:xs.length<=17592186044416)(fq:ys.length<=17592186044416)(w:Ba)(hA:IAt w w.heap.size A xs)(hB:IAt w w.heap.size B ys) :
  An Al 32 #[I A xs.length ca,I B ys.length cb] w fun e w'=>e=Ak (Ah (decide (xs=ys)))/\∃n,w'=w.drewN n:=by
 have HA:=zH hA;have HB:=zH hB;go_enter func32,ntmps32
 by_cases he:xs.length=ys.length
 . have e0:((xs.length:Int) != (ys.length:Int))=As:=by simp[he]
   go_wp2_with fail
   go_loopw [13] (fun i wr=>∃k n:Nat,k<=xs.length/\i=O U (k:Int)/\Ap (xs.take k=ys.take k)/\wr=w.drewN n) (fun i _=>xs.length-(Ao i).toNat)
   case atStart=>exact⟨0,0,by omega,rfl,by simp[Ap],rfl⟩
   obtain⟨k,n,hk,rfl,lZ,rfl⟩:=hrel
   by_cases aa:k<xs.length
   . obtain⟨b1,o1,rfl,aH,c1⟩:=HA.out.at_ k aa
     obtain⟨b2,o2,rfl,ae,c2⟩:=HB.out.at_ k (by omega);have S0:k<ys.length:=by omega
     obtain⟨x,hx⟩:=Kh (xs[k]);obtain⟨y,hy⟩:=Kh (ys[k]);have HX:=zH hx;have HY:=zH hy;rw[hx] at c1;rw[hy] at c2
     by_cases Ko:x=y
     . subst Ko
       go_wp2_with fail;go_quiet (fail);go_wp2_with fail
       go_roundw
       case rel=>exact⟨k+1,_,by omega,by go_num,Zw aa he lZ.out (HX.out.trans HY.out.symm),rfl⟩
       simp[Ao];omega
     go_wp2_with fail;go_quiet (fail);go_wp2_with fail;go_ret;refine⟨zg (Lr ?_).symm,by first | exact⟨_,rfl⟩ | exact Q2 _ _ _⟩;rintro rfl;exact Ko (HX.out.symm.trans HY.out)
   obtain rfl:k=xs.length:=by omega
   go_wp2_with fail;go_ret;refine⟨zg (Lo ?_).symm,_,rfl⟩;have:=lZ.out;rwa[LC,he,LC] at this
 have e0:((xs.length:Int) != (ys.length:Int))=Ar:=by simp;omega
 go_wp2_with fail;go_ret;exact⟨zg (Lr (fun h=>he (by rw[h]))).symm,0,rfl⟩
theorem has1_any(A B:Bb)(ca cb:Nat)(xs ys:List Int)(hl:xs.length<=17592186044416)(fq:ys.length<=17592186044416)(bv:Nat)(w:Ba)(hA:IAt w w.heap.size A xs)(hB:IAt w w.heap.size B ys)(hb:w.heap[bv]?=J (Ag #[I B ys.length cb] 49 (0,0))) :
  An Al 157 #[I A xs.length ca,Aj (J ⟨bv,0,Z⟩)] w fun e w'=>e=Ak (Ah (decide (xs=ys)))/\∃n,w'=w.drewN n:=by
 have c0:=za hb 0 rfl;have HC:=zH (Xs A B ca cb xs ys hl fq w hA hB);obtain⟨r,hr⟩:∃r,decide (xs=ys)=r:=⟨_,rfl⟩;rw[hr] at HC ⊢;go_enter func157,ntmps157;go_wp2_with fail;refine HC.out.mono ?_;rintro e w' ⟨rfl,n,rfl⟩;go_wp2_with fail;go_ret;exact⟨rfl,_,rfl⟩
theorem Qh(A:Bb)(c:Nat)(xss:List (List Int))(B:Bb)(cb:Nat)(ys:List Int)(bv:Nat)(hl:xss.length<=17592186044416)(bq:∀v∈xss,v.length<=17592186044416)(fq:ys.length<=17592186044416)(w:Ba)(hA:LAt w w.heap.size A xss)(hB:IAt w w.heap.size B ys)
  (hb:w.heap[bv]?=J (Ag #[I B ys.length cb] 49 (0,0))) :
  An Al 173 #[I A xss.length c,.func (.func 157) #[] #[Aj (J ⟨bv,0,Z⟩)]] w (RetIdx (xss.any fun x=>decide (x=ys)) w):=by
 have HA:=zH hA;have HB:=zH hB;have WB:=zH hb;have iF:=zH bq;obtain⟨r,hr⟩:∃r,(xss.any fun x=>decide (x=ys))=r:=⟨_,rfl⟩;rw[hr];have HR:Ap (r=(xss.drop 0).any fun x=>decide (x=ys)):=by rw[L8];exact hr.symm
 go_enter func173,ntmps173;go_wp2_with fail
 go_loopw [8] (fun i wr=>∃k n:Nat,k<=xss.length/\i=O U (k:Int)/\Ap (r=(xss.drop k).any fun x=>decide (x=ys))/\wr=w.drewN n) (fun i _=>xss.length-(Ao i).toNat)
 case atStart=>exact⟨0,0,by omega,rfl,HR,rfl⟩
 obtain⟨k,n,hk,rfl,ag,rfl⟩:=hrel
 by_cases aa:k<xss.length
 . obtain⟨b,o,A1,c1,rfl,dC,q1,I1⟩:=HA.out.at_ k aa
   have l1:=iF.out _ (Le aa);have hs:=j7 (p:=fun x=>decide (x=ys)) aa;have HC:=zH (has1_any A1 B c1 cb xss[k] ys l1 fq bv (w.drewN n) I1 HB.out WB.out);obtain⟨x,hx⟩:=Kh (xss[k]);rw[hx] at q1 hs HC l1;have HS:=zH hs;obtain⟨bo,bU⟩:∃bo,decide (x=ys)=bo:=⟨_,rfl⟩;rw[bU] at HS HC;obtain⟨xl,eN⟩:=Kh x.length;rw[eN] at q1 HC l1;go_wp2_with fail;refine HC.out.mono ?_;rintro e w' ⟨rfl,n2,rfl⟩
   cases bo with
   | true=>
    have hR:r=Ar:=by rw[ag.out,HS.out];rfl
    subst hR;go_wp2_with fail;go_ret;exact⟨(k:Int),rfl,by simp,_,rfl⟩
   | false=>
    have co:Ap (r=(xss.drop (k+1)).any fun x=>decide (x=ys)):=by rw[ag.out,HS.out];rfl
    go_wp2_with fail
    go_roundw
    case rel=>exact⟨k+1,_,by omega,by go_num,co,rfl⟩
    case measure=>simp[Ao];omega
 obtain rfl:k=xss.length:=by omega
 have hR:r=As:=ag.out.trans (uH rfl);subst hR;go_wp2_with fail;go_ret;exact⟨-1,rfl,by decide,_,rfl⟩
theorem gj(A:Bb)(c:Nat)(xss:List (List Int))(B:Bb)(cb:Nat)(ys:List Int)(bv:Nat)(hl:xss.length<=17592186044416)(bq:∀v∈xss,v.length<=17592186044416)(fq:ys.length<=17592186044416)(w:Ba)(hA:LAt w w.heap.size A xss)(hB:IAt w w.heap.size B ys)
  (hb:w.heap[bv]?=J (Ag #[I B ys.length cb] 49 (0,0))) :
  An Al 156 #[I A xss.length c,.func (.func 157) #[] #[Aj (J ⟨bv,0,Z⟩)]] w fun e w'=>e=Ak (Ah (xss.any fun x=>decide (x=ys)))/\∃n,w'=w.drewN n:=by
 have hc:=Qh A c xss B cb ys bv hl bq fq w hA hB hb;obtain⟨r,hr⟩:∃r,(xss.any fun x=>decide (x=ys))=r:=⟨_,rfl⟩;rw[hr] at hc ⊢;have HC:=zH hc;go_enter func156,ntmps156;go_wp2_with fail;refine HC.out.mono ?_;rintro e w' ⟨i,rfl,hi,n,rfl⟩;have HI:=zH hi;clear hi HC;go_wp2_with fail;go_ret;exact⟨zg HI.out,_,rfl⟩
theorem Jf{xss:List (List Int)}{ys:List Int}:(xss.any fun x=>decide (x=ys))=decide (ys∈xss):=by
 rw[NH,NC,Nw];constructor
 . rintro⟨x,h,e⟩
   rw[<-LA e];exact h
 exact fun h=>⟨ys,h,Lo rfl⟩
theorem thas_any(A:Bb)(c:Nat)(xss:List (List Int))(B:Bb)(cb:Nat)(ys:List Int)(hl:xss.length<=17592186044416)(bq:∀v∈xss,v.length<=17592186044416)(fq:ys.length<=17592186044416)(w:Ba)(hA:LAt w w.heap.size A xss)(hB:IAt w w.heap.size B ys) :
  An Al 140 #[I A xss.length c,I B ys.length cb] w fun e w'=>e=Ak (Ah (decide (ys∈xss)))/\Am w.heap.size w w':=by
 have HC:=zH (gj A c xss B cb ys w.heap.size hl bq fq (w.alloc (Ag #[I B ys.length cb] 49)) ((hA.keep (zw w _)).more (by simp)) ((hB.keep (zw w _)).more (by simp)) (ze _ _));rw[Jf] at HC;obtain⟨r,hr⟩:=Kh (decide (ys∈xss));rw[hr] at HC ⊢;go_enter func140,ntmps140;go_wp2_with fail;refine HC.out.mono ?_;rintro e w' ⟨rfl,n,rfl⟩;go_wp2_with fail;go_ret;exact⟨rfl,zF (zw w _) _⟩
theorem tboxes(w:Ba)(c1 c2:Array Aq)(t1 t2:TypeId):∃W0,(w.alloc (Ag c1 t1)).alloc (Ag c2 t2)=W0/\W0.heap[w.heap.size]?=J (Ag c1 t1 (0,0))/\W0.heap[w.heap.size+1]?=J (Ag c2 t2 (0,0))/\w.heap.size+2<=W0.heap.size/\Am w.heap.size w W0:=
 ⟨_,rfl,zC (ze _ _) _,by have:=ze (w.alloc (Ag c1 t1)) (Ag c2 t2);rwa[LS] at this,by simp,xk w _ _⟩
def FewL(l:List (List Int)):Prop:=l.length<=30/\∀v∈l,v.length<=10
def FewC(c:Cs):Prop:=c.inp.length<=10/\FewL c.out/\FewL c.calm
def FewT(t:Tk):Prop:=t.cases.length<=30/\∀c∈t.cases,FewC c
theorem ul{n m:Int}{c:Cs}(h:c.out.length<1):qy n m c=5:=Lm (.inl h)
theorem wT{n m:Int}{c:Cs}(h:1<=c.out.length)(h1:c.out.length<=30)(h2:qi (fun v=>zo v n m) c.out≠0):qy n m c=qi (fun v=>zo v n m) c.out:=by unfold qy;rw[Lk (by omega),Lm h2]
theorem um{n m:Int}{c:Cs}(h:1<=c.out.length)(h1:c.out.length<=30)(h2:qi (fun v=>zo v n m) c.out=0):qy n m c=qi (xZ c.out) c.calm:=by unfold qy;rw[Lk (by omega),Lk (by simpa using h2)]
theorem Zu(n ins m:Int)(cs:Aq)(A0 A1 A2:Bb)(k0 k1 k2:Nat)(x:Cs)(hf:FewC x)(w:Ba)(h1:LAt w w.heap.size A1 x.out)(h2:LAt w w.heap.size A2 x.calm) :
  An Al 112 #[Ai #[O U n,O U ins,O U m,cs],Ai #[I A0 x.inp.length k0,I A1 x.out.length k1,I A2 x.calm.length k2]] w fun e w'=>e=Ak (O U (qy n m x))/\Am w.heap.size w w':=by
 obtain⟨TA,⟨dA,eG⟩,Tz,DO⟩:=hf;have dP:=zH eG;have nF:=zH DO;have H1:=zH h1;have H2:=zH h2;have aA:=zH (@ul n m x);have al:=zH (@wT n m x);have az:=zH (@um n m x);obtain⟨E,hE⟩:=Kh (qy n m x);rw[hE] at aA al az ⊢;obtain⟨xi,xo,xc⟩:=x;dsimp only at TA dA Tz dP nF H1 H2 aA al az ⊢
 by_cases hz:xo.length<1
 . have HR:=zH (aA.out hz)
   go_enter func112,ntmps112;go_wp2_with fail
   all_goals first | (exfalso;omega) | skip
   go_ret;exact⟨zc HR.out.symm,xk w _ _⟩
 have bQ:¬((xo.length:Int)<1):=by omega
 have al:=zH (al.out (by omega) (by omega));have az:=zH (az.out (by omega) (by omega));go_enter func112,ntmps112;go_wp2_with fail
 all_goals first | (exfalso;omega) | skip
 obtain⟨W0,bg,b0,b1,bk,bh⟩:=tboxes w #[O U n,O U ins,O U m,cs] #[I A0 xi.length k0,I A1 xo.length k1,I A2 xc.length k2] 24 118;rw[bg];have dQ:=zH bh;have lD:=zH b0;have nz:=zH b1;clear bg bh b0 b1;obtain⟨F,hF⟩:∃F,qi (fun v=>zo v n m) xo=F:=⟨_,rfl⟩;have HF:Ap (F=yi (fun v=>zo v n m) xo 0):=by rw[xn];exact hF.symm
 rw[hF] at al az;clear hF
 go_loopw [23] (fun i wr=>∃k:Nat,k<=xo.length/\i=O U (k:Int)/\Ap (F=yi (fun v=>zo v n m) xo k)/\Am W0.heap.size W0 wr) (fun i _=>xo.length-(Ao i).toNat)
 case atStart=>exact⟨0,by omega,rfl,HF,Ln _ _⟩
 obtain⟨k,hk,rfl,ag,aD⟩:=hrel;clear HF;have dc:=zH (Lc dQ.out aD);have d0:=Lb aD (by omega) lD.out;have d1:=Lb aD (by omega) nz.out;have q0:=za d0 0 rfl;have q2:=za d0 2 rfl;have q3:=za d1 1 rfl;have q4:=za d1 2 rfl;have HW:=zH aD
 by_cases aa:k<xo.length
 . have HL:=zH (H1.out.keep dc.out)
   obtain⟨b,o,A3,k3,rfl,hb,c3,I3⟩:=HL.out.at_ k aa;have l3:=dP.out _ (Le aa);have aF:=zH (@xE (fun v=>zo v n m) xo k aa);have aU:=zH (@yV (fun v=>zo v n m) xo k aa);have aB:=zH (@qf (fun v=>zo v n m) xo k aa);have HV:=zH (fun (w':Ba) (h:IAt w' w'.heap.size A3 xo[k])=>vP A3 k3 xo[k] n m (by omega) w' h);have HU:=zH (fun (w':Ba) (h:LAt w' w'.heap.size (J ⟨b,o,Z⟩) xo)=>gI (J ⟨b,o,Z⟩) k1 xo k aa (by omega) (fun v hv=>by have:=dP.out v hv;omega) w' h);obtain⟨v,hv⟩:=Kh (xo[k]);obtain⟨bo,bU⟩:=Kh (xA (zm xo k) xo[k]);rw[bU] at aU aB HU;rw[hv] at c3 I3 l3 aF aU aB HV;obtain⟨ev,cm⟩:=Kh (zo v n m);rw[cm] at aF aU aB HV;obtain⟨vl,cS⟩:=Kh v.length;rw[cS] at c3 l3 HV;have HI:=zH I3;clear hv bU cm cS I3 aD d0 d1;go_wp2_with fail;refine(HV.out _ ((HI.out.more (by have:=dc.out.size;omega)))).mono ?_;rintro e w1 ⟨rfl,aH⟩;have dg:=zH (Lc dc.out aH);have au:=zH (Lc HW.out aH);have d0:=Lb au.out (by omega) lD.out;have d1:=Lb au.out (by omega) nz.out;have q0:=za d0 0 rfl;have q2:=za d0 2 rfl;have q3:=za d1 1 rfl;have q4:=za d1 2 rfl;clear aH d0 d1
   by_cases he:ev=0
   . subst he
     have pb:=zH ((H1.out.keep dg.out).more dg.out.size);clear aF;go_wp2_with fail;refine(HU.out _ pb.out).mono ?_;rintro e w2 ⟨rfl,nq,rfl⟩
     cases bo with
     | true=>
      have hR:=zH (ag.out.trans (aU.out (by simp) (by simp)));have HR:=zH ((al.out (by rw[hR.out];decide)).trans hR.out);go_wp2_with fail;go_ret;exact⟨zc HR.out.symm,zF dg.out _⟩
     | false=>
      have hR:=zH (ag.out.trans (aB.out (by simp) (by simp)));go_wp2_with fail
      go_roundw
      case rel=>exact⟨k+1,by omega,by go_num,hR,zF au.out _⟩
      case measure=>simp[Ao];omega
   have hR:=zH (ag.out.trans (aF.out he));have HR:=zH ((al.out (by rw[hR.out];exact he)).trans hR.out);have e0:(ev != 0)=Ar:=by simpa using he
   go_wp2_with fail;go_ret;exact⟨zc HR.out.symm,dg.out⟩
 obtain rfl:k=xo.length:=by omega
 have hR:=zH (ag.out.trans xD);have HR:=zH (az.out hR.out);go_wp2_with fail;obtain⟨W1,cA⟩:∃W1,W1=wr:=⟨_,rfl⟩;rw[<-cA] at dc HW q0 q2 q3 q4 ⊢;have TX:=HW.out.size;obtain⟨G,hG⟩:=Kh (qi (xZ xo) xc);have HG:Ap (G=yi (xZ xo) xc 0):=by rw[xn];exact hG.symm
 rw[hG] at HR;clear hG
 go_loopw [45] (fun i wr=>∃k:Nat,k<=xc.length/\i=O U (k:Int)/\Ap (G=yi (xZ xo) xc k)/\Am W1.heap.size W1 wr) (fun i _=>xc.length-(Ao i).toNat)
 case atStart=>exact⟨0,by omega,rfl,HG,Ln _ _⟩
 obtain⟨k,hk,rfl,ag,aD⟩:=hrel;clear HG;have dg:=zH (Lc dc.out aD);have au:=zH (Lc HW.out aD);have Vp:=zH aD;have d1:=Lb au.out (by omega) nz.out;have q3:=za d1 1 rfl;have q4:=za d1 2 rfl;clear aD
 by_cases aa:k<xc.length
 . have HL:=zH (H2.out.keep dg.out)
   have Oq:=zH ((H1.out.keep dg.out).more dg.out.size);obtain⟨b,o,A3,k3,rfl,hb,c3,I3⟩:=HL.out.at_ k aa;have l3:=nF.out _ (Le aa);have aF:=zH (@xE (xZ xo) xc k aa);have aU:=zH (@yV (xZ xo) xc k aa);have aB:=zH (@qf (xZ xo) xc k aa);have HV:=zH (fun (w':Ba) (h0:LAt w' w'.heap.size A1 xo) (h:IAt w' w'.heap.size A3 xc[k])=>thas_any A1 k1 xo A3 k3 xc[k] (by omega) (fun v hv=>by have:=dP.out v hv;omega) (by omega) w' h0 h);have HU:=zH (fun (w':Ba) (h:LAt w' w'.heap.size (J ⟨b,o,Z⟩) xc)=>gI (J ⟨b,o,Z⟩) k2 xc k aa (by omega) (fun v hv=>by have:=nF.out v hv;omega) w' h);have dK:Ap (∀v,xZ xo v=if v∈xo then 0 else 6):=fun _=>rfl
   obtain⟨v,hv⟩:=Kh (xc[k]);obtain⟨bo,bU⟩:=Kh (xA (zm xc k) xc[k]);rw[bU] at aU aB HU;rw[hv] at c3 I3 l3 aF aU aB HV;have dK:=zH (dK.out v);obtain⟨ev,cm⟩:=Kh (xZ xo v);rw[cm] at aF aU aB dK;obtain⟨vl,cS⟩:=Kh v.length;rw[cS] at c3 l3 HV;have HI:=zH I3;clear hv bU cm cS I3
   by_cases hm:v∈xo
   . have he:ev=0:=dK.out.trans (Lm hm)
     subst he;rw[Lo hm] at HV;clear aF hm dK;go_wp2_with fail;refine(HV.out _ Oq.out ((HI.out.more (by have:=dg.out.size;omega)))).mono ?_;rintro e w1 ⟨rfl,aH⟩;have ff:=zH (Lc dg.out aH);have Vt:=zH (Lc au.out aH);have d1:=Lb Vt.out (by omega) nz.out;have q3:=za d1 1 rfl;have q4:=za d1 2 rfl;have pb:=zH ((H2.out.keep ff.out).more ff.out.size);have Vo:=zH (Lc Vp.out aH);clear aH d1;go_wp2_with fail;refine(HU.out _ pb.out).mono ?_;rintro e w2 ⟨rfl,nq,rfl⟩
     cases bo with
     | true=>
      have hR:=zH (ag.out.trans (aU.out (by simp) (by simp)));have co:=zH (HR.out.trans hR.out);clear ag aU aB HR HV HU;go_wp2_with fail;go_ret;exact⟨zc co.out.symm,zF ff.out _⟩
     | false=>
      have hR:=zH (ag.out.trans (aB.out (by simp) (by simp)));clear ag aU aB HV HU;go_wp2_with fail
      go_roundw
      case rel=>exact⟨k+1,by omega,by go_num,hR,zF Vo.out _⟩
      case measure=>simp[Ao];omega
   have he:ev=6:=dK.out.trans (Lk hm);subst he;rw[Lr hm] at HV;have hR:=zH (ag.out.trans (aF.out (by decide)));have co:=zH (HR.out.trans hR.out);clear ag aU aB aF hm dK HR HU;go_wp2_with fail;refine(HV.out _ Oq.out ((HI.out.more (by have:=dg.out.size;omega)))).mono ?_;rintro e w1 ⟨rfl,aH⟩;have ff:=zH (Lc dg.out aH);go_wp2_with fail;go_ret;exact⟨zc co.out.symm,ff.out⟩
 obtain rfl:k=xc.length:=by omega
 have hR:=zH (ag.out.trans xD);have co:=zH (HR.out.trans hR.out);go_wp2_with fail;go_ret;exact⟨zc co.out.symm,dg.out⟩
theorem ki(A:Bb)(c:Nat)(xs:List Int)(n m:Int)(hl:xs.length<=17592186044416)(w:Ba)(hA:IAt w w.heap.size A xs) :
  An Al 159 #[I A xs.length c,O U n,O U m] w fun e w'=>e=Ak (O U (zo xs n m))/\w'=w:=by
 have HA:=zH hA;have aA:=zH (@kU xs n m);have al:=zH (@kV xs n m);have az:=zH (@uJ xs n m);obtain⟨E,hE⟩:=Kh (zo xs n m);rw[hE] at aA al az ⊢
 by_cases hn:(xs.length:Int)=n
 . subst hn
   have al:=zH (al.out rfl);have az:=zH (az.out rfl);obtain⟨r,hr⟩:=Kh (xs.any (ql m));rw[hr] at al az;have HR:Ap (r=(xs.drop 0).any (ql m)):=by rw[L8];exact hr.symm
   go_enter func159,ntmps159;go_wp2_with fail
   go_loop [7] (fun i=>∃k:Nat,k<=xs.length/\i=O U (k:Int)/\Ap (r=(xs.drop k).any (ql m))) (fun i=>xs.length-(Ao i).toNat)
   case atStart=>exact⟨0,by omega,rfl,HR⟩
   obtain⟨k,hk,rfl,ag⟩:=hrel
   by_cases aa:k<xs.length
   . obtain⟨b,o,rfl,dC,c1⟩:=HA.out.at_ k aa
     have hs:=j7 (p:=ql m) aa;have ho:Ap (∀x,ql m x=decide (x<0\/m<=x)):=fun _=>rfl
     obtain⟨x,hx⟩:=Kh (xs[k]);rw[hx] at c1 hs;rw[ho.out x] at hs;have HS:=zH hs
     by_cases h1:x<0\/m<=x
     . have hR:r=Ar:=by rw[ag.out,HS.out,Lo h1];rfl
       subst hR;have HE:=zH (al.out rfl)
       by_cases h2:x<0
       . clear h1
         go_wp2_with fail;go_ret;exact⟨zc HE.out.symm,rfl⟩
       have h3:m<=x:=by omega
       go_wp2_with fail;go_ret;exact⟨zc HE.out.symm,rfl⟩
     have co:Ap (r=(xs.drop (k+1)).any (ql m)):=by rw[ag.out,HS.out,Lr h1];rfl
     have h2:¬x<0:=by omega
     have h3:¬m<=x:=by omega
     go_wp2_with fail
     go_round
     case rel=>exact⟨k+1,by omega,by go_num,co⟩
     simp[Ao];omega
   obtain rfl:k=xs.length:=by omega
   have hR:r=As:=ag.out.trans (uH rfl);subst hR;have HE:=zH (az.out rfl);go_wp2_with fail;go_ret;exact⟨zc HE.out.symm,rfl⟩
 have HR:=zH (aA.out hn);have e0:((xs.length:Int) != n)=Ar:=by simp[hn]
 go_enter func159,ntmps159;go_wp2_with fail;go_ret;exact⟨zc HR.out.symm,rfl⟩
theorem Yj(A:Bb)(c:Nat)(xss:List (List Int))(B:Bb)(cb:Nat)(ys:List Int)(hl:xss.length<=17592186044416)(bq:∀v∈xss,v.length<=17592186044416)(fq:ys.length<=17592186044416)(w:Ba)(hA:LAt w w.heap.size A xss)(hB:IAt w w.heap.size B ys) :
  An Al 160 #[I A xss.length c,I B ys.length cb] w fun e w'=>e=Ak (Ah (decide (ys∈xss)))/\∃n,w'=w.drewN n:=by
 have HA:=zH hA;have HB:=zH hB;have iF:=zH bq;rw[<-Jf];obtain⟨r,hr⟩:∃r,(xss.any fun x=>decide (x=ys))=r:=⟨_,rfl⟩;rw[hr];have HR:Ap (r=(xss.drop 0).any fun x=>decide (x=ys)):=by rw[L8];exact hr.symm
 go_enter func160,ntmps160;go_wp2_with fail
 go_loopw [5] (fun i wr=>∃k n:Nat,k<=xss.length/\i=O U (k:Int)/\Ap (r=(xss.drop k).any fun x=>decide (x=ys))/\wr=w.drewN n) (fun i _=>xss.length-(Ao i).toNat)
 case atStart=>exact⟨0,0,by omega,rfl,HR,rfl⟩
 obtain⟨k,n,hk,rfl,ag,rfl⟩:=hrel
 by_cases aa:k<xss.length
 . obtain⟨b,o,A1,c1,rfl,dC,q1,I1⟩:=HA.out.at_ k aa
   have l1:=iF.out _ (Le aa);have hs:=j7 (p:=fun x=>decide (x=ys)) aa;have HC:=zH (yR A1 B c1 cb xss[k] ys l1 fq (w.drewN n) I1 HB.out);obtain⟨x,hx⟩:=Kh (xss[k]);rw[hx] at q1 hs HC l1;have HS:=zH hs;have hz:Ap (zh x ys=0->x=ys):=xS;have cB:Ap (x=ys->zh x ys=0):=fun h=>by rw[h];exact yF _
   obtain⟨bo,bU⟩:=Kh (zh x ys);rw[bU] at hz HC cB;obtain⟨xl,eN⟩:=Kh x.length;rw[eN] at q1 HC l1;go_wp2_with fail;refine HC.out.mono ?_;rintro e w' ⟨rfl,n2,rfl⟩
   by_cases hb:bo=0
   . have hR:r=Ar:=by rw[ag.out,HS.out,Lo (hz.out hb)];rfl
     subst hR;subst hb;go_wp2_with fail;go_ret;exact⟨rfl,_,rfl⟩
   have co:Ap (r=(xss.drop (k+1)).any fun x=>decide (x=ys)):=by rw[ag.out,HS.out,Lr (fun h=>hb (cB.out h))];rfl
   have e0:(bo==0)=As:=by simpa using hb
   go_wp2_with fail
   go_roundw
   case rel=>exact⟨k+1,_,by omega,by go_num,co,rfl⟩
   simp[Ao];omega
 obtain rfl:k=xss.length:=by omega
 have hR:r=As:=ag.out.trans (uH rfl);subst hR;go_wp2_with fail;go_ret;exact⟨rfl,_,rfl⟩
def kB(l:List (List Int))(m:Nat):Bool:=decide (l.length<=m)&&l.all fun v=>decide (v.length<=10)
theorem Xd{α:Type}{p:α->Bool}{l:List α}{k:Nat}(hk:k<l.length):(l.drop k).all p=(p l[k]&&(l.drop (k+1)).all p):=by
 rw[Lx hk];rfl
theorem Jh{α:Type}{p:α->Bool}{l:List α}{k:Nat}(hk:k=l.length):(l.drop k).all p=Ar:=by subst hk;rw[Nv];rfl
theorem YT(A:Bb)(c:Nat)(xss:List (List Int))(hl:xss.length<=17592186044416)(bq:∀v∈xss,v.length<=17592186044416)(w:Ba)(hA:LAt w w.heap.size A xss) :
  An Al 118 #[I A xss.length c,O U 30] w fun e w'=>e=Ak (Ah (kB xss 30))/\w'=w:=by
 have HA:=zH hA;have iF:=zH bq;have H:Ap (kB xss 30=(decide (xss.length<=30)&&xss.all fun v=>decide (v.length<=10))):=rfl;obtain⟨r,hr⟩:=Kh (kB xss 30);rw[hr] at H ⊢
 by_cases hz:xss.length<=30
 . have HR:Ap (r=(xss.drop 0).all fun v=>decide (v.length<=10)):=by rw[L8,H.out,Lo hz,Nt];rfl
   have bQ:¬(30<(xss.length:Int)):=by omega
   go_enter func118,ntmps118;go_wp2_with fail
   all_goals first | (exfalso;omega) | skip
   go_loop [5] (fun i=>∃k:Nat,k<=xss.length/\i=O U (k:Int)/\Ap (r=(xss.drop k).all fun v=>decide (v.length<=10))) (fun i=>xss.length-(Ao i).toNat)
   case atStart=>exact⟨0,by omega,rfl,HR⟩
   obtain⟨k,hk,rfl,ag⟩:=hrel
   by_cases aa:k<xss.length
   . obtain⟨b,o,A1,c1,rfl,dC,q1,_⟩:=HA.out.at_ k aa
     have l1:=iF.out _ (Le aa);have HS:=zH (Xd (p:=fun v=>decide (v.length<=10)) aa);obtain⟨xl,eN⟩:=Kh (xss[k].length);rw[eN] at q1 HS l1
     by_cases hx:xl<=10
     . have co:Ap (r=(xss.drop (k+1)).all fun v=>decide (v.length<=10)):=by rw[ag.out,HS.out,Lo hx];rfl
       go_wp2_with fail
       all_goals first | (exfalso;omega) | skip
       go_round
       case rel=>exact⟨k+1,by omega,by go_num,co⟩
       simp[Ao];omega
     have hR:r=As:=by rw[ag.out,HS.out,Lr hx];rfl
     subst hR;go_wp2_with fail
     all_goals first | (exfalso;omega) | skip
     go_ret;exact⟨rfl,rfl⟩
   obtain rfl:k=xss.length:=by omega
   have hR:r=Ar:=ag.out.trans (Jh rfl);subst hR;go_wp2_with fail;go_ret;exact⟨rfl,rfl⟩
 have hR:r=As:=by rw[H.out,Lr hz];rfl
 subst hR;go_enter func118,ntmps118;go_wp2_with fail
 all_goals first | (exfalso;omega) | skip
 go_ret;exact⟨rfl,rfl⟩
theorem vQ{t:Tk}(h:t.n<1\/5<t.n\/t.ins<1\/8<t.ins\/t.outs<1\/8<t.outs):yz t=2:=Lm h
theorem uK{t:Tk}(h:¬(t.n<1\/5<t.n\/t.ins<1\/8<t.ins\/t.outs<1\/8<t.outs))(h2:t.cases.length<1):yz t=5:=by unfold yz;rw[Lk h,Lm (.inl h2)]
theorem vR{t:Tk}(h:¬(t.n<1\/5<t.n\/t.ins<1\/8<t.ins\/t.outs<1\/8<t.outs))(h2:1<=t.cases.length)(h3:t.cases.length<=30):yz t=yN t t.cases 0:=by unfold yz;rw[Lk h,Lk (by omega)]
theorem Zl{t:Tk}{p:Option Cs}{c:Cs}(h:zo c.inp t.n t.ins≠0):xB t p c=zo c.inp t.n t.ins:=Lm h
theorem uq{t:Tk}{p:Option Cs}{c:Cs}(h:zo c.inp t.n t.ins=0)(h2:xA (p.map Cs.inp) c.inp=Ar):xB t p c=14:=by unfold xB;rw[Lk (by simpa using h),Lm h2]
theorem Zm{t:Tk}{p:Option Cs}{c:Cs}(h:zo c.inp t.n t.ins=0)(h2:xA (p.map Cs.inp) c.inp=As):xB t p c=qy t.n t.outs c:=by unfold xB;rw[Lk (by simpa using h),Lk (by rw[h2];decide)]
theorem Xn(t:Tk)(A:Bb)(kc:Nat)(hf:FewT t)(w:Ba)(hA:CAt w w.heap.size A t.cases) :
  An Al 77 #[Ai #[O U t.n,O U t.ins,O U t.outs,I A t.cases.length kc]] w fun e w'=>e=Ak (O U (yz t))/\Am w.heap.size w w':=by
 obtain⟨dA,eG⟩:=hf;have dP:=zH eG;have HA:=zH hA;have aA:=zH (@vQ t);have al:=zH (@uK t);have az:=zH (@vR t);obtain⟨E,hE⟩:=Kh (yz t);rw[hE] at aA al az ⊢;obtain⟨cv,lL⟩:=Kh (I A t.cases.length kc)
 by_cases hr:t.n<1\/5<t.n\/t.ins<1\/8<t.ins\/t.outs<1\/8<t.outs
 . have HR:=zH (aA.out hr)
   obtain⟨n,ins,outs,cases⟩:=t;dsimp only at hr lL ⊢;rw[lL];have HN:=zH hr;clear aA al az lL hA eG dP HA hE hr;go_enter func77,ntmps77;go_wp2_with fail
   all_goals first | (exfalso;have:=HN.out;omega) | (go_ret;exact⟨zc HR.out.symm,zw w _⟩)
 have r1:¬t.n<1:=by omega
 have r2:¬5<t.n:=by omega
 have r3:¬t.ins<1:=by omega
 have r4:¬8<t.ins:=by omega
 have r5:¬t.outs<1:=by omega
 have r6:¬8<t.outs:=by omega
 have al:=zH (al.out hr);have az:=zH (az.out hr);clear hr aA lL hE hA eG
 by_cases hz:t.cases.length<1
 . have HR:=zH (al.out hz)
   obtain⟨n,ins,outs,cases⟩:=t;dsimp only at dA r1 r2 r3 r4 r5 r6 hz ⊢;clear al az dP HA;go_enter func77,ntmps77;go_wp2_with fail
   all_goals first | (exfalso;omega) | skip
   go_ret;exact⟨zc HR.out.symm,zw w _⟩
 have bQ:¬((t.cases.length:Int)<1):=by omega
 have az:=zH (az.out (by omega) (by omega));obtain⟨n,hn⟩:=Kh t.n;obtain⟨ins,BH⟩:=Kh t.ins;obtain⟨outs,px⟩:=Kh t.outs;obtain⟨cs,bl⟩:=Kh t.cases;have HT:Ap (t.n=n/\t.ins=ins/\t.outs=outs):=⟨hn,BH,px⟩;rw[hn] at r1 r2 ⊢;rw[BH] at r3 r4 ⊢;rw[px] at r5 r6 ⊢;rw[bl] at dA dP HA bQ az ⊢;go_enter func77,ntmps77;go_wp2_with fail
 all_goals first | (exfalso;omega) | skip
 obtain⟨W0,bg,b0,bk,bh⟩:∃W0,w.alloc (Ag #[O U n,O U ins,O U outs,I A cs.length kc] 24)=W0/\W0.heap[w.heap.size]?=J (Ag #[O U n,O U ins,O U outs,I A cs.length kc] 24 (0,0))/\w.heap.size+1<=W0.heap.size/\Am w.heap.size w W0:=
  ⟨_,rfl,ze _ _,by simp,zw w _⟩
 rw[bg];have dQ:=zH bh;have lD:=zH b0
 go_loopw [46] (fun i wr=>∃k:Nat,k<=cs.length/\i=O U (k:Int)/\Ap (E=yN t cs k)/\Am W0.heap.size W0 wr) (fun i _=>cs.length-(Ao i).toNat)
 case atStart=>exact⟨0,by omega,rfl,az,Ln _ _⟩
 obtain⟨k,hk,rfl,ag,aD⟩:=hrel;have dc:=zH (Lc dQ.out aD);have HW:=zH aD;have d0:=Lb aD (by omega) lD.out;obtain⟨q0,q1,q2,q3,_⟩:=Kb d0
 by_cases aa:k<cs.length
 . obtain⟨b,o,A0,k0,A1,k1,A2,k2,rfl,dC,c0,c1,c2,I0,I1,I2⟩:=(HA.out.keep dc.out).row k aa
   obtain⟨f0,f1,f2⟩:=dP.out _ (Le aa);have aF:=zH (@uo t cs k aa);have aB:=zH (@wU t cs k aa);obtain⟨e1,e2,e3⟩:=HT.out;have ld:=zH (@Zl t (zm cs k) cs[k]);have aU:=zH (@uq t (zm cs k) cs[k]);have cH:=zH (@Zm t (zm cs k) cs[k]);rw[e1,e2] at ld aU cH;rw[e3] at cH;have HV:=zH (fun (w':Ba) (h:IAt w' w'.heap.size A0 cs[k].inp)=>vP A0 k0 cs[k].inp n ins (by omega) w' h);have HG:=zH (fun (w':Ba) (h1:LAt w' w'.heap.size A1 cs[k].out) (h2:LAt w' w'.heap.size A2 cs[k].calm)=>Zu n ins outs (I (J ⟨b,o,Z⟩) cs.length kc) A0 A1 A2 k0 k1 k2 cs[k] (dP.out _ (Le aa)) w' h1 h2);obtain⟨bo,bU⟩:=Kh (xA ((zm cs k).map Cs.inp) cs[k].inp);have bI:=zH bU;rw[bU] at aU cH;obtain⟨ev,cm⟩:=Kh (zo cs[k].inp n ins);rw[cm] at ld aU cH HV;obtain⟨gv,Tp⟩:=Kh (qy n outs cs[k]);rw[Tp] at cH HG;obtain⟨x,hx⟩:=Kh (cs[k]);have HX:=zH hx;rw[hx] at c0 c1 c2 I0 I1 I2 f0 aF aB ld aU cH HV HG;obtain⟨xi,xo,xc⟩:=x;dsimp only at c0 c1 c2 I0 I1 I2 f0 HV HG;have EF:=dc.out.size;have Fa:w.heap.size<wr.heap.size:=by have:=HW.out.size;omega
   have J0:=I0.more EF;have J1:=I1.more EF;have J2:=I2.more EF;go_wp2_with fail
   obtain⟨W1,cA,b1,aW,ay⟩:∃W1,wr.alloc (Ag #[I A0 xi.length k0,I A1 xo.length k1,I A2 xc.length k2] 118)=W1/\W1.heap[wr.heap.size]?=J (Ag #[I A0 xi.length k0,I A1 xo.length k1,I A2 xc.length k2] 118 (0,0))/\wr.heap.size+1<=W1.heap.size/\Am wr.heap.size wr W1:=
    ⟨_,rfl,ze _ _,by simp,zw wr _⟩
   rw[cA];have K0:=(J0.keep ay).more ay.size;have K1:=zH ((J1.keep ay).more ay.size);have K2:=zH ((J2.keep ay).more ay.size);have BL:=zH (dc.out.trans (ay.mono EF));have BW:=zH (Lc HW.out ay);have nz:=zH b1;refine(HV.out _ K0).mono ?_;rintro e w1 ⟨rfl,aH⟩;have M1:=zH ((K1.out.keep aH).more aH.size);have M2:=zH ((K2.out.keep aH).more aH.size);have dt:=zH (Lc BL.out aH);have mS:=zH (Lc BW.out aH);have M0:=zH ((K0.keep aH).more aH.size);have d0:=Lb mS.out (by omega) lD.out;have d1:=Lb aH (by omega) nz.out;obtain⟨q0,q1,q2,q3,_⟩:=Kb d0;obtain⟨p0,p1,p2,_⟩:=Kc d1
   by_cases cm:ev=0
   case neg=>
    have hd:=ld.out cm;have hR:=zH (ag.out.trans ((aF.out (by rw[hd];exact cm)).trans hd));have e0:(ev != 0)=Ar:=by simpa using cm
    go_wp2_with fail;go_ret;exact⟨zc hR.out.symm,dt.out⟩
   case pos=>
   subst cm
   cases k with
   | zero=>
    obtain rfl:bo=As:=by rw[<-bI.out];rfl
    go_wp2_with fail;go_quiet (fail);have cH:=zH (cH.out (by simp) (by simp));go_wp2_with fail;refine(HG.out _ (by exact M1.out.keep (zF (Ln _ _) _)) (by exact M2.out.keep (zF (Ln _ _) _))).mono ?_;rintro e w2 ⟨rfl,ae⟩;have te:=zH (dt.out.trans ((belD ae).mono dt.out.size));have Dm:=zH (mS.out.trans ((belD ae).mono mS.out.size))
    by_cases hg:gv=0
    . subst hg
      have hR:=zH (ag.out.trans (aB.out cH.out));go_wp2_with fail
      go_roundw
      case rel=>exact⟨_,aa,by go_num,hR,Dm.out⟩
      case measure=>simp[Ao];omega
    . have hR:=zH (ag.out.trans ((aF.out (by rw[cH.out];exact hg)).trans cH.out))
      have e0:(gv != 0)=Ar:=by simpa using hg
      go_wp2_with fail;go_ret;exact⟨zc hR.out.symm,te.out⟩
   | succ j=>
    have hj:j<cs.length:=by omega
    have bz:xA ((zm cs (j+1)).map Cs.inp) cs[j+1].inp=decide (0<=zh cs[j].inp cs[j+1].inp):=by rw[zV cs j hj];rfl
    obtain⟨b',o',mU,lV,_,_,_,_,e',_,u0,_,_,U0,_,_⟩:=((HA.out.keep dt.out).row j hj)
    cases e'
    obtain⟨mD,_,_⟩:=dP.out _ (Le hj);rw[HX.out] at bz;have hc:=fun n=>jJ mU A0 lV k0 cs[j].inp xi (by omega) (by omega) (w1.drewN n) (U0.more dt.out.size) M0.out
    rw[show xA ((zm cs (j+1)).map Cs.inp) xi=bo by have:=bI.out;rwa[HX.out] at this] at bz;obtain⟨r,hr⟩:=Kh (zh cs[j].inp xi);rw[hr] at bz hc;have cu:=zH bz;obtain⟨nl,dS⟩:=Kh (cs[j].inp.length);rw[dS] at u0 hc mD;have HC:=zH hc;have g1:((j:Int)+1).toNat=j+1:=by omega
    have g3:IntKind.i64.wrap ((j:Int)+1-1)=(j:Int):=by rw[Lw];omega
    have g5:IntKind.i64.wrap ((j:Int)+1)=(j:Int)+1:=by rw[Lw];omega
    clear bz hc hr dS U0 bI HX
    cases bo with
    | true=>
     have g7:decide (0<=r)=Ar:=cu.out.symm;have g8:0<=r:=LA g7;have hd:=aU.out (by simp) (by simp);have hR:=zH (ag.out.trans ((aF.out (by rw[hd];decide)).trans hd));clear ag aF aB aU cH HV HG hd cu;go_wp2_with fail;go_quiet ((go_at_call 111;exact Ru (HC.out _)));clear HC g1 g3 g5 u0;go_wp2_with fail;go_ret;exact⟨zc hR.out.symm,zF dt.out _⟩
    | false=>
     have g7:decide (0<=r)=As:=cu.out.symm;have g8:¬0<=r:=NI g7;clear cu;go_wp2_with fail;go_quiet ((go_at_call 111;exact Ru (HC.out _)));have cH:=zH (cH.out (by simp) (by simp));go_wp2_with fail;refine(HG.out _ (by exact M1.out.keep (zF (Ln _ _) _)) (by exact M2.out.keep (zF (Ln _ _) _))).mono ?_;rintro e w2 ⟨rfl,ae⟩;have te:=zH (dt.out.trans ((belD ae).mono dt.out.size));have Dm:=zH (mS.out.trans ((belD ae).mono mS.out.size))
     by_cases hg:gv=0
     . subst hg
       have hR:=zH (ag.out.trans (aB.out cH.out));go_wp2_with fail
       go_roundw
       case rel=>exact⟨j+1+1,aa,by go_num,hR,Dm.out⟩
       case measure=>simp[Ao];omega
     . have hR:=zH (ag.out.trans ((aF.out (by rw[cH.out];exact hg)).trans cH.out))
       have e0:(gv != 0)=Ar:=by simpa using hg
       go_wp2_with fail;go_ret;exact⟨zc hR.out.symm,te.out⟩
 obtain rfl:k=cs.length:=by omega
 have HR:=zH (ag.out.trans un);go_wp2_with fail;go_ret;exact⟨zc HR.out.symm,dc.out⟩
end
end Go.Proofs.YtkledihebeidlaaGreatDoor
