/- Merged. -/
import Derived.WalkKit
import Derived.WalkSpells
import Derived.WalkLawsBesides
import Derived.Outline
import Derived.Below
import Derived.Laws.OwnMore
import Derived.Lib.Hide
import Derived.Deep.Draws
import Derived.Deep.AppendLies
import Derived.Test.YtkledihebeidlaaGreatDoorRows
import Derived.ProofKit
import Derived.LaidMore
import Derived.OpenShut
import Derived.Carry
import Derived.Deep.Slices
import Derived.Deep.Fields
import Derived.ChangeSame
import Derived.Stop.Joined
import Derived.Test.YtkledihebeidlaaGreatDoorProg
import Derived.Deep.QuietTactic
import Derived.BigQuiet
import Derived.Laws.StructEq
import Derived.Laws.BitsAllLaws
import Derived.Laws.BitsLemmas
import Derived.StillTactics
import Derived.Shelf.Strings.Builder1
import Derived.Shelf.Small.Wraps
import Derived.Shelf.Strings.BuilderF
import Derived.Shelf.Strings.BuilderK
import Derived.Shelf.Strconv.Itoa0
import Derived.Shelf.Strconv.Itoa1
import Derived.Shelf.LaysM
import Derived.Shelf.Strconv.Itoa2
import Derived.Shelf.Strconv.Itoa3
import Derived.Shelf.Bits.Mul64
import Derived.Shelf.Strings.BuilderCap
import Derived.Shelf.Slices.Equal
import Derived.Ground.Names2Prog
import Derived.Shelf.Slices.Clone
import Derived.Shelf.Slices.SearchI
import Derived.Shelf.Slices.Empties2
open Go.Proofs.Tryz
open Go.Value renaming int->O,slice->I,bool->Ai,agg->Aj,pointer->Ak
open Go.IntKind renaming i64->U
open Option renaming none->Z,some->J
open Go.Obj renaming cells->Ah
open Go.Ending renaming returned->Am
open Go.Proofs.Tryz renaming prog->An
open Go.RowKit renaming Below->Ao,intOf->Aq,Hid->As
open Go renaming Calls->Ap,Value->Au
open Bool renaming true->Av,false->Ax
open List renaming prefix_refl->RE
open Go.Calls renaming quiet_of_same->Rk
namespace Go.Proofs.YtkledihebeidlaaGreatDoor
abbrev Bb:=Option Addr
abbrev Ba:=World
abbrev NH:=@List.range_succ
abbrev Ln:=@if_pos
abbrev Li:=@Array.getElem?_eq_some_iff
abbrev RO:=@Go.heap_alloc_new
abbrev NR:=@Go.RowKit.Below.heap_alloc
abbrev Lp:=@Go.RowKit.Below.refl
abbrev Lh:=@Nat.le_refl
abbrev LR:=@List.mem_append
abbrev Rf:=@List.mem_cons_of_mem
abbrev Ro:=@List.mem_cons_self
abbrev Rg:=@List.mem_append_left
abbrev Nf:=@List.append_nil
abbrev Pu:=@Nat.add_assoc
abbrev Lu:=@List.take_succ_eq_append_getElem
abbrev LJ:=@List.take_length
abbrev LO:=@List.take_zero
abbrev LA:=@Go.Proofs.Tryz.underlying3
abbrev Rt:=@Go.Proofs.Tryz.underlying43
abbrev Pg:=@if_true
abbrev Pv:=@if_false
abbrev Np:=@Bool.true_and
abbrev Ph:=@Go.run_equalIn_struct
abbrev LZ:=@List.map_cons
abbrev Nt:=@List.map_nil
abbrev Pm:=@and_true
abbrev Nq:=@Bool.eq_iff_iff
abbrev ND:=@not_false_eq_true
abbrev LK:=@List.all_eq_true
abbrev Lj:=@if_neg
abbrev N7:=@Nat.pow_le_pow_right
abbrev Lr:=@Int.eq_ofNat_of_zero_le
abbrev Lw:=@List.drop_eq_getElem_cons
abbrev NB:=@List.drop_length
abbrev P6:=@List.drop_of_length_le
abbrev LS:=@List.drop_zero
abbrev Ll:=@decide_eq_false
abbrev Lm:=@decide_eq_true
abbrev RI:=@decide_true
abbrev PZ:=@beq_iff_eq
abbrev PT:=@Bool.eq_false_iff
abbrev Pn:=@Go.World.drewN_drewN
abbrev LW:=@Go.World.size_alloc
abbrev Ld:=@List.getElem_mem
abbrev LF:=@Nat.lt_of_lt_of_le
abbrev Ly:=@Go.IntKind.wrap_i64
abbrev NL:=@List.any_eq_true
abbrev Nv:=@decide_eq_true_eq
abbrev LI:=@of_decide_eq_true
abbrev NJ:=@of_decide_eq_false
set_option maxRecDepth 100000
theorem zH{p:Prop}(h:p):Go.RowKit.Hid p:=h
set_option maxHeartbeats 4000000
section
open Go.RowKit
theorem ZF{p q:Prop}[Decidable p][Decidable q](h:p↔q):decide p=decide q:=by simp[h]
theorem ze{a b:Bool}(h:a=b):Am (Ai a)=Am (Ai b):=by rw[h]
theorem zc{k:IntKind}{a b:Int}(h:a=b):Am (.int k a)=Am (.int k b):=by rw[h]
structure Vw where
 p:Int
 r:Int
 i:Int
 h0:Int
 h1:Int
 h2:Int
 h3:Int
 h4:Int
deriving DecidableEq,Inhabited
def Vw.h(v:Vw):Nat->Int
 | 0=>v.h0
 | 1=>v.h1
 | 2=>v.h2
 | 3=>v.h3
 | _=>v.h4
def Vw.cells(v:Vw):Array Au:=#[O U v.p,O U v.r,O U v.i,O U v.h0,O U v.h1,O U v.h2,O U v.h3,O U v.h4]
theorem Vw.cells_h(v:Vw)(q:Nat)(hq:q<5):v.cells[3+q]?=J (O U (v.h q)):=by
 match q,hq with
 | 0,_=>rfl
 | 1,_=>rfl
 | 2,_=>rfl
 | 3,_=>rfl
 | 4,_=>rfl
def VAt(w:Ba)(B:Nat)(A:Bb)(vs:List Vw):Prop:=
 0<vs.length->∃b off,A=J ⟨b,off,Z⟩/\b<B/\∀(i:Nat) (hi:i<vs.length) (k:Nat) (u:Au),vs[i].cells[k]?=J u->w.cell? ⟨b,off+i*8+k,Z⟩=J u
theorem VAt.keep{w w':Ba}{B:Nat}{A:Bb}{vs:List Vw}(h:VAt w B A vs)(hb:Ao B w w'):VAt w' B A vs:=fun h0=>by
 obtain⟨b,off,e,ac,hc⟩:=h h0;exact⟨b,off,e,ac,fun i hi k u hk=>(hb.cell (p:=⟨b,_,Z⟩) ac).trans (hc i hi k u hk)⟩
theorem VAt.more{w:Ba}{B B':Nat}{A:Bb}{vs:List Vw}(h:VAt w B A vs)(hB:B<=B'):VAt w B' A vs:=fun h0=>by
 obtain⟨b,off,e,ac,hc⟩:=h h0;exact⟨b,off,e,by omega,hc⟩
theorem VAt.take{w:Ba}{B:Nat}{A:Bb}{vs:List Vw}(h:VAt w B A vs)(n:Nat):VAt w B A (vs.take n):=fun h0=>by
 obtain⟨b,off,e,ac,hc⟩:=h (by simp at h0;omega);exact⟨b,off,e,ac,fun i hi k u hk=>hc i (by simp at hi;omega) k u (by simpa using hk)⟩
theorem VAt.row{w:Ba}{B:Nat}{A:Bb}{vs:List Vw}(h:VAt w B A vs)(k:Nat)(hk:k<vs.length) :
  ∃b off,A=J ⟨b,off,Z⟩/\b<B/\w.cell? ⟨b,off+k*8,Z⟩=J (O U vs[k].p)/\w.cell? ⟨b,off+k*8+1,Z⟩=J (O U vs[k].r) /\
   w.cell? ⟨b,off+k*8+2,Z⟩=J (O U vs[k].i)/\w.cell? ⟨b,off+k*8+3,Z⟩=J (O U vs[k].h0)/\w.cell? ⟨b,off+k*8+4,Z⟩=J (O U vs[k].h1) /\
   w.cell? ⟨b,off+k*8+5,Z⟩=J (O U vs[k].h2)/\w.cell? ⟨b,off+k*8+6,Z⟩=J (O U vs[k].h3)/\w.cell? ⟨b,off+k*8+7,Z⟩=J (O U vs[k].h4):=by
 obtain⟨b,off,e,ac,hc⟩:=h (by omega);exact⟨b,off,e,ac,hc k hk 0 _ rfl,hc k hk 1 _ rfl,hc k hk 2 _ rfl,hc k hk 3 _ rfl,hc k hk 4 _ rfl,hc k hk 5 _ rfl,hc k hk 6 _ rfl,hc k hk 7 _ rfl⟩
def yv(v:Vw)(k:Nat):List (Int×Int):=if 0<v.r then (List.range k).filterMap fun q=>if 0<=v.h q then J ((q:Int),v.h q) else Z else []
def yy(v:Vw):List (Int×Int):=yv v 5
theorem ua{v:Vw}{k:Nat}(hr:0<v.r)(hq:0<=v.h k):yv v (k+1)=yv v k++[((k:Int),v.h k)]:=by
 simp[yv,hr,List.range_succ,List.filterMap_append,hq]
theorem wn{v:Vw}{k:Nat}(hq:¬(0<v.r/\0<=v.h k)):yv v (k+1)=yv v k:=by
 unfold yv
 by_cases hr:0<v.r
 . have:¬0<=v.h k:=fun h=>hq ⟨hr,h⟩
   simp[hr,List.range_succ,List.filterMap_append,this]
 simp[hr]
theorem wq{v:Vw}{k m:Nat}(h:k<=m):yv v k <+: yv v m:=by
 induction m with
 | zero => obtain rfl : k = 0 := by omega
           exact RE _
 | succ m ih=>
  by_cases e:k=m+1
  . subst e;exact RE _
  . refine(ih (by omega)).trans ?_
    by_cases hq:0<v.r/\0<=v.h m
    . rw[ua hq.1 hq.2];exact List.prefix_append _ _
    . rw[wn hq];exact RE _
theorem qg{v:Vw}{x:Int×Int}:x∈yy v↔0<v.r/\∃q:Nat,q<5/\x=((q:Int),v.h q)/\0<=v.h q:=by
 unfold yy yv
 split
 . rename_i hr
   simp only[List.mem_filterMap,List.mem_range,hr,true_and];constructor
   . rintro⟨q,hq,h⟩
     split at h
     . rename_i h0
       cases h
       exact⟨q,hq,rfl,h0⟩
     cases h
   rintro⟨q,hq,rfl,h0⟩;exact⟨q,hq,by rw[Ln h0]⟩
 rename_i hr;simp[hr]
def IAt(w:Ba)(B:Nat)(A:Bb)(xs:List Int):Prop:=
 0<xs.length->∃b off,A=J ⟨b,off,Z⟩/\b<B/\∀(i:Nat) (hi:i<xs.length),w.cell? ⟨b,off+i,Z⟩=J (O U xs[i])
theorem IAt.keep{w w':Ba}{B:Nat}{A:Bb}{xs:List Int}(h:IAt w B A xs)(hb:Ao B w w'):IAt w' B A xs:=fun h0=>by
 obtain⟨b,off,e,ac,hc⟩:=h h0;exact⟨b,off,e,ac,fun i hi=>(hb.cell (p:=⟨b,_,Z⟩) ac).trans (hc i hi)⟩
theorem IAt.more{w:Ba}{B B':Nat}{A:Bb}{xs:List Int}(h:IAt w B A xs)(hB:B<=B'):IAt w B' A xs:=fun h0=>by
 obtain⟨b,off,e,ac,hc⟩:=h h0;exact⟨b,off,e,by omega,hc⟩
theorem IAt.at_{w:Ba}{B:Nat}{A:Bb}{xs:List Int}(h:IAt w B A xs)(k:Nat)(hk:k<xs.length):∃b off,A=J ⟨b,off,Z⟩/\b<B/\w.cell? ⟨b,off+k,Z⟩=J (O U xs[k]):=by
 obtain⟨b,off,e,ac,hc⟩:=h (by omega);exact⟨b,off,e,ac,hc k hk⟩
theorem IAt.nil(w:Ba)(B:Nat)(A:Bb):IAt w B A []:=fun h=>absurd h (by simp)
theorem IAt.of_own{w:Ba}{aa:Nat}{e:TypeId}{A:Bb}{n c:Nat}{xs:List Int}(h:w.ownsRow aa e 1 (I A n c) n (xs.map (O U))):IAt w w.heap.size A xs:=fun h0=>by
 have hn:xs.length=n:=by simpa using h.1
 obtain⟨g,cap,hv,_,ac⟩:=h.form (by omega);have hA:A=J ⟨g,0,Z⟩:=by injection hv
 subst hA;refine⟨g,0,rfl,ac,fun i hi=>?_⟩;have:=h.cells (g:=g) rfl i (O U xs[i]) (by simp[hi]);rw[show(⟨g,0,Z⟩:Addr).add i=⟨g,0+i,Z⟩ from by unfold Addr.add;split<;>simp_all] at this;exact this
theorem za{w:Ba}{g:Nat}{t:TypeId}{cs:Array Au}(h:w.heap[g]?=J (Ah cs t (0,0)))(i:Nat){u:Au}(hu:cs[i]?=J u):w.cell? ⟨g,i,Z⟩=J u:=by
 rw[cell_of_row w g i cs t (0,0) h];exact hu
theorem Ka{w:Ba}{b:Nat}{v0 v1:Au}{l:List Au}{t:TypeId}(h:w.heap[b]?=J (Ah ⟨v0::v1::l⟩ t (0,0))):w.cell? ⟨b,0,Z⟩=J v0/\w.cell? ⟨b,1,Z⟩=J v1/\True:=⟨za h 0 rfl,za h 1 rfl,trivial⟩
theorem Kb{w:Ba}{b:Nat}{v0 v1 v2 v3:Au}{l:List Au}{t:TypeId}(h:w.heap[b]?=J (Ah ⟨v0::v1::v2::v3::l⟩ t (0,0))):w.cell? ⟨b,0,Z⟩=J v0/\w.cell? ⟨b,1,Z⟩=J v1/\w.cell? ⟨b,2,Z⟩=J v2/\w.cell? ⟨b,3,Z⟩=J v3/\True:=⟨za h 0 rfl,za h 1 rfl,za h 2 rfl,za h 3 rfl,trivial⟩
theorem Kc{w:Ba}{b:Nat}{v0 v1 v2:Au}{l:List Au}{t:TypeId}(h:w.heap[b]?=J (Ah ⟨v0::v1::v2::l⟩ t (0,0))):w.cell? ⟨b,0,Z⟩=J v0/\w.cell? ⟨b,1,Z⟩=J v1/\w.cell? ⟨b,2,Z⟩=J v2/\True:=⟨za h 0 rfl,za h 1 rfl,za h 2 rfl,trivial⟩
theorem Ke{w:Ba}{b:Nat}{v0 v1 v2 v3 v4 v5 v6 v7:Au}{l:List Au}{t:TypeId}(h:w.heap[b]?=J (Ah ⟨v0::v1::v2::v3::v4::v5::v6::v7::l⟩ t (0,0))):w.cell? ⟨b,0,Z⟩=J v0/\w.cell? ⟨b,1,Z⟩=J v1/\w.cell? ⟨b,2,Z⟩=J v2/\w.cell? ⟨b,3,Z⟩=J v3/\w.cell? ⟨b,4,Z⟩=J v4/\w.cell? ⟨b,5,Z⟩=J v5/\w.cell? ⟨b,6,Z⟩=J v6/\w.cell? ⟨b,7,Z⟩=J v7/\True:=⟨za h 0 rfl,za h 1 rfl,za h 2 rfl,za h 3 rfl,za h 4 rfl,za h 5 rfl,za h 6 rfl,za h 7 rfl,trivial⟩
theorem Kf{w:Ba}{b:Nat}{v0 v1 v2 v3 v4 v5 v6:Au}{l:List Au}{t:TypeId}(h:w.heap[b]?=J (Ah ⟨v0::v1::v2::v3::v4::v5::v6::l⟩ t (0,0))):w.cell? ⟨b,0,Z⟩=J v0/\w.cell? ⟨b,1,Z⟩=J v1/\w.cell? ⟨b,2,Z⟩=J v2/\w.cell? ⟨b,3,Z⟩=J v3/\w.cell? ⟨b,4,Z⟩=J v4/\w.cell? ⟨b,5,Z⟩=J v5/\w.cell? ⟨b,6,Z⟩=J v6/\True:=⟨za h 0 rfl,za h 1 rfl,za h 2 rfl,za h 3 rfl,za h 4 rfl,za h 5 rfl,za h 6 rfl,trivial⟩
theorem Kg{w:Ba}{b:Nat}{v0 v1 v2 v3 v4 v5:Au}{l:List Au}{t:TypeId}(h:w.heap[b]?=J (Ah ⟨v0::v1::v2::v3::v4::v5::l⟩ t (0,0))):w.cell? ⟨b,0,Z⟩=J v0/\w.cell? ⟨b,1,Z⟩=J v1/\w.cell? ⟨b,2,Z⟩=J v2/\w.cell? ⟨b,3,Z⟩=J v3/\w.cell? ⟨b,4,Z⟩=J v4/\w.cell? ⟨b,5,Z⟩=J v5/\True:=⟨za h 0 rfl,za h 1 rfl,za h 2 rfl,za h 3 rfl,za h 4 rfl,za h 5 rfl,trivial⟩
theorem Kh{α:Sort _}(a:α):∃u,a=u:=⟨_,rfl⟩
theorem ya{w:Ba}{b:Nat}{v0 v1 v2 v3 v4 v5 v6 v7 v8 v9:Au}{l:List Au}{t:TypeId}(h:w.heap[b]?=J (Ah ⟨v0::v1::v2::v3::v4::v5::v6::v7::v8::v9::l⟩ t (0,0))):w.cell? ⟨b,0,Z⟩=J v0/\w.cell? ⟨b,1,Z⟩=J v1/\w.cell? ⟨b,2,Z⟩=J v2/\w.cell? ⟨b,3,Z⟩=J v3/\w.cell? ⟨b,4,Z⟩=J v4/\w.cell? ⟨b,5,Z⟩=J v5/\w.cell? ⟨b,6,Z⟩=J v6/\w.cell? ⟨b,7,Z⟩=J v7/\w.cell? ⟨b,8,Z⟩=J v8/\w.cell? ⟨b,9,Z⟩=J v9:=
 ⟨za h 0 rfl,za h 1 rfl,za h 2 rfl,za h 3 rfl,za h 4 rfl,za h 5 rfl,za h 6 rfl,za h 7 rfl,za h 8 rfl,za h 9 rfl⟩
theorem zb{w:Ba}{g:Nat}{t:TypeId}{cs:Array Au}(h:w.heap[g]?=J (Ah cs t (0,0)))(i:Nat):w.frozen? ⟨g,i,Z⟩=Ax:=by
 simp[World.frozen?,h]
theorem zd{w:Ba}{g:Nat}{o:Obj}(h:w.heap[g]?=J o):g<w.heap.size:=(Li.1 h).1
theorem La{w w':Ba}{k:Nat}{o:Obj}(h:Ao w.heap.size w w')(e:w.heap[k]?=J o):w'.heap[k]?=J o:=(h.block _ (zd e)).trans e
theorem Lb{n k:Nat}{w w':Ba}{x:Option Obj}(h:Ao n w w')(o:k<n)(e:w.heap[k]?=x):w'.heap[k]?=x:=(h.block _ o).trans e
theorem Lc{w w1 w2:Ba}(h:Ao w.heap.size w w1)(g:Ao w1.heap.size w1 w2):Ao w.heap.size w w2:=h.trans (g.mono h.size)
theorem zg(w:Ba)(o:Obj):(w.alloc o).heap[w.heap.size]?=J o:=RO w o
theorem zw{w:Ba}{g:Nat}{o:Obj}(h:w.heap[g]?=J o)(o':Obj):(w.alloc o').heap[g]?=J o:=(NR w o' g (zd h)).trans h
theorem Zd{w w':Ba}{g B:Nat}{o:Obj}(h:w.heap[g]?=J o)(hb:Ao B w w')(hg:g<B):w'.heap[g]?=J o:=(hb.block g hg).trans h
theorem zt(w:Ba)(a:Obj):Ao w.heap.size w (w.alloc a):=(Lp _ _).alloc (Lh _) _
theorem xT(w:Ba)(a b:Obj):Ao w.heap.size w ((w.alloc a).alloc b):=(zt w a).alloc (by simp) _
theorem bel3(w:Ba)(a b c:Obj):Ao w.heap.size w (((w.alloc a).alloc b).alloc c):=(xT w a b).alloc (by simp;omega) _
theorem wp_one{P:Program}{c:Code}{Q:Exit->Act->Ba->Prop}{a:Act}{w:Ba}{c1:Array Au}{t1:TypeId}
  (h:∀W0:Ba,W0.heap[w.heap.size]?=J (Ah c1 t1)->W0.heap.size=w.heap.size+1->Ao w.heap.size w W0->c.wp P Q a W0):c.wp P Q a (w.alloc (Ah c1 t1)):=
 h _ (zg _ _) (by simp) (zt w _)
theorem vx{B:Nat}{w w':Ba}(h:Ao B w.drew w'):Ao B w w':=⟨h.os,h.tape,h.output,h.size,h.block⟩
theorem belD{B:Nat}{w w':Ba}{n:Nat}(h:Ao B (w.drewN n) w'):Ao B w w':=⟨h.os,h.tape,h.output,h.size,h.block⟩
theorem zu{B:Nat}{a w:Ba}(h:Ao B a w)(n:Nat):Ao B a (w.drewN n):=⟨h.os,h.tape,h.output,h.size,h.block⟩
end
section
open Go.ChangeShapes Go.WideShapes Go.ChangeAt Go.RowKit Go.Deep
section
variable {H:Type} {enc:TypeId×Au->H} {P:Program}
theorem Xh{f:Func}{s:ChangeSpec}{apart fresh oT C3:Bool}{W W':Ba}{args:Array Au}{v:Au}{ds gs:List (DataW H)}{before pa pv:List MemPlace}
  (hW:DataW.Whole enc P f.params.toList s.vars apart W args.toList ds gs before)
  (aS:∀(b:Nat) (sp:Nat->Bool) (hd:Bool),DataW.TrodAll enc P W' b sp hd f.resultTypes.toList (v.resultList f.resultTypes.size) (s.fn H (ds++gs)).results [])
  (pW:∀sp:Nat->Bool,(∀p∈before,sp p.block=Av)->DataW.TrodAll enc P W' 0 sp Av f.params.toList args.toList (s.fn H (ds++gs)).args pa)
  (eT:∀sp:Nat->Bool,(∀p∈before,sp p.block=Av)->DataW.TrodVars enc P W' sp s.vars (s.fn H (ds++gs)).vars pv)
  (mu:before=pa++pv) (hb:Ao W.heap.size W W')
  (El:∀(j:Nat) (t:TypeId) (r:Au),f.resultTypes[j]?=J t->(v.resultList f.resultTypes.size)[j]?=J r->Value.okWide P W' .any 0 t r) :
  s.post enc P f apart fresh oT C3 W args v W':=by
 have ac:∀p∈before,p.block<W.heap.size:=fun p hp=>hW.lt p hp
 have hold:∀p∈before,(fun b=>decide (b<W.heap.size)) p.block=Av:=fun p hp=>by simpa using ac p hp
 refine⟨ds,gs,before,[],pa,pv,hW,aS _ _ _,pW _ hold,eT _ hold,World.keptBut_mono (fun p hp=>⟨hp,?_⟩) (hb.frame (·∈before)),fun _=>?_⟩
 . rw[mu,LR] at hp
   exact Or.inr hp
 obtain⟨_,_,_,_,_,hz,hn⟩:=hW;refine⟨El,_,_,([]++pa)++pv,⟨[]++pa,pv,trodAll_append (pW _ (fun _ _=>rfl)) (aS _ _ _),eT _ (fun _ _=>rfl),rfl,?_,?_⟩,?_⟩
 . intro b off hp
   have bV:MemPlace.cell b off∈before:=by rw[mu];simpa using hp
   rw[hb.frozen (ac _ bV)];exact hz b off bV
 . intro ha
   have:=hn ha;rw[mu] at this;simpa using this
 intro p hp _;rw[mu];simpa using hp
theorem kV(hl:laidOutB P=Av){W W':Ba}{sp:Nat->Bool}(hb:Ao W.heap.size W W') :
  ∀ {ts:List TypeId} {vs:List Au} {ds:List (DataW H)} {ps:List MemPlace},(∀t∈ts,P.readableRec t=Av/\t<P.types.size)->DataW.TrodAll enc P W 0 (fun _=>Av) Av ts vs ds ps ->
   (∀x∈ps,x.block<W.heap.size)->(∀x∈ps,sp x.block=Av)->DataW.TrodAll enc P W' 0 sp Av ts vs ds ps
 | [],[],[],_,_,h,_,_=>h
 | _::_,_::_,_::_,_,hT,⟨p,q,h1,h2,e⟩,ac,hs=>by
  subst e;refine⟨p,q,?_,kV hl hb (fun t ht=>hT t (Rf _ ht)) h2 (fun x hx=>ac x (List.mem_append_right _ hx)) (fun x hx=>hs x (List.mem_append_right _ hx)),rfl⟩;have hh:=hT _ (Ro ..);exact WideElems.Trod_stays hl hh.1 hh.2 h1 (fun x hx=>hb.same (ac x (Rg _ hx))) (fun x hx=>hs x (Rg _ hx))
theorem Xt{C:Checked}{os:Os}{f:FuncId}{fn:Func}{s:ChangeSpec}{X:Ba->Array Au->Prop}{tb:TypeId}(dg:os.Started)
  (hX:∀(w w':Ba) (args:Array Au),w.heap=w'.heap->X w args->X w' args) (own:ownKnob C.prog.godebug=Z) (rG:C.prog.inits.idxOf? f=Z) (GH:C.prog.funcs[f]?=J fn)
  (nZ:∃(w:Ba) (tape:Tape) (i:Input),w.os=os/\(w.forCall tape i).Shaped C.prog/\i.vars=[]/\Input.okWide C.prog (w.forCall tape i) .any w.heap.size f i /\
   ((s.pre enc C.prog fn [] Ax (w.forCall tape i).memory i.args/\X (w.forCall tape i).memory i.args)/\sizedMet enc C.prog fn (OpenSpec.ofChange s) Ax (w.forCall tape i).memory i.args)/\({}:Assume).holds C.prog (lone (Frame.enter C.prog f i.args .normal) [] (w.forCall tape i)))
  (aS:fn.resultTypes=#[tb]) (pV:C.prog.underlying tb=J .bool) (hl:laidOutB C.prog=Av) (BI:∀t∈fn.params.toList,C.prog.readableRec t=Av/\t<C.prog.types.size) (eT:s.vars=[])
  (hs:∀ds:List (DataW H),ds.length=fn.params.size->s.fn H ds={ results:=[.lit (.bool Av)],args:=ds })
  (walk:∀(W:Ba) (aa:Nat) (args:Array Au) (ds:List (DataW H)) (ps:List MemPlace),(∀(j:Nat) t v,fn.params[j]?=J t->args[j]?=J v->Value.okWide C.prog W .any aa t v) ->
   DataW.TrodAll enc C.prog W 0 (fun _=>Av) Av fn.params.toList args.toList ds ps->(DataW.weightsEach C.prog fn.params.toList ds).all (·<=reachBytes)=Av->(∀x∈ps,x.block<W.heap.size)->X W args ->
   Ap C.prog f args W fun e W'=>e=Am (Ai Av)/\Ao W.heap.size W W') :
  ReturnsInHanded {} C os f .any (fun w args=>(s.pre enc C.prog fn [] Ax w args/\X w args)/\sizedMet enc C.prog fn (OpenSpec.ofChange s) Ax w args) (s.post enc C.prog fn Ax Av Ax Ax):=by
 refine returnsInHanded_of_change_and (C:=C) (X:=X) hX own dg rG GH nZ ?_;intro W aa args ds gs before Bw hW _ aZ hL _;have lY:=hW;obtain⟨p,q,sW,hV,Ej,Ue,hnd⟩:=hW;have hA:DataW.TrodAll enc C.prog W 0 (fun _=>Av) Av fn.params.toList args.toList ds p:=sW
 have nA:gs=[]/\q=[]:=by
  rw[eT] at hV;exact trodVars_none hV
 obtain⟨rfl,rfl⟩:=nA
 have aC:∀ {ts:List TypeId} {vs:List Au} {ds:List (DataW H)} {ps:List MemPlace},DataW.TrodAll enc C.prog W 0 (fun _=>Av) Av ts vs ds ps->ds.length=ts.length:=by
  intro ts
  induction ts with
  | nil=>intro vs ds ps h;obtain⟨_,rfl,_⟩:=trodAll_nil h;rfl
  | cons t ts ih=>intro vs ds ps h;obtain⟨_,_,_,_,_,_,_,rfl,_,_,h2⟩:=trodAll_cons h;simp[ih h2]
 have GJ:ds.length=fn.params.size:=by rw[aC hA];simp
 have EC:before=p:=by rw[Ej,Nf]
 subst EC;have ac:∀x∈before,x.block<W.heap.size:=fun x hx=>lY.lt x hx
 have oz:(DataW.weightsEach C.prog fn.params.toList ds).all (·<=reachBytes)=Av:=by
  have e:s.plain.varTypes C.prog=[]:=by simp[ChangeSpec.plain,DataSpec.varTypes,eT]
  rw[e,Nf,Nf] at aZ;exact aZ
 refine(walk W aa args ds before Bw hA oz ac hL).mono fun e W' ⟨he,hb⟩=>?_
 subst he;refine⟨_,rfl,Xh (pa:=before) (pv:=[]) lY ?_ ?_ ?_ (by rw[Nf]) hb ?_⟩
 . intro b sp hd
   rw[Nf,hs ds GJ,aS];exact trodAll_mk1 (shut_bool pV _)
 . intro sp Mo
   rw[Nf,hs ds GJ];exact kV hl hb BI hA ac Mo
 . intro sp Mo
   rw[Nf,hs ds GJ,eT]
   rfl
 exact ok_one aS rfl (okWide_bool_mk pV _)
end
theorem xt:An.cellsOf 3=1:=by kernel_rfl
theorem cells5:An.cellsOf 43=5:=by kernel_rfl
theorem Xv:laidOutB An=Av:=by kernel_rfl
theorem lawOwn:ownKnob An.godebug=Z:=by kernel_rfl
end
section
open Go.RowKit
structure Rd where
 n:Int
 h0:Int
 h1:Int
 h2:Int
 h3:Int
 h4:Int
 f:Int
deriving DecidableEq,Inhabited
def Rd.h(r:Rd):Nat->Int
 | 0=>r.h0
 | 1=>r.h1
 | 2=>r.h2
 | 3=>r.h3
 | _=>r.h4
def Rd.cells(r:Rd):Array Au:=#[O U r.n,O U r.h0,O U r.h1,O U r.h2,O U r.h3,O U r.h4,O U r.f]
structure Mv where
 r:Rd
 to:Int
deriving DecidableEq,Inhabited
def Mv.cells(m:Mv):Array Au:=#[O U m.r.n,O U m.r.h0,O U m.r.h1,O U m.r.h2,O U m.r.h3,O U m.r.h4,O U m.r.f,O U m.to]
structure Cs where
 inp:List Int
 out:List (List Int)
 calm:List (List Int)
deriving DecidableEq,Inhabited
structure Tk where
 n:Int
 ins:Int
 outs:Int
 cases:List Cs
deriving DecidableEq,Inhabited
structure Ad where
 n:Int
 sts:List (List Mv)
deriving DecidableEq,Inhabited
structure Pb where
 t:Tk
 a:Ad
 k:Int
deriving DecidableEq,Inhabited
structure Exn where
 c:Int
 word:List Rd
 views:List (List Int)
deriving DecidableEq,Inhabited
structure Sy where
 p:Pb
 n:Int
 vs:List Vw
 xs:List Exn
deriving DecidableEq,Inhabited
section
variable {w w':Ba} {B B':Nat} {A:Bb}
def LAt(w:Ba)(B:Nat)(A:Bb)(xss:List (List Int)):Prop:=
 0<xss.length->∃b off,A=J ⟨b,off,Z⟩/\b<B/\∀(i:Nat) (hi:i<xss.length),∃A' c,w.cell? ⟨b,off+i,Z⟩=J (I A' xss[i].length c)/\IAt w B A' xss[i]
theorem LAt.keep{xss:List (List Int)}(h:LAt w B A xss)(hb:Ao B w w'):LAt w' B A xss:=fun h0=>by
 obtain⟨b,off,e,ac,hc⟩:=h h0;refine⟨b,off,e,ac,fun i hi=>?_⟩;obtain⟨A',c,h1,h2⟩:=hc i hi;exact⟨A',c,(hb.cell (p:=⟨b,_,Z⟩) ac).trans h1,h2.keep hb⟩
theorem LAt.more{xss:List (List Int)}(h:LAt w B A xss)(hB:B<=B'):LAt w B' A xss:=fun h0=>by
 obtain⟨b,off,e,ac,hc⟩:=h h0;refine⟨b,off,e,by omega,fun i hi=>?_⟩;obtain⟨A',c,h1,h2⟩:=hc i hi;exact⟨A',c,h1,h2.more hB⟩
theorem LAt.at_{xss:List (List Int)}(h:LAt w B A xss)(i:Nat)(hi:i<xss.length):∃b off A' c,A=J ⟨b,off,Z⟩/\b<B/\w.cell? ⟨b,off+i,Z⟩=J (I A' xss[i].length c)/\IAt w B A' xss[i]:=by
 obtain⟨b,off,e,ac,hc⟩:=h (by omega);obtain⟨A',c,h1,h2⟩:=hc i hi;exact⟨b,off,A',c,e,ac,h1,h2⟩
theorem LAt.nil(w:Ba)(B:Nat)(A:Bb):LAt w B A []:=fun h=>absurd h (by simp)
def RAt(w:Ba)(B:Nat)(A:Bb)(rs:List Rd):Prop:=
 0<rs.length->∃b off,A=J ⟨b,off,Z⟩/\b<B/\∀(i:Nat) (hi:i<rs.length) (k:Nat) (u:Au),rs[i].cells[k]?=J u->w.cell? ⟨b,off+i*7+k,Z⟩=J u
theorem RAt.keep{rs:List Rd}(h:RAt w B A rs)(hb:Ao B w w'):RAt w' B A rs:=fun h0=>by
 obtain⟨b,off,e,ac,hc⟩:=h h0;exact⟨b,off,e,ac,fun i hi k u hk=>(hb.cell (p:=⟨b,_,Z⟩) ac).trans (hc i hi k u hk)⟩
theorem RAt.more{rs:List Rd}(h:RAt w B A rs)(hB:B<=B'):RAt w B' A rs:=fun h0=>by
 obtain⟨b,off,e,ac,hc⟩:=h h0;exact⟨b,off,e,by omega,hc⟩
theorem RAt.row{rs:List Rd}(h:RAt w B A rs)(k:Nat)(hk:k<rs.length) :
  ∃b off,A=J ⟨b,off,Z⟩/\b<B/\w.cell? ⟨b,off+k*7,Z⟩=J (O U rs[k].n)/\w.cell? ⟨b,off+k*7+1,Z⟩=J (O U rs[k].h0) /\
   w.cell? ⟨b,off+k*7+2,Z⟩=J (O U rs[k].h1)/\w.cell? ⟨b,off+k*7+3,Z⟩=J (O U rs[k].h2)/\w.cell? ⟨b,off+k*7+4,Z⟩=J (O U rs[k].h3) /\
   w.cell? ⟨b,off+k*7+5,Z⟩=J (O U rs[k].h4)/\w.cell? ⟨b,off+k*7+6,Z⟩=J (O U rs[k].f):=by
 obtain⟨b,off,e,ac,hc⟩:=h (by omega);exact⟨b,off,e,ac,hc k hk 0 _ rfl,hc k hk 1 _ rfl,hc k hk 2 _ rfl,hc k hk 3 _ rfl,hc k hk 4 _ rfl,hc k hk 5 _ rfl,hc k hk 6 _ rfl⟩
def MAt(w:Ba)(B:Nat)(A:Bb)(ms:List Mv):Prop:=
 0<ms.length->∃b off,A=J ⟨b,off,Z⟩/\b<B/\∀(i:Nat) (hi:i<ms.length) (k:Nat) (u:Au),ms[i].cells[k]?=J u->w.cell? ⟨b,off+i*8+k,Z⟩=J u
theorem MAt.keep{ms:List Mv}(h:MAt w B A ms)(hb:Ao B w w'):MAt w' B A ms:=fun h0=>by
 obtain⟨b,off,e,ac,hc⟩:=h h0;exact⟨b,off,e,ac,fun i hi k u hk=>(hb.cell (p:=⟨b,_,Z⟩) ac).trans (hc i hi k u hk)⟩
theorem MAt.more{ms:List Mv}(h:MAt w B A ms)(hB:B<=B'):MAt w B' A ms:=fun h0=>by
 obtain⟨b,off,e,ac,hc⟩:=h h0;exact⟨b,off,e,by omega,hc⟩
theorem MAt.row{ms:List Mv}(h:MAt w B A ms)(k:Nat)(hk:k<ms.length) :
  ∃b off,A=J ⟨b,off,Z⟩/\b<B/\w.cell? ⟨b,off+k*8,Z⟩=J (O U ms[k].r.n)/\w.cell? ⟨b,off+k*8+1,Z⟩=J (O U ms[k].r.h0) /\
   w.cell? ⟨b,off+k*8+2,Z⟩=J (O U ms[k].r.h1)/\w.cell? ⟨b,off+k*8+3,Z⟩=J (O U ms[k].r.h2)/\w.cell? ⟨b,off+k*8+4,Z⟩=J (O U ms[k].r.h3) /\
   w.cell? ⟨b,off+k*8+5,Z⟩=J (O U ms[k].r.h4)/\w.cell? ⟨b,off+k*8+6,Z⟩=J (O U ms[k].r.f)/\w.cell? ⟨b,off+k*8+7,Z⟩=J (O U ms[k].to):=by
 obtain⟨b,off,e,ac,hc⟩:=h (by omega);exact⟨b,off,e,ac,hc k hk 0 _ rfl,hc k hk 1 _ rfl,hc k hk 2 _ rfl,hc k hk 3 _ rfl,hc k hk 4 _ rfl,hc k hk 5 _ rfl,hc k hk 6 _ rfl,hc k hk 7 _ rfl⟩
def SAt(w:Ba)(B:Nat)(A:Bb)(xss:List (List Mv)):Prop:=
 0<xss.length->∃b off,A=J ⟨b,off,Z⟩/\b<B/\∀(i:Nat) (hi:i<xss.length),∃A' c,w.cell? ⟨b,off+i,Z⟩=J (I A' xss[i].length c)/\MAt w B A' xss[i]
theorem SAt.keep{xss:List (List Mv)}(h:SAt w B A xss)(hb:Ao B w w'):SAt w' B A xss:=fun h0=>by
 obtain⟨b,off,e,ac,hc⟩:=h h0;refine⟨b,off,e,ac,fun i hi=>?_⟩;obtain⟨A',c,h1,h2⟩:=hc i hi;exact⟨A',c,(hb.cell (p:=⟨b,_,Z⟩) ac).trans h1,h2.keep hb⟩
theorem SAt.more{xss:List (List Mv)}(h:SAt w B A xss)(hB:B<=B'):SAt w B' A xss:=fun h0=>by
 obtain⟨b,off,e,ac,hc⟩:=h h0;refine⟨b,off,e,by omega,fun i hi=>?_⟩;obtain⟨A',c,h1,h2⟩:=hc i hi;exact⟨A',c,h1,h2.more hB⟩
theorem SAt.at_{xss:List (List Mv)}(h:SAt w B A xss)(i:Nat)(hi:i<xss.length):∃b off A' c,A=J ⟨b,off,Z⟩/\b<B/\w.cell? ⟨b,off+i,Z⟩=J (I A' xss[i].length c)/\MAt w B A' xss[i]:=by
 obtain⟨b,off,e,ac,hc⟩:=h (by omega);obtain⟨A',c,h1,h2⟩:=hc i hi;exact⟨b,off,A',c,e,ac,h1,h2⟩
theorem SAt.nil(w:Ba)(B:Nat)(A:Bb):SAt w B A []:=fun h=>absurd h (by simp)
def WAt(w:Ba)(B:Nat)(A:Bb)(xss:List (List Rd)):Prop:=
 0<xss.length->∃b off,A=J ⟨b,off,Z⟩/\b<B/\∀(i:Nat) (hi:i<xss.length),∃A' c,w.cell? ⟨b,off+i,Z⟩=J (I A' xss[i].length c)/\RAt w B A' xss[i]
theorem WAt.keep{xss:List (List Rd)}(h:WAt w B A xss)(hb:Ao B w w'):WAt w' B A xss:=fun h0=>by
 obtain⟨b,off,e,ac,hc⟩:=h h0;refine⟨b,off,e,ac,fun i hi=>?_⟩;obtain⟨A',c,h1,h2⟩:=hc i hi;exact⟨A',c,(hb.cell (p:=⟨b,_,Z⟩) ac).trans h1,h2.keep hb⟩
theorem WAt.more{xss:List (List Rd)}(h:WAt w B A xss)(hB:B<=B'):WAt w B' A xss:=fun h0=>by
 obtain⟨b,off,e,ac,hc⟩:=h h0;refine⟨b,off,e,by omega,fun i hi=>?_⟩;obtain⟨A',c,h1,h2⟩:=hc i hi;exact⟨A',c,h1,h2.more hB⟩
theorem WAt.at_{xss:List (List Rd)}(h:WAt w B A xss)(i:Nat)(hi:i<xss.length):∃b off A' c,A=J ⟨b,off,Z⟩/\b<B/\w.cell? ⟨b,off+i,Z⟩=J (I A' xss[i].length c)/\RAt w B A' xss[i]:=by
 obtain⟨b,off,e,ac,hc⟩:=h (by omega);obtain⟨A',c,h1,h2⟩:=hc i hi;exact⟨b,off,A',c,e,ac,h1,h2⟩
def CsV(w:Ba)(B:Nat)(v0 v1 v2:Au)(x:Cs):Prop:=
 (∃A c,v0=I A x.inp.length c/\IAt w B A x.inp)/\(∃A c,v1=I A x.out.length c/\LAt w B A x.out)/\(∃A c,v2=I A x.calm.length c/\LAt w B A x.calm)
theorem CsV.keep{v0 v1 v2:Au}{x:Cs}(h:CsV w B v0 v1 v2 x)(hb:Ao B w w'):CsV w' B v0 v1 v2 x:=by
 obtain⟨⟨A,c,e,h1⟩,⟨A2,c2,e2,h2⟩,⟨A3,c3,e3,h3⟩⟩:=h;exact⟨⟨A,c,e,h1.keep hb⟩,⟨A2,c2,e2,h2.keep hb⟩,⟨A3,c3,e3,h3.keep hb⟩⟩
theorem CsV.more{v0 v1 v2:Au}{x:Cs}(h:CsV w B v0 v1 v2 x)(hB:B<=B'):CsV w B' v0 v1 v2 x:=by
 obtain⟨⟨A,c,e,h1⟩,⟨A2,c2,e2,h2⟩,⟨A3,c3,e3,h3⟩⟩:=h;exact⟨⟨A,c,e,h1.more hB⟩,⟨A2,c2,e2,h2.more hB⟩,⟨A3,c3,e3,h3.more hB⟩⟩
def CAt(w:Ba)(B:Nat)(A:Bb)(cs:List Cs):Prop:=
 0<cs.length->∃b off,A=J ⟨b,off,Z⟩/\b<B/\∀(i:Nat) (hi:i<cs.length),∃v0 v1 v2,w.cell? ⟨b,off+i*3,Z⟩=J v0/\w.cell? ⟨b,off+i*3+1,Z⟩=J v1/\w.cell? ⟨b,off+i*3+2,Z⟩=J v2/\CsV w B v0 v1 v2 cs[i]
theorem CAt.keep{cs:List Cs}(h:CAt w B A cs)(hb:Ao B w w'):CAt w' B A cs:=fun h0=>by
 obtain⟨b,off,e,ac,hc⟩:=h h0;refine⟨b,off,e,ac,fun i hi=>?_⟩;obtain⟨v0,v1,v2,c0,c1,c2,hv⟩:=hc i hi;exact⟨v0,v1,v2,(hb.cell (p:=⟨b,_,Z⟩) ac).trans c0,(hb.cell (p:=⟨b,_,Z⟩) ac).trans c1,(hb.cell (p:=⟨b,_,Z⟩) ac).trans c2,hv.keep hb⟩
theorem CAt.more{cs:List Cs}(h:CAt w B A cs)(hB:B<=B'):CAt w B' A cs:=fun h0=>by
 obtain⟨b,off,e,ac,hc⟩:=h h0;refine⟨b,off,e,by omega,fun i hi=>?_⟩;obtain⟨v0,v1,v2,c0,c1,c2,hv⟩:=hc i hi;exact⟨v0,v1,v2,c0,c1,c2,hv.more hB⟩
theorem CAt.nil(w:Ba)(B:Nat)(A:Bb):CAt w B A []:=fun h=>absurd h (by simp)
theorem CAt.row{cs:List Cs}(h:CAt w B A cs)(i:Nat)(hi:i<cs.length) :
  ∃b off A0 c0 A1 c1 A2 c2,A=J ⟨b,off,Z⟩/\b<B/\w.cell? ⟨b,off+i*3,Z⟩=J (I A0 cs[i].inp.length c0)/\w.cell? ⟨b,off+i*3+1,Z⟩=J (I A1 cs[i].out.length c1)/\w.cell? ⟨b,off+i*3+2,Z⟩=J (I A2 cs[i].calm.length c2) /\
   IAt w B A0 cs[i].inp/\LAt w B A1 cs[i].out/\LAt w B A2 cs[i].calm:=by
 obtain⟨b,off,e,ac,hc⟩:=h (by omega);obtain⟨v0,v1,v2,c0,c1,c2,⟨A0,k0,rfl,h0⟩,⟨A1,k1,rfl,h1⟩,⟨A2,k2,rfl,h2⟩⟩:=hc i hi;exact⟨b,off,A0,k0,A1,k1,A2,k2,e,ac,c0,c1,c2,h0,h1,h2⟩
def XsV(w:Ba)(B:Nat)(v0 v1 v2:Au)(x:Exn):Prop:=
 v0=O U x.c/\(∃A c,v1=I A x.word.length c/\RAt w B A x.word)/\(∃A c,v2=I A x.views.length c/\LAt w B A x.views)
theorem XsV.keep{v0 v1 v2:Au}{x:Exn}(h:XsV w B v0 v1 v2 x)(hb:Ao B w w'):XsV w' B v0 v1 v2 x:=by
 obtain⟨e,⟨A2,c2,e2,h2⟩,⟨A3,c3,e3,h3⟩⟩:=h;exact⟨e,⟨A2,c2,e2,h2.keep hb⟩,⟨A3,c3,e3,h3.keep hb⟩⟩
theorem XsV.more{v0 v1 v2:Au}{x:Exn}(h:XsV w B v0 v1 v2 x)(hB:B<=B'):XsV w B' v0 v1 v2 x:=by
 obtain⟨e,⟨A2,c2,e2,h2⟩,⟨A3,c3,e3,h3⟩⟩:=h;exact⟨e,⟨A2,c2,e2,h2.more hB⟩,⟨A3,c3,e3,h3.more hB⟩⟩
def XAt(w:Ba)(B:Nat)(A:Bb)(xs:List Exn):Prop:=
 0<xs.length->∃b off,A=J ⟨b,off,Z⟩/\b<B/\∀(i:Nat) (hi:i<xs.length),∃v0 v1 v2,w.cell? ⟨b,off+i*3,Z⟩=J v0/\w.cell? ⟨b,off+i*3+1,Z⟩=J v1/\w.cell? ⟨b,off+i*3+2,Z⟩=J v2/\XsV w B v0 v1 v2 xs[i]
theorem XAt.keep{xs:List Exn}(h:XAt w B A xs)(hb:Ao B w w'):XAt w' B A xs:=fun h0=>by
 obtain⟨b,off,e,ac,hc⟩:=h h0;refine⟨b,off,e,ac,fun i hi=>?_⟩;obtain⟨v0,v1,v2,c0,c1,c2,hv⟩:=hc i hi;exact⟨v0,v1,v2,(hb.cell (p:=⟨b,_,Z⟩) ac).trans c0,(hb.cell (p:=⟨b,_,Z⟩) ac).trans c1,(hb.cell (p:=⟨b,_,Z⟩) ac).trans c2,hv.keep hb⟩
theorem XAt.more{xs:List Exn}(h:XAt w B A xs)(hB:B<=B'):XAt w B' A xs:=fun h0=>by
 obtain⟨b,off,e,ac,hc⟩:=h h0;refine⟨b,off,e,by omega,fun i hi=>?_⟩;obtain⟨v0,v1,v2,c0,c1,c2,hv⟩:=hc i hi;exact⟨v0,v1,v2,c0,c1,c2,hv.more hB⟩
theorem XAt.nil(w:Ba)(B:Nat)(A:Bb):XAt w B A []:=fun h=>absurd h (by simp)
theorem XAt.row{xs:List Exn}(h:XAt w B A xs)(i:Nat)(hi:i<xs.length) :
  ∃b off A1 c1 A2 c2,A=J ⟨b,off,Z⟩/\b<B/\w.cell? ⟨b,off+i*3,Z⟩=J (O U xs[i].c)/\w.cell? ⟨b,off+i*3+1,Z⟩=J (I A1 xs[i].word.length c1)/\w.cell? ⟨b,off+i*3+2,Z⟩=J (I A2 xs[i].views.length c2) /\
   RAt w B A1 xs[i].word/\LAt w B A2 xs[i].views:=by
 obtain⟨b,off,e,ac,hc⟩:=h (by omega);obtain⟨v0,v1,v2,c0,c1,c2,rfl,⟨A1,k1,rfl,h1⟩,⟨A2,k2,rfl,h2⟩⟩:=hc i hi;exact⟨b,off,A1,k1,A2,k2,e,ac,c0,c1,c2,h1,h2⟩
end
end
section
open Go.RowKit
attribute [local go_sem] Oper.semAt_some
theorem kr(w:Ba)(n m:Nat):(w.drewN n).drewN m=w.drewN (n+m):=by unfold World.drewN;simp[Nat.add_assoc]
theorem yG{α:Type}{xs ys:List α}{k:Nat}(h:xs.take k=ys.take k)(h1:k<xs.length)(h2:k<ys.length)(he:xs[k]=ys[k]):xs.take (k+1)=ys.take (k+1):=by
 rw[Lu h1,Lu h2,h,he]
theorem xK{α:Type}{xs ys:List α}(hl:xs.length=ys.length)(h:xs.take xs.length=ys.take xs.length):xs=ys:=by
 rw[LJ] at h
 conv at h=>rhs;rw[hl,LJ]
 exact h
theorem gc(A B:Bb)(ca cb:Nat)(xs ys:List Int)(hx:xs.length<=17592186044416)(_hy:ys.length<=17592186044416)(w:Ba)(hA:IAt w w.heap.size A xs)(hB:IAt w w.heap.size B ys) :
  Ap An 130 #[I A xs.length ca,I B ys.length cb] w fun e w'=>e=Am (Ai (decide (xs=ys)))/\∃n,w'=w.drewN n:=by
 have HA:=zH hA;have HB:=zH hB;have HT:As (∀b,(xs=ys↔b=Av)->decide (xs=ys)=b):=fun b h=>by cases b<;>simp_all
 obtain⟨r,hr⟩:∃r,decide (xs=ys)=r:=⟨_,rfl⟩;rw[hr] at HT ⊢;go_enter func130,ntmps130
 by_cases hl:xs.length=ys.length
 case neg=>
  have hR:As (r=Ax):=HT.out Ax ⟨fun h=>absurd (congrArg List.length h) hl,fun h=>by cases h⟩;have e0:((xs.length:Int) != (ys.length:Int))=Av:=by simp;omega
  go_wp2_with fail;go_ret;exact⟨ze hR.out.symm,0,rfl⟩
 case pos=>
 have HL:=zH hl;rw[<-hl] at _hy ⊢;go_wp2_with fail
 go_loopw [5] (fun i wr=>∃k n:Nat,k<=xs.length/\i=O U (k:Int)/\As (xs.take k=ys.take k)/\As (wr=w.drewN n)) (fun i _=>xs.length-(Aq i).toNat)
 case atStart=>exact⟨0,0,by omega,rfl,by rw[As,LO,LO],rfl⟩
 obtain⟨k,n,hk,rfl,hp,hw⟩:=hrel
 by_cases ac:k<xs.length
 case neg=>
  obtain rfl:k=xs.length:=by omega
  have hR:As (r=Av):=HT.out Av ⟨fun _=>rfl,fun _=>xK HL.out hp.out⟩;go_wp2_with fail;go_ret;exact⟨ze hR.out.symm,n,hw.out⟩
 case pos=>
 have dL:k<ys.length:=by have:=HL.out;omega
 obtain⟨ba,oa,ea,_,c1⟩:=HA.out.at_ k ac;obtain⟨bb,ob,eb,_,c2⟩:=HB.out.at_ k dL;subst ea;subst eb;have c1:wr.cell? ⟨ba,oa+k,Z⟩=J (O U xs[k]):=by rw[hw.out];exact c1
 have c2:wr.cell? ⟨bb,ob+k,Z⟩=J (O U ys[k]):=by rw[hw.out];exact c2
 by_cases he:xs[k]=ys[k]
 . have hR:=zH (yG hp.out ac dL he)
   rw[<-he] at c2;obtain⟨u,hu⟩:=Kh (xs[k]);rw[hu] at c1 c2;go_wp2_with fail;go_quiet (fail);go_wp2_with fail
   go_roundw
   case rel=>exact⟨k+1,n+nq,by omega,by go_num,hR,by rw[As,hw.out,kr]⟩
   simp[Aq];omega
 have hR:As (r=Ax):=HT.out Ax ⟨fun h=>absurd (by subst h;rfl) he,fun h=>by cases h⟩;obtain⟨u,hu⟩:=Kh (xs[k]);obtain⟨v,hv⟩:=Kh (ys[k]);rw[hu,hv] at he;rw[hu] at c1;rw[hv] at c2;have e0:(u != v)=Av:=by simpa using he
 go_wp2_with fail;go_quiet (fail);go_wp2_with fail;go_ret;exact⟨ze hR.out.symm,n+nq,by rw[hw.out,kr]⟩
end
section
open Go.RowKit
theorem zC(xs:Array Au)(i:Nat)(x:Au)(h:xs[i]?=J x)(w:Ba):(part 3 xs i).run An w=.ok x w:=by
 have hi:An.underlying 3=J (.int U):=LA;unfold part isAgg;simp[go_sem,run_underlying hi,h]
def hE(v u:Vw):Bool:=v.h0==u.h0&&(v.h1==u.h1&&(v.h2==u.h2&&(v.h3==u.h3&&v.h4==u.h4)))
theorem gU(d:Nat)(v u:Vw)(w:Ba):(Op.equalIn (d+2) 43 (Aj #[O U v.h0,O U v.h1,O U v.h2,O U v.h3,O U v.h4]) (Aj #[O U u.h0,O U u.h1,O U u.h2,O U u.h3,O U u.h4])).run An w =
  .ok (hE v u) w:=by
 have hu:An.underlying 43=J (.array 5 3):=Rt;have hi:An.underlying 3=J (.int U):=LA;have hs:(sizeOf 3).run An w=.ok 1 w:=by kernel_rfl
 have p0:=fun x0 x1 x2 x3 x4=>zC #[x0,x1,x2,x3,x4] 0 x0 rfl w
 have p1:=fun x0 x1 x2 x3 x4=>zC #[x0,x1,x2,x3,x4] 1 x1 rfl w
 have p2:=fun x0 x1 x2 x3 x4=>zC #[x0,x1,x2,x3,x4] 2 x2 rfl w
 have p3:=fun x0 x1 x2 x3 x4=>zC #[x0,x1,x2,x3,x4] 3 x3 rfl w
 have p4:=fun x0 x1 x2 x3 x4=>zC #[x0,x1,x2,x3,x4] 4 x4 rfl w
 unfold Op.equalIn hE
 cases h0:(v.h0==u.h0)
 . simp only[Sem.run_bind,run_underlying hu,Result.andThen_ok,hs,Std.Legacy.Range.forIn_eq_forIn_range',Std.Legacy.Range.size,Nat.sub_zero,Nat.add_sub_cancel,Nat.div_one,show List.range' 0 5 1=[0,1,2,3,4] from rfl,List.forIn_cons,List.forIn_nil,p0,Nat.mul_one,run_equalIn_int w d 3 _ _ _ _ hi,h0,Bool.not_false,if_true,Sem.run_pure,Bool.false_and]
 cases h1:(v.h1==u.h1)
 . simp only[Sem.run_bind,run_underlying hu,Result.andThen_ok,hs,Std.Legacy.Range.forIn_eq_forIn_range',Std.Legacy.Range.size,Nat.sub_zero,Nat.add_sub_cancel,Nat.div_one,show List.range' 0 5 1=[0,1,2,3,4] from rfl,List.forIn_cons,List.forIn_nil,p0,p1,Nat.mul_one,run_equalIn_int w d 3 _ _ _ _ hi,h0,h1,Bool.not_false,Bool.not_true,if_true,Bool.false_eq_true,if_false,Sem.run_pure,Bool.true_and,Bool.false_and]
 cases h2:(v.h2==u.h2)
 . simp only[Sem.run_bind,run_underlying hu,Result.andThen_ok,hs,Std.Legacy.Range.forIn_eq_forIn_range',Std.Legacy.Range.size,Nat.sub_zero,Nat.add_sub_cancel,Nat.div_one,show List.range' 0 5 1=[0,1,2,3,4] from rfl,List.forIn_cons,List.forIn_nil,p0,p1,p2,Nat.mul_one,run_equalIn_int w d 3 _ _ _ _ hi,h0,h1,h2,Bool.not_false,Bool.not_true,if_true,Bool.false_eq_true,if_false,Sem.run_pure,Bool.true_and,Bool.false_and]
 cases h3:(v.h3==u.h3)
 . simp only[Sem.run_bind,run_underlying hu,Result.andThen_ok,hs,Std.Legacy.Range.forIn_eq_forIn_range',Std.Legacy.Range.size,Nat.sub_zero,Nat.add_sub_cancel,Nat.div_one,show List.range' 0 5 1=[0,1,2,3,4] from rfl,List.forIn_cons,List.forIn_nil,p0,p1,p2,p3,Nat.mul_one,run_equalIn_int w d 3 _ _ _ _ hi,h0,h1,h2,h3,Bool.not_false,Bool.not_true,if_true,Bool.false_eq_true,if_false,Sem.run_pure,Bool.true_and,Bool.false_and]
 cases h4:(v.h4==u.h4)
 . simp only[Sem.run_bind,run_underlying hu,Result.andThen_ok,hs,Std.Legacy.Range.forIn_eq_forIn_range',Std.Legacy.Range.size,Nat.sub_zero,Nat.add_sub_cancel,Nat.div_one,show List.range' 0 5 1=[0,1,2,3,4] from rfl,List.forIn_cons,List.forIn_nil,p0,p1,p2,p3,p4,Nat.mul_one,run_equalIn_int w d 3 _ _ _ _ hi,h0,h1,h2,h3,h4,Bool.not_false,Bool.not_true,if_true,Bool.false_eq_true,if_false,Sem.run_pure,Bool.true_and]
 simp only[Sem.run_bind,run_underlying hu,Result.andThen_ok,hs,Std.Legacy.Range.forIn_eq_forIn_range',Std.Legacy.Range.size,Nat.sub_zero,Nat.add_sub_cancel,Nat.div_one,show List.range' 0 5 1=[0,1,2,3,4] from rfl,List.forIn_cons,List.forIn_nil,p0,p1,p2,p3,p4,Nat.mul_one,run_equalIn_int w d 3 _ _ _ _ hi,h0,h1,h2,h3,h4,Bool.not_true,Bool.false_eq_true,if_false,Sem.run_pure,Bool.true_and]
theorem ju(d:Nat)(v u:Vw)(w:Ba):(Op.equalIn (d+3) 100 (.agg v.cells) (.agg u.cells)).run An w=.ok (decide (v=u)) w:=by
 have hu:An.underlying 100=J (.struct (An.fieldsOf 100)):=by kernel_rfl
 have hi:An.underlying 3=J (.int U):=LA;have hf : (An.fieldsOf 100).toList.map (fun f => (f.name, f.type, f.offset)) = [("Proc", 3, 0), ("Round", 3, 1), ("Input", 3, 2), ("Heard", 43, 3)] := by kernel_rfl
 rw[Ph w (d+2) 100 _ _ hu (by kernel_rfl)];have p0:∀x:Vw,(part 3 x.cells 0).run An w=.ok (O U x.p) w:=fun x=>zC _ 0 _ rfl w
 have p1:∀x:Vw,(part 3 x.cells 1).run An w=.ok (O U x.r) w:=fun x=>zC _ 1 _ rfl w
 have p2:∀x:Vw,(part 3 x.cells 2).run An w=.ok (O U x.i) w:=fun x=>zC _ 2 _ rfl w
 have p3:∀x:Vw,(part 43 x.cells 3).run An w=.ok (Aj #[O U x.h0,O U x.h1,O U x.h2,O U x.h3,O U x.h4]) w:=fun x=>by unfold Vw.cells;kernel_rfl
 generalize (An.fieldsOf 100).toList=fs at hf
 obtain⟨f0,f1,f2,f3,rfl⟩:∃f0 f1 f2 f3,fs=[f0,f1,f2,f3]:=by
  have hl:fs.length=4:=by simpa using congrArg List.length hf
  rcases fs with _ | ⟨f0,_ | ⟨f1,_ | ⟨f2,_ | ⟨f3,_ | ⟨f4,r⟩⟩⟩⟩⟩<;>simp at hl
  exact⟨_,_,_,_,rfl⟩
 clear hu;simp only[List.map_cons,List.map_nil,List.cons.injEq,Prod.mk.injEq,and_true] at hf;obtain⟨⟨n0,t0,o0⟩,⟨n1,t1,o1⟩,⟨n2,t2,o2⟩,⟨n3,t3,o3⟩⟩:=hf
 have hd:decide (v=u)=(v.p==u.p&&(v.r==u.r&&(v.i==u.i&&hE v u))):=by
  unfold hE;obtain⟨a0,a1,a2,a3,a4,a5,a6,a7⟩:=v;obtain⟨b0,b1,b2,b3,b4,b5,b6,b7⟩:=u;rw[Nq];simp
 rw[hd]
 cases h0:(v.p==u.p)<;>cases h1:(v.r==u.r)<;>cases h2:(v.i==u.i)<;>cases h3:hE v u <;>
  simp only[Op.eqFields,n0,n1,n2,n3,t0,t1,t2,t3,o0,o1,o2,o3,p0,p1,p2,p3,Sem.run_bind,Result.andThen_ok,run_equalIn_int w _ 3 _ _ _ _ hi,gU,h0,h1,h2,h3,ne_eq,not_false_eq_true,if_true,Bool.not_false,Bool.not_true,Bool.false_eq_true,if_false,Sem.run_pure,Bool.true_and,Bool.false_and,String.reduceEq]
theorem eql_view(v u:Vw)(w:Ba):(binOp .eql 100 (.agg v.cells) (.agg u.cells)).run An w=.ok (Ai (decide (v=u))) w:=by
 simp only[binOp];simp[Op.equal,Op.maxDepth,ju 9997 v u w]
theorem Yk(v u:Vw)(w:Ba):(binOp .neq 100 (.agg v.cells) (.agg u.cells)).run An w=.ok (Ai (decide (v≠u))) w:=by
 simp only[binOp];simp[Op.equal,Op.maxDepth,ju 9997 v u w]
def kN(p:Nat->Bool):Bool:=(List.range 32).all p
theorem jJ{p:Nat->Bool}(h:kN p=Av){s:Nat}(hs:s<32):p s=Av:=LK.1 h s (by simpa using hs)
def vd(n:Int):Int:=if n<1\/5<n then 1 else 0
def xr(n s:Int):Int:=if n<1\/5<n then 1 else if s<0\/(2^n.toNat:Nat)<=s then 2 else 0
theorem Jq(n:Int)(w:Ba):Ap An 132 #[O U n] w fun e w'=>e=Am (O U (vd n))/\w=w':=by
 have H:As (vd n=if n<1\/5<n then 1 else 0):=rfl;go_enter func132,ntmps132;go_wp2
 all_goals
  go_ret;refine⟨zc ?_,rfl⟩;rw[H.out]
  first | (rw[Ln (by omega)]) | (rw[Lj (by omega)])
theorem Xa(n:Int)(w:Ba):Ap An 181 #[O U n] w fun e w'=>e=Am (O U (vd n))/\w=w':=by
 have H:As (vd n=if n<1\/5<n then 1 else 0):=rfl;go_enter func181,ntmps181;go_wp2
 all_goals
  go_ret;refine⟨zc ?_,rfl⟩;rw[H.out]
  first | (rw[Ln (by omega)]) | (rw[Lj (by omega)])
theorem procs_ok{n:Int}(h:¬(n<1\/5<n)):n=1\/n=2\/n=3\/n=4\/n=5:=by omega
theorem uW{n:Int}(h:n<1\/5<n):vd n=1:=Ln h
theorem gD{n:Int}(h:¬(n<1\/5<n)):vd n=0:=Lj h
theorem J5(n s:Int)(w:Ba):Ap An 101 #[O U n,O U s] w fun e w'=>e=Am (O U (xr n s))/\w=w':=by
 have H:As (xr n s=if n<1\/5<n then 1 else if s<0\/(2^n.toNat:Nat)<=s then 2 else 0):=rfl;go_enter func101,ntmps101;go_wp2_with fail;refine(Jq n w).mono ?_;rintro e w' ⟨rfl,rfl⟩
 by_cases hn:n<1\/5<n
 . rw[uW hn]
   rw[Ln hn] at H;go_wp2;go_ret;exact⟨zc H.out.symm,rfl⟩
 rw[gD hn];rw[Lj hn] at H;rcases procs_ok hn with rfl | rfl | rfl | rfl | rfl
 all_goals
  go_wp2
 all_goals
  try simp only[bne_iff_ne,ne_eq,bne_eq_false_iff_eq] at *
  go_ret;refine⟨zc ?_,rfl⟩;rw[H.out]
  first | (rw[Ln (by simp;omega)]) | (rw[Lj (by simp;omega)])
theorem check_ok{n s:Int}(h:xr n s=0):∃m k:Nat,n=(m:Int)/\s=(k:Int)/\1<=m/\m<=5/\k<2^m/\k<32:=by
 unfold xr at h
 split at h
 . cases h
 split at h
 . cases h
 rename_i h1 h2;refine⟨n.toNat,s.toNat,by omega,by omega,by omega,by omega,?_,?_⟩
 . omega
 have:2^n.toNat<=2^5:=N7 (by omega) (by omega);omega
theorem vf(k:Nat)(hk:k<=5)(w:Ba):Ap An 164 #[O U k] w fun e w'=>e=Am (O U ((2^k:Nat):Int))/\w=w':=by
 go_enter func164,ntmps164;go_wp2
 go_loop [3,4] (fun v i=>∃j q:Nat,j<=k/\q=2^j/\q<=32/\v=O U (q:Int)/\i=O U (j:Int)) (fun _ i=>5-(Aq i).toNat)
 case atStart=>exact⟨0,1,by omega,rfl,by omega,rfl,rfl⟩
 obtain⟨j,q,hj,hq,hq2,rfl,rfl⟩:=hrel;have H:As (q=2^j):=hq;clear hq
 by_cases ac:j<k
 . go_wp2
   go_round
   case rel=>
    have h1:q*2=2^(j+1):=by rw[H.out,Nat.pow_succ]
    have h2:(2^(j+1):Nat)<=2^5:=N7 (by omega) (by omega);exact⟨j+1,q*2,by omega,h1,by omega,by go_num,by go_num⟩
   simp[Aq];omega
 obtain rfl:j=k:=by omega
 go_wp2;go_ret;exact⟨by have:=H.out;subst this;simp,rfl⟩
theorem Xf(n s:Int)(w:Ba):Ap An 175 #[O U n,O U s] w fun e w'=>e=Am (O U (xr n s))/\w=w':=by
 have H:As (xr n s=if n<1\/5<n then 1 else if s<0\/(2^n.toNat:Nat)<=s then 2 else 0):=rfl;go_enter func175,ntmps175;go_wp2_with fail;refine(Xa n w).mono ?_;rintro e w' ⟨rfl,rfl⟩
 by_cases hn:n<1\/5<n
 . rw[uW hn]
   rw[Ln hn] at H;go_wp2;go_ret;exact⟨zc H.out.symm,rfl⟩
 rw[gD hn];rw[Lj hn] at H;obtain⟨m,rfl⟩:=Lr (show 0<=n by omega);have hp:=vf m (by omega) w;go_wp2_with fail
 . refine hp.mono ?_
   rintro e w' ⟨rfl,rfl⟩;go_wp2_with fail
   all_goals
    go_ret;refine⟨zc ?_,rfl⟩;rw[H.out]
    first | (rw[Ln (by simp;omega)]) | (rw[Lj (by simp;omega)])
 go_ret;refine⟨zc ?_,rfl⟩;rw[H.out,Ln (by omega)]
def zh:List Int->List Int->Int
 | [],[]=>0
 | [],_::_=>-1
 | _::_,[]=>1
 | a::l,b::m=>if a<b then -1 else if b<a then 1 else zh l m
theorem yB:∀l:List Int,zh l l=0
 | []=>rfl
 | a::l=>by rw[zh,Lj (Int.lt_irrefl a),Lj (Int.lt_irrefl a),yB l]
theorem xM:∀ {l m:List Int},zh l m=0->l=m
 | [],[],_=>rfl
 | [],_::_,h=>by cases h
 | _::_,[],h=>by cases h
 | a::l,b::m,h=>by
  rw[zh] at h
  split at h
  . cases h
  . split at h
    . cases h
    . rw[xM h,show a=b by omega]
theorem ja:∀l m:List Int,zh l m=-1\/zh l m=0\/zh l m=1
 | [],[]=>.inr (.inl rfl)
 | [],_::_=>.inl rfl
 | _::_,[]=>.inr (.inr rfl)
 | a::l,b::m=>by
  rw[zh]
  split
  . exact .inl rfl
  . split
    . exact .inr (.inr rfl)
    . exact ja l m
theorem uY{l m:List Int}{k:Nat}(h1:k<l.length)(h2:k<m.length):zh (l.drop k) (m.drop k)=if l[k]<m[k] then -1 else if m[k]<l[k] then 1 else zh (l.drop (k+1)) (m.drop (k+1)):=by
 rw[Lw h1,Lw h2,zh]
theorem vh{l m:List Int}{k:Nat}(h:k=l.length\/k=m.length)(h1:k<=l.length)(h2:k<=m.length):zh (l.drop k) (m.drop k)=if l.length<m.length then -1 else if m.length<l.length then 1 else 0:=by
 rcases h with h | h
 . subst h
   rw[NB]
   by_cases hm:l.length<m.length
   . rw[Ln hm,Lw hm];rfl
   have:m.drop l.length=[]:=P6 (by omega);rw[this,Lj hm,Lj (by omega)];rfl
 subst h;rw[NB]
 by_cases hm:m.length<l.length
 . rw[Lj (by omega),Ln hm,Lw hm];rfl
 have:l.drop m.length=[]:=P6 (by omega);rw[this,Lj (by omega),Lj hm];rfl
def yS(m x:Int):Bool:=decide (x<0\/m<=x)
def zr(v:List Int)(n m:Int):Int:=if (v.length:Int)≠n then 15 else if v.any (yS m)=Av then 2 else 0
def zm{α:Type}(l:List α)(k:Nat):Option α:=if k=0 then Z else l[k-1]?
theorem vR{α:Type}(l:List α):zm l 0=Z:=rfl
theorem zQ{α:Type}(l:List α)(k:Nat)(hk:k<l.length):zm l (k+1)=J l[k]:=by unfold zm;simp[hk]
def xx(p:Option (List Int))(v:List Int):Bool:=match p with | none=>Ax | some q=>decide (0<=zh q v)
def kC(f:List Int->Int):Option (List Int)->List (List Int)->Int
 | _,[]=>0
 | p,v::r=>if f v≠0 then f v else if xx p v=Av then 14 else kC f (J v) r
def qa(f:List Int->Int)(l:List (List Int)):Int:=kC f Z l
def yd(f:List Int->Int)(l:List (List Int))(k:Nat):Int:=kC f (zm l k) (l.drop k)
theorem xh{f:List Int->Int}{l:List (List Int)}:yd f l 0=qa f l:=by unfold yd qa;rw[vR,LS]
theorem xB{f:List Int->Int}{l:List (List Int)}:yd f l l.length=0:=by unfold yd;rw[NB];rfl
theorem xC{f:List Int->Int}{l:List (List Int)}{k:Nat}(hk:k<l.length)(h:f l[k]≠0):yd f l k=f l[k]:=by
 unfold yd;rw[Lw hk,kC,Ln h]
theorem yR{f:List Int->Int}{l:List (List Int)}{k:Nat}(hk:k<l.length)(h:f l[k]=0)(h2:xx (zm l k) l[k]=Av):yd f l k=14:=by
 unfold yd;rw[Lw hk,kC,Lj (by simpa using h),Ln h2]
theorem xX{f:List Int->Int}{l:List (List Int)}{k:Nat}(hk:k<l.length)(h:f l[k]=0)(h2:xx (zm l k) l[k]=Ax):yd f l k=yd f l (k+1):=by
 unfold yd;rw[Lw hk,kC,Lj (by simpa using h),Lj (by rw[h2];decide),zQ l k hk]
def xR(l:List (List Int))(v:List Int):Int:=if v∈l then 0 else 6
def qx(n m:Int)(c:Cs):Int:=
 if c.out.length<1\/1024<c.out.length then 5 else if qa (fun v=>zr v n m) c.out≠0 then qa (fun v=>zr v n m) c.out else qa (xR c.out) c.calm
def xU(t:Tk)(p:Option Cs)(c:Cs):Int:=
 if zr c.inp t.n t.ins≠0 then zr c.inp t.n t.ins else if xx (p.map Cs.inp) c.inp=Av then 14 else qx t.n t.outs c
def qJ(t:Tk):Option Cs->List Cs->Int
 | _,[]=>0
 | p,c::r=>if xU t p c≠0 then xU t p c else qJ t (J c) r
def yU(t:Tk)(l:List Cs)(k:Nat):Int:=qJ t (zm l k) (l.drop k)
theorem uf{t:Tk}{l:List Cs}:yU t l l.length=0:=by unfold yU;rw[NB];rfl
theorem ug{t:Tk}{l:List Cs}{k:Nat}(hk:k<l.length)(h:xU t (zm l k) l[k]≠0):yU t l k=xU t (zm l k) l[k]:=by
 unfold yU;rw[Lw hk,qJ,Ln h]
theorem wM{t:Tk}{l:List Cs}{k:Nat}(hk:k<l.length)(h:xU t (zm l k) l[k]=0):yU t l k=yU t l (k+1):=by
 unfold yU;rw[Lw hk,qJ,Lj (by simpa using h),zQ l k hk]
def yE(t:Tk):Int:=
 if t.n<1\/5<t.n\/t.ins<1\/8<t.ins\/t.outs<1\/8<t.outs then 2 else if t.cases.length<1\/1024<t.cases.length then 5 else yU t t.cases 0
def xn(n:Int)(p:Nat)(x:Int):Int:=
 if n<=p then (if x≠0 then 3 else 0) else if x<0\/(2^n.toNat-1:Nat)<x then 2 else if x.toNat.testBit p=Av then 0 else 3
def yi(r:Rd):Nat->Nat->Int
 | 0,_=>0
 | k+1,p=>if xn r.n p (r.h p)≠0 then xn r.n p (r.h p) else yi r k (p+1)
def yp(r:Rd):Int:=if r.n<1\/5<r.n then 2 else yi r 5 0
def zO(r:Rd):Int:=if yp r≠0 then yp r else xr r.n r.f
def Rd.gl(r:Rd):List Int:=[r.n,r.h0,r.h1,r.h2,r.h3,r.h4]
def Rd.l(r:Rd):List Int:=[r.n,r.h0,r.h1,r.h2,r.h3,r.h4,r.f]
def uo(p:Option Mv)(m:Mv):Bool:=match p with | none=>Ax | some q=>decide (0<=zh q.r.l m.r.l)
def yV(a:Ad)(p:Option Mv)(m:Mv):Int:=
 if zO m.r≠0 then zO m.r else if m.r.n≠a.n then 22 else if uo p m=Av then 14 else if m.to<0\/(a.sts.length:Int)<=m.to then 2 else 0
def xO(a:Ad):Option Mv->List Mv->Int
 | _,[]=>0
 | p,m::r=>if yV a p m≠0 then yV a p m else xO a (J m) r
def yT(a:Ad)(l:List Mv)(k:Nat):Int:=xO a (zm l k) (l.drop k)
theorem vV{a:Ad}{l:List Mv}:yT a l l.length=0:=by unfold yT;rw[NB];rfl
theorem vW{a:Ad}{l:List Mv}{k:Nat}(hk:k<l.length)(h:yV a (zm l k) l[k]≠0):yT a l k=yV a (zm l k) l[k]:=by
 unfold yT;rw[Lw hk,xO,Ln h]
theorem we{a:Ad}{l:List Mv}{k:Nat}(hk:k<l.length)(h:yV a (zm l k) l[k]=0):yT a l k=yT a l (k+1):=by
 unfold yT;rw[Lw hk,xO,Lj (by simpa using h),zQ l k hk]
def xe(a:Ad)(l:List Mv):Int:=if l.length=0 then 19 else yT a l 0
def zj(a:Ad):List (List Mv)->Int
 | []=>0
 | l::r=>if xe a l≠0 then xe a l else zj a r
theorem kW{a:Ad}{l:List (List Mv)}{k:Nat}(h:k=l.length):zj a (l.drop k)=0:=by subst h;rw[NB];rfl
theorem kX{a:Ad}{l:List (List Mv)}{k:Nat}(hk:k<l.length)(h:xe a l[k]≠0):zj a (l.drop k)=xe a l[k]:=by
 rw[Lw hk,zj,Ln h]
theorem jC{a:Ad}{l:List (List Mv)}{k:Nat}(hk:k<l.length)(h:xe a l[k]=0):zj a (l.drop k)=zj a (l.drop (k+1)):=by
 rw[Lw hk,zj,Lj (by simpa using h)]
def Ad.mvs(a:Ad):List Mv:=a.sts.flatten
def Ad.at_(a:Ad)(s:Int):List Mv:=a.sts.getD s.toNat []
def qh(m k:Mv):Bool:=m.r.f.toNat &&& k.r.f.toNat==m.r.f.toNat
def yX(a:Ad):Bool:=a.mvs.all fun m=>(a.at_ m.to).all fun k=>qh m k
def xy(a:Ad):Int:=
 if a.n<1\/5<a.n then 2 else if a.sts.length<1\/256<a.sts.length\/4096<a.mvs.length then 5 else if zj a a.sts≠0 then zj a a.sts else if yX a=Av then 0 else 21
def zz(p:Pb):Int:=
 if yE p.t≠0 then yE p.t else if xy p.a≠0 then xy p.a else if p.t.n≠p.a.n then 22 else if p.k<0\/6<p.k then 2 else 0
def Rd.gcells(r:Rd):Array Au:=#[O U r.n,O U r.h0,O U r.h1,O U r.h2,O U r.h3,O U r.h4]
def hR(v u:Rd):Bool:=v.h0==u.h0&&(v.h1==u.h1&&(v.h2==u.h2&&(v.h3==u.h3&&v.h4==u.h4)))
theorem XZ(d:Nat)(v u:Rd)(w:Ba):(Op.equalIn (d+2) 43 (Aj #[O U v.h0,O U v.h1,O U v.h2,O U v.h3,O U v.h4]) (Aj #[O U u.h0,O U u.h1,O U u.h2,O U u.h3,O U u.h4])).run An w =
  .ok (hR v u) w:=gU d ⟨0,0,0,v.h0,v.h1,v.h2,v.h3,v.h4⟩ ⟨0,0,0,u.h0,u.h1,u.h2,u.h3,u.h4⟩ w
theorem kq(d:Nat)(v u:Rd)(w:Ba):(Op.equalIn (d+3) 45 (.agg v.gcells) (.agg u.gcells)).run An w=.ok (decide (v.gl=u.gl)) w:=by
 have hu:An.underlying 45=J (.struct (An.fieldsOf 45)):=by kernel_rfl
 have hi:An.underlying 3=J (.int U):=LA;have hf : (An.fieldsOf 45).toList.map (fun f => (f.name, f.type, f.offset)) = [("N", 3, 0), ("Hears", 43, 1)] := by kernel_rfl
 rw[Ph w (d+2) 45 _ _ hu (by kernel_rfl)];have p0:∀x:Rd,(part 3 x.gcells 0).run An w=.ok (O U x.n) w:=fun x=>zC _ 0 _ rfl w
 have p1:∀x:Rd,(part 43 x.gcells 1).run An w=.ok (Aj #[O U x.h0,O U x.h1,O U x.h2,O U x.h3,O U x.h4]) w:=fun x=>by unfold Rd.gcells;kernel_rfl
 generalize (An.fieldsOf 45).toList=fs at hf
 obtain⟨f0,f1,rfl⟩:∃f0 f1,fs=[f0,f1]:=by
  have hl:fs.length=2:=by simpa using congrArg List.length hf
  rcases fs with _ | ⟨f0,_ | ⟨f1,_ | ⟨f2,r⟩⟩⟩<;>simp at hl
  exact⟨_,_,rfl⟩
 clear hu;simp only[List.map_cons,List.map_nil,List.cons.injEq,Prod.mk.injEq,and_true] at hf;obtain⟨⟨n0,t0,o0⟩,⟨n1,t1,o1⟩⟩:=hf
 have hd:decide (v.gl=u.gl)=(v.n==u.n&&hR v u):=by
  unfold hR Rd.gl;obtain⟨a0,a1,a2,a3,a4,a5,a6⟩:=v;obtain⟨b0,b1,b2,b3,b4,b5,b6⟩:=u;rw[Nq];simp
 rw[hd]
 cases h0:(v.n==u.n)<;>cases h3:hR v u <;>
  simp only[Op.eqFields,n0,n1,t0,t1,o0,o1,p0,p1,Sem.run_bind,Result.andThen_ok,run_equalIn_int w _ 3 _ _ _ _ hi,XZ,h0,h3,ne_eq,not_false_eq_true,if_true,Bool.not_false,Bool.not_true,Bool.false_eq_true,if_false,Sem.run_pure,Bool.true_and,Bool.false_and,String.reduceEq]
theorem qt(d:Nat)(v u:Rd)(w:Ba):(Op.equalIn (d+4) 75 (.agg v.cells) (.agg u.cells)).run An w=.ok (decide (v=u)) w:=by
 have hu:An.underlying 75=J (.struct (An.fieldsOf 75)):=by kernel_rfl
 have hi:An.underlying 3=J (.int U):=LA;have hf : (An.fieldsOf 75).toList.map (fun f => (f.name, f.type, f.offset)) = [("Graph", 45, 0), ("Faulty", 3, 6)] := by kernel_rfl
 rw[Ph w (d+3) 75 _ _ hu (by kernel_rfl)];have p0:∀x:Rd,(part 45 x.cells 0).run An w=.ok (.agg x.gcells) w:=fun x=>by unfold Rd.cells;kernel_rfl
 have p1:∀x:Rd,(part 3 x.cells 6).run An w=.ok (O U x.f) w:=fun x=>zC _ 6 _ rfl w
 generalize (An.fieldsOf 75).toList=fs at hf
 obtain⟨f0,f1,rfl⟩:∃f0 f1,fs=[f0,f1]:=by
  have hl:fs.length=2:=by simpa using congrArg List.length hf
  rcases fs with _ | ⟨f0,_ | ⟨f1,_ | ⟨f2,r⟩⟩⟩<;>simp at hl
  exact⟨_,_,rfl⟩
 clear hu;simp only[List.map_cons,List.map_nil,List.cons.injEq,Prod.mk.injEq,and_true] at hf;obtain⟨⟨n0,t0,o0⟩,⟨n1,t1,o1⟩⟩:=hf
 have hd:decide (v=u)=(decide (v.gl=u.gl)&&v.f==u.f):=by
  unfold Rd.gl;obtain⟨a0,a1,a2,a3,a4,a5,a6⟩:=v;obtain⟨b0,b1,b2,b3,b4,b5,b6⟩:=u;rw[Nq];simp;constructor
  . rintro⟨h0,h1,h2,h3,h4,h5,h6⟩;exact⟨⟨h0,h1,h2,h3,h4,h5⟩,h6⟩
  rintro⟨⟨h0,h1,h2,h3,h4,h5⟩,h6⟩;exact⟨h0,h1,h2,h3,h4,h5,h6⟩
 rw[hd]
 cases h0:decide (v.gl=u.gl)<;>cases h3:(v.f==u.f) <;>
  simp only[Op.eqFields,n0,n1,t0,t1,o0,o1,p0,p1,Sem.run_bind,Result.andThen_ok,run_equalIn_int w _ 3 _ _ _ _ hi,kq,h0,h3,ne_eq,not_false_eq_true,if_true,Bool.not_false,Bool.not_true,Bool.false_eq_true,if_false,Sem.run_pure,Bool.true_and,Bool.false_and,String.reduceEq]
theorem XU(d:Nat)(v u:Mv)(w:Ba):(Op.equalIn (d+5) 121 (.agg v.cells) (.agg u.cells)).run An w=.ok (decide (v=u)) w:=by
 have hu:An.underlying 121=J (.struct (An.fieldsOf 121)):=by kernel_rfl
 have hi:An.underlying 3=J (.int U):=LA;have hf : (An.fieldsOf 121).toList.map (fun f => (f.name, f.type, f.offset)) = [("Round", 75, 0), ("To", 3, 7)] := by kernel_rfl
 rw[Ph w (d+4) 121 _ _ hu (by kernel_rfl)];have p0:∀x:Mv,(part 75 x.cells 0).run An w=.ok (.agg x.r.cells) w:=fun x=>by unfold Mv.cells;kernel_rfl
 have p1:∀x:Mv,(part 3 x.cells 7).run An w=.ok (O U x.to) w:=fun x=>zC _ 7 _ rfl w
 generalize (An.fieldsOf 121).toList=fs at hf
 obtain⟨f0,f1,rfl⟩:∃f0 f1,fs=[f0,f1]:=by
  have hl:fs.length=2:=by simpa using congrArg List.length hf
  rcases fs with _ | ⟨f0,_ | ⟨f1,_ | ⟨f2,r⟩⟩⟩<;>simp at hl
  exact⟨_,_,rfl⟩
 clear hu;simp only[List.map_cons,List.map_nil,List.cons.injEq,Prod.mk.injEq,and_true] at hf;obtain⟨⟨n0,t0,o0⟩,⟨n1,t1,o1⟩⟩:=hf
 have hd:decide (v=u)=(decide (v.r=u.r)&&v.to==u.to):=by
  obtain⟨a0,a1⟩:=v;obtain⟨b0,b1⟩:=u;rw[Nq];simp
 rw[hd]
 cases h0:decide (v.r=u.r)<;>cases h3:(v.to==u.to) <;>
  simp only[Op.eqFields,n0,n1,t0,t1,o0,o1,p0,p1,Sem.run_bind,Result.andThen_ok,run_equalIn_int w _ 3 _ _ _ _ hi,qt,h0,h3,ne_eq,not_false_eq_true,if_true,Bool.not_false,Bool.not_true,Bool.false_eq_true,if_false,Sem.run_pure,Bool.true_and,Bool.false_and,String.reduceEq]
theorem JS(v u:Rd)(w:Ba):(binOp .eql 45 (.agg v.gcells) (.agg u.gcells)).run An w=.ok (Ai (decide (v.gl=u.gl))) w:=by
 simp only[binOp];simp[Op.equal,Op.maxDepth,kq 9997 v u w]
theorem Jw(v u:Rd)(w:Ba):(binOp .neq 45 (.agg v.gcells) (.agg u.gcells)).run An w=.ok (Ai (decide (v.gl≠u.gl))) w:=by
 simp only[binOp];simp[Op.equal,Op.maxDepth,kq 9997 v u w]
theorem JR(v u:Rd)(w:Ba):(binOp .eql 75 (.agg v.cells) (.agg u.cells)).run An w=.ok (Ai (decide (v=u))) w:=by
 simp only[binOp];simp[Op.equal,Op.maxDepth,qt 9996 v u w]
theorem gG(v u:Rd)(w:Ba):(binOp .neq 75 (.agg v.cells) (.agg u.cells)).run An w=.ok (Ai (decide (v≠u))) w:=by
 simp only[binOp];simp[Op.equal,Op.maxDepth,qt 9996 v u w]
theorem neq_move(v u:Mv)(w:Ba):(binOp .neq 121 (.agg v.cells) (.agg u.cells)).run An w=.ok (Ai (decide (v≠u))) w:=by
 simp only[binOp];simp[Op.equal,Op.maxDepth,XU 9995 v u w]
end
section
open Go.RowKit
attribute [local go_sem] Oper.semAt_some
theorem uj(A B:Bb)(ca cb:Nat)(xs ys:List Rd)(hx:xs.length<=17592186044416)(_hy:ys.length<=17592186044416)(w:Ba)(hA:RAt w w.heap.size A xs)(hB:RAt w w.heap.size B ys) :
  Ap An 129 #[I A xs.length ca,I B ys.length cb] w fun e w'=>e=Am (Ai (decide (xs=ys)))/\∃n,w'=w.drewN n:=by
 have HA:=zH hA;have HB:=zH hB;have HT:As (∀b,(xs=ys↔b=Av)->decide (xs=ys)=b):=fun b h=>by cases b<;>simp_all
 obtain⟨r,hr⟩:∃r,decide (xs=ys)=r:=⟨_,rfl⟩;rw[hr] at HT ⊢;go_enter func129,ntmps129
 by_cases hl:xs.length=ys.length
 case neg=>
  have hR:As (r=Ax):=HT.out Ax ⟨fun h=>absurd (congrArg List.length h) hl,fun h=>by cases h⟩;have e0:((xs.length:Int) != (ys.length:Int))=Av:=by simp;omega
  go_wp2_with fail;go_ret;exact⟨ze hR.out.symm,0,rfl⟩
 case pos=>
 have HL:=zH hl;rw[<-hl] at _hy ⊢;go_wp2_with fail
 go_loopw [5] (fun i wr=>∃k n:Nat,k<=xs.length/\i=O U (k:Int)/\As (xs.take k=ys.take k)/\As (wr=w.drewN n)) (fun i _=>xs.length-(Aq i).toNat)
 case atStart=>exact⟨0,0,by omega,rfl,by rw[As,LO,LO],rfl⟩
 obtain⟨k,n,hk,rfl,hp,hw⟩:=hrel
 by_cases ac:k<xs.length
 case neg=>
  obtain rfl:k=xs.length:=by omega
  have hR:As (r=Av):=HT.out Av ⟨fun _=>rfl,fun _=>xK HL.out hp.out⟩;go_wp2_with fail;go_ret;exact⟨ze hR.out.symm,n,hw.out⟩
 case pos=>
 have dL:k<ys.length:=by have:=HL.out;omega
 obtain⟨ba,oa,ea,_,a0,a1,a2,a3,a4,a5,a6⟩:=(HA.out).row k ac;obtain⟨bb,ob,eb,_,b0,b1,b2,b3,b4,b5,b6⟩:=(HB.out).row k dL;subst ea;subst eb;have nB:As (∀p,wr.cell? p=w.cell? p):=fun p=>by rw[hw.out];rfl
 rw[<-nB.out] at a0 a1 a2 a3 a4 a5 a6 b0 b1 b2 b3 b4 b5 b6;have hq:=fun W=>gG xs[k] ys[k] W
 by_cases he:xs[k]=ys[k]
 . have hR:=zH (yG hp.out ac dL he)
   rw[Ll (by simpa using he)] at hq;rw[<-he] at b0 b1 b2 b3 b4 b5 b6 hq;obtain⟨u,hu⟩:=Kh (xs[k]);rw[hu] at a0 a1 a2 a3 a4 a5 a6 b0 b1 b2 b3 b4 b5 b6 hq;unfold Rd.cells at hq;go_wp2_with fail;go_quiet (fail);go_wp2_with fail
   go_roundw
   case rel=>exact⟨k+1,n+nq,by omega,by go_num,hR,by rw[As,hw.out,kr]⟩
   simp[Aq];omega
 have hR:As (r=Ax):=HT.out Ax ⟨fun h=>absurd (by subst h;rfl) he,fun h=>by cases h⟩;rw[Lm (by simpa using he)] at hq;obtain⟨u,hu⟩:=Kh (xs[k]);obtain⟨v,hv⟩:=Kh (ys[k]);rw[hu] at a0 a1 a2 a3 a4 a5 a6 hq;rw[hv] at b0 b1 b2 b3 b4 b5 b6 hq;unfold Rd.cells at hq;go_wp2_with fail;go_quiet (fail);go_wp2_with fail;go_ret;exact⟨ze hR.out.symm,n+nq,by rw[hw.out,kr]⟩
end
section
open Go.RowKit
theorem has_fact{s p:Nat}(hs:s<32)(hp:p<5):((wrap64 ((s:Int) / ((2^p:Nat):Int))).tmod 2==1)=s.testBit p:=by
 have h:=jJ (p:=fun s=>kN fun p=>!decide (p<5)||(((wrap64 ((s:Int) / ((2^p:Nat):Int))).tmod 2==1)==s.testBit p)) (by decide +kernel) hs;have h:=jJ h (show p<32 by omega);simpa only[hp,decide_true,Bool.not_true,Bool.false_or,beq_iff_eq] using h
theorem uu(s p:Nat)(hs:s<32)(hp:p<5)(w:Ba):Ap An 146 #[O U s,O U p] w fun e w'=>e=Am (Ai (s.testBit p))/\w=w':=by
 have H:=zH (has_fact hs hp);have hq:(2^p:Nat)<=2^5:=N7 (by omega) (by omega);have tM:1<=(2^p:Nat):=Nat.one_le_two_pow;have My:=vf p (by omega) w;obtain⟨q,Mu⟩:∃q:Nat,q=2^p:=⟨_,rfl⟩;rw[<-Mu] at My hq tM H;clear Mu;go_enter func146,ntmps146;go_wp2_with fail;refine My.mono ?_;rintro e w' ⟨rfl,rfl⟩;go_wp2_with fail;go_ret;exact⟨ze H.out,rfl⟩
theorem Ys{a b:Nat}(ha:a<32)(hb:b<32):(a &&& b==a)=Av↔(∀p,p<5->a.testBit p=Av->b.testBit p=Av):=by
 have h:=jJ (p:=fun a=>kN fun b=>((List.range 5).all fun p=>!a.testBit p||b.testBit p)==(a &&& b==a)) (by decide +kernel) ha;have h:=jJ h hb;simp only[beq_iff_eq] at h;rw[<-h];simp only[List.all_eq_true,List.mem_range,Bool.or_eq_true,Bool.not_eq_true'];constructor
 . intro h p hp h1
   rcases h p hp with h2 | h2
   . rw[h1] at h2;cases h2
   exact h2
 intro h p hp
 by_cases h1:a.testBit p=Av
 . exact .inr (h p hp h1)
 exact .inl (by simpa using h1)
theorem XA(a b:Nat)(ha:a<32)(hb:b<32)(w:Ba):Ap An 163 #[O U a,O U b] w fun e w'=>e=Am (Ai (a &&& b==a))/\w=w':=by
 have H:=zH (Ys ha hb);have HA:=zH (fun p hp w=>uu a p ha hp w);have HB:=zH (fun p hp w=>uu b p hb hp w);go_enter func163,ntmps163;go_wp2_with fail
 go_loop [5] (fun i=>∃k:Nat,k<=5/\i=O U (k:Int)/\As (∀p,p<k->a.testBit p=Av->b.testBit p=Av)) (fun i=>5-(Aq i).toNat)
 case atStart=>exact⟨0,by omega,rfl,fun p hp=>by omega⟩
 obtain⟨k,hk,rfl,aj⟩:=hrel
 by_cases ac:k<5
 . have c1:=HA.out k ac w
   have c2:=HB.out k ac w;go_wp2_with fail;refine c1.mono ?_;rintro e w' ⟨rfl,rfl⟩
   by_cases h1:a.testBit k=Av
   . rw[h1]
     go_wp2_with fail;refine c2.mono ?_;rintro e w' ⟨rfl,rfl⟩
     by_cases h2:b.testBit k=Av
     . rw[h2]
       go_wp2_with fail
       go_round
       case rel=>
        refine⟨k+1,by omega,by go_num,fun p hp h=>?_⟩
        by_cases e:p=k
        . subst e;exact h2
        exact aj.out p (by omega) h
       simp[Aq];omega
     have UV:b.testBit k=Ax:=by simpa using h2
     rw[UV];go_wp2_with fail;go_ret;refine⟨ze ?_,rfl⟩;symm;rw[PT];exact fun e=>h2 (H.out.1 e k ac h1)
   have UW:a.testBit k=Ax:=by simpa using h1
   rw[UW];go_wp2_with fail
   go_round
   case rel=>
    refine⟨k+1,by omega,by go_num,fun p hp h=>?_⟩
    by_cases e:p=k
    . subst e;exact absurd h h1
    exact aj.out p (by omega) h
   simp[Aq];omega
 obtain rfl:k=5:=by omega
 go_wp2_with fail;go_ret;refine⟨ze ?_,rfl⟩;exact(H.out.2 aj.out).symm
theorem QL(w:Ba)(a b:Nat):∃m,(w.drewN a).drewN b=w.drewN m:=⟨a+b,by simp[World.drewN_drewN]⟩
theorem drew3(w:Ba)(a b c:Nat):∃m,((w.drewN a).drewN b).drewN c=w.drewN m:=⟨a+b+c,by simp[World.drewN_drewN]⟩
theorem yL(A1 A2:Bb)(c1 c2:Nat)(xs ys:List Int)(hl:xs.length<=17592186044416)(ew:ys.length<=17592186044416)(w:Ba)(h1:IAt w w.heap.size A1 xs)(h2:IAt w w.heap.size A2 ys) :
  Ap An 148 #[I A1 xs.length c1,I A2 ys.length c2] w fun e w'=>e=Am (O U (zh xs ys))/\∃m,w'=w.drewN m:=by
 have HA:=zH h1;have HB:=zH h2;go_enter func148,ntmps148;go_wp2_with fail
 go_loopw [5] (fun i wr=>∃k:Nat,k<=xs.length/\k<=ys.length/\i=O U (k:Int)/\As (zh xs ys=zh (xs.drop k) (ys.drop k))/\∃m:Nat,wr=w.drewN m) (fun i _=>xs.length-(Aq i).toNat)
 case atStart=>exact⟨0,by omega,by omega,rfl,rfl,0,rfl⟩
 obtain⟨k,bY,ib,rfl,tN,m,rfl⟩:=hrel
 by_cases ac:k<xs.length/\k<ys.length
 . obtain⟨hx,hy⟩:=ac
   obtain⟨b1,o1,rfl,aJ,c1⟩:=HA.out.at_ k hx;obtain⟨b2,o2,rfl,ae,c2⟩:=HB.out.at_ k hy;have hs:=uY hx hy;obtain⟨x,pB⟩:=Kh (xs[k]);obtain⟨y,FF⟩:=Kh (ys[k]);rw[pB] at c1 hs;rw[FF] at c2 hs;have HS:=zH (tN.out.trans hs)
   by_cases l1:x<y
   . have HR:=zH (HS.out.trans (Ln l1))
     go_wp2_with fail;go_quiet (fail);go_wp2_with fail;go_ret;exact⟨zc HR.out.symm,by first | exact QL _ _ _ | exact drew3 _ _ _ _⟩
   by_cases l2:y<x
   . have HR:=zH (HS.out.trans ((Lj l1).trans (Ln l2)))
     go_wp2_with fail;go_quiet (fail);go_wp2_with fail;go_quiet (fail);go_wp2_with fail;go_ret;exact⟨zc HR.out.symm,by first | exact QL _ _ _ | exact drew3 _ _ _ _⟩
   have HR:=zH (HS.out.trans ((Lj l1).trans (Lj l2)));go_wp2_with fail;go_quiet (fail);go_wp2_with fail;go_quiet (fail);go_wp2_with fail
   go_roundw
   case rel=>exact⟨k+1,by omega,by omega,by go_num,HR,by first | exact QL _ _ _ | exact drew3 _ _ _ _ | exact⟨_,rfl⟩⟩
   simp[Aq];omega
 have he:=vh (l:=xs) (m:=ys) (k:=k) (by omega) bY ib;have HR:=zH (tN.out.trans he);have hd:(decide ((k:Int)<(xs.length:Int))&&decide ((k:Int)<(ys.length:Int)))=Ax:=by simp;omega
 by_cases hx:k<xs.length
 . obtain rfl:k=ys.length:=by omega
   go_wp2_with fail
   all_goals first | (exfalso;omega) | skip
   all_goals
    go_ret;exact⟨zc (by rw[HR.out];first | (rw[Ln (by omega)]) | (rw[Lj (by omega),Ln (by omega)]) | (rw[Lj (by omega),Lj (by omega)])),_,rfl⟩
 obtain rfl:k=xs.length:=by omega
 go_wp2_with fail
 all_goals first | (exfalso;omega) | skip
 all_goals
  go_ret;exact⟨zc (by rw[HR.out];first | (rw[Ln (by omega)]) | (rw[Lj (by omega),Ln (by omega)]) | (rw[Lj (by omega),Lj (by omega)])),_,rfl⟩
def qH(x y:Int):Int:=if x<y then -1 else if y<x then 1 else 0
theorem uz(x y:Int)(w:Ba):Ap An 138 #[O U x,O U y] w fun e w'=>e=Am (O U (qH x y))/\w=w':=by
 have H:As (qH x y=if x<y then -1 else if y<x then 1 else 0):=rfl
 have hn:∀(x:Int) (w:Ba),Ap An 155 #[O U x] w fun e w'=>e=Am (Ai Ax)/\w=w':=fun x w=>by
  go_enter func155,ntmps155;go_wp2;go_ret;exact⟨by simp,rfl⟩
 have HN:=zH hn;go_enter func138,ntmps138;go_wp2_with (go_at_call 155;refine(HN.out _ _).mono ?_;rintro e w' ⟨rfl,rfl⟩)
 all_goals
  go_ret;refine⟨zc ?_,rfl⟩;rw[H.out]
  first | (rw[Ln (by omega)]) | (rw[Lj (by omega),Ln (by omega)]) | (rw[Lj (by omega),Lj (by omega)])
theorem jE(A1 A2:Bb)(c1 c2:Nat)(xs ys:List Int)(hl:xs.length<=17592186044416)(ew:ys.length<=17592186044416)(w:Ba)(h1:IAt w w.heap.size A1 xs)(h2:IAt w w.heap.size A2 ys) :
  Ap An 111 #[I A1 xs.length c1,I A2 ys.length c2] w fun e w'=>e=Am (O U (zh xs ys))/\w'=w:=by
 have HA:=zH h1;have HB:=zH h2;go_enter func111,ntmps111;go_wp2_with fail
 go_loop [11] (fun i=>∃k:Nat,k<=xs.length/\k<=ys.length/\i=O U (k:Int)/\As (zh xs ys=zh (xs.drop k) (ys.drop k))) (fun i=>xs.length-(Aq i).toNat)
 case atStart=>exact⟨0,by omega,by omega,rfl,rfl⟩
 obtain⟨k,bY,ib,rfl,tN⟩:=hrel
 by_cases hx:k<xs.length
 . obtain⟨b1,o1,rfl,aJ,c1⟩:=HA.out.at_ k hx
   by_cases hy:k<ys.length
   . obtain⟨b2,o2,rfl,ae,c2⟩:=HB.out.at_ k hy
     have hs:=uY hx hy;obtain⟨x,pB⟩:=Kh (xs[k]);obtain⟨y,FF⟩:=Kh (ys[k]);rw[pB] at c1 hs;rw[FF] at c2 hs;have HS:=zH (tN.out.trans hs);have iw:As (qH x y=if x<y then -1 else if y<x then 1 else 0):=rfl;have hc:=zH (fun w=>uz x y w);obtain⟨cv,lU⟩:=Kh (qH x y);rw[lU] at hc iw;go_wp2_with fail;refine(hc.out _).mono ?_;rintro e w' ⟨rfl,rfl⟩
     by_cases l1:x<y
     . have HR:=zH (HS.out.trans (Ln l1))
       obtain rfl:cv=-1:=iw.out.trans (Ln l1);go_wp2_with fail;go_ret;exact⟨zc HR.out.symm,rfl⟩
     by_cases l2:y<x
     . have HR:=zH (HS.out.trans ((Lj l1).trans (Ln l2)))
       obtain rfl:cv=1:=iw.out.trans ((Lj l1).trans (Ln l2));go_wp2_with fail;go_ret;exact⟨zc HR.out.symm,rfl⟩
     have HR:=zH (HS.out.trans ((Lj l1).trans (Lj l2)));obtain rfl:cv=0:=iw.out.trans ((Lj l1).trans (Lj l2));go_wp2_with fail
     go_round
     case rel=>exact⟨k+1,by omega,by omega,by go_num,HR⟩
     simp[Aq];omega
   obtain rfl:k=ys.length:=by omega
   have he:=vh (l:=xs) (m:=ys) (k:=ys.length) (by omega) bY ib;have HR:=zH (tN.out.trans he);go_wp2_with fail;go_ret;exact⟨zc (by rw[HR.out,Lj (by omega),Ln (by omega)]),rfl⟩
 obtain rfl:k=xs.length:=by omega
 have he:=vh (l:=xs) (m:=ys) (k:=xs.length) (by omega) bY ib;have HR:=zH (tN.out.trans he);go_wp2_with fail
 all_goals
  go_ret;exact⟨zc (by rw[HR.out];first | (rw[Ln (by omega)]) | (rw[Lj (by omega),Lj (by omega)])),rfl⟩
theorem gL{r:Rd}{k:Nat}(hk:k<5)(h:xn r.n k (r.h k)≠0):yi r (5-k) k=xn r.n k (r.h k):=by
 rw[show 5-k=(4-k)+1 by omega,yi,Ln h]
theorem Yw{r:Rd}{k:Nat}(hk:k<5)(h:xn r.n k (r.h k)=0):yi r (5-k) k=yi r (5-(k+1)) (k+1):=by
 rw[show 5-k=(4-k)+1 by omega,yi,Lj (by simpa using h),show 4-k=5-(k+1) by omega]
theorem wu{n x:Int}{p:Nat}(h:n<=p)(hx:x≠0):xn n p x=3:=by unfold xn;rw[Ln h,Ln hx]
theorem wt{n:Int}{p:Nat}(h:n<=p):xn n p 0=0:=by unfold xn;rw[Ln h];rfl
theorem gO{n x:Int}{p:Nat}(h:¬n<=p)(hx:x<0\/(2^n.toNat-1:Nat)<x):xn n p x=2:=by unfold xn;rw[Lj h,Ln hx]
theorem gM{n x:Int}{p:Nat}(h:¬n<=p)(hx:¬(x<0\/(2^n.toNat-1:Nat)<x))(hb:x.toNat.testBit p=Av):xn n p x=0:=by unfold xn;rw[Lj h,Lj hx,Ln hb]
theorem Yx{n x:Int}{p:Nat}(h:¬n<=p)(hx:¬(x<0\/(2^n.toNat-1:Nat)<x))(hb:x.toNat.testBit p=Ax):xn n p x=3:=by unfold xn;rw[Lj h,Lj hx,Lj (by rw[hb];decide)]
theorem bit_zero{s p:Nat}(hs:s<32)(hp:p<5):(bits BinOp.and U ((s:Int) / 2^p) 1==0)=!s.testBit p:=by
 have h:=jJ (p:=fun s=>kN fun p=>!decide (p<5)||((bits BinOp.and U ((s:Int) / 2^p) 1==0)==!s.testBit p)) (by decide +kernel) hs;have h:=jJ h (show p<32 by omega);simpa only[hp,decide_true,Bool.not_true,Bool.false_or,beq_iff_eq] using h
theorem JI(n:Int)(h1:1<=n)(h5:n<=5)(w:Ba):Ap An 131 #[O U n] w fun e w'=>e=Am (O U ((2^n.toNat-1:Nat):Int))/\w'=w:=by
 obtain rfl | rfl | rfl | rfl | rfl:n=1\/n=2\/n=3\/n=4\/n=5:=by omega
 all_goals
  go_enter func131,ntmps131;go_wp2;go_ret;exact⟨rfl,rfl⟩
theorem Xd(n:Int)(h1:1<=n)(hn:n<=5)(w:Ba):Ap An 180 #[O U n] w fun e w'=>e=Am (O U ((2^n.toNat-1:Nat):Int))/\w'=w:=by
 obtain⟨m,rfl⟩:=Lr (show 0<=n by omega);have hp:=vf m (by omega) w;go_enter func180,ntmps180;go_wp2_with fail;refine hp.mono ?_;rintro e w' ⟨rfl,rfl⟩;obtain rfl | rfl | rfl | rfl | rfl:m=1\/m=2\/m=3\/m=4\/m=5:=by omega
 all_goals
  go_wp2_with fail;go_ret;exact⟨rfl,rfl⟩
theorem jM{r:Rd}(h:r.n<1\/5<r.n):yp r=2:=Ln h
theorem ww{r:Rd}(h:¬(r.n<1\/5<r.n)):yp r=yi r (5-0) 0:=Lj h
theorem pow_le{n:Int}(h5:n<=5):(2^n.toNat-1:Nat)<=31:=by
 have:2^n.toNat<=2^5:=N7 (by omega) (by omega);omega
theorem XJ(r:Rd)(w:Ba):Ap An 100 #[.agg r.gcells] w fun e w'=>e=Am (O U (yp r))/\Ao w.heap.size w w':=by
 have ay:=zH (@jM r);have am:=zH (@ww r);obtain⟨E,hE⟩:=Kh (yp r);rw[hE] at ay am ⊢
 have tS:∀k,k<5->∀w,(Instr.index 43 (Aj #[O U r.h0,O U r.h1,O U r.h2,O U r.h3,O U r.h4]) (O U (k:Nat))).run An w=.ok (O U (r.h k)) w:=fun k hk w=>by
  obtain rfl | rfl | rfl | rfl | rfl:k=0\/k=1\/k=2\/k=3\/k=4:=by omega
  all_goals exact(by kernel_rfl)
 have na:=zH tS;unfold Rd.gcells
 by_cases hr:r.n<1\/5<r.n
 . have HR:=zH (ay.out hr)
   have HN:=zH hr;go_enter func100,ntmps100;go_wp2_with fail
   all_goals first | (exfalso;have:=HN.out;omega) | (go_ret;exact⟨zc HR.out.symm,zt w _⟩)
 have r1:¬r.n<1:=by omega
 have r2:¬5<r.n:=by omega
 have HE:=zH (am.out hr);go_enter func100,ntmps100;go_wp2_with fail
 all_goals first | (exfalso;omega) | skip
 go_loop [15] (fun i=>∃k:Nat,k<=5/\i=O U (k:Int)/\As (E=yi r (5-k) k)) (fun i=>5-(Aq i).toNat)
 case atStart=>exact⟨0,by omega,rfl,HE⟩
 obtain⟨k,hk,rfl,ah⟩:=hrel
 by_cases ac:k<5
 . have hx:=na.out k ac
   have aG:=zH (@gL r k ac);have aA:=zH (@Yw r k ac);have h1:=zH (@wu r.n (r.h k) k);have h2:=zH (@wt r.n k);have h3:=zH (@gO r.n (r.h k) k);have h4:=zH (@gM r.n (r.h k) k);have h5:=zH (@Yx r.n (r.h k) k);obtain⟨x,pB⟩:=Kh (r.h k);rw[pB] at hx aG aA h1 h3 h4 h5
   by_cases hp:r.n<=(k:Int)
   . by_cases hz:x=0
     . subst hz
       have hR:=zH (ah.out.trans (aA.out (h2.out hp)));go_wp2_with fail
       all_goals first | (exfalso;omega) | skip
       go_round
       case rel=>exact⟨k+1,by omega,by go_num,hR⟩
       simp[Aq];omega
     have he:=h1.out hp hz;have hR:=zH (ah.out.trans ((aG.out (by rw[he];decide)).trans he));have e0:(x != 0)=Av:=by simpa using hz
     go_wp2_with fail
     all_goals first | (exfalso;omega) | skip
     go_ret;exact⟨zc hR.out.symm,zt w _⟩
   have hF:=zH (JI r.n (by omega) (by omega));have fL:=pow_le (n:=r.n) (by omega);obtain⟨F,Ho⟩:∃F:Nat,(2^r.n.toNat-1:Nat)=F:=⟨_,rfl⟩;rw[Ho] at h3 h4 h5 hF fL
   by_cases ho:x<0\/(F:Int)<x
   . have he:=h3.out hp ho
     have hR:=zH (ah.out.trans ((aG.out (by rw[he];decide)).trans he))
     by_cases nn:x<0
     . clear ho
       go_wp2_with fail
       all_goals first | (exfalso;omega) | skip
       go_ret;exact⟨zc hR.out.symm,zt w _⟩
     have mi:(F:Int)<x:=by omega
     go_wp2_with (go_at_call 131;refine(hF.out _).mono ?_;rintro e w' ⟨rfl,rfl⟩)
     all_goals first | (exfalso;omega) | skip
     go_ret;exact⟨zc hR.out.symm,zt w _⟩
   obtain⟨m,rfl⟩:=Lr (show 0<=x by omega);have hm:m<32:=by omega
   have oR:=bit_zero hm ac;have nn:¬((m:Int)<0):=by omega
   have mi:¬((F:Int)<(m:Int)):=by omega
   by_cases hb:m.testBit k=Av
   . have hR:=zH (ah.out.trans (aA.out (h4.out hp ho (by simpa using hb))))
     rw[hb] at oR;go_wp2_with (go_at_call 131;refine(hF.out _).mono ?_;rintro e w' ⟨rfl,rfl⟩)
     all_goals first | (exfalso;omega) | skip
     go_round
     case rel=>exact⟨k+1,by omega,by go_num,hR⟩
     simp[Aq];omega
   have cA:m.testBit k=Ax:=by simpa using hb
   have he:=h5.out hp ho (by simpa using cA);have hR:=zH (ah.out.trans ((aG.out (by rw[he];decide)).trans he));rw[cA] at oR;go_wp2_with (go_at_call 131;refine(hF.out _).mono ?_;rintro e w' ⟨rfl,rfl⟩)
   all_goals first | (exfalso;omega) | skip
   go_ret;exact⟨zc hR.out.symm,zt w _⟩
 obtain rfl:k=5:=by omega
 have hR:As (E=0):=ah.out;go_wp2_with fail;go_ret;exact⟨zc hR.out.symm,zt w _⟩
theorem kj(r:Rd)(k:Nat)(hk:k<5):r.gcells[1+k]?=J (O U (r.h k)):=by
 obtain rfl | rfl | rfl | rfl | rfl:k=0\/k=1\/k=2\/k=3\/k=4:=by omega
 all_goals rfl
theorem Z4(r:Rd)(w:Ba):Ap An 174 #[.agg r.gcells] w fun e w'=>e=Am (O U (yp r))/\Ao w.heap.size w w':=by
 have ay:=zH (@jM r);have am:=zH (@ww r);obtain⟨E,hE⟩:=Kh (yp r);rw[hE] at ay am ⊢;have tv:=zH (fun k hk=>za (zg w (Ah r.gcells 45)) (1+k) (kj r k hk));unfold Rd.gcells at tv ⊢
 by_cases hr:r.n<1\/5<r.n
 . have HR:=zH (ay.out hr)
   have HN:=zH hr;go_enter func174,ntmps174;go_wp2_with fail
   all_goals first | (exfalso;have:=HN.out;omega) | (go_ret;exact⟨zc HR.out.symm,zt w _⟩)
 have r1:¬r.n<1:=by omega
 have r2:¬5<r.n:=by omega
 have HE:=zH (am.out hr);go_enter func174,ntmps174;go_wp2_with fail
 all_goals first | (exfalso;omega) | skip
 obtain⟨W0,bD⟩:=Kh (w.alloc (Ah #[O U r.n,O U r.h0,O U r.h1,O U r.h2,O U r.h3,O U r.h4] 45));have cZ:W0.heap[w.heap.size]?=J (Ah #[O U r.n,O U r.h0,O U r.h1,O U r.h2,O U r.h3,O U r.h4] 45 (0,0)):=by rw[<-bD];exact zg _ _
 have HB:=zH (show Ao w.heap.size w W0 by rw[<-bD];exact zt w _);have q0:=za cZ 0 rfl;rw[bD] at tv ⊢
 go_loop [3] (fun i=>∃k:Nat,k<=5/\i=O U (k:Int)/\As (E=yi r (5-k) k)) (fun i=>5-(Aq i).toNat)
 case atStart=>exact⟨0,by omega,rfl,HE⟩
 obtain⟨k,hk,rfl,ah⟩:=hrel
 by_cases ac:k<5
 . have hx:=tv.out k ac
   have aG:=zH (@gL r k ac);have aA:=zH (@Yw r k ac);have h1:=zH (@wu r.n (r.h k) k);have h2:=zH (@wt r.n k);have h3:=zH (@gO r.n (r.h k) k);have h4:=zH (@gM r.n (r.h k) k);have h5:=zH (@Yx r.n (r.h k) k);obtain⟨x,pB⟩:=Kh (r.h k);rw[pB] at hx aG aA h1 h3 h4 h5
   by_cases hp:r.n<=(k:Int)
   . by_cases hz:x=0
     . subst hz
       have hR:=zH (ah.out.trans (aA.out (h2.out hp)));go_wp2_with fail
       all_goals first | (exfalso;omega) | skip
       go_round
       case rel=>exact⟨k+1,by omega,by go_num,hR⟩
       simp[Aq];omega
     have he:=h1.out hp hz;have hR:=zH (ah.out.trans ((aG.out (by rw[he];decide)).trans he));have e0:(x != 0)=Av:=by simpa using hz
     go_wp2_with fail
     all_goals first | (exfalso;omega) | skip
     go_ret;exact⟨zc hR.out.symm,HB.out⟩
   have hF:=zH (Xd r.n (by omega) (by omega));have fL:=pow_le (n:=r.n) (by omega);obtain⟨F,Ho⟩:∃F:Nat,(2^r.n.toNat-1:Nat)=F:=⟨_,rfl⟩;rw[Ho] at h3 h4 h5 hF fL
   by_cases ho:x<0\/(F:Int)<x
   . have he:=h3.out hp ho
     have hR:=zH (ah.out.trans ((aG.out (by rw[he];decide)).trans he))
     by_cases nn:x<0
     . clear ho
       go_wp2_with fail
       all_goals first | (exfalso;omega) | skip
       go_ret;exact⟨zc hR.out.symm,HB.out⟩
     have mi:(F:Int)<x:=by omega
     go_wp2_with (go_at_call 180;refine(hF.out _).mono ?_;rintro e w' ⟨rfl,dR⟩;obtain rfl:=dR.symm)
     all_goals first | (exfalso;omega) | skip
     go_ret;exact⟨zc hR.out.symm,HB.out⟩
   obtain⟨m,rfl⟩:=Lr (show 0<=x by omega);have hm:m<32:=by omega
   have nn:¬((m:Int)<0):=by omega
   have mi:¬((F:Int)<(m:Int)):=by omega
   have hH:=zH (fun w=>uu m k hm ac w)
   by_cases hb:m.testBit k=Av
   . have hR:=zH (ah.out.trans (aA.out (h4.out hp ho (by simpa using hb))))
     rw[hb] at hH;go_wp2_with (first | (go_at_call 180;refine(hF.out _).mono ?_;rintro e w' ⟨rfl,dR⟩;obtain rfl:=dR.symm) | (go_at_call 146;refine(hH.out _).mono ?_;rintro e w' ⟨rfl,rfl⟩))
     all_goals first | (exfalso;omega) | skip
     go_round
     case rel=>exact⟨k+1,by omega,by go_num,hR⟩
     simp[Aq];omega
   have cA:m.testBit k=Ax:=by simpa using hb
   have he:=h5.out hp ho (by simpa using cA);have hR:=zH (ah.out.trans ((aG.out (by rw[he];decide)).trans he));rw[cA] at hH;go_wp2_with (first | (go_at_call 180;refine(hF.out _).mono ?_;rintro e w' ⟨rfl,dR⟩;obtain rfl:=dR.symm) | (go_at_call 146;refine(hH.out _).mono ?_;rintro e w' ⟨rfl,rfl⟩))
   all_goals first | (exfalso;omega) | skip
   go_ret;exact⟨zc hR.out.symm,HB.out⟩
 obtain rfl:k=5:=by omega
 have hR:As (E=0):=ah.out;go_wp2_with fail;go_ret;exact⟨zc hR.out.symm,HB.out⟩
theorem jH{r:Rd}(h:yp r≠0):zO r=yp r:=Ln h
theorem uR{r:Rd}(h:yp r=0):zO r=xr r.n r.f:=Lj (by simpa using h)
theorem uQ(r:Rd)(w:Ba):Ap An 60 #[.agg r.cells] w fun e w'=>e=Am (O U (zO r))/\Ao w.heap.size w w':=by
 have ay:=zH (@jH r);have am:=zH (@uR r);have HG:=zH (fun w=>XJ r w);have HS:=zH (fun w=>J5 r.n r.f w);obtain⟨E,hE⟩:=Kh (zO r);rw[hE] at ay am ⊢;obtain⟨g,hg⟩:=Kh (yp r);rw[hg] at ay am HG;obtain⟨s,hs⟩:=Kh (xr r.n r.f);rw[hs] at am HS;unfold Rd.cells;unfold Rd.gcells at HG;go_enter func60,ntmps60;go_wp2_with fail;obtain⟨W0,bD⟩:=Kh (w.alloc (Ah #[O U r.n,O U r.h0,O U r.h1,O U r.h2,O U r.h3,O U r.h4,O U r.f] 75));have cZ:W0.heap[w.heap.size]?=J (Ah #[O U r.n,O U r.h0,O U r.h1,O U r.h2,O U r.h3,O U r.h4,O U r.f] 75 (0,0)):=by rw[<-bD];exact zg _ _
 have hB:Ao w.heap.size w W0:=by rw[<-bD];exact zt w _
 have lk:=zd cZ;rw[bD];refine(HG.out W0).mono ?_;rintro e w1 ⟨rfl,aJ⟩;have HB:=zH (Lc hB aJ);have d0:=Lb aJ lk cZ;have q0:=za d0 0 rfl;have q6:=za d0 6 rfl
 by_cases h0:g=0
 . subst h0
   have hR:=zH (am.out (by simp));go_wp2_with fail;refine(HS.out _).mono ?_;rintro e w2 ⟨rfl,rfl⟩;go_wp2_with fail;go_ret;exact⟨zc hR.out.symm,HB.out⟩
 have hR:=zH (ay.out h0);have e0:(g != 0)=Av:=by simpa using h0
 go_wp2_with fail;go_ret;exact⟨zc hR.out.symm,HB.out⟩
theorem uk(r:Rd)(w:Ba):Ap An 161 #[.agg r.cells] w fun e w'=>e=Am (O U (zO r))/\Ao w.heap.size w w':=by
 have ay:=zH (@jH r);have am:=zH (@uR r);have HG:=zH (fun w=>Z4 r w);have HS:=zH (fun w=>Xf r.n r.f w);obtain⟨E,hE⟩:=Kh (zO r);rw[hE] at ay am ⊢;obtain⟨g,hg⟩:=Kh (yp r);rw[hg] at ay am HG;obtain⟨s,hs⟩:=Kh (xr r.n r.f);rw[hs] at am HS;unfold Rd.cells;unfold Rd.gcells at HG;go_enter func161,ntmps161;go_wp2_with fail;obtain⟨W0,bD⟩:=Kh (w.alloc (Ah #[O U r.n,O U r.h0,O U r.h1,O U r.h2,O U r.h3,O U r.h4,O U r.f] 75));have cZ:W0.heap[w.heap.size]?=J (Ah #[O U r.n,O U r.h0,O U r.h1,O U r.h2,O U r.h3,O U r.h4,O U r.f] 75 (0,0)):=by rw[<-bD];exact zg _ _
 have hB:Ao w.heap.size w W0:=by rw[<-bD];exact zt w _
 have lk:=zd cZ;rw[bD];refine(HG.out W0).mono ?_;rintro e w1 ⟨rfl,aJ⟩;have HB:=zH (Lc hB aJ);have d0:=Lb aJ lk cZ;have q0:=za d0 0 rfl;have q6:=za d0 6 rfl
 by_cases h0:g=0
 . subst h0
   have hR:=zH (am.out (by simp));go_wp2_with fail;refine(HS.out _).mono ?_;rintro e w2 ⟨rfl,rfl⟩;go_wp2_with fail;go_ret;exact⟨zc hR.out.symm,HB.out⟩
 have hR:=zH (ay.out h0);have e0:(g != 0)=Av:=by simpa using h0
 go_wp2_with fail;go_ret;exact⟨zc hR.out.symm,HB.out⟩
theorem zZ(w:Ba)(c1 c2:Array Au)(t1 t2:TypeId):∃W0,(w.alloc (Ah c1 t1)).alloc (Ah c2 t2)=W0/\W0.heap[w.heap.size]?=J (Ah c1 t1 (0,0))/\W0.heap[w.heap.size+1]?=J (Ah c2 t2 (0,0))/\w.heap.size+2<=W0.heap.size/\Ao w.heap.size w W0:=
 ⟨_,rfl,zw (zg _ _) _,by have:=zg (w.alloc (Ah c1 t1)) (Ah c2 t2);rwa[LW] at this,by simp,xT w _ _⟩
theorem jp{x y:Int}{l m:List Int}:zh (x::l) (y::m)=if qH x y≠0 then qH x y else zh l m:=by
 rw[zh];unfold qH
 by_cases h1:x<y
 . simp[h1]
 by_cases h2:y<x
 . simp[h1,h2]
 simp[h1,h2]
theorem uv{r:Rd}{k:Nat}(hk:k<5):r.gl.drop (k+1)=r.h k::r.gl.drop (k+2):=by
 obtain rfl | rfl | rfl | rfl | rfl:k=0\/k=1\/k=2\/k=3\/k=4:=by omega
 all_goals rfl
theorem gl_step{a b:Rd}{k:Nat}(hk:k<5):zh (a.gl.drop (k+1)) (b.gl.drop (k+1))=if qH (a.h k) (b.h k)≠0 then qH (a.h k) (b.h k) else zh (a.gl.drop (k+2)) (b.gl.drop (k+2)):=by
 rw[uv hk,uv hk,jp]
theorem gl_zero{a b:Rd}:zh a.gl b.gl=if qH a.n b.n≠0 then qH a.n b.n else zh (a.gl.drop 1) (b.gl.drop 1):=jp
theorem QI{a b:Rd}:zh a.l b.l=if zh a.gl b.gl≠0 then zh a.gl b.gl else qH a.f b.f:=by
 unfold Rd.l Rd.gl;simp only[jp]
 repeat' split
 all_goals first | rfl | (simp_all [zh];done) | (exfalso;simp_all [zh];done)
theorem JU{x y:Int}(h:qH x y=0):x=y:=by
 unfold qH at h
 split at h
 . cases h
 split at h
 . cases h
 omega
theorem JV(x:Int):qH x x=0:=by unfold qH;rw[Lj (by omega),Lj (by omega)]
theorem ZE(a b:Rd)(w:Ba):Ap An 158 #[.agg a.gcells,.agg b.gcells] w fun e w'=>e=Am (O U (zh a.gl b.gl))/\∃W0 n,w'=World.drewN W0 n/\W0=(w.alloc (Ah a.gcells 45)).alloc (Ah b.gcells 45):=by
 have HQ:=zH (fun w=>JS a b w);have H0:=zH (@gl_zero a b);have HS:As (a.gl=b.gl->zh a.gl b.gl=0):=fun h=>by rw[h];exact yB _
 obtain⟨E,hE⟩:=Kh (zh a.gl b.gl);rw[hE] at H0 HS ⊢;have pu:=zH (fun k hk=>za (zw (zg w (Ah a.gcells 45)) (Ah b.gcells 45)) (1+k) (kj a k hk));have nc:=zH (fun k hk=>za (zg (w.alloc (Ah a.gcells 45)) (Ah b.gcells 45)) (1+k) (kj b k hk));rw[LW] at nc;have HX:As (∃W0,W0=(w.alloc (Ah a.gcells 45)).alloc (Ah b.gcells 45)):=⟨_,rfl⟩;unfold Rd.gcells at HQ pu nc HX ⊢
 by_cases he:a.gl=b.gl
 . have hq:∀w,_:=fun w=>HQ.out w
   rw[Lm he] at hq;have hR:=zH (HS.out he);go_enter func158,ntmps158;go_wp2_with fail;go_ret;exact⟨zc hR.out.symm,_,0,rfl,rfl⟩
 have hq:∀w,_:=fun w=>HQ.out w
 rw[Ll he] at hq;clear HQ HS he;have HN:=zH (fun w=>uz a.n b.n w);obtain⟨cn,nC⟩:=Kh (qH a.n b.n);have GK:As (cn=0↔a.n=b.n):=by rw[<-nC];exact⟨JU,fun h=>by rw[h];exact JV _⟩
 rw[nC] at H0 HN;clear nC
 by_cases hn:a.n=b.n
 . have mG:cn=0:=GK.out.2 hn
   subst mG;have HE:=zH (H0.out.trans (Lj (by simp)));have e0:(a.n != b.n)=Ax:=by simpa using hn
   clear H0 HN GK hn;go_enter func158,ntmps158;go_wp2_with fail;obtain⟨W0,bD⟩:=HX.out;rw[<-bD] at pu nc ⊢;clear HX hq e0;have rh:=zH bD;clear bD
   go_loopw [20] (fun i wr=>∃k n:Nat,k<=5/\i=O U (k:Int)/\As (E=zh (a.gl.drop (k+1)) (b.gl.drop (k+1)))/\wr=W0.drewN n) (fun i _=>5-(Aq i).toNat)
   case atStart=>exact⟨0,0,by omega,rfl,HE,rfl⟩
   obtain⟨k,n,hk,rfl,ah,rfl⟩:=hrel;clear HE
   by_cases ac:k<5
   . have c1:=pu.out k ac
     have c2:=nc.out k ac;have hs:=zH (ah.out.trans (gl_step ac));have HC:=zH (fun (p:Nat)=>(uz (a.h k) (b.h k) (W0.drewN p)));obtain⟨x,hx⟩:=Kh (a.h k);obtain⟨y,hy⟩:=Kh (b.h k);rw[hx] at c1 hs HC;rw[hy] at c2 hs HC;obtain⟨cv,lU⟩:=Kh (qH x y);rw[lU] at hs HC;clear hx hy lU ah
     by_cases hz:cv=0
     . subst hz
       have hR:=zH (hs.out.trans (Lj (by simp)));clear hs;go_wp2_with fail;go_quiet ((go_at_call 138;exact(HC.out _).mono fun e w' h=>⟨h.1,_,h.2.symm⟩));go_wp2_with fail
       go_roundw
       case rel=>exact⟨k+1,_,by omega,by go_num,hR,rfl⟩
       simp[Aq];omega
     have hR:=zH (hs.out.trans (Ln hz));have e0:(cv != 0)=Av:=by simpa using hz
     clear hs hz;go_wp2_with fail;go_quiet ((go_at_call 138;exact(HC.out _).mono fun e w' h=>⟨h.1,_,h.2.symm⟩));go_wp2_with fail;go_ret;exact⟨zc hR.out.symm,W0,_,by first | rfl | exact(Pn ..),rh.out⟩
   obtain rfl:k=5:=by omega
   have hR:As (E=0):=ah.out;clear ah;go_wp2_with fail;go_ret;exact⟨zc hR.out.symm,W0,_,rfl,rh.out⟩
 have mG:¬cn=0:=fun h=>hn (GK.out.1 h)
 have HE:=zH (H0.out.trans (Ln mG));have e0:(a.n != b.n)=Av:=by simpa using hn
 go_enter func158,ntmps158;go_wp2_with fail;refine(HN.out _).mono ?_;rintro e w1 ⟨rfl,rfl⟩;go_wp2_with fail;go_ret;exact⟨zc HE.out.symm,_,0,rfl,rfl⟩
theorem JJ(a b:Rd)(w:Ba):Ap An 158 #[.agg a.gcells,.agg b.gcells] w fun e w'=>e=Am (O U (zh a.gl b.gl))/\Ao w.heap.size w w':=
 (ZE a b w).mono fun e w' ⟨h1,W0,n,h2,h3⟩=>⟨h1,by rw[h2,h3];exact zu (xT w _ _) n⟩
theorem gd(a b:Rd)(w:Ba):Ap An 141 #[.agg a.cells,.agg b.cells] w fun e w'=>e=Am (O U (zh a.l b.l))/\Ao w.heap.size w w':=by
 have HQ:=zH (fun w=>JR a b w);have HN:=zH (fun w=>Jw a b w);have HS:=zH (@QI a b);have HZ:As (a=b->zh a.l b.l=0):=fun h=>by rw[h];exact yB _
 have HG:=zH (fun w=>JJ a b w);have HF:=zH (fun w=>uz a.f b.f w);have Fd:As (a.gl=b.gl↔zh a.gl b.gl=0):=⟨fun h=>by rw[h];exact yB _,xM⟩;obtain⟨E,hE⟩:=Kh (zh a.l b.l);rw[hE] at HS HZ ⊢;obtain⟨g,hg⟩:=Kh (zh a.gl b.gl);rw[hg] at HS HG Fd;obtain⟨c,hc⟩:=Kh (qH a.f b.f);rw[hc] at HS HF;unfold Rd.gcells at HN HG;unfold Rd.cells at HQ ⊢
 by_cases he:a=b
 . have hq:∀w,_:=fun w=>HQ.out w
   rw[Lm he] at hq;have hR:=zH (HZ.out he);clear HQ HN HS HZ HG HF Fd he;go_enter func141,ntmps141;go_wp2_with fail;go_ret;exact⟨zc hR.out.symm,xT w _ _⟩
 have hq:∀w,_:=fun w=>HQ.out w
 rw[Ll he] at hq
 by_cases cy:a.gl=b.gl
 . have hn:∀w,_:=fun w=>HN.out w
   rw[show decide (a.gl≠b.gl)=Ax by simpa using cy] at hn;have hR:=zH (HS.out.trans (Lj (by simpa using Fd.out.1 cy)));go_enter func141,ntmps141;go_wp2_with fail;refine(HF.out _).mono ?_;rintro e w1 ⟨rfl,rfl⟩;go_wp2_with fail;go_ret;exact⟨zc hR.out.symm,xT w _ _⟩
 have hn:∀w,_:=fun w=>HN.out w
 rw[show decide (a.gl≠b.gl)=Av by simpa using cy] at hn;have hR:=zH (HS.out.trans (Ln (fun h=>cy (Fd.out.2 h))));go_enter func141,ntmps141;go_wp2_with fail;refine(HG.out _).mono ?_;rintro e w1 ⟨rfl,hb⟩;have HB:=zH ((xT w (Ah #[O U a.n,O U a.h0,O U a.h1,O U a.h2,O U a.h3,O U a.h4,O U a.f] 75) (Ah #[O U b.n,O U b.h0,O U b.h1,O U b.h2,O U b.h3,O U b.h4,O U b.f] 75)).trans (hb.mono (by simp;omega)));go_wp2_with fail;go_ret;exact⟨zc hR.out.symm,HB.out⟩
theorem Xc(a b:Rd)(w:Ba):Ap An 176 #[.agg a.gcells,.agg b.gcells] w fun e w'=>e=Am (O U (zh a.gl b.gl))/\Ao w.heap.size w w':=by
 have H0:As (zh a.gl b.gl=if a.n<b.n then -1 else if b.n<a.n then 1 else zh (a.gl.drop 1) (b.gl.drop 1)):=rfl;obtain⟨E,hE⟩:=Kh (zh a.gl b.gl);rw[hE] at H0 ⊢;have pu:=zH (fun k hk=>za (zw (zg w (Ah a.gcells 45)) (Ah b.gcells 45)) (1+k) (kj a k hk));have nc:=zH (fun k hk=>za (zg (w.alloc (Ah a.gcells 45)) (Ah b.gcells 45)) (1+k) (kj b k hk));rw[LW] at nc;have HX:As (∃W0,W0=(w.alloc (Ah a.gcells 45)).alloc (Ah b.gcells 45)):=⟨_,rfl⟩;unfold Rd.gcells at pu nc HX ⊢;clear hE
 by_cases h1:a.n<b.n
 . have hR:=zH (H0.out.trans (Ln h1))
   clear H0 pu nc HX;go_enter func176,ntmps176;go_wp2_with fail;go_ret;exact⟨zc hR.out.symm,xT w _ _⟩
 by_cases h2:b.n<a.n
 . have hR:=zH (H0.out.trans ((Lj h1).trans (Ln h2)))
   clear H0 pu nc HX;go_enter func176,ntmps176;go_wp2_with fail
   all_goals first | (exfalso;omega) | skip
   go_ret;exact⟨zc hR.out.symm,xT w _ _⟩
 have HE:=zH (H0.out.trans ((Lj h1).trans (Lj h2)));clear H0;go_enter func176,ntmps176;go_wp2_with fail
 all_goals first | (exfalso;omega) | skip
 obtain⟨W0,bD⟩:=HX.out;rw[<-bD] at pu nc ⊢;clear HX;have rh:=zH (show Ao w.heap.size w W0 by rw[bD];exact xT w _ _);clear bD
 go_loopw [5] (fun i wr=>∃k n:Nat,k<=5/\i=O U (k:Int)/\As (E=zh (a.gl.drop (k+1)) (b.gl.drop (k+1)))/\wr=W0.drewN n) (fun i _=>5-(Aq i).toNat)
 case atStart=>exact⟨0,0,by omega,rfl,HE,rfl⟩
 obtain⟨k,n,hk,rfl,ah,rfl⟩:=hrel;clear HE
 by_cases ac:k<5
 . have c1:=pu.out k ac
   have c2:=nc.out k ac;have hs:E=if a.h k<b.h k then -1 else if b.h k<a.h k then 1 else zh (a.gl.drop (k+1+1)) (b.gl.drop (k+1+1)):=by rw[ah.out,uv ac,uv ac,zh]
   obtain⟨x,hx⟩:=Kh (a.h k);obtain⟨y,hy⟩:=Kh (b.h k);rw[hx] at c1 hs;rw[hy] at c2 hs;have HS:=zH hs;clear hx hy ah hs
   by_cases l1:x<y
   . have hR:=zH (HS.out.trans (Ln l1))
     clear HS;go_wp2_with fail;go_quiet (fail);go_wp2_with fail;go_ret;exact⟨zc hR.out.symm,by repeat (first | exact rh.out | refine zu ?_ _)⟩
   by_cases l2:y<x
   . have hR:=zH (HS.out.trans ((Lj l1).trans (Ln l2)))
     clear HS;go_wp2_with fail;go_quiet (fail);go_wp2_with fail;go_quiet (fail);go_wp2_with fail;go_ret;exact⟨zc hR.out.symm,by repeat (first | exact rh.out | refine zu ?_ _)⟩
   have hR:=zH (HS.out.trans ((Lj l1).trans (Lj l2)));clear HS;go_wp2_with fail;go_quiet (fail);go_wp2_with fail;go_quiet (fail);go_wp2_with fail
   go_roundw
   case rel=>exact⟨k+1,_,by omega,by go_num,hR,rfl⟩
   simp[Aq];omega
 obtain rfl:k=5:=by omega
 have hR:As (E=0):=ah.out;clear ah;go_wp2_with fail;go_ret;exact⟨zc hR.out.symm,by repeat (first | exact rh.out | refine zu ?_ _)⟩
theorem uM(a b:Rd)(w:Ba):Ap An 162 #[.agg a.cells,.agg b.cells] w fun e w'=>e=Am (O U (zh a.l b.l))/\Ao w.heap.size w w':=by
 have HS:=zH (@QI a b);have HG:=zH (fun w=>Xc a b w);have HF:As (qH a.f b.f=if a.f<b.f then -1 else if b.f<a.f then 1 else 0):=rfl;obtain⟨E,hE⟩:=Kh (zh a.l b.l);rw[hE] at HS ⊢;obtain⟨g,hg⟩:=Kh (zh a.gl b.gl);rw[hg] at HS HG;rw[HF.out] at HS;unfold Rd.gcells at HG;unfold Rd.cells;go_enter func162,ntmps162;go_wp2_with fail;obtain⟨W0,bD,b0,b1,aZ,bH⟩:=zZ w #[O U a.n,O U a.h0,O U a.h1,O U a.h2,O U a.h3,O U a.h4,O U a.f] #[O U b.n,O U b.h0,O U b.h1,O U b.h2,O U b.h3,O U b.h4,O U b.f] 75 75;rw[bD];refine(HG.out W0).mono ?_;rintro e w1 ⟨rfl,aJ⟩;have HB:=zH (Lc bH aJ);have d0:=Lb aJ (by omega) b0;have d1:=Lb aJ (by omega) b1;have q6:=za d0 6 rfl;have p6:=za d1 6 rfl
 by_cases h0:g=0
 . subst h0
   have hR:=zH (HS.out.trans (Lj (by simp)))
   by_cases l1:a.f<b.f
   . have hR:=zH (hR.out.trans (Ln l1))
     go_wp2_with fail;go_ret;exact⟨zc hR.out.symm,HB.out⟩
   by_cases l2:b.f<a.f
   . have hR:=zH (hR.out.trans ((Lj l1).trans (Ln l2)))
     go_wp2_with fail
     all_goals first | (exfalso;omega) | skip
     go_ret;exact⟨zc hR.out.symm,HB.out⟩
   have hR:=zH (hR.out.trans ((Lj l1).trans (Lj l2)));go_wp2_with fail
   all_goals first | (exfalso;omega) | skip
   go_ret;exact⟨zc hR.out.symm,HB.out⟩
 have hR:=zH (HS.out.trans (Ln h0));have e0:(g != 0)=Av:=by simpa using h0
 go_wp2_with fail;go_ret;exact⟨zc hR.out.symm,HB.out⟩
end
section
open Go.RowKit
attribute [local go_sem] Oper.semAt_some
def LowA(a:Ad):Prop:=a.sts.length<=17592186044416/\∀l∈a.sts,l.length<=17592186044416
theorem ad_eq{a b:Ad}(h1:a.n=b.n)(h2:a.sts=b.sts):a=b:=by cases a;cases b;simp_all
theorem Y9(a b:Ad)(ha:LowA a)(hb:LowA b)(A B:Bb)(ca cb:Nat)(w:Ba)(hA:SAt w w.heap.size A a.sts)(hB:SAt w w.heap.size B b.sts) :
  Ap An 128 #[Aj #[O U a.n,I A a.sts.length ca],Aj #[O U b.n,I B b.sts.length cb]] w fun e w'=>e=Am (Ai (decide (a=b)))/\Ao w.heap.size w w':=by
 obtain⟨dN,fu⟩:=ha;obtain⟨aJ,ae⟩:=hb;have ie:=zH fu;have iI:=zH ae;obtain⟨w1,ag,d0,d1,bq,hBw⟩:=zZ w #[O U a.n,I A a.sts.length ca] #[O U b.n,I B b.sts.length cb] 27 27;have HA:=zH ((hA.keep hBw).more hBw.size);have HB:=zH ((hB.keep hBw).more hBw.size);have bh:=zH hBw;have bn:=zH d0;have bN:=zH d1;have al:=zH ag;obtain⟨p0,p1,_⟩:=Ka d0;obtain⟨q0,q1,_⟩:=Ka d1;clear ag d0 d1 hBw hA hB fu ae;have HT:As (a≠b->decide (a=b)=Ax):=fun h=>Ll h
 have HU:As (a=b->decide (a=b)=Av):=fun h=>Lm h
 obtain⟨r,hr⟩:∃r,decide (a=b)=r:=⟨_,rfl⟩;rw[hr] at HT HU ⊢;clear hr;go_enter func128,ntmps128
 by_cases h1:a.n=b.n
 case neg=>
  have hR:=zH (HT.out (fun h=>h1 (congrArg Ad.n h)));have e0:(a.n != b.n)=Av:=by simpa using h1
  clear HT HU;go_wp2_with fail;rw[al.out];go_wp2_with fail
  all_goals
   go_ret;exact⟨ze hR.out.symm,bh.out⟩
 case pos=>
 have H3:As (a.sts=b.sts->r=Av):=fun h=>HU.out (ad_eq h1 h)
 have H4:As (a.sts≠b.sts->r=Ax):=fun h=>HT.out (fun e=>h (congrArg Ad.sts e))
 rw[h1] at p0 al bn ⊢;clear h1 HT HU
 by_cases h3:a.sts.length=b.sts.length
 case neg=>
  have hR:=zH (H4.out (fun h=>h3 (by rw[h])));have e0:((a.sts.length:Int) != (b.sts.length:Int))=Av:=by simp;omega
  have e1:¬((a.sts.length:Int)=(b.sts.length:Int)):=by omega
  clear H3 H4 h3;go_wp2_with fail;rw[al.out];go_wp2_with fail;go_ret;exact⟨ze hR.out.symm,bh.out⟩
 case pos=>
 have HL:=zH h3;rw[<-h3] at q1 aJ al bN ⊢;clear h3;go_wp2_with fail;rw[al.out];go_wp2_with fail;clear p0 p1 q0 q1 al
 go_loopw [5] (fun i wr=>∃k:Nat,k<=a.sts.length/\i=O U (k:Int)/\As (a.sts.take k=b.sts.take k)/\As (Ao w1.heap.size w1 wr)) (fun i _=>a.sts.length-(Aq i).toNat)
 case atStart=>exact⟨0,by omega,rfl,by rw[As,LO,LO],Lp _ _⟩
 obtain⟨k,hk,rfl,hp,aB⟩:=hrel;have p1:=za (La aB.out bn.out) 1 rfl;have q1:=za (La aB.out bN.out) 1 rfl;have Kl:=HL.out
 by_cases ac:k<a.sts.length
 case neg=>
  obtain rfl:k=a.sts.length:=by omega
  have hR:=zH (H3.out (xK HL.out hp.out));clear H3 H4 hp;go_wp2_with fail;go_ret;exact⟨ze hR.out.symm,Lc bh.out aB.out⟩
 case pos=>
 have dL:k<b.sts.length:=by omega
 obtain⟨ba,oa,A',k1,ea,GS,a0,IA⟩:=(HA.out.keep aB.out).at_ k ac;obtain⟨bb,ob,B',k2,eb,aI,b0,IB⟩:=(HB.out.keep aB.out).at_ k dL;subst ea;subst eb;have dE:=ie.out _ (Ld ac);have cO:=iI.out _ (Ld dL);have h0:As (a.sts[k]=b.sts[k]->a.sts.take (k+1)=b.sts.take (k+1)):=fun he=>yG hp.out ac dL he
 have hN:As (a.sts[k]≠b.sts[k]->r=Ax):=fun he=>H4.out (fun h=>he (by simp only[h]))
 obtain⟨X,hX⟩:=Kh (a.sts[k]);obtain⟨Y,hY⟩:=Kh (b.sts[k]);rw[hX] at a0 IA dE h0 hN;rw[hY] at b0 IB cO h0 hN
 by_cases hl:X.length=Y.length
 case neg=>
  have hR:=zH (hN.out (fun h=>hl (by rw[h])));have e0:((X.length:Int) != (Y.length:Int))=Av:=by simp;omega
  go_wp2_with fail;go_quiet (fail);go_wp2_with fail;go_ret;exact⟨ze hR.out.symm,zu (Lc bh.out aB.out) _⟩
 case pos=>
 have ff:=zH hl;rw[<-hl] at b0 cO;have Nk:As (∀W,Ao wr.heap.size wr W->W.cell? ⟨ba,oa+k,Z⟩=J (I A' X.length k1)):=fun W hW=>(hW.cell (p:=⟨ba,_,Z⟩) (LF GS aB.out.size)).trans a0
 have t6:As (∀W,Ao wr.heap.size wr W->W.cell? ⟨bb,ob+k,Z⟩=J (I B' X.length k2)):=fun W hW=>(hW.cell (p:=⟨bb,_,Z⟩) (LF aI aB.out.size)).trans b0
 have RZ:=zH (IA.more aB.out.size);have RY:=zH (IB.more aB.out.size);obtain⟨W0,bD⟩:=Kh wr;rw[bD] at aB Nk t6 RZ RY p1 q1 a0 b0 ⊢;have lc:=zH aB.out.size;go_wp2_with fail;go_quiet (fail);go_wp2_with fail
 go_loopw [6] (fun i wx=>∃j:Nat,j<=X.length/\i=O U (j:Int)/\As (X.take j=Y.take j)/\As (Ao W0.heap.size W0 wx)) (fun i _=>X.length-(Aq i).toNat)
 case atStart=>exact⟨0,by omega,rfl,by rw[As,LO,LO],zu (Lp _ _) _⟩
 obtain⟨j,hj,rfl,hq,aL⟩:=hrel;have iy:=aB.out.trans (aL.out.mono lc.out);have Sf:=zH iy;have p1:=za (La iy bn.out) 1 rfl;have q1:=za (La iy bN.out) 1 rfl;have a0:=Nk.out _ aL.out;have b0:=t6.out _ aL.out;clear iy
 by_cases bg:j<X.length
 case neg=>
  obtain rfl:j=X.length:=by omega
  have hR:=zH (h0.out (xK ff.out hq.out));clear h0 hN hq H3 H4;go_wp2_with fail
  go_roundw
  case rel=>exact⟨k+1,by omega,by go_num,hR,Sf⟩
  simp[Aq];omega
 case pos=>
 have pN:j<Y.length:=by have:=ff.out;omega
 obtain⟨b3,o3,e3,_,x0,x1,x2,x3,x4,x5,x6,x7⟩:=(RZ.out.keep aL.out).row j bg;obtain⟨b4,o4,e4,_,y0,y1,y2,y3,y4,y5,y6,y7⟩:=(RY.out.keep aL.out).row j pN;subst e3;subst e4;have hm:=fun W=>neq_move X[j] Y[j] W
 have g0:As (X[j]=Y[j]->X.take (j+1)=Y.take (j+1)):=fun he=>yG hq.out bg pN he
 have gN:As (X[j]≠Y[j]->r=Ax):=fun he=>hN.out (fun h=>he (by simp only[h]))
 obtain⟨m,MB⟩:=Kh (X[j]);obtain⟨m',MA⟩:=Kh (Y[j]);rw[MB] at x0 x1 x2 x3 x4 x5 x6 x7 hm g0 gN;rw[MA] at y0 y1 y2 y3 y4 y5 y6 y7 hm g0 gN;clear MB MA hq
 by_cases he:m=m'
 . have hR:=zH (g0.out he)
   rw[Ll (by simpa using he)] at hm;unfold Mv.cells at hm;subst he;clear g0 gN h0 hN H3 H4;go_wp2_with fail;go_quiet (fail);go_wp2_with fail
   go_roundw
   case rel=>exact⟨j+1,by omega,by go_num,hR,zu aL.out _⟩
   simp[Aq];omega
 have hR:=zH (gN.out he);rw[Lm (by simpa using he)] at hm;unfold Mv.cells at hm;clear g0 gN h0 hN H3 H4 he;go_wp2_with fail;go_quiet (fail);go_wp2_with fail;go_ret;exact⟨ze hR.out.symm,zu (Lc bh.out Sf.out) _⟩
end
end Go.Proofs.YtkledihebeidlaaGreatDoor
namespace Go.Proofs
set_option maxHeartbeats 4000000
open Go.Shelf
def Tryz.lays170_ren:Go.Shelf.Ren:=⟨fun | 170=>40 | n=>n,fun | 70=>88 | 3=>3 | 0=>0 | 72=>91 | 37=>89 | 5=>5 | n=>n,fun | n=>n⟩
theorem Tryz.lays170:Go.Proofs.Lays.n170 Tryz.prog Tryz.lays170_ren:={
 mixed:=by kernel_rfl
 f170:=Tryz.func40.trans (congrArg some (by kernel_rfl))
 t0:=Tryz.underlying0
 a0:=Tryz.isAgg0
 z0:=Tryz.sizeOf0
 v0:=Tryz.zeroValue0
 t3:=Tryz.underlying3
 a3:=Tryz.isAgg3
 z3:=Tryz.sizeOf3
 v3:=Tryz.zeroValue3
 t37:=Tryz.underlying89
 a37:=Tryz.isAgg89
 z37:=Tryz.sizeOf89
 v37:=Tryz.zeroValue89
 t70:=Tryz.underlying88
 a70:=Tryz.isAgg88
 z70:=Tryz.sizeOf88
 v70:=Tryz.zeroValue88
 t72:=Tryz.underlying91
 a72:=Tryz.isAgg91
 z72:=Tryz.sizeOf91
 v72:=Tryz.zeroValue91 }
def Tryz.lays169_ren:Go.Shelf.Ren:=⟨fun | 169=>41 | n=>n,fun | 70=>88 | 9=>9 | 0=>0 | 72=>91 | 37=>89 | 127=>150 | 3=>3 | 5=>5 | n=>n,fun | n=>n⟩
theorem Tryz.lays169:Go.Proofs.Lays.n169 Tryz.prog Tryz.lays169_ren:={
 mixed:=by kernel_rfl
 f169:=Tryz.func41.trans (congrArg some (by kernel_rfl))
 t0:=Tryz.underlying0
 a0:=Tryz.isAgg0
 z0:=Tryz.sizeOf0
 v0:=Tryz.zeroValue0
 t3:=Tryz.underlying3
 a3:=Tryz.isAgg3
 z3:=Tryz.sizeOf3
 v3:=Tryz.zeroValue3
 t9:=Tryz.underlying9
 a9:=Tryz.isAgg9
 z9:=Tryz.sizeOf9
 v9:=Tryz.zeroValue9
 t37:=Tryz.underlying89
 a37:=Tryz.isAgg89
 z37:=Tryz.sizeOf89
 v37:=Tryz.zeroValue89
 t70:=Tryz.underlying88
 a70:=Tryz.isAgg88
 z70:=Tryz.sizeOf88
 v70:=Tryz.zeroValue88
 t72:=Tryz.underlying91
 a72:=Tryz.isAgg91
 z72:=Tryz.sizeOf91
 v72:=Tryz.zeroValue91
 t127:=Tryz.underlying150
 a127:=Tryz.isAgg150
 z127:=Tryz.sizeOf150
 v127:=Tryz.zeroValue150 }
theorem Tryz.Builder_Extra_169:Builder.Extra Tryz.prog Tryz.lays169_ren:={
 sizeBuilder:=by kernel_rfl
 liesBuilder:=by kernel_rfl
 t5:=Tryz.underlying5
 a5:=Tryz.isAgg5
 z5:=Tryz.sizeOf5
 v5:=Tryz.zeroValue5
 infoByte:=by kernel_rfl
 cellsByte:=by kernel_rfl
 sizeByte:=by kernel_rfl
 neB5:=by decide }
open Go.RowKit in
/-- (*strings.Builder).Len: "Len returns the number of accumulated bytes; b.Len() == len(b.String()).": the world is as it was. (THE FORM '_f': 'Lib.IsBuilderF'.) (LAID: no walk: one application.) -/
theorem Tryz.Builder_Len_f (B b:Nat) (bs:List Value) (w:World) (h:Lib.IsBuilderF 91 5 B b bs w) :
  Calls Tryz.prog 40 #[.pointer (some ⟨b,0,none⟩)] w fun e w'=>e=.returned (.int .i64 bs.length)∧w'=w:=Any.Builder_Len_f Tryz.lays170 B b bs w h
open Go.RowKit in
/-- (*strings.Builder).String: "String returns the accumulated string.": WHATEVER THE BUILDER HOLDS; THE FORM '_k': OVER 'Lib.IsBuilderF' (a builder that 'String()' may have read), AND WITH THE FRAME THAT REACHES ABOVE THE BUILDER: 'Lib.OthersKept': every block that is not b and is no row of uint8's stands as it stood: the iterator of a range among them. (LAID: no walk: one application.) -/
theorem Tryz.Builder_String_any_k (B b:Nat) (l:List UInt8) (w:World) (h:Lib.IsBuilderF 91 5 B b (Lib.byteCells l) w) (hBw:B≤w.heap.size) :
  Calls Tryz.prog 41 #[.pointer (some ⟨b,0,none⟩)] w fun e w'=>e=.returned (.string ⟨l.toArray⟩)∧(Lib.IsBuilderF 91 5 B b (Lib.byteCells l) w'∧Below B w w'∧Lib.OthersKept 5 (some b) w w'):=Any.Builder_String_any_k Tryz.lays169 Tryz.Builder_Extra_169 B b l w h hBw
def Tryz.lays171_ren:Go.Shelf.Ren:=⟨fun | 171=>76 | 243=>109 | 246=>136 | 283=>151 | 284=>152 | 285=>153 | 286=>154 | 129=>169 | 317=>168 | 318=>170 | 319=>171 | 320=>172 | 337=>178 | 338=>179 | n=>n,fun | 3=>3 | 9=>9 | 2=>2 | 4=>4 | 171=>227 | 0=>0 | 53=>197 | 37=>89 | 5=>5 | 173=>230 | 212=>242 | 51=>194 | 20=>20 | 213=>243 | 46=>168 | 232=>248 | 233=>249 | n=>n,fun | 17=>0 | 18=>1 | 19=>2 | n=>n⟩
theorem Tryz.lays171:Go.Proofs.Lays.n171 Tryz.prog Tryz.lays171_ren:={
 mixed:=by kernel_rfl
 f129:=Tryz.func169.trans (congrArg some (by kernel_rfl))
 f171:=Tryz.func76.trans (congrArg some (by kernel_rfl))
 f243:=Tryz.func109.trans (congrArg some (by kernel_rfl))
 f246:=Tryz.func136.trans (congrArg some (by kernel_rfl))
 f283:=Tryz.func151.trans (congrArg some (by kernel_rfl))
 f284:=Tryz.func152.trans (congrArg some (by kernel_rfl))
 f285:=Tryz.func153.trans (congrArg some (by kernel_rfl))
 f286:=Tryz.func154.trans (congrArg some (by kernel_rfl))
 f317:=Tryz.func168.trans (congrArg some (by kernel_rfl))
 f318:=Tryz.func170.trans (congrArg some (by kernel_rfl))
 f319:=Tryz.func171.trans (congrArg some (by kernel_rfl))
 f320:=Tryz.func172.trans (congrArg some (by kernel_rfl))
 f337:=Tryz.func178.trans (congrArg some (by kernel_rfl))
 f338:=Tryz.func179.trans (congrArg some (by kernel_rfl))
 t0:=Tryz.underlying0
 a0:=Tryz.isAgg0
 z0:=Tryz.sizeOf0
 v0:=Tryz.zeroValue0
 t2:=Tryz.underlying2
 a2:=Tryz.isAgg2
 z2:=Tryz.sizeOf2
 v2:=Tryz.zeroValue2
 t3:=Tryz.underlying3
 a3:=Tryz.isAgg3
 z3:=Tryz.sizeOf3
 v3:=Tryz.zeroValue3
 t4:=Tryz.underlying4
 a4:=Tryz.isAgg4
 z4:=Tryz.sizeOf4
 v4:=Tryz.zeroValue4
 t5:=Tryz.underlying5
 a5:=Tryz.isAgg5
 z5:=Tryz.sizeOf5
 v5:=Tryz.zeroValue5
 t9:=Tryz.underlying9
 a9:=Tryz.isAgg9
 z9:=Tryz.sizeOf9
 v9:=Tryz.zeroValue9
 t20:=Tryz.underlying20
 a20:=Tryz.isAgg20
 z20:=Tryz.sizeOf20
 v20:=Tryz.zeroValue20
 t37:=Tryz.underlying89
 a37:=Tryz.isAgg89
 z37:=Tryz.sizeOf89
 v37:=Tryz.zeroValue89
 t46:=Tryz.underlying168
 a46:=Tryz.isAgg168
 z46:=Tryz.sizeOf168
 v46:=Tryz.zeroValue168
 t51:=Tryz.underlying194
 a51:=Tryz.isAgg194
 z51:=Tryz.sizeOf194
 v51:=Tryz.zeroValue194
 t53:=Tryz.underlying197
 a53:=Tryz.isAgg197
 z53:=Tryz.sizeOf197
 v53:=Tryz.zeroValue197
 t171:=Tryz.underlying227
 a171:=Tryz.isAgg227
 z171:=Tryz.sizeOf227
 v171:=Tryz.zeroValue227
 t173:=Tryz.underlying230
 a173:=Tryz.isAgg230
 z173:=Tryz.sizeOf230
 v173:=Tryz.zeroValue230
 t212:=Tryz.underlying242
 a212:=Tryz.isAgg242
 z212:=Tryz.sizeOf242
 v212:=Tryz.zeroValue242
 t213:=Tryz.underlying243
 a213:=Tryz.isAgg243
 z213:=Tryz.sizeOf243
 t232:=Tryz.underlying248
 a232:=Tryz.isAgg248
 z232:=Tryz.sizeOf248
 v232:=Tryz.zeroValue248
 t233:=Tryz.underlying249
 a233:=Tryz.isAgg249
 z233:=Tryz.sizeOf249
 v233:=Tryz.zeroValue249
 g17:=by kernel_rfl
 g18:=by kernel_rfl
 g19:=by kernel_rfl }
open Go.RowKit Go.Sort Go.Lib in
/-- THE ROAD WITHOUT THE TABLE: 0 <= i < 100: NO PREMISE ON THE WORLD, AND THE WORLD IS AS IT WAS: a row that keeps its argument in that range need list no table ('laid = []'). (LAID: no walk: one application.) -/
theorem Tryz.strconv_Itoa_small (i:Nat) (hi:i<100) (w:World) :
  Calls Tryz.prog 76 #[.int .i64 i] w fun e w'=>e=.returned (.string ⟨(Lib.decDigits i).toArray⟩)∧w'=w:=Any.strconv_Itoa_small Tryz.lays171 i hi w
def Tryz.lays212_ren:Go.Shelf.Ren:=⟨fun | 212=>90 | 263=>116 | 264=>117 | n=>n,fun | 46=>168 | 51=>194 | 146=>195 | 53=>197 | 148=>198 | n=>n,fun | n=>n⟩
theorem Tryz.lays212:Go.Proofs.Lays.n212 Tryz.prog Tryz.lays212_ren:={
 mixed:=by kernel_rfl
 f212:=Tryz.func90.trans (congrArg some (by kernel_rfl))
 f263:=Tryz.func116.trans (congrArg some (by kernel_rfl))
 f264:=Tryz.func117.trans (congrArg some (by kernel_rfl))
 t46:=Tryz.underlying168
 a46:=Tryz.isAgg168
 z46:=Tryz.sizeOf168
 v46:=Tryz.zeroValue168
 t51:=Tryz.underlying194
 a51:=Tryz.isAgg194
 z51:=Tryz.sizeOf194
 v51:=Tryz.zeroValue194
 t53:=Tryz.underlying197
 a53:=Tryz.isAgg197
 z53:=Tryz.sizeOf197
 v53:=Tryz.zeroValue197
 t146:=Tryz.underlying195
 a146:=Tryz.isAgg195
 z146:=Tryz.sizeOf195
 v146:=Tryz.zeroValue195
 t148:=Tryz.underlying198
 a148:=Tryz.isAgg198
 z148:=Tryz.sizeOf198
 v148:=Tryz.zeroValue198 }
open Go.RowKit Go.Lib in
/-- math/bits.Mul: "Mul returns the full-width product of x and y": on a machine of 64 bits: Mul64's. (LAID: no walk: one application.) -/
theorem Tryz.bits_Mul (x y:Nat) (hx:x<18446744073709551616) (hy:y<18446744073709551616) (w:World) :
  Calls Tryz.prog 90 #[.int .u64 x,.int .u64 y] w fun e w'=>e=.returned (.tuple #[.int .u64 ((x*y / 18446744073709551616:Nat):Int),.int .u64 ((x*y % 18446744073709551616:Nat):Int)])∧w'=w:=Any.bits_Mul Tryz.lays212 x y hx hy w
def Tryz.lays111_ren:Go.Shelf.Ren:=⟨fun | 111=>32 | n=>n,fun | 28=>49 | 3=>3 | 4=>4 | 0=>0 | n=>n,fun | n=>n⟩
theorem Tryz.lays111:Go.Proofs.Lays.n111 Tryz.prog Tryz.lays111_ren:={
 mixed:=by kernel_rfl
 f111:=Tryz.func32.trans (congrArg some (by kernel_rfl))
 t0:=Tryz.underlying0
 a0:=Tryz.isAgg0
 z0:=Tryz.sizeOf0
 v0:=Tryz.zeroValue0
 t3:=Tryz.underlying3
 a3:=Tryz.isAgg3
 z3:=Tryz.sizeOf3
 v3:=Tryz.zeroValue3
 t4:=Tryz.underlying4
 a4:=Tryz.isAgg4
 z4:=Tryz.sizeOf4
 v4:=Tryz.zeroValue4
 t28:=Tryz.underlying49
 a28:=Tryz.isAgg49
 z28:=Tryz.sizeOf49
 v28:=Tryz.zeroValue49 }
open Go.RowKit Go.Lib in
/-- slices.Equal at []int: "Equal reports whether two slices are equal: the same length and all elements equal. If the lengths are different, Equal returns false. Otherwise, the elements are compared in increasing index order, and the comparison stops at the first unequal pair. Empty and nil slices are considered equal.": IT RETURNS WHETHER THE TWO LISTS OF ELEMENTS ARE ONE; the world is as it was but for the count of draws (the test 's1[i] != s2[i]' has two reads, whose order the model draws, once a round). 'xs', 'ys': what the cells yz the two addresses hold (the spare capacity too, if you have it); 'xs.take n', 'ys.take m': the elements. THE TWO SLICES MAY OVERLAP. (LAID: no walk: one application.) -/
theorem Tryz.slices_Equal_int (b1 o1 n c b2 o2 m d:Nat) (xs ys:List Int) (w:World) (hx:n≤xs.length) (hy:m≤ys.length) (hbig:n≤9223372036854775807) (hbig2:m≤9223372036854775807) (hc1:∀j,j<xs.length→w.cell? ⟨b1,o1+j,none⟩=some (.int .i64 (xs.getD j 0))) (hc2:∀j,j<ys.length→w.cell? ⟨b2,o2+j,none⟩=some (.int .i64 (ys.getD j 0))) :
  Calls Tryz.prog 32 #[.slice (some ⟨b1,o1,none⟩) n c,.slice (some ⟨b2,o2,none⟩) m d] w fun e w'=>e=.returned (.bool (xs.take n==ys.take m))∧∃q,w'=w.drewN q:=Any.slices_Equal_int Tryz.lays111 b1 o1 n c b2 o2 m d xs ys w hx hy hbig hbig2 hc1 hc2
open Go.RowKit Go.Lib in
/-- The same where the first is of length 0 (a nil one too): no cell is asked for. (LAID: no walk: one application.) -/
theorem Tryz.slices_Equal_int_empty (a1 a2:Option Addr) (c m d:Nat) (w:World) (hbig2:m≤9223372036854775807) :
  Calls Tryz.prog 32 #[.slice a1 0 c,.slice a2 m d] w fun e w'=>e=.returned (.bool (decide (m=0)))∧w'=w:=Any.slices_Equal_int_empty Tryz.lays111 a1 a2 c m d w hbig2
open Go.RowKit Go.Lib in
theorem Tryz.slices_Equal_int_lens (a1 a2:Option Addr) (n c m d:Nat) (w:World) (hnm:n≠m) :
  Calls Tryz.prog 32 #[.slice a1 n c,.slice a2 m d] w fun e w'=>e=.returned (.bool false)∧w'=w:=Any.slices_Equal_int_lens Tryz.lays111 a1 a2 n c m d w hnm
end Go.Proofs
namespace Go.Proofs.YtkledihebeidlaaGreatDoor
set_option maxRecDepth 100000
set_option maxHeartbeats 4000000
section
open Go.RowKit
def Qm(b:Bool)(w:Ba)(e:Ending)(w':Ba):Prop:=∃i:Int,e=Am (O U i)/\decide (0<=i)=b/\∃n,w'=w.drewN n
theorem kz{α:Type}{p:α->Bool}{l:List α}{k:Nat}(hk:k<l.length):(l.drop k).any p=(p l[k]||(l.drop (k+1)).any p):=by
 rw[Lw hk];rfl
theorem jU{α:Type}{p:α->Bool}{l:List α}{k:Nat}(hk:k=l.length):(l.drop k).any p=Ax:=by subst hk;rw[NB];rfl
theorem ZP(x m:Int)(bm:Nat)(w:Ba)(hb:w.heap[bm]?=J (Ah #[O U m] 3 (0,0))) :
  Ap An 137 #[O U x,Ak (J ⟨bm,0,Z⟩)] w fun e w'=>e=Am (Ai (yS m x))/\w=w':=by
 have H:As (yS m x=decide (x<0\/m<=x)):=rfl;have c0:=za hb 0 rfl;go_enter func137,ntmps137;go_wp2
 all_goals
  go_ret;refine⟨ze ?_,rfl⟩;rw[H.out];simp
  try omega
theorem YU(A:Bb)(c:Nat)(xs:List Int)(m:Int)(bm:Nat)(hl:xs.length<=17592186044416)(w:Ba)(hA:IAt w w.heap.size A xs)(hb:w.heap[bm]?=J (Ah #[O U m] 3 (0,0))) :
  Ap An 68 #[I A xs.length c,.func (.func 137) #[] #[Ak (J ⟨bm,0,Z⟩)]] w (Qm (xs.any (yS m)) w):=by
 have HA:=zH hA;have HV:=zH (fun x=>ZP x m bm w hb);obtain⟨r,hr⟩:=Kh (xs.any (yS m));rw[hr];have HR:As (r=(xs.drop 0).any (yS m)):=by rw[LS];exact hr.symm
 go_enter func68,ntmps68;go_wp2_with fail
 go_loop [8] (fun i=>∃k:Nat,k<=xs.length/\i=O U (k:Int)/\As (r=(xs.drop k).any (yS m))) (fun i=>xs.length-(Aq i).toNat)
 case atStart=>exact⟨0,by omega,rfl,HR⟩
 obtain⟨k,hk,rfl,ah⟩:=hrel
 by_cases ac:k<xs.length
 . obtain⟨b,o,rfl,dH,c1⟩:=HA.out.at_ k ac
   have hs:=kz (p:=yS m) ac;obtain⟨x,hx⟩:=Kh (xs[k]);rw[hx] at c1 hs;have HS:=zH hs;have HC:=zH (HV.out x);obtain⟨bo,bI⟩:=Kh (yS m x);rw[bI] at HS HC;go_wp2_with fail;refine HC.out.mono ?_;rintro e w' ⟨rfl,rfl⟩
   cases bo with
   | true=>
    have hR:r=Av:=by rw[ah.out,HS.out];rfl
    subst hR;go_wp2_with fail;go_ret;exact⟨(k:Int),rfl,by simp,0,rfl⟩
   | false=>
    have ce:As (r=(xs.drop (k+1)).any (yS m)):=by rw[ah.out,HS.out];rfl
    go_wp2_with fail
    go_round
    case rel=>exact⟨k+1,by omega,by go_num,ce⟩
    case measure=>simp[Aq];omega
 obtain rfl:k=xs.length:=by omega
 have hR:r=Ax:=ah.out.trans (jU rfl);subst hR;go_wp2_with fail;go_ret;exact⟨-1,rfl,by decide,0,rfl⟩
theorem wX(A:Bb)(c:Nat)(xs:List Int)(m:Int)(bm:Nat)(hl:xs.length<=17592186044416)(w:Ba)(hA:IAt w w.heap.size A xs)(hb:w.heap[bm]?=J (Ah #[O U m] 3 (0,0))) :
  Ap An 29 #[I A xs.length c,.func (.func 137) #[] #[Ak (J ⟨bm,0,Z⟩)]] w fun e w'=>e=Am (Ai (xs.any (yS m)))/\∃n,w'=w.drewN n:=by
 have hc:=YU A c xs m bm hl w hA hb;obtain⟨r,hr⟩:=Kh (xs.any (yS m));rw[hr] at hc ⊢;have HC:=zH hc;go_enter func29,ntmps29;go_wp2_with fail;refine HC.out.mono ?_;rintro e w' ⟨i,rfl,hi,n,rfl⟩;have HI:=zH hi;clear hi HC;go_wp2_with fail;go_ret;exact⟨ze HI.out,_,rfl⟩
theorem kR{v:List Int}{n m:Int}(h:(v.length:Int)≠n):zr v n m=15:=Ln h
theorem kS{v:List Int}{n m:Int}(h:(v.length:Int)=n)(h2:v.any (yS m)=Av):zr v n m=2:=by unfold zr;rw[Lj (by simpa using h),Ln h2]
theorem uD{v:List Int}{n m:Int}(h:(v.length:Int)=n)(h2:v.any (yS m)=Ax):zr v n m=0:=by unfold zr;rw[Lj (by simpa using h),Lj (by rw[h2];decide)]
theorem vI(A:Bb)(c:Nat)(xs:List Int)(n m:Int)(hl:xs.length<=17592186044416)(w:Ba)(hA:IAt w w.heap.size A xs) :
  Ap An 110 #[I A xs.length c,O U n,O U m] w fun e w'=>e=Am (O U (zr xs n m))/\Ao w.heap.size w w':=by
 have ay:=zH (@kR xs n m);have am:=zH (@kS xs n m);have az:=zH (@uD xs n m);have HC:=zH (wX A c xs m w.heap.size hl (w.alloc (Ah #[O U m] 3)) ((hA.keep (zt w _)).more (by simp)) (zg _ _));obtain⟨r,hr⟩:=Kh (xs.any (yS m));rw[hr] at am az HC;obtain⟨E,hE⟩:=Kh (zr xs n m);rw[hE] at ay am az ⊢;go_enter func110,ntmps110
 by_cases hn:(xs.length:Int)=n
 . have e0:((xs.length:Int) != n)=Ax:=by simp[hn]
   have HN:=zH hn;go_wp2_with fail;refine HC.out.mono ?_;rintro e w' ⟨rfl,q,rfl⟩
   cases r with
   | true=>
    have HR:=zH (am.out HN.out (by rfl));go_wp2_with fail;go_ret;exact⟨zc HR.out.symm,zu (zt w _) _⟩
   | false=>
    have HR:=zH (az.out HN.out (by rfl));go_wp2_with fail;go_ret;exact⟨zc HR.out.symm,zu (zt w _) _⟩
 have HR:=zH (ay.out hn);have e0:((xs.length:Int) != n)=Av:=by simp[hn]
 go_wp2_with fail;go_ret;exact⟨zc HR.out.symm,zt w _⟩
theorem gu(A:Bb)(c:Nat)(xss:List (List Int))(k:Nat)(hk:k<xss.length)(hl:xss.length<=17592186044416)(aN:∀v∈xss,v.length<=17592186044416)(w:Ba)(hA:LAt w w.heap.size A xss) :
  Ap An 139 #[I A xss.length c,O U k] w fun e w'=>e=Am (Ai (xx (zm xss k) xss[k]))/\∃n,w'=w.drewN n:=by
 cases k with
 | zero=>
  have HR:As (xx (zm xss 0) xss[0]=Ax):=by rw[vR];rfl
  go_enter func139,ntmps139;go_wp2_with fail;go_quiet (fail);go_wp2_with fail;go_ret;exact⟨ze HR.out.symm,_,rfl⟩
 | succ j=>
  have hj:j<xss.length:=by omega
  have hb:xx (zm xss (j+1)) xss[j+1]=decide (0<=zh xss[j] xss[j+1]):=by rw[zQ xss j hj];rfl
  obtain⟨b,o,A1,c1,rfl,aJ,q1,I1⟩:=hA.at_ (j+1) hk;obtain⟨b2,o2,A2,c2,e2,ae,q2,I2⟩:=hA.at_ j hj
  cases e2
  have l1:=aN _ (Ld hk);have l2:=aN _ (Ld hj);have hc:=fun n=>jE A2 A1 c2 c1 xss[j] xss[j+1] l2 l1 (w.drewN n) I2 I1
  obtain⟨r,hr⟩:=Kh (zh xss[j] xss[j+1]);rw[hr] at hb hc;have HB:=zH hb;have HC:=zH hc;obtain⟨n1,fE⟩:=Kh (xss[j+1].length);obtain⟨n2,se⟩:=Kh (xss[j].length);rw[fE,se] at HC;rw[fE] at q1 l1;rw[se] at q2 l2;have e1:((j:Int)+1).toNat=j+1:=by omega
  have e3:IntKind.i64.wrap ((j:Int)+1-1)=(j:Int):=by rw[Ly];omega
  have e5:IntKind.i64.wrap ((j:Int)+1)=(j:Int)+1:=by rw[Ly];omega
  go_enter func139,ntmps139;go_wp2_with fail;go_quiet ((go_at_call 111;exact Rk (HC.out _)));go_wp2_with fail;go_ret;exact⟨ze HB.out.symm,_,rfl⟩
theorem Zi{xs ys:List Int}{k:Nat}(hk:k<xs.length)(hl:xs.length=ys.length)(h:xs.take k=ys.take k)(h2:xs[k]=ys[k]'(by omega)):xs.take (k+1)=ys.take (k+1):=by
 rw[Lu hk,Lu (by omega),h,h2]
theorem Y3(A B:Bb)(ca cb:Nat)(xs ys:List Int)(hl:xs.length<=17592186044416)(ew:ys.length<=17592186044416)(w:Ba)(hA:IAt w w.heap.size A xs)(hB:IAt w w.heap.size B ys) :
  Ap An 32 #[I A xs.length ca,I B ys.length cb] w fun e w'=>e=Am (Ai (decide (xs=ys)))/\∃n,w'=w.drewN n:=by
 have HA:=zH hA;have HB:=zH hB;go_enter func32,ntmps32
 by_cases he:xs.length=ys.length
 . have e0:((xs.length:Int) != (ys.length:Int))=Ax:=by simp[he]
   go_wp2_with fail
   go_loopw [13] (fun i wr=>∃k n:Nat,k<=xs.length/\i=O U (k:Int)/\As (xs.take k=ys.take k)/\wr=w.drewN n) (fun i _=>xs.length-(Aq i).toNat)
   case atStart=>exact⟨0,0,by omega,rfl,by simp[As],rfl⟩
   obtain⟨k,n,hk,rfl,Mm,rfl⟩:=hrel
   by_cases ac:k<xs.length
   . obtain⟨b1,o1,rfl,aJ,c1⟩:=HA.out.at_ k ac
     obtain⟨b2,o2,rfl,ae,c2⟩:=HB.out.at_ k (by omega);have TK:k<ys.length:=by omega
     obtain⟨x,hx⟩:=Kh (xs[k]);obtain⟨y,hy⟩:=Kh (ys[k]);have HX:=zH hx;have HY:=zH hy;rw[hx] at c1;rw[hy] at c2
     by_cases tD:x=y
     . subst tD
       go_wp2_with fail;go_quiet (fail);go_wp2_with fail
       go_roundw
       case rel=>exact⟨k+1,_,by omega,by go_num,Zi ac he Mm.out (HX.out.trans HY.out.symm),rfl⟩
       simp[Aq];omega
     go_wp2_with fail;go_quiet (fail);go_wp2_with fail;go_ret;refine⟨ze (Ll ?_).symm,by first | exact⟨_,rfl⟩ | exact QL _ _ _⟩;rintro rfl;exact tD (HX.out.symm.trans HY.out)
   obtain rfl:k=xs.length:=by omega
   go_wp2_with fail;go_ret;refine⟨ze (Lm ?_).symm,_,rfl⟩;have:=Mm.out;rwa[LJ,he,LJ] at this
 have e0:((xs.length:Int) != (ys.length:Int))=Av:=by simp;omega
 go_wp2_with fail;go_ret;exact⟨ze (Ll (fun h=>he (by rw[h]))).symm,0,rfl⟩
theorem has1_any(A B:Bb)(ca cb:Nat)(xs ys:List Int)(hl:xs.length<=17592186044416)(ew:ys.length<=17592186044416)(bv:Nat)(w:Ba)(hA:IAt w w.heap.size A xs)(hB:IAt w w.heap.size B ys)(hb:w.heap[bv]?=J (Ah #[I B ys.length cb] 49 (0,0))) :
  Ap An 157 #[I A xs.length ca,Ak (J ⟨bv,0,Z⟩)] w fun e w'=>e=Am (Ai (decide (xs=ys)))/\∃n,w'=w.drewN n:=by
 have c0:=za hb 0 rfl;have HC:=zH (Y3 A B ca cb xs ys hl ew w hA hB);obtain⟨r,hr⟩:∃r,decide (xs=ys)=r:=⟨_,rfl⟩;rw[hr] at HC ⊢;go_enter func157,ntmps157;go_wp2_with fail;refine HC.out.mono ?_;rintro e w' ⟨rfl,n,rfl⟩;go_wp2_with fail;go_ret;exact⟨rfl,_,rfl⟩
theorem XC(A:Bb)(c:Nat)(xss:List (List Int))(B:Bb)(cb:Nat)(ys:List Int)(bv:Nat)(hl:xss.length<=17592186044416)(aN:∀v∈xss,v.length<=17592186044416)(ew:ys.length<=17592186044416)(w:Ba)(hA:LAt w w.heap.size A xss)(hB:IAt w w.heap.size B ys)
  (hb:w.heap[bv]?=J (Ah #[I B ys.length cb] 49 (0,0))) :
  Ap An 173 #[I A xss.length c,.func (.func 157) #[] #[Ak (J ⟨bv,0,Z⟩)]] w (Qm (xss.any fun x=>decide (x=ys)) w):=by
 have HA:=zH hA;have HB:=zH hB;have Wn:=zH hb;have ff:=zH aN;obtain⟨r,hr⟩:∃r,(xss.any fun x=>decide (x=ys))=r:=⟨_,rfl⟩;rw[hr];have HR:As (r=(xss.drop 0).any fun x=>decide (x=ys)):=by rw[LS];exact hr.symm
 go_enter func173,ntmps173;go_wp2_with fail
 go_loopw [8] (fun i wr=>∃k n:Nat,k<=xss.length/\i=O U (k:Int)/\As (r=(xss.drop k).any fun x=>decide (x=ys))/\wr=w.drewN n) (fun i _=>xss.length-(Aq i).toNat)
 case atStart=>exact⟨0,0,by omega,rfl,HR,rfl⟩
 obtain⟨k,n,hk,rfl,ah,rfl⟩:=hrel
 by_cases ac:k<xss.length
 . obtain⟨b,o,A1,c1,rfl,dH,q1,I1⟩:=HA.out.at_ k ac
   have l1:=ff.out _ (Ld ac);have hs:=kz (p:=fun x=>decide (x=ys)) ac;have HC:=zH (has1_any A1 B c1 cb xss[k] ys l1 ew bv (w.drewN n) I1 HB.out Wn.out);obtain⟨x,hx⟩:=Kh (xss[k]);rw[hx] at q1 hs HC l1;have HS:=zH hs;obtain⟨bo,bI⟩:∃bo,decide (x=ys)=bo:=⟨_,rfl⟩;rw[bI] at HS HC;obtain⟨xl,fh⟩:=Kh x.length;rw[fh] at q1 HC l1;go_wp2_with fail;refine HC.out.mono ?_;rintro e w' ⟨rfl,n2,rfl⟩
   cases bo with
   | true=>
    have hR:r=Av:=by rw[ah.out,HS.out];rfl
    subst hR;go_wp2_with fail;go_ret;exact⟨(k:Int),rfl,by simp,_,rfl⟩
   | false=>
    have ce:As (r=(xss.drop (k+1)).any fun x=>decide (x=ys)):=by rw[ah.out,HS.out];rfl
    go_wp2_with fail
    go_roundw
    case rel=>exact⟨k+1,_,by omega,by go_num,ce,rfl⟩
    case measure=>simp[Aq];omega
 obtain rfl:k=xss.length:=by omega
 have hR:r=Ax:=ah.out.trans (jU rfl);subst hR;go_wp2_with fail;go_ret;exact⟨-1,rfl,by decide,_,rfl⟩
theorem gg(A:Bb)(c:Nat)(xss:List (List Int))(B:Bb)(cb:Nat)(ys:List Int)(bv:Nat)(hl:xss.length<=17592186044416)(aN:∀v∈xss,v.length<=17592186044416)(ew:ys.length<=17592186044416)(w:Ba)(hA:LAt w w.heap.size A xss)(hB:IAt w w.heap.size B ys)
  (hb:w.heap[bv]?=J (Ah #[I B ys.length cb] 49 (0,0))) :
  Ap An 156 #[I A xss.length c,.func (.func 157) #[] #[Ak (J ⟨bv,0,Z⟩)]] w fun e w'=>e=Am (Ai (xss.any fun x=>decide (x=ys)))/\∃n,w'=w.drewN n:=by
 have hc:=XC A c xss B cb ys bv hl aN ew w hA hB hb;obtain⟨r,hr⟩:∃r,(xss.any fun x=>decide (x=ys))=r:=⟨_,rfl⟩;rw[hr] at hc ⊢;have HC:=zH hc;go_enter func156,ntmps156;go_wp2_with fail;refine HC.out.mono ?_;rintro e w' ⟨i,rfl,hi,n,rfl⟩;have HI:=zH hi;clear hi HC;go_wp2_with fail;go_ret;exact⟨ze HI.out,_,rfl⟩
theorem QT{xss:List (List Int)}{ys:List Int}:(xss.any fun x=>decide (x=ys))=decide (ys∈xss):=by
 rw[Nq,NL,Nv];constructor
 . rintro⟨x,h,e⟩
   rw[<-LI e];exact h
 exact fun h=>⟨ys,h,Lm rfl⟩
theorem thas_any(A:Bb)(c:Nat)(xss:List (List Int))(B:Bb)(cb:Nat)(ys:List Int)(hl:xss.length<=17592186044416)(aN:∀v∈xss,v.length<=17592186044416)(ew:ys.length<=17592186044416)(w:Ba)(hA:LAt w w.heap.size A xss)(hB:IAt w w.heap.size B ys) :
  Ap An 140 #[I A xss.length c,I B ys.length cb] w fun e w'=>e=Am (Ai (decide (ys∈xss)))/\Ao w.heap.size w w':=by
 have HC:=zH (gg A c xss B cb ys w.heap.size hl aN ew (w.alloc (Ah #[I B ys.length cb] 49)) ((hA.keep (zt w _)).more (by simp)) ((hB.keep (zt w _)).more (by simp)) (zg _ _));rw[QT] at HC;obtain⟨r,hr⟩:=Kh (decide (ys∈xss));rw[hr] at HC ⊢;go_enter func140,ntmps140;go_wp2_with fail;refine HC.out.mono ?_;rintro e w' ⟨rfl,n,rfl⟩;go_wp2_with fail;go_ret;exact⟨rfl,zu (zt w _) _⟩
theorem tboxes(w:Ba)(c1 c2:Array Au)(t1 t2:TypeId):∃W0,(w.alloc (Ah c1 t1)).alloc (Ah c2 t2)=W0/\W0.heap[w.heap.size]?=J (Ah c1 t1 (0,0))/\W0.heap[w.heap.size+1]?=J (Ah c2 t2 (0,0))/\w.heap.size+2<=W0.heap.size/\Ao w.heap.size w W0:=
 ⟨_,rfl,zw (zg _ _) _,by have:=zg (w.alloc (Ah c1 t1)) (Ah c2 t2);rwa[LW] at this,by simp,xT w _ _⟩
def FewL(l:List (List Int)):Prop:=l.length<=30/\∀v∈l,v.length<=10
def FewC(c:Cs):Prop:=c.inp.length<=10/\FewL c.out/\FewL c.calm
def FewT(t:Tk):Prop:=t.cases.length<=30/\∀c∈t.cases,FewC c
theorem ud{n m:Int}{c:Cs}(h:c.out.length<1):qx n m c=5:=Ln (.inl h)
theorem wL{n m:Int}{c:Cs}(h:1<=c.out.length)(h1:c.out.length<=30)(h2:qa (fun v=>zr v n m) c.out≠0):qx n m c=qa (fun v=>zr v n m) c.out:=by unfold qx;rw[Lj (by omega),Ln h2]
theorem ue{n m:Int}{c:Cs}(h:1<=c.out.length)(h1:c.out.length<=30)(h2:qa (fun v=>zr v n m) c.out=0):qx n m c=qa (xR c.out) c.calm:=by unfold qx;rw[Lj (by omega),Lj (by simpa using h2)]
theorem Zh(n ins m:Int)(cs:Au)(A0 A1 A2:Bb)(k0 k1 k2:Nat)(x:Cs)(hf:FewC x)(w:Ba)(h1:LAt w w.heap.size A1 x.out)(h2:LAt w w.heap.size A2 x.calm) :
  Ap An 112 #[Aj #[O U n,O U ins,O U m,cs],Aj #[I A0 x.inp.length k0,I A1 x.out.length k1,I A2 x.calm.length k2]] w fun e w'=>e=Am (O U (qx n m x))/\Ao w.heap.size w w':=by
 obtain⟨Uh,⟨df,eZ⟩,Ug,Uf⟩:=hf;have eh:=zH eZ;have nQ:=zH Uf;have H1:=zH h1;have H2:=zH h2;have ay:=zH (@ud n m x);have am:=zH (@wL n m x);have az:=zH (@ue n m x);obtain⟨E,hE⟩:=Kh (qx n m x);rw[hE] at ay am az ⊢;obtain⟨xi,xo,xc⟩:=x;dsimp only at Uh df Ug eh nQ H1 H2 ay am az ⊢
 by_cases hz:xo.length<1
 . have HR:=zH (ay.out hz)
   go_enter func112,ntmps112;go_wp2_with fail
   all_goals first | (exfalso;omega) | skip
   go_ret;exact⟨zc HR.out.symm,xT w _ _⟩
 have bK:¬((xo.length:Int)<1):=by omega
 have am:=zH (am.out (by omega) (by omega));have az:=zH (az.out (by omega) (by omega));go_enter func112,ntmps112;go_wp2_with fail
 all_goals first | (exfalso;omega) | skip
 obtain⟨W0,bD,b0,b1,aZ,bH⟩:=tboxes w #[O U n,O U ins,O U m,cs] #[I A0 xi.length k0,I A1 xo.length k1,I A2 xc.length k2] 24 118;rw[bD];have fC:=zH bH;have lH:=zH b0;have lG:=zH b1;clear bD bH b0 b1;obtain⟨F,hF⟩:∃F,qa (fun v=>zr v n m) xo=F:=⟨_,rfl⟩;have HF:As (F=yd (fun v=>zr v n m) xo 0):=by rw[xh];exact hF.symm
 rw[hF] at am az;clear hF
 go_loopw [23] (fun i wr=>∃k:Nat,k<=xo.length/\i=O U (k:Int)/\As (F=yd (fun v=>zr v n m) xo k)/\Ao W0.heap.size W0 wr) (fun i _=>xo.length-(Aq i).toNat)
 case atStart=>exact⟨0,by omega,rfl,HF,Lp _ _⟩
 obtain⟨k,hk,rfl,ah,aB⟩:=hrel;clear HF;have bX:=zH (Lc fC.out aB);have d0:=Lb aB (by omega) lH.out;have d1:=Lb aB (by omega) lG.out;have q0:=za d0 0 rfl;have q2:=za d0 2 rfl;have q3:=za d1 1 rfl;have q4:=za d1 2 rfl;have HW:=zH aB
 by_cases ac:k<xo.length
 . have HL:=zH (H1.out.keep bX.out)
   obtain⟨b,o,A3,k3,rfl,hb,c3,I3⟩:=HL.out.at_ k ac;have l3:=eh.out _ (Ld ac);have aG:=zH (@xC (fun v=>zr v n m) xo k ac);have bf:=zH (@yR (fun v=>zr v n m) xo k ac);have aA:=zH (@xX (fun v=>zr v n m) xo k ac);have HV:=zH (fun (w':Ba) (h:IAt w' w'.heap.size A3 xo[k])=>vI A3 k3 xo[k] n m (by omega) w' h);have HU:=zH (fun (w':Ba) (h:LAt w' w'.heap.size (J ⟨b,o,Z⟩) xo)=>gu (J ⟨b,o,Z⟩) k1 xo k ac (by omega) (fun v hv=>by have:=eh.out v hv;omega) w' h);obtain⟨v,hv⟩:=Kh (xo[k]);obtain⟨bo,bI⟩:=Kh (xx (zm xo k) xo[k]);rw[bI] at bf aA HU;rw[hv] at c3 I3 l3 aG bf aA HV;obtain⟨ev,cm⟩:=Kh (zr v n m);rw[cm] at aG bf aA HV;obtain⟨vl,cp⟩:=Kh v.length;rw[cp] at c3 l3 HV;have HI:=zH I3;clear hv bI cm cp I3 aB d0 d1;go_wp2_with fail;refine(HV.out _ ((HI.out.more (by have:=bX.out.size;omega)))).mono ?_;rintro e w1 ⟨rfl,aJ⟩;have dB:=zH (Lc bX.out aJ);have al:=zH (Lc HW.out aJ);have d0:=Lb al.out (by omega) lH.out;have d1:=Lb al.out (by omega) lG.out;have q0:=za d0 0 rfl;have q2:=za d0 2 rfl;have q3:=za d1 1 rfl;have q4:=za d1 2 rfl;clear aJ d0 d1
   by_cases he:ev=0
   . subst he
     have DD:=zH ((H1.out.keep dB.out).more dB.out.size);clear aG;go_wp2_with fail;refine(HU.out _ DD.out).mono ?_;rintro e w2 ⟨rfl,nq,rfl⟩
     cases bo with
     | true=>
      have hR:=zH (ah.out.trans (bf.out (by simp) (by simp)));have HR:=zH ((am.out (by rw[hR.out];decide)).trans hR.out);go_wp2_with fail;go_ret;exact⟨zc HR.out.symm,zu dB.out _⟩
     | false=>
      have hR:=zH (ah.out.trans (aA.out (by simp) (by simp)));go_wp2_with fail
      go_roundw
      case rel=>exact⟨k+1,by omega,by go_num,hR,zu al.out _⟩
      case measure=>simp[Aq];omega
   have hR:=zH (ah.out.trans (aG.out he));have HR:=zH ((am.out (by rw[hR.out];exact he)).trans hR.out);have e0:(ev != 0)=Av:=by simpa using he
   go_wp2_with fail;go_ret;exact⟨zc HR.out.symm,dB.out⟩
 obtain rfl:k=xo.length:=by omega
 have hR:=zH (ah.out.trans xB);have HR:=zH (az.out hR.out);go_wp2_with fail;obtain⟨W1,cG⟩:∃W1,W1=wr:=⟨_,rfl⟩;rw[<-cG] at bX HW q0 q2 q3 q4 ⊢;have UA:=HW.out.size;obtain⟨G,hG⟩:=Kh (qa (xR xo) xc);have HG:As (G=yd (xR xo) xc 0):=by rw[xh];exact hG.symm
 rw[hG] at HR;clear hG
 go_loopw [45] (fun i wr=>∃k:Nat,k<=xc.length/\i=O U (k:Int)/\As (G=yd (xR xo) xc k)/\Ao W1.heap.size W1 wr) (fun i _=>xc.length-(Aq i).toNat)
 case atStart=>exact⟨0,by omega,rfl,HG,Lp _ _⟩
 obtain⟨k,hk,rfl,ah,aB⟩:=hrel;clear HG;have dB:=zH (Lc bX.out aB);have al:=zH (Lc HW.out aB);have Vk:=zH aB;have d1:=Lb al.out (by omega) lG.out;have q3:=za d1 1 rfl;have q4:=za d1 2 rfl;clear aB
 by_cases ac:k<xc.length
 . have HL:=zH (H2.out.keep dB.out)
   have P':=zH ((H1.out.keep dB.out).more dB.out.size);obtain⟨b,o,A3,k3,rfl,hb,c3,I3⟩:=HL.out.at_ k ac;have l3:=nQ.out _ (Ld ac);have aG:=zH (@xC (xR xo) xc k ac);have bf:=zH (@yR (xR xo) xc k ac);have aA:=zH (@xX (xR xo) xc k ac);have HV:=zH (fun (w':Ba) (h0:LAt w' w'.heap.size A1 xo) (h:IAt w' w'.heap.size A3 xc[k])=>thas_any A1 k1 xo A3 k3 xc[k] (by omega) (fun v hv=>by have:=eh.out v hv;omega) (by omega) w' h0 h);have HU:=zH (fun (w':Ba) (h:LAt w' w'.heap.size (J ⟨b,o,Z⟩) xc)=>gu (J ⟨b,o,Z⟩) k2 xc k ac (by omega) (fun v hv=>by have:=nQ.out v hv;omega) w' h);have ec:As (∀v,xR xo v=if v∈xo then 0 else 6):=fun _=>rfl
   obtain⟨v,hv⟩:=Kh (xc[k]);obtain⟨bo,bI⟩:=Kh (xx (zm xc k) xc[k]);rw[bI] at bf aA HU;rw[hv] at c3 I3 l3 aG bf aA HV;have ec:=zH (ec.out v);obtain⟨ev,cm⟩:=Kh (xR xo v);rw[cm] at aG bf aA ec;obtain⟨vl,cp⟩:=Kh v.length;rw[cp] at c3 l3 HV;have HI:=zH I3;clear hv bI cm cp I3
   by_cases hm:v∈xo
   . have he:ev=0:=ec.out.trans (Ln hm)
     subst he;rw[Lm hm] at HV;clear aG hm ec;go_wp2_with fail;refine(HV.out _ P'.out ((HI.out.more (by have:=dB.out.size;omega)))).mono ?_;rintro e w1 ⟨rfl,aJ⟩;have iR:=zH (Lc dB.out aJ);have Iv:=zH (Lc al.out aJ);have d1:=Lb Iv.out (by omega) lG.out;have q3:=za d1 1 rfl;have q4:=za d1 2 rfl;have DD:=zH ((H2.out.keep iR.out).more iR.out.size);have Vj:=zH (Lc Vk.out aJ);clear aJ d1;go_wp2_with fail;refine(HU.out _ DD.out).mono ?_;rintro e w2 ⟨rfl,nq,rfl⟩
     cases bo with
     | true=>
      have hR:=zH (ah.out.trans (bf.out (by simp) (by simp)));have ce:=zH (HR.out.trans hR.out);clear ah bf aA HR HV HU;go_wp2_with fail;go_ret;exact⟨zc ce.out.symm,zu iR.out _⟩
     | false=>
      have hR:=zH (ah.out.trans (aA.out (by simp) (by simp)));clear ah bf aA HV HU;go_wp2_with fail
      go_roundw
      case rel=>exact⟨k+1,by omega,by go_num,hR,zu Vj.out _⟩
      case measure=>simp[Aq];omega
   have he:ev=6:=ec.out.trans (Lj hm);subst he;rw[Ll hm] at HV;have hR:=zH (ah.out.trans (aG.out (by decide)));have ce:=zH (HR.out.trans hR.out);clear ah bf aA aG hm ec HR HU;go_wp2_with fail;refine(HV.out _ P'.out ((HI.out.more (by have:=dB.out.size;omega)))).mono ?_;rintro e w1 ⟨rfl,aJ⟩;have iR:=zH (Lc dB.out aJ);go_wp2_with fail;go_ret;exact⟨zc ce.out.symm,iR.out⟩
 obtain rfl:k=xc.length:=by omega
 have hR:=zH (ah.out.trans xB);have ce:=zH (HR.out.trans hR.out);go_wp2_with fail;go_ret;exact⟨zc ce.out.symm,dB.out⟩
theorem kd(A:Bb)(c:Nat)(xs:List Int)(n m:Int)(hl:xs.length<=17592186044416)(w:Ba)(hA:IAt w w.heap.size A xs) :
  Ap An 159 #[I A xs.length c,O U n,O U m] w fun e w'=>e=Am (O U (zr xs n m))/\w'=w:=by
 have HA:=zH hA;have ay:=zH (@kR xs n m);have am:=zH (@kS xs n m);have az:=zH (@uD xs n m);obtain⟨E,hE⟩:=Kh (zr xs n m);rw[hE] at ay am az ⊢
 by_cases hn:(xs.length:Int)=n
 . subst hn
   have am:=zH (am.out rfl);have az:=zH (az.out rfl);obtain⟨r,hr⟩:=Kh (xs.any (yS m));rw[hr] at am az;have HR:As (r=(xs.drop 0).any (yS m)):=by rw[LS];exact hr.symm
   go_enter func159,ntmps159;go_wp2_with fail
   go_loop [7] (fun i=>∃k:Nat,k<=xs.length/\i=O U (k:Int)/\As (r=(xs.drop k).any (yS m))) (fun i=>xs.length-(Aq i).toNat)
   case atStart=>exact⟨0,by omega,rfl,HR⟩
   obtain⟨k,hk,rfl,ah⟩:=hrel
   by_cases ac:k<xs.length
   . obtain⟨b,o,rfl,dH,c1⟩:=HA.out.at_ k ac
     have hs:=kz (p:=yS m) ac;have ho:As (∀x,yS m x=decide (x<0\/m<=x)):=fun _=>rfl
     obtain⟨x,hx⟩:=Kh (xs[k]);rw[hx] at c1 hs;rw[ho.out x] at hs;have HS:=zH hs
     by_cases h1:x<0\/m<=x
     . have hR:r=Av:=by rw[ah.out,HS.out,Lm h1];rfl
       subst hR;have HE:=zH (am.out rfl)
       by_cases h2:x<0
       . clear h1
         go_wp2_with fail;go_ret;exact⟨zc HE.out.symm,rfl⟩
       have h3:m<=x:=by omega
       go_wp2_with fail;go_ret;exact⟨zc HE.out.symm,rfl⟩
     have ce:As (r=(xs.drop (k+1)).any (yS m)):=by rw[ah.out,HS.out,Ll h1];rfl
     have h2:¬x<0:=by omega
     have h3:¬m<=x:=by omega
     go_wp2_with fail
     go_round
     case rel=>exact⟨k+1,by omega,by go_num,ce⟩
     simp[Aq];omega
   obtain rfl:k=xs.length:=by omega
   have hR:r=Ax:=ah.out.trans (jU rfl);subst hR;have HE:=zH (az.out rfl);go_wp2_with fail;go_ret;exact⟨zc HE.out.symm,rfl⟩
 have HR:=zH (ay.out hn);have e0:((xs.length:Int) != n)=Av:=by simp[hn]
 go_enter func159,ntmps159;go_wp2_with fail;go_ret;exact⟨zc HR.out.symm,rfl⟩
theorem Z3(A:Bb)(c:Nat)(xss:List (List Int))(B:Bb)(cb:Nat)(ys:List Int)(hl:xss.length<=17592186044416)(aN:∀v∈xss,v.length<=17592186044416)(ew:ys.length<=17592186044416)(w:Ba)(hA:LAt w w.heap.size A xss)(hB:IAt w w.heap.size B ys) :
  Ap An 160 #[I A xss.length c,I B ys.length cb] w fun e w'=>e=Am (Ai (decide (ys∈xss)))/\∃n,w'=w.drewN n:=by
 have HA:=zH hA;have HB:=zH hB;have ff:=zH aN;rw[<-QT];obtain⟨r,hr⟩:∃r,(xss.any fun x=>decide (x=ys))=r:=⟨_,rfl⟩;rw[hr];have HR:As (r=(xss.drop 0).any fun x=>decide (x=ys)):=by rw[LS];exact hr.symm
 go_enter func160,ntmps160;go_wp2_with fail
 go_loopw [5] (fun i wr=>∃k n:Nat,k<=xss.length/\i=O U (k:Int)/\As (r=(xss.drop k).any fun x=>decide (x=ys))/\wr=w.drewN n) (fun i _=>xss.length-(Aq i).toNat)
 case atStart=>exact⟨0,0,by omega,rfl,HR,rfl⟩
 obtain⟨k,n,hk,rfl,ah,rfl⟩:=hrel
 by_cases ac:k<xss.length
 . obtain⟨b,o,A1,c1,rfl,dH,q1,I1⟩:=HA.out.at_ k ac
   have l1:=ff.out _ (Ld ac);have hs:=kz (p:=fun x=>decide (x=ys)) ac;have HC:=zH (yL A1 B c1 cb xss[k] ys l1 ew (w.drewN n) I1 HB.out);obtain⟨x,hx⟩:=Kh (xss[k]);rw[hx] at q1 hs HC l1;have HS:=zH hs;have hz:As (zh x ys=0->x=ys):=xM;have cf:As (x=ys->zh x ys=0):=fun h=>by rw[h];exact yB _
   obtain⟨bo,bI⟩:=Kh (zh x ys);rw[bI] at hz HC cf;obtain⟨xl,fh⟩:=Kh x.length;rw[fh] at q1 HC l1;go_wp2_with fail;refine HC.out.mono ?_;rintro e w' ⟨rfl,n2,rfl⟩
   by_cases hb:bo=0
   . have hR:r=Av:=by rw[ah.out,HS.out,Lm (hz.out hb)];rfl
     subst hR;subst hb;go_wp2_with fail;go_ret;exact⟨rfl,_,rfl⟩
   have ce:As (r=(xss.drop (k+1)).any fun x=>decide (x=ys)):=by rw[ah.out,HS.out,Ll (fun h=>hb (cf.out h))];rfl
   have e0:(bo==0)=Ax:=by simpa using hb
   go_wp2_with fail
   go_roundw
   case rel=>exact⟨k+1,_,by omega,by go_num,ce,rfl⟩
   simp[Aq];omega
 obtain rfl:k=xss.length:=by omega
 have hR:r=Ax:=ah.out.trans (jU rfl);subst hR;go_wp2_with fail;go_ret;exact⟨rfl,_,rfl⟩
def kn(l:List (List Int))(m:Nat):Bool:=decide (l.length<=m)&&l.all fun v=>decide (v.length<=10)
theorem YP{α:Type}{p:α->Bool}{l:List α}{k:Nat}(hk:k<l.length):(l.drop k).all p=(p l[k]&&(l.drop (k+1)).all p):=by
 rw[Lw hk];rfl
theorem QV{α:Type}{p:α->Bool}{l:List α}{k:Nat}(hk:k=l.length):(l.drop k).all p=Av:=by subst hk;rw[NB];rfl
theorem Yz(A:Bb)(c:Nat)(xss:List (List Int))(hl:xss.length<=17592186044416)(aN:∀v∈xss,v.length<=17592186044416)(w:Ba)(hA:LAt w w.heap.size A xss) :
  Ap An 118 #[I A xss.length c,O U 30] w fun e w'=>e=Am (Ai (kn xss 30))/\w'=w:=by
 have HA:=zH hA;have ff:=zH aN;have H:As (kn xss 30=(decide (xss.length<=30)&&xss.all fun v=>decide (v.length<=10))):=rfl;obtain⟨r,hr⟩:=Kh (kn xss 30);rw[hr] at H ⊢
 by_cases hz:xss.length<=30
 . have HR:As (r=(xss.drop 0).all fun v=>decide (v.length<=10)):=by rw[LS,H.out,Lm hz,Np];rfl
   have bK:¬(30<(xss.length:Int)):=by omega
   go_enter func118,ntmps118;go_wp2_with fail
   all_goals first | (exfalso;omega) | skip
   go_loop [5] (fun i=>∃k:Nat,k<=xss.length/\i=O U (k:Int)/\As (r=(xss.drop k).all fun v=>decide (v.length<=10))) (fun i=>xss.length-(Aq i).toNat)
   case atStart=>exact⟨0,by omega,rfl,HR⟩
   obtain⟨k,hk,rfl,ah⟩:=hrel
   by_cases ac:k<xss.length
   . obtain⟨b,o,A1,c1,rfl,dH,q1,_⟩:=HA.out.at_ k ac
     have l1:=ff.out _ (Ld ac);have HS:=zH (YP (p:=fun v=>decide (v.length<=10)) ac);obtain⟨xl,fh⟩:=Kh (xss[k].length);rw[fh] at q1 HS l1
     by_cases hx:xl<=10
     . have ce:As (r=(xss.drop (k+1)).all fun v=>decide (v.length<=10)):=by rw[ah.out,HS.out,Lm hx];rfl
       go_wp2_with fail
       all_goals first | (exfalso;omega) | skip
       go_round
       case rel=>exact⟨k+1,by omega,by go_num,ce⟩
       simp[Aq];omega
     have hR:r=Ax:=by rw[ah.out,HS.out,Ll hx];rfl
     subst hR;go_wp2_with fail
     all_goals first | (exfalso;omega) | skip
     go_ret;exact⟨rfl,rfl⟩
   obtain rfl:k=xss.length:=by omega
   have hR:r=Av:=ah.out.trans (QV rfl);subst hR;go_wp2_with fail;go_ret;exact⟨rfl,rfl⟩
 have hR:r=Ax:=by rw[H.out,Ll hz];rfl
 subst hR;go_enter func118,ntmps118;go_wp2_with fail
 all_goals first | (exfalso;omega) | skip
 go_ret;exact⟨rfl,rfl⟩
theorem vJ{t:Tk}(h:t.n<1\/5<t.n\/t.ins<1\/8<t.ins\/t.outs<1\/8<t.outs):yE t=2:=Ln h
theorem uF{t:Tk}(h:¬(t.n<1\/5<t.n\/t.ins<1\/8<t.ins\/t.outs<1\/8<t.outs))(h2:t.cases.length<1):yE t=5:=by unfold yE;rw[Lj h,Ln (.inl h2)]
theorem vK{t:Tk}(h:¬(t.n<1\/5<t.n\/t.ins<1\/8<t.ins\/t.outs<1\/8<t.outs))(h2:1<=t.cases.length)(h3:t.cases.length<=30):yE t=yU t t.cases 0:=by unfold yE;rw[Lj h,Lj (by omega)]
theorem hU{t:Tk}{p:Option Cs}{c:Cs}(h:zr c.inp t.n t.ins≠0):xU t p c=zr c.inp t.n t.ins:=Ln h
theorem uh{t:Tk}{p:Option Cs}{c:Cs}(h:zr c.inp t.n t.ins=0)(h2:xx (p.map Cs.inp) c.inp=Av):xU t p c=14:=by unfold xU;rw[Lj (by simpa using h),Ln h2]
theorem hZ{t:Tk}{p:Option Cs}{c:Cs}(h:zr c.inp t.n t.ins=0)(h2:xx (p.map Cs.inp) c.inp=Ax):xU t p c=qx t.n t.outs c:=by unfold xU;rw[Lj (by simpa using h),Lj (by rw[h2];decide)]
theorem YX(t:Tk)(A:Bb)(kc:Nat)(hf:FewT t)(w:Ba)(hA:CAt w w.heap.size A t.cases) :
  Ap An 77 #[Aj #[O U t.n,O U t.ins,O U t.outs,I A t.cases.length kc]] w fun e w'=>e=Am (O U (yE t))/\Ao w.heap.size w w':=by
 obtain⟨df,eZ⟩:=hf;have eh:=zH eZ;have HA:=zH hA;have ay:=zH (@vJ t);have am:=zH (@uF t);have az:=zH (@vK t);obtain⟨E,hE⟩:=Kh (yE t);rw[hE] at ay am az ⊢;obtain⟨cv,lU⟩:=Kh (I A t.cases.length kc)
 by_cases hr:t.n<1\/5<t.n\/t.ins<1\/8<t.ins\/t.outs<1\/8<t.outs
 . have HR:=zH (ay.out hr)
   obtain⟨n,ins,outs,cases⟩:=t;dsimp only at hr lU ⊢;rw[lU];have HN:=zH hr;clear ay am az lU hA eZ eh HA hE hr;go_enter func77,ntmps77;go_wp2_with fail
   all_goals first | (exfalso;have:=HN.out;omega) | (go_ret;exact⟨zc HR.out.symm,zt w _⟩)
 have r1:¬t.n<1:=by omega
 have r2:¬5<t.n:=by omega
 have r3:¬t.ins<1:=by omega
 have r4:¬8<t.ins:=by omega
 have r5:¬t.outs<1:=by omega
 have r6:¬8<t.outs:=by omega
 have am:=zH (am.out hr);have az:=zH (az.out hr);clear hr ay lU hE hA eZ
 by_cases hz:t.cases.length<1
 . have HR:=zH (am.out hz)
   obtain⟨n,ins,outs,cases⟩:=t;dsimp only at df r1 r2 r3 r4 r5 r6 hz ⊢;clear am az eh HA;go_enter func77,ntmps77;go_wp2_with fail
   all_goals first | (exfalso;omega) | skip
   go_ret;exact⟨zc HR.out.symm,zt w _⟩
 have bK:¬((t.cases.length:Int)<1):=by omega
 have az:=zH (az.out (by omega) (by omega));obtain⟨n,hn⟩:=Kh t.n;obtain⟨ins,Cc⟩:=Kh t.ins;obtain⟨outs,pL⟩:=Kh t.outs;obtain⟨cs,bj⟩:=Kh t.cases;have HT:As (t.n=n/\t.ins=ins/\t.outs=outs):=⟨hn,Cc,pL⟩;rw[hn] at r1 r2 ⊢;rw[Cc] at r3 r4 ⊢;rw[pL] at r5 r6 ⊢;rw[bj] at df eh HA bK az ⊢;go_enter func77,ntmps77;go_wp2_with fail
 all_goals first | (exfalso;omega) | skip
 obtain⟨W0,bD,b0,aZ,bH⟩:∃W0,w.alloc (Ah #[O U n,O U ins,O U outs,I A cs.length kc] 24)=W0/\W0.heap[w.heap.size]?=J (Ah #[O U n,O U ins,O U outs,I A cs.length kc] 24 (0,0))/\w.heap.size+1<=W0.heap.size/\Ao w.heap.size w W0:=
  ⟨_,rfl,zg _ _,by simp,zt w _⟩
 rw[bD];have fC:=zH bH;have lH:=zH b0
 go_loopw [46] (fun i wr=>∃k:Nat,k<=cs.length/\i=O U (k:Int)/\As (E=yU t cs k)/\Ao W0.heap.size W0 wr) (fun i _=>cs.length-(Aq i).toNat)
 case atStart=>exact⟨0,by omega,rfl,az,Lp _ _⟩
 obtain⟨k,hk,rfl,ah,aB⟩:=hrel;have bX:=zH (Lc fC.out aB);have HW:=zH aB;have d0:=Lb aB (by omega) lH.out;obtain⟨q0,q1,q2,q3,_⟩:=Kb d0
 by_cases ac:k<cs.length
 . obtain⟨b,o,A0,k0,A1,k1,A2,k2,rfl,dH,c0,c1,c2,I0,I1,I2⟩:=(HA.out.keep bX.out).row k ac
   obtain⟨f0,f1,f2⟩:=eh.out _ (Ld ac);have aG:=zH (@ug t cs k ac);have aA:=zH (@wM t cs k ac);obtain⟨e1,e2,e3⟩:=HT.out;have lf:=zH (@hU t (zm cs k) cs[k]);have bf:=zH (@uh t (zm cs k) cs[k]);have cJ:=zH (@hZ t (zm cs k) cs[k]);rw[e1,e2] at lf bf cJ;rw[e3] at cJ;have HV:=zH (fun (w':Ba) (h:IAt w' w'.heap.size A0 cs[k].inp)=>vI A0 k0 cs[k].inp n ins (by omega) w' h);have HG:=zH (fun (w':Ba) (h1:LAt w' w'.heap.size A1 cs[k].out) (h2:LAt w' w'.heap.size A2 cs[k].calm)=>Zh n ins outs (I (J ⟨b,o,Z⟩) cs.length kc) A0 A1 A2 k0 k1 k2 cs[k] (eh.out _ (Ld ac)) w' h1 h2);obtain⟨bo,bI⟩:=Kh (xx ((zm cs k).map Cs.inp) cs[k].inp);have bu:=zH bI;rw[bI] at bf cJ;obtain⟨ev,cm⟩:=Kh (zr cs[k].inp n ins);rw[cm] at lf bf cJ HV;obtain⟨gv,Ev⟩:=Kh (qx n outs cs[k]);rw[Ev] at cJ HG;obtain⟨x,hx⟩:=Kh (cs[k]);have HX:=zH hx;rw[hx] at c0 c1 c2 I0 I1 I2 f0 aG aA lf bf cJ HV HG;obtain⟨xi,xo,xc⟩:=x;dsimp only at c0 c1 c2 I0 I1 I2 f0 HV HG;have Fk:=bX.out.size;have oh:w.heap.size<wr.heap.size:=by have:=HW.out.size;omega
   have J0:=I0.more Fk;have J1:=I1.more Fk;have J2:=I2.more Fk;go_wp2_with fail
   obtain⟨W1,cG,b1,bq,aw⟩:∃W1,wr.alloc (Ah #[I A0 xi.length k0,I A1 xo.length k1,I A2 xc.length k2] 118)=W1/\W1.heap[wr.heap.size]?=J (Ah #[I A0 xi.length k0,I A1 xo.length k1,I A2 xc.length k2] 118 (0,0))/\wr.heap.size+1<=W1.heap.size/\Ao wr.heap.size wr W1:=
    ⟨_,rfl,zg _ _,by simp,zt wr _⟩
   rw[cG];have K0:=(J0.keep aw).more aw.size;have K1:=zH ((J1.keep aw).more aw.size);have K2:=zH ((J2.keep aw).more aw.size);have BL:=zH (bX.out.trans (aw.mono Fk));have BW:=zH (Lc HW.out aw);have lG:=zH b1;refine(HV.out _ K0).mono ?_;rintro e w1 ⟨rfl,aJ⟩;have M1:=zH ((K1.out.keep aJ).more aJ.size);have M2:=zH ((K2.out.keep aJ).more aJ.size);have dJ:=zH (Lc BL.out aJ);have nh:=zH (Lc BW.out aJ);have M0:=zH ((K0.keep aJ).more aJ.size);have d0:=Lb nh.out (by omega) lH.out;have d1:=Lb aJ (by omega) lG.out;obtain⟨q0,q1,q2,q3,_⟩:=Kb d0;obtain⟨p0,p1,p2,_⟩:=Kc d1
   by_cases cm:ev=0
   case neg=>
    have hd:=lf.out cm;have hR:=zH (ah.out.trans ((aG.out (by rw[hd];exact cm)).trans hd));have e0:(ev != 0)=Av:=by simpa using cm
    go_wp2_with fail;go_ret;exact⟨zc hR.out.symm,dJ.out⟩
   case pos=>
   subst cm
   cases k with
   | zero=>
    obtain rfl:bo=Ax:=by rw[<-bu.out];rfl
    go_wp2_with fail;go_quiet (fail);have cJ:=zH (cJ.out (by simp) (by simp));go_wp2_with fail;refine(HG.out _ (by exact M1.out.keep (zu (Lp _ _) _)) (by exact M2.out.keep (zu (Lp _ _) _))).mono ?_;rintro e w2 ⟨rfl,ae⟩;have tA:=zH (dJ.out.trans ((belD ae).mono dJ.out.size));have DV:=zH (nh.out.trans ((belD ae).mono nh.out.size))
    by_cases hg:gv=0
    . subst hg
      have hR:=zH (ah.out.trans (aA.out cJ.out));go_wp2_with fail
      go_roundw
      case rel=>exact⟨_,ac,by go_num,hR,DV.out⟩
      case measure=>simp[Aq];omega
    . have hR:=zH (ah.out.trans ((aG.out (by rw[cJ.out];exact hg)).trans cJ.out))
      have e0:(gv != 0)=Av:=by simpa using hg
      go_wp2_with fail;go_ret;exact⟨zc hR.out.symm,tA.out⟩
   | succ j=>
    have hj:j<cs.length:=by omega
    have bS:xx ((zm cs (j+1)).map Cs.inp) cs[j+1].inp=decide (0<=zh cs[j].inp cs[j+1].inp):=by rw[zQ cs j hj];rfl
    obtain⟨b',o',ni,mh,_,_,_,_,e',_,u0,_,_,U0,_,_⟩:=((HA.out.keep dJ.out).row j hj)
    cases e'
    obtain⟨mP,_,_⟩:=eh.out _ (Ld hj);rw[HX.out] at bS;have hc:=fun n=>jE ni A0 mh k0 cs[j].inp xi (by omega) (by omega) (w1.drewN n) (U0.more dJ.out.size) M0.out
    rw[show xx ((zm cs (j+1)).map Cs.inp) xi=bo by have:=bu.out;rwa[HX.out] at this] at bS;obtain⟨r,hr⟩:=Kh (zh cs[j].inp xi);rw[hr] at bS hc;have cB:=zH bS;obtain⟨nl,eq⟩:=Kh (cs[j].inp.length);rw[eq] at u0 hc mP;have HC:=zH hc;have g1:((j:Int)+1).toNat=j+1:=by omega
    have g3:IntKind.i64.wrap ((j:Int)+1-1)=(j:Int):=by rw[Ly];omega
    have g5:IntKind.i64.wrap ((j:Int)+1)=(j:Int)+1:=by rw[Ly];omega
    clear bS hc hr eq U0 bu HX
    cases bo with
    | true=>
     have g7:decide (0<=r)=Av:=cB.out.symm;have g8:0<=r:=LI g7;have hd:=bf.out (by simp) (by simp);have hR:=zH (ah.out.trans ((aG.out (by rw[hd];decide)).trans hd));clear ah aG aA bf cJ HV HG hd cB;go_wp2_with fail;go_quiet ((go_at_call 111;exact Rk (HC.out _)));clear HC g1 g3 g5 u0;go_wp2_with fail;go_ret;exact⟨zc hR.out.symm,zu dJ.out _⟩
    | false=>
     have g7:decide (0<=r)=Ax:=cB.out.symm;have g8:¬0<=r:=NJ g7;clear cB;go_wp2_with fail;go_quiet ((go_at_call 111;exact Rk (HC.out _)));have cJ:=zH (cJ.out (by simp) (by simp));go_wp2_with fail;refine(HG.out _ (by exact M1.out.keep (zu (Lp _ _) _)) (by exact M2.out.keep (zu (Lp _ _) _))).mono ?_;rintro e w2 ⟨rfl,ae⟩;have tA:=zH (dJ.out.trans ((belD ae).mono dJ.out.size));have DV:=zH (nh.out.trans ((belD ae).mono nh.out.size))
     by_cases hg:gv=0
     . subst hg
       have hR:=zH (ah.out.trans (aA.out cJ.out));go_wp2_with fail
       go_roundw
       case rel=>exact⟨j+1+1,ac,by go_num,hR,DV.out⟩
       case measure=>simp[Aq];omega
     . have hR:=zH (ah.out.trans ((aG.out (by rw[cJ.out];exact hg)).trans cJ.out))
       have e0:(gv != 0)=Av:=by simpa using hg
       go_wp2_with fail;go_ret;exact⟨zc hR.out.symm,tA.out⟩
 obtain rfl:k=cs.length:=by omega
 have HR:=zH (ah.out.trans uf);go_wp2_with fail;go_ret;exact⟨zc HR.out.symm,bX.out⟩
end
end Go.Proofs.YtkledihebeidlaaGreatDoor
