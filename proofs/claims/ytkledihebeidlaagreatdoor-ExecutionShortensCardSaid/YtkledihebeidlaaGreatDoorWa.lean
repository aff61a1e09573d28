/- Merged. -/
import Derived.WalkKit
import Derived.WalkSpells
import Derived.WalkLawsBesides
import Derived.Outline
import Derived.Below
import Derived.Laws.OwnMore
import Derived.Lib.Hide
import Derived.Deep.Draws
import Derived.Deep.AppendLies
import Derived.Test.YtkledihebeidlaaGreatDoorRows
import Derived.ProofKit
import Derived.LaidMore
import Derived.OpenShut
import Derived.Carry
import Derived.Deep.Slices
import Derived.Deep.Fields
import Derived.ChangeSame
import Derived.Stop.Joined
import Derived.Test.YtkledihebeidlaaGreatDoorProg
import Derived.Deep.QuietTactic
import Derived.BigQuiet
import Derived.Laws.StructEq
import Derived.Laws.BitsAllLaws
import Derived.Laws.BitsLemmas
import Derived.StillTactics
import Derived.Shelf.Strings.Builder1
import Derived.Shelf.Small.Wraps
import Derived.Shelf.Strings.BuilderF
import Derived.Shelf.Strings.BuilderK
import Derived.Shelf.Strconv.Itoa0
import Derived.Shelf.Strconv.Itoa1
import Derived.Shelf.LaysM
import Derived.Shelf.Strconv.Itoa2
import Derived.Shelf.Strconv.Itoa3
import Derived.Shelf.Bits.Mul64
import Derived.Shelf.Strings.BuilderCap
import Derived.Shelf.Slices.Equal
import Derived.Ground.Names2Prog
import Derived.Shelf.Slices.Clone
import Derived.Shelf.Slices.SearchI
import Derived.Shelf.Slices.Empties2
open Go.Proofs.Tryz
open Go.Value renaming int->O,slice->I,bool->Ai,agg->Aj,pointer->Ak
open Go.IntKind renaming i64->U
open Option renaming none->Z,some->J
open Go.Obj renaming cells->Ah
open Go.Ending renaming returned->Am
open Go.Proofs.Tryz renaming prog->An
open Go.RowKit renaming Below->Ao,intOf->Aq,Hid->As
open Go renaming Calls->Ap,Value->Au
open Bool renaming true->Av,false->Ax
open List renaming prefix_refl->RG
open Go.Calls renaming quiet_of_same->Rn
namespace Go.Proofs.YtkledihebeidlaaGreatDoor
abbrev Bb:=Option Addr
abbrev Ba:=World
abbrev NF:=@List.range_succ
abbrev Ln:=@if_pos
abbrev Li:=@Array.getElem?_eq_some_iff
abbrev NZ:=@Go.RowKit.Below.heap_alloc
abbrev Lp:=@Go.RowKit.Below.refl
abbrev Lh:=@Nat.le_refl
abbrev LS:=@List.mem_append
abbrev Rh:=@List.mem_cons_of_mem
abbrev Rq:=@List.mem_cons_self
abbrev Ri:=@List.mem_append_left
abbrev Nc:=@List.append_nil
abbrev Pv:=@Nat.add_assoc
abbrev Lu:=@List.take_succ_eq_append_getElem
abbrev LD:=@List.take_length
abbrev LP:=@List.take_zero
abbrev LB:=@Go.Proofs.Tryz.underlying3
abbrev Ru:=@Go.Proofs.Tryz.underlying43
abbrev Pu:=@if_true
abbrev Pw:=@if_false
abbrev Nq:=@Bool.true_and
abbrev Pi:=@Go.run_equalIn_struct
abbrev L4:=@List.map_cons
abbrev ND:=@List.map_nil
abbrev PE:=@and_true
abbrev Nr:=@Bool.eq_iff_iff
abbrev NT:=@not_false_eq_true
abbrev LH:=@List.all_eq_true
abbrev Lj:=@if_neg
abbrev Pa:=@Nat.pow_le_pow_right
abbrev Lr:=@Int.eq_ofNat_of_zero_le
abbrev Ly:=@List.drop_eq_getElem_cons
abbrev NB:=@List.drop_length
abbrev LQ:=@List.drop_zero
abbrev Lm:=@decide_eq_false
abbrev Ll:=@decide_eq_true
abbrev RI:=@decide_true
abbrev P6:=@beq_iff_eq
abbrev PT:=@Bool.eq_false_iff
abbrev Pn:=@Go.World.drewN_drewN
abbrev LZ:=@Go.World.size_alloc
abbrev Ld:=@List.getElem_mem
abbrev LE:=@Nat.lt_of_lt_of_le
abbrev Lw:=@Go.IntKind.wrap_i64
abbrev Ns:=@List.any_eq_true
abbrev L6:=@decide_eq_true_eq
abbrev LK:=@of_decide_eq_true
abbrev NG:=@of_decide_eq_false
set_option maxRecDepth 100000
theorem zH{p:Prop}(h:p):Go.RowKit.Hid p:=h
set_option maxHeartbeats 4000000
section
open Go.RowKit
theorem ZV{p q:Prop}[Decidable p][Decidable q](h:p↔q):decide p=decide q:=by simp[h]
theorem ze{a b:Bool}(h:a=b):Am (Ai a)=Am (Ai b):=by rw[h]
theorem zc{k:IntKind}{a b:Int}(h:a=b):Am (.int k a)=Am (.int k b):=by rw[h]
structure Vw where
 p:Int
 r:Int
 i:Int
 h0:Int
 h1:Int
 h2:Int
 h3:Int
 h4:Int
deriving DecidableEq,Inhabited
def Vw.h(v:Vw):Nat->Int
 | 0=>v.h0
 | 1=>v.h1
 | 2=>v.h2
 | 3=>v.h3
 | _=>v.h4
def Vw.cells(v:Vw):Array Au:=#[O U v.p,O U v.r,O U v.i,O U v.h0,O U v.h1,O U v.h2,O U v.h3,O U v.h4]
theorem Vw.cells_h(v:Vw)(q:Nat)(hq:q<5):v.cells[3+q]?=J (O U (v.h q)):=by
 match q,hq with
 | 0,_=>rfl
 | 1,_=>rfl
 | 2,_=>rfl
 | 3,_=>rfl
 | 4,_=>rfl
def VAt(w:Ba)(B:Nat)(A:Bb)(vs:List Vw):Prop:=
 0<vs.length->∃b off,A=J ⟨b,off,Z⟩/\b<B/\∀(i:Nat) (hi:i<vs.length) (k:Nat) (u:Au),vs[i].cells[k]?=J u->w.cell? ⟨b,off+i*8+k,Z⟩=J u
theorem VAt.keep{w w':Ba}{B:Nat}{A:Bb}{vs:List Vw}(h:VAt w B A vs)(hb:Ao B w w'):VAt w' B A vs:=fun h0=>by
 obtain⟨b,off,e,ac,hc⟩:=h h0;exact⟨b,off,e,ac,fun i hi k u hk=>(hb.cell (p:=⟨b,_,Z⟩) ac).trans (hc i hi k u hk)⟩
theorem VAt.more{w:Ba}{B B':Nat}{A:Bb}{vs:List Vw}(h:VAt w B A vs)(hB:B<=B'):VAt w B' A vs:=fun h0=>by
 obtain⟨b,off,e,ac,hc⟩:=h h0;exact⟨b,off,e,by omega,hc⟩
theorem VAt.take{w:Ba}{B:Nat}{A:Bb}{vs:List Vw}(h:VAt w B A vs)(n:Nat):VAt w B A (vs.take n):=fun h0=>by
 obtain⟨b,off,e,ac,hc⟩:=h (by simp at h0;omega);exact⟨b,off,e,ac,fun i hi k u hk=>hc i (by simp at hi;omega) k u (by simpa using hk)⟩
theorem VAt.row{w:Ba}{B:Nat}{A:Bb}{vs:List Vw}(h:VAt w B A vs)(k:Nat)(hk:k<vs.length) :
  ∃b off,A=J ⟨b,off,Z⟩/\b<B/\w.cell? ⟨b,off+k*8,Z⟩=J (O U vs[k].p)/\w.cell? ⟨b,off+k*8+1,Z⟩=J (O U vs[k].r) /\
   w.cell? ⟨b,off+k*8+2,Z⟩=J (O U vs[k].i)/\w.cell? ⟨b,off+k*8+3,Z⟩=J (O U vs[k].h0)/\w.cell? ⟨b,off+k*8+4,Z⟩=J (O U vs[k].h1) /\
   w.cell? ⟨b,off+k*8+5,Z⟩=J (O U vs[k].h2)/\w.cell? ⟨b,off+k*8+6,Z⟩=J (O U vs[k].h3)/\w.cell? ⟨b,off+k*8+7,Z⟩=J (O U vs[k].h4):=by
 obtain⟨b,off,e,ac,hc⟩:=h (by omega);exact⟨b,off,e,ac,hc k hk 0 _ rfl,hc k hk 1 _ rfl,hc k hk 2 _ rfl,hc k hk 3 _ rfl,hc k hk 4 _ rfl,hc k hk 5 _ rfl,hc k hk 6 _ rfl,hc k hk 7 _ rfl⟩
def yf(v:Vw)(k:Nat):List (Int×Int):=if 0<v.r then (List.range k).filterMap fun q=>if 0<=v.h q then J ((q:Int),v.h q) else Z else []
def yn(v:Vw):List (Int×Int):=yf v 5
theorem uo{v:Vw}{k:Nat}(hr:0<v.r)(hq:0<=v.h k):yf v (k+1)=yf v k++[((k:Int),v.h k)]:=by
 simp[yf,hr,List.range_succ,List.filterMap_append,hq]
theorem qV{v:Vw}{k:Nat}(hq:¬(0<v.r/\0<=v.h k)):yf v (k+1)=yf v k:=by
 unfold yf
 by_cases hr:0<v.r
 . have:¬0<=v.h k:=fun h=>hq ⟨hr,h⟩
   simp[hr,List.range_succ,List.filterMap_append,this]
 simp[hr]
theorem wS{v:Vw}{k m:Nat}(h:k<=m):yf v k <+: yf v m:=by
 induction m with
 | zero => obtain rfl : k = 0 := by omega
           exact RG _
 | succ m ih=>
  by_cases e:k=m+1
  . subst e;exact RG _
  . refine(ih (by omega)).trans ?_
    by_cases hq:0<v.r/\0<=v.h m
    . rw[uo hq.1 hq.2];exact List.prefix_append _ _
    . rw[qV hq];exact RG _
theorem qj{v:Vw}{x:Int×Int}:x∈yn v↔0<v.r/\∃q:Nat,q<5/\x=((q:Int),v.h q)/\0<=v.h q:=by
 unfold yn yf
 split
 . rename_i hr
   simp only[List.mem_filterMap,List.mem_range,hr,true_and];constructor
   . rintro⟨q,hq,h⟩
     split at h
     . rename_i h0
       cases h
       exact⟨q,hq,rfl,h0⟩
     cases h
   rintro⟨q,hq,rfl,h0⟩;exact⟨q,hq,by rw[Ln h0]⟩
 rename_i hr;simp[hr]
def IAt(w:Ba)(B:Nat)(A:Bb)(xs:List Int):Prop:=
 0<xs.length->∃b off,A=J ⟨b,off,Z⟩/\b<B/\∀(i:Nat) (hi:i<xs.length),w.cell? ⟨b,off+i,Z⟩=J (O U xs[i])
theorem IAt.keep{w w':Ba}{B:Nat}{A:Bb}{xs:List Int}(h:IAt w B A xs)(hb:Ao B w w'):IAt w' B A xs:=fun h0=>by
 obtain⟨b,off,e,ac,hc⟩:=h h0;exact⟨b,off,e,ac,fun i hi=>(hb.cell (p:=⟨b,_,Z⟩) ac).trans (hc i hi)⟩
theorem IAt.more{w:Ba}{B B':Nat}{A:Bb}{xs:List Int}(h:IAt w B A xs)(hB:B<=B'):IAt w B' A xs:=fun h0=>by
 obtain⟨b,off,e,ac,hc⟩:=h h0;exact⟨b,off,e,by omega,hc⟩
theorem IAt.at_{w:Ba}{B:Nat}{A:Bb}{xs:List Int}(h:IAt w B A xs)(k:Nat)(hk:k<xs.length):∃b off,A=J ⟨b,off,Z⟩/\b<B/\w.cell? ⟨b,off+k,Z⟩=J (O U xs[k]):=by
 obtain⟨b,off,e,ac,hc⟩:=h (by omega);exact⟨b,off,e,ac,hc k hk⟩
theorem IAt.nil(w:Ba)(B:Nat)(A:Bb):IAt w B A []:=fun h=>absurd h (by simp)
theorem IAt.of_own{w:Ba}{aa:Nat}{e:TypeId}{A:Bb}{n c:Nat}{xs:List Int}(h:w.ownsRow aa e 1 (I A n c) n (xs.map (O U))):IAt w w.heap.size A xs:=fun h0=>by
 have hn:xs.length=n:=by simpa using h.1
 obtain⟨g,cap,hv,_,ac⟩:=h.form (by omega);have hA:A=J ⟨g,0,Z⟩:=by injection hv
 subst hA;refine⟨g,0,rfl,ac,fun i hi=>?_⟩;have:=h.cells (g:=g) rfl i (O U xs[i]) (by simp[hi]);rw[show(⟨g,0,Z⟩:Addr).add i=⟨g,0+i,Z⟩ from by unfold Addr.add;split<;>simp_all] at this;exact this
theorem za{w:Ba}{g:Nat}{t:TypeId}{cs:Array Au}(h:w.heap[g]?=J (Ah cs t (0,0)))(i:Nat){u:Au}(hu:cs[i]?=J u):w.cell? ⟨g,i,Z⟩=J u:=by
 rw[cell_of_row w g i cs t (0,0) h];exact hu
theorem Ka{w:Ba}{b:Nat}{v0 v1:Au}{l:List Au}{t:TypeId}(h:w.heap[b]?=J (Ah ⟨v0::v1::l⟩ t (0,0))):w.cell? ⟨b,0,Z⟩=J v0/\w.cell? ⟨b,1,Z⟩=J v1/\True:=⟨za h 0 rfl,za h 1 rfl,trivial⟩
theorem Kb{w:Ba}{b:Nat}{v0 v1 v2 v3:Au}{l:List Au}{t:TypeId}(h:w.heap[b]?=J (Ah ⟨v0::v1::v2::v3::l⟩ t (0,0))):w.cell? ⟨b,0,Z⟩=J v0/\w.cell? ⟨b,1,Z⟩=J v1/\w.cell? ⟨b,2,Z⟩=J v2/\w.cell? ⟨b,3,Z⟩=J v3/\True:=⟨za h 0 rfl,za h 1 rfl,za h 2 rfl,za h 3 rfl,trivial⟩
theorem Kc{w:Ba}{b:Nat}{v0 v1 v2:Au}{l:List Au}{t:TypeId}(h:w.heap[b]?=J (Ah ⟨v0::v1::v2::l⟩ t (0,0))):w.cell? ⟨b,0,Z⟩=J v0/\w.cell? ⟨b,1,Z⟩=J v1/\w.cell? ⟨b,2,Z⟩=J v2/\True:=⟨za h 0 rfl,za h 1 rfl,za h 2 rfl,trivial⟩
theorem Ke{w:Ba}{b:Nat}{v0 v1 v2 v3 v4 v5 v6 v7:Au}{l:List Au}{t:TypeId}(h:w.heap[b]?=J (Ah ⟨v0::v1::v2::v3::v4::v5::v6::v7::l⟩ t (0,0))):w.cell? ⟨b,0,Z⟩=J v0/\w.cell? ⟨b,1,Z⟩=J v1/\w.cell? ⟨b,2,Z⟩=J v2/\w.cell? ⟨b,3,Z⟩=J v3/\w.cell? ⟨b,4,Z⟩=J v4/\w.cell? ⟨b,5,Z⟩=J v5/\w.cell? ⟨b,6,Z⟩=J v6/\w.cell? ⟨b,7,Z⟩=J v7/\True:=⟨za h 0 rfl,za h 1 rfl,za h 2 rfl,za h 3 rfl,za h 4 rfl,za h 5 rfl,za h 6 rfl,za h 7 rfl,trivial⟩
theorem Kf{w:Ba}{b:Nat}{v0 v1 v2 v3 v4 v5 v6:Au}{l:List Au}{t:TypeId}(h:w.heap[b]?=J (Ah ⟨v0::v1::v2::v3::v4::v5::v6::l⟩ t (0,0))):w.cell? ⟨b,0,Z⟩=J v0/\w.cell? ⟨b,1,Z⟩=J v1/\w.cell? ⟨b,2,Z⟩=J v2/\w.cell? ⟨b,3,Z⟩=J v3/\w.cell? ⟨b,4,Z⟩=J v4/\w.cell? ⟨b,5,Z⟩=J v5/\w.cell? ⟨b,6,Z⟩=J v6/\True:=⟨za h 0 rfl,za h 1 rfl,za h 2 rfl,za h 3 rfl,za h 4 rfl,za h 5 rfl,za h 6 rfl,trivial⟩
theorem Kg{w:Ba}{b:Nat}{v0 v1 v2 v3 v4 v5:Au}{l:List Au}{t:TypeId}(h:w.heap[b]?=J (Ah ⟨v0::v1::v2::v3::v4::v5::l⟩ t (0,0))):w.cell? ⟨b,0,Z⟩=J v0/\w.cell? ⟨b,1,Z⟩=J v1/\w.cell? ⟨b,2,Z⟩=J v2/\w.cell? ⟨b,3,Z⟩=J v3/\w.cell? ⟨b,4,Z⟩=J v4/\w.cell? ⟨b,5,Z⟩=J v5/\True:=⟨za h 0 rfl,za h 1 rfl,za h 2 rfl,za h 3 rfl,za h 4 rfl,za h 5 rfl,trivial⟩
theorem Kh{α:Sort _}(a:α):∃u,a=u:=⟨_,rfl⟩
theorem yg{w:Ba}{b:Nat}{v0 v1 v2 v3 v4 v5 v6 v7 v8 v9:Au}{l:List Au}{t:TypeId}(h:w.heap[b]?=J (Ah ⟨v0::v1::v2::v3::v4::v5::v6::v7::v8::v9::l⟩ t (0,0))):w.cell? ⟨b,0,Z⟩=J v0/\w.cell? ⟨b,1,Z⟩=J v1/\w.cell? ⟨b,2,Z⟩=J v2/\w.cell? ⟨b,3,Z⟩=J v3/\w.cell? ⟨b,4,Z⟩=J v4/\w.cell? ⟨b,5,Z⟩=J v5/\w.cell? ⟨b,6,Z⟩=J v6/\w.cell? ⟨b,7,Z⟩=J v7/\w.cell? ⟨b,8,Z⟩=J v8/\w.cell? ⟨b,9,Z⟩=J v9:=
 ⟨za h 0 rfl,za h 1 rfl,za h 2 rfl,za h 3 rfl,za h 4 rfl,za h 5 rfl,za h 6 rfl,za h 7 rfl,za h 8 rfl,za h 9 rfl⟩
theorem zb{w:Ba}{g:Nat}{t:TypeId}{cs:Array Au}(h:w.heap[g]?=J (Ah cs t (0,0)))(i:Nat):w.frozen? ⟨g,i,Z⟩=Ax:=by
 simp[World.frozen?,h]
theorem zd{w:Ba}{g:Nat}{o:Obj}(h:w.heap[g]?=J o):g<w.heap.size:=(Li.1 h).1
theorem La{w w':Ba}{k:Nat}{o:Obj}(h:Ao w.heap.size w w')(e:w.heap[k]?=J o):w'.heap[k]?=J o:=(h.block _ (zd e)).trans e
theorem Lb{n k:Nat}{w w':Ba}{x:Option Obj}(h:Ao n w w')(o:k<n)(e:w.heap[k]?=x):w'.heap[k]?=x:=(h.block _ o).trans e
theorem Lc{w w1 w2:Ba}(h:Ao w.heap.size w w1)(g:Ao w1.heap.size w1 w2):Ao w.heap.size w w2:=h.trans (g.mono h.size)
theorem zh(w:Ba)(o:Obj):(w.alloc o).heap[w.heap.size]?=J o:=heap_alloc_new w o
theorem zB{w:Ba}{g:Nat}{o:Obj}(h:w.heap[g]?=J o)(o':Obj):(w.alloc o').heap[g]?=J o:=(NZ w o' g (zd h)).trans h
theorem Zv{w w':Ba}{g B:Nat}{o:Obj}(h:w.heap[g]?=J o)(hb:Ao B w w')(hg:g<B):w'.heap[g]?=J o:=(hb.block g hg).trans h
theorem zw(w:Ba)(a:Obj):Ao w.heap.size w (w.alloc a):=(Lp _ _).alloc (Lh _) _
theorem xX(w:Ba)(a b:Obj):Ao w.heap.size w ((w.alloc a).alloc b):=(zw w a).alloc (by simp) _
theorem bel3(w:Ba)(a b c:Obj):Ao w.heap.size w (((w.alloc a).alloc b).alloc c):=(xX w a b).alloc (by simp;omega) _
theorem wp_one{P:Program}{c:Code}{Q:Exit->Act->Ba->Prop}{a:Act}{w:Ba}{c1:Array Au}{t1:TypeId}
  (h:∀W0:Ba,W0.heap[w.heap.size]?=J (Ah c1 t1)->W0.heap.size=w.heap.size+1->Ao w.heap.size w W0->c.wp P Q a W0):c.wp P Q a (w.alloc (Ah c1 t1)):=
 h _ (zh _ _) (by simp) (zw w _)
theorem vK{B:Nat}{w w':Ba}(h:Ao B w.drew w'):Ao B w w':=⟨h.os,h.tape,h.output,h.size,h.block⟩
theorem belD{B:Nat}{w w':Ba}{n:Nat}(h:Ao B (w.drewN n) w'):Ao B w w':=⟨h.os,h.tape,h.output,h.size,h.block⟩
theorem zx{B:Nat}{a w:Ba}(h:Ao B a w)(n:Nat):Ao B a (w.drewN n):=⟨h.os,h.tape,h.output,h.size,h.block⟩
end
section
open Go.ChangeShapes Go.WideShapes Go.ChangeAt Go.RowKit Go.Deep
section
variable {H:Type} {enc:TypeId×Au->H} {P:Program}
theorem XA{f:Func}{s:ChangeSpec}{apart fresh pp D9:Bool}{W W':Ba}{args:Array Au}{v:Au}{ds gs:List (DataW H)}{before pa pv:List MemPlace}
  (hW:DataW.Whole enc P f.params.toList s.vars apart W args.toList ds gs before)
  (aR:∀(b:Nat) (sp:Nat->Bool) (hd:Bool),DataW.TrodAll enc P W' b sp hd f.resultTypes.toList (v.resultList f.resultTypes.size) (s.fn H (ds++gs)).results [])
  (ry:∀sp:Nat->Bool,(∀p∈before,sp p.block=Av)->DataW.TrodAll enc P W' 0 sp Av f.params.toList args.toList (s.fn H (ds++gs)).args pa)
  (fl:∀sp:Nat->Bool,(∀p∈before,sp p.block=Av)->DataW.TrodVars enc P W' sp s.vars (s.fn H (ds++gs)).vars pv)
  (mW:before=pa++pv) (hb:Ao W.heap.size W W')
  (Fp:∀(j:Nat) (t:TypeId) (r:Au),f.resultTypes[j]?=J t->(v.resultList f.resultTypes.size)[j]?=J r->Value.okWide P W' .any 0 t r) :
  s.post enc P f apart fresh pp D9 W args v W':=by
 have ac:∀p∈before,p.block<W.heap.size:=fun p hp=>hW.lt p hp
 have hold:∀p∈before,(fun b=>decide (b<W.heap.size)) p.block=Av:=fun p hp=>by simpa using ac p hp
 refine⟨ds,gs,before,[],pa,pv,hW,aR _ _ _,ry _ hold,fl _ hold,World.keptBut_mono (fun p hp=>⟨hp,?_⟩) (hb.frame (·∈before)),fun _=>?_⟩
 . rw[mW,LS] at hp
   exact Or.inr hp
 obtain⟨_,_,_,_,_,hz,hn⟩:=hW;refine⟨Fp,_,_,([]++pa)++pv,⟨[]++pa,pv,trodAll_append (ry _ (fun _ _=>rfl)) (aR _ _ _),fl _ (fun _ _=>rfl),rfl,?_,?_⟩,?_⟩
 . intro b off hp
   have bZ:MemPlace.cell b off∈before:=by rw[mW];simpa using hp
   rw[hb.frozen (ac _ bZ)];exact hz b off bZ
 . intro ha
   have:=hn ha;rw[mW] at this;simpa using this
 intro p hp _;rw[mW];simpa using hp
theorem jg(hl:laidOutB P=Av){W W':Ba}{sp:Nat->Bool}(hb:Ao W.heap.size W W') :
  ∀ {ts:List TypeId} {vs:List Au} {ds:List (DataW H)} {ps:List MemPlace},(∀t∈ts,P.readableRec t=Av/\t<P.types.size)->DataW.TrodAll enc P W 0 (fun _=>Av) Av ts vs ds ps ->
   (∀x∈ps,x.block<W.heap.size)->(∀x∈ps,sp x.block=Av)->DataW.TrodAll enc P W' 0 sp Av ts vs ds ps
 | [],[],[],_,_,h,_,_=>h
 | _::_,_::_,_::_,_,hT,⟨p,q,h1,h2,e⟩,ac,hs=>by
  subst e;refine⟨p,q,?_,jg hl hb (fun t ht=>hT t (Rh _ ht)) h2 (fun x hx=>ac x (List.mem_append_right _ hx)) (fun x hx=>hs x (List.mem_append_right _ hx)),rfl⟩;have hh:=hT _ (Rq ..);exact WideElems.Trod_stays hl hh.1 hh.2 h1 (fun x hx=>hb.same (ac x (Ri _ hx))) (fun x hx=>hs x (Ri _ hx))
theorem XU{C:Checked}{os:Os}{f:FuncId}{fn:Func}{s:ChangeSpec}{X:Ba->Array Au->Prop}{tb:TypeId}(dk:os.Started)
  (hX:∀(w w':Ba) (args:Array Au),w.heap=w'.heap->X w args->X w' args) (own:ownKnob C.prog.godebug=Z) (se:C.prog.inits.idxOf? f=Z) (IP:C.prog.funcs[f]?=J fn)
  (oH:∃(w:Ba) (tape:Tape) (i:Input),w.os=os/\(w.forCall tape i).Shaped C.prog/\i.vars=[]/\Input.okWide C.prog (w.forCall tape i) .any w.heap.size f i /\
   ((s.pre enc C.prog fn [] Ax (w.forCall tape i).memory i.args/\X (w.forCall tape i).memory i.args)/\sizedMet enc C.prog fn (OpenSpec.ofChange s) Ax (w.forCall tape i).memory i.args)/\({}:Assume).holds C.prog (lone (Frame.enter C.prog f i.args .normal) [] (w.forCall tape i)))
  (aR:fn.resultTypes=#[tb]) (rx:C.prog.underlying tb=J .bool) (hl:laidOutB C.prog=Av) (CL:∀t∈fn.params.toList,C.prog.readableRec t=Av/\t<C.prog.types.size) (fl:s.vars=[])
  (hs:∀ds:List (DataW H),ds.length=fn.params.size->s.fn H ds={ results:=[.lit (.bool Av)],args:=ds })
  (walk:∀(W:Ba) (aa:Nat) (args:Array Au) (ds:List (DataW H)) (ps:List MemPlace),(∀(j:Nat) t v,fn.params[j]?=J t->args[j]?=J v->Value.okWide C.prog W .any aa t v) ->
   DataW.TrodAll enc C.prog W 0 (fun _=>Av) Av fn.params.toList args.toList ds ps->(DataW.weightsEach C.prog fn.params.toList ds).all (·<=reachBytes)=Av->(∀x∈ps,x.block<W.heap.size)->X W args ->
   Ap C.prog f args W fun e W'=>e=Am (Ai Av)/\Ao W.heap.size W W') :
  ReturnsInHanded {} C os f .any (fun w args=>(s.pre enc C.prog fn [] Ax w args/\X w args)/\sizedMet enc C.prog fn (OpenSpec.ofChange s) Ax w args) (s.post enc C.prog fn Ax Av Ax Ax):=by
 refine returnsInHanded_of_change_and (C:=C) (X:=X) hX own dk se IP oH ?_;intro W aa args ds gs before Cy hW _ bn hL _;have mr:=hW;obtain⟨p,q,mv,hV,Fo,VN,hnd⟩:=hW;have hA:DataW.TrodAll enc C.prog W 0 (fun _=>Av) Av fn.params.toList args.toList ds p:=mv
 have nU:gs=[]/\q=[]:=by
  rw[fl] at hV;exact trodVars_none hV
 obtain⟨rfl,rfl⟩:=nU
 have aO:∀ {ts:List TypeId} {vs:List Au} {ds:List (DataW H)} {ps:List MemPlace},DataW.TrodAll enc C.prog W 0 (fun _=>Av) Av ts vs ds ps->ds.length=ts.length:=by
  intro ts
  induction ts with
  | nil=>intro vs ds ps h;obtain⟨_,rfl,_⟩:=trodAll_nil h;rfl
  | cons t ts ih=>intro vs ds ps h;obtain⟨_,_,_,_,_,_,_,rfl,_,_,h2⟩:=trodAll_cons h;simp[ih h2]
 have IV:ds.length=fn.params.size:=by rw[aO hA];simp
 have FI:before=p:=by rw[Fo,Nc]
 subst FI;have ac:∀x∈before,x.block<W.heap.size:=fun x hx=>mr.lt x hx
 have oO:(DataW.weightsEach C.prog fn.params.toList ds).all (·<=reachBytes)=Av:=by
  have e:s.plain.varTypes C.prog=[]:=by simp[ChangeSpec.plain,DataSpec.varTypes,fl]
  rw[e,Nc,Nc] at bn;exact bn
 refine(walk W aa args ds before Cy hA oO ac hL).mono fun e W' ⟨he,hb⟩=>?_
 subst he;refine⟨_,rfl,XA (pa:=before) (pv:=[]) mr ?_ ?_ ?_ (by rw[Nc]) hb ?_⟩
 . intro b sp hd
   rw[Nc,hs ds IV,aR];exact trodAll_mk1 (shut_bool rx _)
 . intro sp OX
   rw[Nc,hs ds IV];exact jg hl hb CL hA ac OX
 . intro sp OX
   rw[Nc,hs ds IV,fl]
   rfl
 exact ok_one aR rfl (okWide_bool_mk rx _)
end
theorem xB:An.cellsOf 3=1:=by kernel_rfl
theorem cells5:An.cellsOf 43=5:=by kernel_rfl
theorem XZ:laidOutB An=Av:=by kernel_rfl
theorem lawOwn:ownKnob An.godebug=Z:=by kernel_rfl
end
section
open Go.RowKit
structure Rd where
 n:Int
 h0:Int
 h1:Int
 h2:Int
 h3:Int
 h4:Int
 f:Int
deriving DecidableEq,Inhabited
def Rd.h(r:Rd):Nat->Int
 | 0=>r.h0
 | 1=>r.h1
 | 2=>r.h2
 | 3=>r.h3
 | _=>r.h4
def Rd.cells(r:Rd):Array Au:=#[O U r.n,O U r.h0,O U r.h1,O U r.h2,O U r.h3,O U r.h4,O U r.f]
structure Mv where
 r:Rd
 to:Int
deriving DecidableEq,Inhabited
def Mv.cells(m:Mv):Array Au:=#[O U m.r.n,O U m.r.h0,O U m.r.h1,O U m.r.h2,O U m.r.h3,O U m.r.h4,O U m.r.f,O U m.to]
structure Cs where
 inp:List Int
 out:List (List Int)
 calm:List (List Int)
deriving DecidableEq,Inhabited
structure Tk where
 n:Int
 ins:Int
 outs:Int
 cases:List Cs
deriving DecidableEq,Inhabited
structure Ad where
 n:Int
 sts:List (List Mv)
deriving DecidableEq,Inhabited
structure Pb where
 t:Tk
 a:Ad
 k:Int
deriving DecidableEq,Inhabited
structure Exn where
 c:Int
 word:List Rd
 views:List (List Int)
deriving DecidableEq,Inhabited
structure Sy where
 p:Pb
 n:Int
 vs:List Vw
 xs:List Exn
deriving DecidableEq,Inhabited
section
variable {w w':Ba} {B B':Nat} {A:Bb}
def LAt(w:Ba)(B:Nat)(A:Bb)(xss:List (List Int)):Prop:=
 0<xss.length->∃b off,A=J ⟨b,off,Z⟩/\b<B/\∀(i:Nat) (hi:i<xss.length),∃A' c,w.cell? ⟨b,off+i,Z⟩=J (I A' xss[i].length c)/\IAt w B A' xss[i]
theorem LAt.keep{xss:List (List Int)}(h:LAt w B A xss)(hb:Ao B w w'):LAt w' B A xss:=fun h0=>by
 obtain⟨b,off,e,ac,hc⟩:=h h0;refine⟨b,off,e,ac,fun i hi=>?_⟩;obtain⟨A',c,h1,h2⟩:=hc i hi;exact⟨A',c,(hb.cell (p:=⟨b,_,Z⟩) ac).trans h1,h2.keep hb⟩
theorem LAt.more{xss:List (List Int)}(h:LAt w B A xss)(hB:B<=B'):LAt w B' A xss:=fun h0=>by
 obtain⟨b,off,e,ac,hc⟩:=h h0;refine⟨b,off,e,by omega,fun i hi=>?_⟩;obtain⟨A',c,h1,h2⟩:=hc i hi;exact⟨A',c,h1,h2.more hB⟩
theorem LAt.at_{xss:List (List Int)}(h:LAt w B A xss)(i:Nat)(hi:i<xss.length):∃b off A' c,A=J ⟨b,off,Z⟩/\b<B/\w.cell? ⟨b,off+i,Z⟩=J (I A' xss[i].length c)/\IAt w B A' xss[i]:=by
 obtain⟨b,off,e,ac,hc⟩:=h (by omega);obtain⟨A',c,h1,h2⟩:=hc i hi;exact⟨b,off,A',c,e,ac,h1,h2⟩
theorem LAt.nil(w:Ba)(B:Nat)(A:Bb):LAt w B A []:=fun h=>absurd h (by simp)
def RAt(w:Ba)(B:Nat)(A:Bb)(rs:List Rd):Prop:=
 0<rs.length->∃b off,A=J ⟨b,off,Z⟩/\b<B/\∀(i:Nat) (hi:i<rs.length) (k:Nat) (u:Au),rs[i].cells[k]?=J u->w.cell? ⟨b,off+i*7+k,Z⟩=J u
theorem RAt.keep{rs:List Rd}(h:RAt w B A rs)(hb:Ao B w w'):RAt w' B A rs:=fun h0=>by
 obtain⟨b,off,e,ac,hc⟩:=h h0;exact⟨b,off,e,ac,fun i hi k u hk=>(hb.cell (p:=⟨b,_,Z⟩) ac).trans (hc i hi k u hk)⟩
theorem RAt.more{rs:List Rd}(h:RAt w B A rs)(hB:B<=B'):RAt w B' A rs:=fun h0=>by
 obtain⟨b,off,e,ac,hc⟩:=h h0;exact⟨b,off,e,by omega,hc⟩
theorem RAt.row{rs:List Rd}(h:RAt w B A rs)(k:Nat)(hk:k<rs.length) :
  ∃b off,A=J ⟨b,off,Z⟩/\b<B/\w.cell? ⟨b,off+k*7,Z⟩=J (O U rs[k].n)/\w.cell? ⟨b,off+k*7+1,Z⟩=J (O U rs[k].h0) /\
   w.cell? ⟨b,off+k*7+2,Z⟩=J (O U rs[k].h1)/\w.cell? ⟨b,off+k*7+3,Z⟩=J (O U rs[k].h2)/\w.cell? ⟨b,off+k*7+4,Z⟩=J (O U rs[k].h3) /\
   w.cell? ⟨b,off+k*7+5,Z⟩=J (O U rs[k].h4)/\w.cell? ⟨b,off+k*7+6,Z⟩=J (O U rs[k].f):=by
 obtain⟨b,off,e,ac,hc⟩:=h (by omega);exact⟨b,off,e,ac,hc k hk 0 _ rfl,hc k hk 1 _ rfl,hc k hk 2 _ rfl,hc k hk 3 _ rfl,hc k hk 4 _ rfl,hc k hk 5 _ rfl,hc k hk 6 _ rfl⟩
def MAt(w:Ba)(B:Nat)(A:Bb)(ms:List Mv):Prop:=
 0<ms.length->∃b off,A=J ⟨b,off,Z⟩/\b<B/\∀(i:Nat) (hi:i<ms.length) (k:Nat) (u:Au),ms[i].cells[k]?=J u->w.cell? ⟨b,off+i*8+k,Z⟩=J u
theorem MAt.keep{ms:List Mv}(h:MAt w B A ms)(hb:Ao B w w'):MAt w' B A ms:=fun h0=>by
 obtain⟨b,off,e,ac,hc⟩:=h h0;exact⟨b,off,e,ac,fun i hi k u hk=>(hb.cell (p:=⟨b,_,Z⟩) ac).trans (hc i hi k u hk)⟩
theorem MAt.more{ms:List Mv}(h:MAt w B A ms)(hB:B<=B'):MAt w B' A ms:=fun h0=>by
 obtain⟨b,off,e,ac,hc⟩:=h h0;exact⟨b,off,e,by omega,hc⟩
theorem MAt.row{ms:List Mv}(h:MAt w B A ms)(k:Nat)(hk:k<ms.length) :
  ∃b off,A=J ⟨b,off,Z⟩/\b<B/\w.cell? ⟨b,off+k*8,Z⟩=J (O U ms[k].r.n)/\w.cell? ⟨b,off+k*8+1,Z⟩=J (O U ms[k].r.h0) /\
   w.cell? ⟨b,off+k*8+2,Z⟩=J (O U ms[k].r.h1)/\w.cell? ⟨b,off+k*8+3,Z⟩=J (O U ms[k].r.h2)/\w.cell? ⟨b,off+k*8+4,Z⟩=J (O U ms[k].r.h3) /\
   w.cell? ⟨b,off+k*8+5,Z⟩=J (O U ms[k].r.h4)/\w.cell? ⟨b,off+k*8+6,Z⟩=J (O U ms[k].r.f)/\w.cell? ⟨b,off+k*8+7,Z⟩=J (O U ms[k].to):=by
 obtain⟨b,off,e,ac,hc⟩:=h (by omega);exact⟨b,off,e,ac,hc k hk 0 _ rfl,hc k hk 1 _ rfl,hc k hk 2 _ rfl,hc k hk 3 _ rfl,hc k hk 4 _ rfl,hc k hk 5 _ rfl,hc k hk 6 _ rfl,hc k hk 7 _ rfl⟩
def SAt(w:Ba)(B:Nat)(A:Bb)(xss:List (List Mv)):Prop:=
 0<xss.length->∃b off,A=J ⟨b,off,Z⟩/\b<B/\∀(i:Nat) (hi:i<xss.length),∃A' c,w.cell? ⟨b,off+i,Z⟩=J (I A' xss[i].length c)/\MAt w B A' xss[i]
theorem SAt.keep{xss:List (List Mv)}(h:SAt w B A xss)(hb:Ao B w w'):SAt w' B A xss:=fun h0=>by
 obtain⟨b,off,e,ac,hc⟩:=h h0;refine⟨b,off,e,ac,fun i hi=>?_⟩;obtain⟨A',c,h1,h2⟩:=hc i hi;exact⟨A',c,(hb.cell (p:=⟨b,_,Z⟩) ac).trans h1,h2.keep hb⟩
theorem SAt.more{xss:List (List Mv)}(h:SAt w B A xss)(hB:B<=B'):SAt w B' A xss:=fun h0=>by
 obtain⟨b,off,e,ac,hc⟩:=h h0;refine⟨b,off,e,by omega,fun i hi=>?_⟩;obtain⟨A',c,h1,h2⟩:=hc i hi;exact⟨A',c,h1,h2.more hB⟩
theorem SAt.at_{xss:List (List Mv)}(h:SAt w B A xss)(i:Nat)(hi:i<xss.length):∃b off A' c,A=J ⟨b,off,Z⟩/\b<B/\w.cell? ⟨b,off+i,Z⟩=J (I A' xss[i].length c)/\MAt w B A' xss[i]:=by
 obtain⟨b,off,e,ac,hc⟩:=h (by omega);obtain⟨A',c,h1,h2⟩:=hc i hi;exact⟨b,off,A',c,e,ac,h1,h2⟩
theorem SAt.nil(w:Ba)(B:Nat)(A:Bb):SAt w B A []:=fun h=>absurd h (by simp)
def WAt(w:Ba)(B:Nat)(A:Bb)(xss:List (List Rd)):Prop:=
 0<xss.length->∃b off,A=J ⟨b,off,Z⟩/\b<B/\∀(i:Nat) (hi:i<xss.length),∃A' c,w.cell? ⟨b,off+i,Z⟩=J (I A' xss[i].length c)/\RAt w B A' xss[i]
theorem WAt.keep{xss:List (List Rd)}(h:WAt w B A xss)(hb:Ao B w w'):WAt w' B A xss:=fun h0=>by
 obtain⟨b,off,e,ac,hc⟩:=h h0;refine⟨b,off,e,ac,fun i hi=>?_⟩;obtain⟨A',c,h1,h2⟩:=hc i hi;exact⟨A',c,(hb.cell (p:=⟨b,_,Z⟩) ac).trans h1,h2.keep hb⟩
theorem WAt.more{xss:List (List Rd)}(h:WAt w B A xss)(hB:B<=B'):WAt w B' A xss:=fun h0=>by
 obtain⟨b,off,e,ac,hc⟩:=h h0;refine⟨b,off,e,by omega,fun i hi=>?_⟩;obtain⟨A',c,h1,h2⟩:=hc i hi;exact⟨A',c,h1,h2.more hB⟩
theorem WAt.at_{xss:List (List Rd)}(h:WAt w B A xss)(i:Nat)(hi:i<xss.length):∃b off A' c,A=J ⟨b,off,Z⟩/\b<B/\w.cell? ⟨b,off+i,Z⟩=J (I A' xss[i].length c)/\RAt w B A' xss[i]:=by
 obtain⟨b,off,e,ac,hc⟩:=h (by omega);obtain⟨A',c,h1,h2⟩:=hc i hi;exact⟨b,off,A',c,e,ac,h1,h2⟩
def CsV(w:Ba)(B:Nat)(v0 v1 v2:Au)(x:Cs):Prop:=
 (∃A c,v0=I A x.inp.length c/\IAt w B A x.inp)/\(∃A c,v1=I A x.out.length c/\LAt w B A x.out)/\(∃A c,v2=I A x.calm.length c/\LAt w B A x.calm)
theorem CsV.keep{v0 v1 v2:Au}{x:Cs}(h:CsV w B v0 v1 v2 x)(hb:Ao B w w'):CsV w' B v0 v1 v2 x:=by
 obtain⟨⟨A,c,e,h1⟩,⟨A2,c2,e2,h2⟩,⟨A3,c3,e3,h3⟩⟩:=h;exact⟨⟨A,c,e,h1.keep hb⟩,⟨A2,c2,e2,h2.keep hb⟩,⟨A3,c3,e3,h3.keep hb⟩⟩
theorem CsV.more{v0 v1 v2:Au}{x:Cs}(h:CsV w B v0 v1 v2 x)(hB:B<=B'):CsV w B' v0 v1 v2 x:=by
 obtain⟨⟨A,c,e,h1⟩,⟨A2,c2,e2,h2⟩,⟨A3,c3,e3,h3⟩⟩:=h;exact⟨⟨A,c,e,h1.more hB⟩,⟨A2,c2,e2,h2.more hB⟩,⟨A3,c3,e3,h3.more hB⟩⟩
def CAt(w:Ba)(B:Nat)(A:Bb)(cs:List Cs):Prop:=
 0<cs.length->∃b off,A=J ⟨b,off,Z⟩/\b<B/\∀(i:Nat) (hi:i<cs.length),∃v0 v1 v2,w.cell? ⟨b,off+i*3,Z⟩=J v0/\w.cell? ⟨b,off+i*3+1,Z⟩=J v1/\w.cell? ⟨b,off+i*3+2,Z⟩=J v2/\CsV w B v0 v1 v2 cs[i]
theorem CAt.keep{cs:List Cs}(h:CAt w B A cs)(hb:Ao B w w'):CAt w' B A cs:=fun h0=>by
 obtain⟨b,off,e,ac,hc⟩:=h h0;refine⟨b,off,e,ac,fun i hi=>?_⟩;obtain⟨v0,v1,v2,c0,c1,c2,hv⟩:=hc i hi;exact⟨v0,v1,v2,(hb.cell (p:=⟨b,_,Z⟩) ac).trans c0,(hb.cell (p:=⟨b,_,Z⟩) ac).trans c1,(hb.cell (p:=⟨b,_,Z⟩) ac).trans c2,hv.keep hb⟩
theorem CAt.more{cs:List Cs}(h:CAt w B A cs)(hB:B<=B'):CAt w B' A cs:=fun h0=>by
 obtain⟨b,off,e,ac,hc⟩:=h h0;refine⟨b,off,e,by omega,fun i hi=>?_⟩;obtain⟨v0,v1,v2,c0,c1,c2,hv⟩:=hc i hi;exact⟨v0,v1,v2,c0,c1,c2,hv.more hB⟩
theorem CAt.nil(w:Ba)(B:Nat)(A:Bb):CAt w B A []:=fun h=>absurd h (by simp)
theorem CAt.row{cs:List Cs}(h:CAt w B A cs)(i:Nat)(hi:i<cs.length) :
  ∃b off A0 c0 A1 c1 A2 c2,A=J ⟨b,off,Z⟩/\b<B/\w.cell? ⟨b,off+i*3,Z⟩=J (I A0 cs[i].inp.length c0)/\w.cell? ⟨b,off+i*3+1,Z⟩=J (I A1 cs[i].out.length c1)/\w.cell? ⟨b,off+i*3+2,Z⟩=J (I A2 cs[i].calm.length c2) /\
   IAt w B A0 cs[i].inp/\LAt w B A1 cs[i].out/\LAt w B A2 cs[i].calm:=by
 obtain⟨b,off,e,ac,hc⟩:=h (by omega);obtain⟨v0,v1,v2,c0,c1,c2,⟨A0,k0,rfl,h0⟩,⟨A1,k1,rfl,h1⟩,⟨A2,k2,rfl,h2⟩⟩:=hc i hi;exact⟨b,off,A0,k0,A1,k1,A2,k2,e,ac,c0,c1,c2,h0,h1,h2⟩
def XsV(w:Ba)(B:Nat)(v0 v1 v2:Au)(x:Exn):Prop:=
 v0=O U x.c/\(∃A c,v1=I A x.word.length c/\RAt w B A x.word)/\(∃A c,v2=I A x.views.length c/\LAt w B A x.views)
theorem XsV.keep{v0 v1 v2:Au}{x:Exn}(h:XsV w B v0 v1 v2 x)(hb:Ao B w w'):XsV w' B v0 v1 v2 x:=by
 obtain⟨e,⟨A2,c2,e2,h2⟩,⟨A3,c3,e3,h3⟩⟩:=h;exact⟨e,⟨A2,c2,e2,h2.keep hb⟩,⟨A3,c3,e3,h3.keep hb⟩⟩
theorem XsV.more{v0 v1 v2:Au}{x:Exn}(h:XsV w B v0 v1 v2 x)(hB:B<=B'):XsV w B' v0 v1 v2 x:=by
 obtain⟨e,⟨A2,c2,e2,h2⟩,⟨A3,c3,e3,h3⟩⟩:=h;exact⟨e,⟨A2,c2,e2,h2.more hB⟩,⟨A3,c3,e3,h3.more hB⟩⟩
def XAt(w:Ba)(B:Nat)(A:Bb)(xs:List Exn):Prop:=
 0<xs.length->∃b off,A=J ⟨b,off,Z⟩/\b<B/\∀(i:Nat) (hi:i<xs.length),∃v0 v1 v2,w.cell? ⟨b,off+i*3,Z⟩=J v0/\w.cell? ⟨b,off+i*3+1,Z⟩=J v1/\w.cell? ⟨b,off+i*3+2,Z⟩=J v2/\XsV w B v0 v1 v2 xs[i]
theorem XAt.keep{xs:List Exn}(h:XAt w B A xs)(hb:Ao B w w'):XAt w' B A xs:=fun h0=>by
 obtain⟨b,off,e,ac,hc⟩:=h h0;refine⟨b,off,e,ac,fun i hi=>?_⟩;obtain⟨v0,v1,v2,c0,c1,c2,hv⟩:=hc i hi;exact⟨v0,v1,v2,(hb.cell (p:=⟨b,_,Z⟩) ac).trans c0,(hb.cell (p:=⟨b,_,Z⟩) ac).trans c1,(hb.cell (p:=⟨b,_,Z⟩) ac).trans c2,hv.keep hb⟩
theorem XAt.more{xs:List Exn}(h:XAt w B A xs)(hB:B<=B'):XAt w B' A xs:=fun h0=>by
 obtain⟨b,off,e,ac,hc⟩:=h h0;refine⟨b,off,e,by omega,fun i hi=>?_⟩;obtain⟨v0,v1,v2,c0,c1,c2,hv⟩:=hc i hi;exact⟨v0,v1,v2,c0,c1,c2,hv.more hB⟩
theorem XAt.nil(w:Ba)(B:Nat)(A:Bb):XAt w B A []:=fun h=>absurd h (by simp)
theorem XAt.row{xs:List Exn}(h:XAt w B A xs)(i:Nat)(hi:i<xs.length) :
  ∃b off A1 c1 A2 c2,A=J ⟨b,off,Z⟩/\b<B/\w.cell? ⟨b,off+i*3,Z⟩=J (O U xs[i].c)/\w.cell? ⟨b,off+i*3+1,Z⟩=J (I A1 xs[i].word.length c1)/\w.cell? ⟨b,off+i*3+2,Z⟩=J (I A2 xs[i].views.length c2) /\
   RAt w B A1 xs[i].word/\LAt w B A2 xs[i].views:=by
 obtain⟨b,off,e,ac,hc⟩:=h (by omega);obtain⟨v0,v1,v2,c0,c1,c2,rfl,⟨A1,k1,rfl,h1⟩,⟨A2,k2,rfl,h2⟩⟩:=hc i hi;exact⟨b,off,A1,k1,A2,k2,e,ac,c0,c1,c2,h1,h2⟩
end
end
section
open Go.RowKit
attribute [local go_sem] Oper.semAt_some
theorem kG(w:Ba)(n m:Nat):(w.drewN n).drewN m=w.drewN (n+m):=by unfold World.drewN;simp[Nat.add_assoc]
theorem yG{α:Type}{xs ys:List α}{k:Nat}(h:xs.take k=ys.take k)(h1:k<xs.length)(h2:k<ys.length)(he:xs[k]=ys[k]):xs.take (k+1)=ys.take (k+1):=by
 rw[Lu h1,Lu h2,h,he]
theorem xO{α:Type}{xs ys:List α}(hl:xs.length=ys.length)(h:xs.take xs.length=ys.take xs.length):xs=ys:=by
 rw[LD] at h
 conv at h=>rhs;rw[hl,LD]
 exact h
theorem gI(A B:Bb)(ca cb:Nat)(xs ys:List Int)(hx:xs.length<=17592186044416)(_hy:ys.length<=17592186044416)(w:Ba)(hA:IAt w w.heap.size A xs)(hB:IAt w w.heap.size B ys) :
  Ap An 130 #[I A xs.length ca,I B ys.length cb] w fun e w'=>e=Am (Ai (decide (xs=ys)))/\∃n,w'=w.drewN n:=by
 have HA:=zH hA;have HB:=zH hB;have HT:As (∀b,(xs=ys↔b=Av)->decide (xs=ys)=b):=fun b h=>by cases b<;>simp_all
 obtain⟨r,hr⟩:∃r,decide (xs=ys)=r:=⟨_,rfl⟩;rw[hr] at HT ⊢;go_enter func130,ntmps130
 by_cases hl:xs.length=ys.length
 case neg=>
  have hR:As (r=Ax):=HT.out Ax ⟨fun h=>absurd (congrArg List.length h) hl,fun h=>by cases h⟩;have e0:((xs.length:Int) != (ys.length:Int))=Av:=by simp;omega
  go_wp2_with fail;go_ret;exact⟨ze hR.out.symm,0,rfl⟩
 case pos=>
 have HL:=zH hl;rw[<-hl] at _hy ⊢;go_wp2_with fail
 go_loopw [5] (fun i wr=>∃k n:Nat,k<=xs.length/\i=O U (k:Int)/\As (xs.take k=ys.take k)/\As (wr=w.drewN n)) (fun i _=>xs.length-(Aq i).toNat)
 case atStart=>exact⟨0,0,by omega,rfl,by rw[As,LP,LP],rfl⟩
 obtain⟨k,n,hk,rfl,hp,hw⟩:=hrel
 by_cases ac:k<xs.length
 case neg=>
  obtain rfl:k=xs.length:=by omega
  have hR:As (r=Av):=HT.out Av ⟨fun _=>rfl,fun _=>xO HL.out hp.out⟩;go_wp2_with fail;go_ret;exact⟨ze hR.out.symm,n,hw.out⟩
 case pos=>
 have dQ:k<ys.length:=by have:=HL.out;omega
 obtain⟨ba,oa,ea,_,c1⟩:=HA.out.at_ k ac;obtain⟨bb,ob,eb,_,c2⟩:=HB.out.at_ k dQ;subst ea;subst eb;have c1:wr.cell? ⟨ba,oa+k,Z⟩=J (O U xs[k]):=by rw[hw.out];exact c1
 have c2:wr.cell? ⟨bb,ob+k,Z⟩=J (O U ys[k]):=by rw[hw.out];exact c2
 by_cases he:xs[k]=ys[k]
 . have hR:=zH (yG hp.out ac dQ he)
   rw[<-he] at c2;obtain⟨u,hu⟩:=Kh (xs[k]);rw[hu] at c1 c2;go_wp2_with fail;go_quiet (fail);go_wp2_with fail
   go_roundw
   case rel=>exact⟨k+1,n+nq,by omega,by go_num,hR,by rw[As,hw.out,kG]⟩
   simp[Aq];omega
 have hR:As (r=Ax):=HT.out Ax ⟨fun h=>absurd (by subst h;rfl) he,fun h=>by cases h⟩;obtain⟨u,hu⟩:=Kh (xs[k]);obtain⟨v,hv⟩:=Kh (ys[k]);rw[hu,hv] at he;rw[hu] at c1;rw[hv] at c2;have e0:(u != v)=Av:=by simpa using he
 go_wp2_with fail;go_quiet (fail);go_wp2_with fail;go_ret;exact⟨ze hR.out.symm,n+nq,by rw[hw.out,kG]⟩
end
section
open Go.RowKit
theorem zL(xs:Array Au)(i:Nat)(x:Au)(h:xs[i]?=J x)(w:Ba):(part 3 xs i).run An w=.ok x w:=by
 have hi:An.underlying 3=J (.int U):=LB;unfold part isAgg;simp[go_sem,run_underlying hi,h]
def hE(v u:Vw):Bool:=v.h0==u.h0&&(v.h1==u.h1&&(v.h2==u.h2&&(v.h3==u.h3&&v.h4==u.h4)))
theorem Zn(d:Nat)(v u:Vw)(w:Ba):(Op.equalIn (d+2) 43 (Aj #[O U v.h0,O U v.h1,O U v.h2,O U v.h3,O U v.h4]) (Aj #[O U u.h0,O U u.h1,O U u.h2,O U u.h3,O U u.h4])).run An w =
  .ok (hE v u) w:=by
 have hu:An.underlying 43=J (.array 5 3):=Ru;have hi:An.underlying 3=J (.int U):=LB;have hs:(sizeOf 3).run An w=.ok 1 w:=by kernel_rfl
 have p0:=fun x0 x1 x2 x3 x4=>zL #[x0,x1,x2,x3,x4] 0 x0 rfl w
 have p1:=fun x0 x1 x2 x3 x4=>zL #[x0,x1,x2,x3,x4] 1 x1 rfl w
 have p2:=fun x0 x1 x2 x3 x4=>zL #[x0,x1,x2,x3,x4] 2 x2 rfl w
 have p3:=fun x0 x1 x2 x3 x4=>zL #[x0,x1,x2,x3,x4] 3 x3 rfl w
 have p4:=fun x0 x1 x2 x3 x4=>zL #[x0,x1,x2,x3,x4] 4 x4 rfl w
 unfold Op.equalIn hE
 cases h0:(v.h0==u.h0)
 . simp only[Sem.run_bind,run_underlying hu,Result.andThen_ok,hs,Std.Legacy.Range.forIn_eq_forIn_range',Std.Legacy.Range.size,Nat.sub_zero,Nat.add_sub_cancel,Nat.div_one,show List.range' 0 5 1=[0,1,2,3,4] from rfl,List.forIn_cons,List.forIn_nil,p0,Nat.mul_one,run_equalIn_int w d 3 _ _ _ _ hi,h0,Bool.not_false,if_true,Sem.run_pure,Bool.false_and]
 cases h1:(v.h1==u.h1)
 . simp only[Sem.run_bind,run_underlying hu,Result.andThen_ok,hs,Std.Legacy.Range.forIn_eq_forIn_range',Std.Legacy.Range.size,Nat.sub_zero,Nat.add_sub_cancel,Nat.div_one,show List.range' 0 5 1=[0,1,2,3,4] from rfl,List.forIn_cons,List.forIn_nil,p0,p1,Nat.mul_one,run_equalIn_int w d 3 _ _ _ _ hi,h0,h1,Bool.not_false,Bool.not_true,if_true,Bool.false_eq_true,if_false,Sem.run_pure,Bool.true_and,Bool.false_and]
 cases h2:(v.h2==u.h2)
 . simp only[Sem.run_bind,run_underlying hu,Result.andThen_ok,hs,Std.Legacy.Range.forIn_eq_forIn_range',Std.Legacy.Range.size,Nat.sub_zero,Nat.add_sub_cancel,Nat.div_one,show List.range' 0 5 1=[0,1,2,3,4] from rfl,List.forIn_cons,List.forIn_nil,p0,p1,p2,Nat.mul_one,run_equalIn_int w d 3 _ _ _ _ hi,h0,h1,h2,Bool.not_false,Bool.not_true,if_true,Bool.false_eq_true,if_false,Sem.run_pure,Bool.true_and,Bool.false_and]
 cases h3:(v.h3==u.h3)
 . simp only[Sem.run_bind,run_underlying hu,Result.andThen_ok,hs,Std.Legacy.Range.forIn_eq_forIn_range',Std.Legacy.Range.size,Nat.sub_zero,Nat.add_sub_cancel,Nat.div_one,show List.range' 0 5 1=[0,1,2,3,4] from rfl,List.forIn_cons,List.forIn_nil,p0,p1,p2,p3,Nat.mul_one,run_equalIn_int w d 3 _ _ _ _ hi,h0,h1,h2,h3,Bool.not_false,Bool.not_true,if_true,Bool.false_eq_true,if_false,Sem.run_pure,Bool.true_and,Bool.false_and]
 cases h4:(v.h4==u.h4)
 . simp only[Sem.run_bind,run_underlying hu,Result.andThen_ok,hs,Std.Legacy.Range.forIn_eq_forIn_range',Std.Legacy.Range.size,Nat.sub_zero,Nat.add_sub_cancel,Nat.div_one,show List.range' 0 5 1=[0,1,2,3,4] from rfl,List.forIn_cons,List.forIn_nil,p0,p1,p2,p3,p4,Nat.mul_one,run_equalIn_int w d 3 _ _ _ _ hi,h0,h1,h2,h3,h4,Bool.not_false,Bool.not_true,if_true,Bool.false_eq_true,if_false,Sem.run_pure,Bool.true_and]
 simp only[Sem.run_bind,run_underlying hu,Result.andThen_ok,hs,Std.Legacy.Range.forIn_eq_forIn_range',Std.Legacy.Range.size,Nat.sub_zero,Nat.add_sub_cancel,Nat.div_one,show List.range' 0 5 1=[0,1,2,3,4] from rfl,List.forIn_cons,List.forIn_nil,p0,p1,p2,p3,p4,Nat.mul_one,run_equalIn_int w d 3 _ _ _ _ hi,h0,h1,h2,h3,h4,Bool.not_true,Bool.false_eq_true,if_false,Sem.run_pure,Bool.true_and]
theorem jI(d:Nat)(v u:Vw)(w:Ba):(Op.equalIn (d+3) 100 (.agg v.cells) (.agg u.cells)).run An w=.ok (decide (v=u)) w:=by
 have hu:An.underlying 100=J (.struct (An.fieldsOf 100)):=by kernel_rfl
 have hi:An.underlying 3=J (.int U):=LB;have hf : (An.fieldsOf 100).toList.map (fun f => (f.name, f.type, f.offset)) = [("Proc", 3, 0), ("Round", 3, 1), ("Input", 3, 2), ("Heard", 43, 3)] := by kernel_rfl
 rw[Pi w (d+2) 100 _ _ hu (by kernel_rfl)];have p0:∀x:Vw,(part 3 x.cells 0).run An w=.ok (O U x.p) w:=fun x=>zL _ 0 _ rfl w
 have p1:∀x:Vw,(part 3 x.cells 1).run An w=.ok (O U x.r) w:=fun x=>zL _ 1 _ rfl w
 have p2:∀x:Vw,(part 3 x.cells 2).run An w=.ok (O U x.i) w:=fun x=>zL _ 2 _ rfl w
 have p3:∀x:Vw,(part 43 x.cells 3).run An w=.ok (Aj #[O U x.h0,O U x.h1,O U x.h2,O U x.h3,O U x.h4]) w:=fun x=>by unfold Vw.cells;kernel_rfl
 generalize (An.fieldsOf 100).toList=fs at hf
 obtain⟨f0,f1,f2,f3,rfl⟩:∃f0 f1 f2 f3,fs=[f0,f1,f2,f3]:=by
  have hl:fs.length=4:=by simpa using congrArg List.length hf
  rcases fs with _ | ⟨f0,_ | ⟨f1,_ | ⟨f2,_ | ⟨f3,_ | ⟨f4,r⟩⟩⟩⟩⟩<;>simp at hl
  exact⟨_,_,_,_,rfl⟩
 clear hu;simp only[List.map_cons,List.map_nil,List.cons.injEq,Prod.mk.injEq,and_true] at hf;obtain⟨⟨n0,t0,o0⟩,⟨n1,t1,o1⟩,⟨n2,t2,o2⟩,⟨n3,t3,o3⟩⟩:=hf
 have hd:decide (v=u)=(v.p==u.p&&(v.r==u.r&&(v.i==u.i&&hE v u))):=by
  unfold hE;obtain⟨a0,a1,a2,a3,a4,a5,a6,a7⟩:=v;obtain⟨b0,b1,b2,b3,b4,b5,b6,b7⟩:=u;rw[Nr];simp
 rw[hd]
 cases h0:(v.p==u.p)<;>cases h1:(v.r==u.r)<;>cases h2:(v.i==u.i)<;>cases h3:hE v u <;>
  simp only[Op.eqFields,n0,n1,n2,n3,t0,t1,t2,t3,o0,o1,o2,o3,p0,p1,p2,p3,Sem.run_bind,Result.andThen_ok,run_equalIn_int w _ 3 _ _ _ _ hi,Zn,h0,h1,h2,h3,ne_eq,not_false_eq_true,if_true,Bool.not_false,Bool.not_true,Bool.false_eq_true,if_false,Sem.run_pure,Bool.true_and,Bool.false_and,String.reduceEq]
theorem eql_view(v u:Vw)(w:Ba):(binOp .eql 100 (.agg v.cells) (.agg u.cells)).run An w=.ok (Ai (decide (v=u))) w:=by
 simp only[binOp];simp[Op.equal,Op.maxDepth,jI 9997 v u w]
theorem Yy(v u:Vw)(w:Ba):(binOp .neq 100 (.agg v.cells) (.agg u.cells)).run An w=.ok (Ai (decide (v≠u))) w:=by
 simp only[binOp];simp[Op.equal,Op.maxDepth,jI 9997 v u w]
def kW(p:Nat->Bool):Bool:=(List.range 32).all p
theorem j5{p:Nat->Bool}(h:kW p=Av){s:Nat}(hs:s<32):p s=Av:=LH.1 h s (by simpa using hs)
def vt(n:Int):Int:=if n<1\/5<n then 1 else 0
def xA(n s:Int):Int:=if n<1\/5<n then 1 else if s<0\/(2^n.toNat:Nat)<=s then 2 else 0
theorem JJ(n:Int)(w:Ba):Ap An 132 #[O U n] w fun e w'=>e=Am (O U (vt n))/\w=w':=by
 have H:As (vt n=if n<1\/5<n then 1 else 0):=rfl;go_enter func132,ntmps132;go_wp2
 all_goals
  go_ret;refine⟨zc ?_,rfl⟩;rw[H.out]
  first | (rw[Ln (by omega)]) | (rw[Lj (by omega)])
theorem Xt(n:Int)(w:Ba):Ap An 181 #[O U n] w fun e w'=>e=Am (O U (vt n))/\w=w':=by
 have H:As (vt n=if n<1\/5<n then 1 else 0):=rfl;go_enter func181,ntmps181;go_wp2
 all_goals
  go_ret;refine⟨zc ?_,rfl⟩;rw[H.out]
  first | (rw[Ln (by omega)]) | (rw[Lj (by omega)])
theorem procs_ok{n:Int}(h:¬(n<1\/5<n)):n=1\/n=2\/n=3\/n=4\/n=5:=by omega
theorem wF{n:Int}(h:n<1\/5<n):vt n=1:=Ln h
theorem gW{n:Int}(h:¬(n<1\/5<n)):vt n=0:=Lj h
theorem check_any(n s:Int)(w:Ba):Ap An 101 #[O U n,O U s] w fun e w'=>e=Am (O U (xA n s))/\w=w':=by
 have H:As (xA n s=if n<1\/5<n then 1 else if s<0\/(2^n.toNat:Nat)<=s then 2 else 0):=rfl;go_enter func101,ntmps101;go_wp2_with fail;refine(JJ n w).mono ?_;rintro e w' ⟨rfl,rfl⟩
 by_cases hn:n<1\/5<n
 . rw[wF hn]
   rw[Ln hn] at H;go_wp2;go_ret;exact⟨zc H.out.symm,rfl⟩
 rw[gW hn];rw[Lj hn] at H;rcases procs_ok hn with rfl | rfl | rfl | rfl | rfl
 all_goals
  go_wp2
 all_goals
  try simp only[bne_iff_ne,ne_eq,bne_eq_false_iff_eq] at *
  go_ret;refine⟨zc ?_,rfl⟩;rw[H.out]
  first | (rw[Ln (by simp;omega)]) | (rw[Lj (by simp;omega)])
theorem check_ok{n s:Int}(h:xA n s=0):∃m k:Nat,n=(m:Int)/\s=(k:Int)/\1<=m/\m<=5/\k<2^m/\k<32:=by
 unfold xA at h
 split at h
 . cases h
 split at h
 . cases h
 rename_i h1 h2;refine⟨n.toNat,s.toNat,by omega,by omega,by omega,by omega,?_,?_⟩
 . omega
 have:2^n.toNat<=2^5:=Pa (by omega) (by omega);omega
theorem vx(k:Nat)(hk:k<=5)(w:Ba):Ap An 164 #[O U k] w fun e w'=>e=Am (O U ((2^k:Nat):Int))/\w=w':=by
 go_enter func164,ntmps164;go_wp2
 go_loop [3,4] (fun v i=>∃j q:Nat,j<=k/\q=2^j/\q<=32/\v=O U (q:Int)/\i=O U (j:Int)) (fun _ i=>5-(Aq i).toNat)
 case atStart=>exact⟨0,1,by omega,rfl,by omega,rfl,rfl⟩
 obtain⟨j,q,hj,hq,hq2,rfl,rfl⟩:=hrel;have H:As (q=2^j):=hq;clear hq
 by_cases ac:j<k
 . go_wp2
   go_round
   case rel=>
    have h1:q*2=2^(j+1):=by rw[H.out,Nat.pow_succ]
    have h2:(2^(j+1):Nat)<=2^5:=Pa (by omega) (by omega);exact⟨j+1,q*2,by omega,h1,by omega,by go_num,by go_num⟩
   simp[Aq];omega
 obtain rfl:j=k:=by omega
 go_wp2;go_ret;exact⟨by have:=H.out;subst this;simp,rfl⟩
theorem Xy(n s:Int)(w:Ba):Ap An 175 #[O U n,O U s] w fun e w'=>e=Am (O U (xA n s))/\w=w':=by
 have H:As (xA n s=if n<1\/5<n then 1 else if s<0\/(2^n.toNat:Nat)<=s then 2 else 0):=rfl;go_enter func175,ntmps175;go_wp2_with fail;refine(Xt n w).mono ?_;rintro e w' ⟨rfl,rfl⟩
 by_cases hn:n<1\/5<n
 . rw[wF hn]
   rw[Ln hn] at H;go_wp2;go_ret;exact⟨zc H.out.symm,rfl⟩
 rw[gW hn];rw[Lj hn] at H;obtain⟨m,rfl⟩:=Lr (show 0<=n by omega);have hp:=vx m (by omega) w;go_wp2_with fail
 . refine hp.mono ?_
   rintro e w' ⟨rfl,rfl⟩;go_wp2_with fail
   all_goals
    go_ret;refine⟨zc ?_,rfl⟩;rw[H.out]
    first | (rw[Ln (by simp;omega)]) | (rw[Lj (by simp;omega)])
 go_ret;refine⟨zc ?_,rfl⟩;rw[H.out,Ln (by omega)]
def zj:List Int->List Int->Int
 | [],[]=>0
 | [],_::_=>-1
 | _::_,[]=>1
 | a::l,b::m=>if a<b then -1 else if b<a then 1 else zj l m
theorem yC:∀l:List Int,zj l l=0
 | []=>rfl
 | a::l=>by rw[zj,Lj (Int.lt_irrefl a),Lj (Int.lt_irrefl a),yC l]
theorem xQ:∀ {l m:List Int},zj l m=0->l=m
 | [],[],_=>rfl
 | [],_::_,h=>by cases h
 | _::_,[],h=>by cases h
 | a::l,b::m,h=>by
  rw[zj] at h
  split at h
  . cases h
  . split at h
    . cases h
    . rw[xQ h,show a=b by omega]
theorem jl:∀l m:List Int,zj l m=-1\/zj l m=0\/zj l m=1
 | [],[]=>.inr (.inl rfl)
 | [],_::_=>.inl rfl
 | _::_,[]=>.inr (.inr rfl)
 | a::l,b::m=>by
  rw[zj]
  split
  . exact .inl rfl
  . split
    . exact .inr (.inr rfl)
    . exact jl l m
theorem wH{l m:List Int}{k:Nat}(h1:k<l.length)(h2:k<m.length):zj (l.drop k) (m.drop k)=if l[k]<m[k] then -1 else if m[k]<l[k] then 1 else zj (l.drop (k+1)) (m.drop (k+1)):=by
 rw[Ly h1,Ly h2,zj]
theorem vz{l m:List Int}{k:Nat}(h:k=l.length\/k=m.length)(h1:k<=l.length)(h2:k<=m.length):zj (l.drop k) (m.drop k)=if l.length<m.length then -1 else if m.length<l.length then 1 else 0:=by
 rcases h with h | h
 . subst h
   rw[NB]
   by_cases hm:l.length<m.length
   . rw[Ln hm,Ly hm];rfl
   have:m.drop l.length=[]:=List.drop_of_length_le (by omega);rw[this,Lj hm,Lj (by omega)];rfl
 subst h;rw[NB]
 by_cases hm:m.length<l.length
 . rw[Lj (by omega),Ln hm,Ly hm];rfl
 have:l.drop m.length=[]:=List.drop_of_length_le (by omega);rw[this,Lj (by omega),Lj hm];rfl
def yO(m x:Int):Bool:=decide (x<0\/m<=x)
def zr(v:List Int)(n m:Int):Int:=if (v.length:Int)≠n then 15 else if v.any (yO m)=Av then 2 else 0
def zp{α:Type}(l:List α)(k:Nat):Option α:=if k=0 then Z else l[k-1]?
theorem uf{α:Type}(l:List α):zp l 0=Z:=rfl
theorem zT{α:Type}(l:List α)(k:Nat)(hk:k<l.length):zp l (k+1)=J l[k]:=by unfold zp;simp[hk]
def xD(p:Option (List Int))(v:List Int):Bool:=match p with | none=>Ax | some q=>decide (0<=zj q v)
def kL(f:List Int->Int):Option (List Int)->List (List Int)->Int
 | _,[]=>0
 | p,v::r=>if f v≠0 then f v else if xD p v=Av then 14 else kL f (J v) r
def qd(f:List Int->Int)(l:List (List Int)):Int:=kL f Z l
def yc(f:List Int->Int)(l:List (List Int))(k:Nat):Int:=kL f (zp l k) (l.drop k)
theorem xp{f:List Int->Int}{l:List (List Int)}:yc f l 0=qd f l:=by unfold yc qd;rw[uf,LQ]
theorem xF{f:List Int->Int}{l:List (List Int)}:yc f l l.length=0:=by unfold yc;rw[NB];rfl
theorem xG{f:List Int->Int}{l:List (List Int)}{k:Nat}(hk:k<l.length)(h:f l[k]≠0):yc f l k=f l[k]:=by
 unfold yc;rw[Ly hk,kL,Ln h]
theorem yY{f:List Int->Int}{l:List (List Int)}{k:Nat}(hk:k<l.length)(h:f l[k]=0)(h2:xD (zp l k) l[k]=Av):yc f l k=14:=by
 unfold yc;rw[Ly hk,kL,Lj (by simpa using h),Ln h2]
theorem qb{f:List Int->Int}{l:List (List Int)}{k:Nat}(hk:k<l.length)(h:f l[k]=0)(h2:xD (zp l k) l[k]=Ax):yc f l k=yc f l (k+1):=by
 unfold yc;rw[Ly hk,kL,Lj (by simpa using h),Lj (by rw[h2];decide),zT l k hk]
def xU(l:List (List Int))(v:List Int):Int:=if v∈l then 0 else 6
def qB(n m:Int)(c:Cs):Int:=
 if c.out.length<1\/1024<c.out.length then 5 else if qd (fun v=>zr v n m) c.out≠0 then qd (fun v=>zr v n m) c.out else qd (xU c.out) c.calm
def xE(t:Tk)(p:Option Cs)(c:Cs):Int:=
 if zr c.inp t.n t.ins≠0 then zr c.inp t.n t.ins else if xD (p.map Cs.inp) c.inp=Av then 14 else qB t.n t.outs c
def xV(t:Tk):Option Cs->List Cs->Int
 | _,[]=>0
 | p,c::r=>if xE t p c≠0 then xE t p c else xV t (J c) r
def yM(t:Tk)(l:List Cs)(k:Nat):Int:=xV t (zp l k) (l.drop k)
theorem uw{t:Tk}{l:List Cs}:yM t l l.length=0:=by unfold yM;rw[NB];rfl
theorem ux{t:Tk}{l:List Cs}{k:Nat}(hk:k<l.length)(h:xE t (zp l k) l[k]≠0):yM t l k=xE t (zp l k) l[k]:=by
 unfold yM;rw[Ly hk,xV,Ln h]
theorem gt{t:Tk}{l:List Cs}{k:Nat}(hk:k<l.length)(h:xE t (zp l k) l[k]=0):yM t l k=yM t l (k+1):=by
 unfold yM;rw[Ly hk,xV,Lj (by simpa using h),zT l k hk]
def yA(t:Tk):Int:=
 if t.n<1\/5<t.n\/t.ins<1\/8<t.ins\/t.outs<1\/8<t.outs then 2 else if t.cases.length<1\/1024<t.cases.length then 5 else yM t t.cases 0
def xy(n:Int)(p:Nat)(x:Int):Int:=
 if n<=p then (if x≠0 then 3 else 0) else if x<0\/(2^n.toNat-1:Nat)<x then 2 else if x.toNat.testBit p=Av then 0 else 3
def yp(r:Rd):Nat->Nat->Int
 | 0,_=>0
 | k+1,p=>if xy r.n p (r.h p)≠0 then xy r.n p (r.h p) else yp r k (p+1)
def yv(r:Rd):Int:=if r.n<1\/5<r.n then 2 else yp r 5 0
def zQ(r:Rd):Int:=if yv r≠0 then yv r else xA r.n r.f
def Rd.gl(r:Rd):List Int:=[r.n,r.h0,r.h1,r.h2,r.h3,r.h4]
def Rd.l(r:Rd):List Int:=[r.n,r.h0,r.h1,r.h2,r.h3,r.h4,r.f]
def uH(p:Option Mv)(m:Mv):Bool:=match p with | none=>Ax | some q=>decide (0<=zj q.r.l m.r.l)
def yK(a:Ad)(p:Option Mv)(m:Mv):Int:=
 if zQ m.r≠0 then zQ m.r else if m.r.n≠a.n then 22 else if uH p m=Av then 14 else if m.to<0\/(a.sts.length:Int)<=m.to then 2 else 0
def xg(a:Ad):Option Mv->List Mv->Int
 | _,[]=>0
 | p,m::r=>if yK a p m≠0 then yK a p m else xg a (J m) r
def yJ(a:Ad)(l:List Mv)(k:Nat):Int:=xg a (zp l k) (l.drop k)
theorem uj{a:Ad}{l:List Mv}:yJ a l l.length=0:=by unfold yJ;rw[NB];rfl
theorem uk{a:Ad}{l:List Mv}{k:Nat}(hk:k<l.length)(h:yK a (zp l k) l[k]≠0):yJ a l k=yK a (zp l k) l[k]:=by
 unfold yJ;rw[Ly hk,xg,Ln h]
theorem wK{a:Ad}{l:List Mv}{k:Nat}(hk:k<l.length)(h:yK a (zp l k) l[k]=0):yJ a l k=yJ a l (k+1):=by
 unfold yJ;rw[Ly hk,xg,Lj (by simpa using h),zT l k hk]
def yS(a:Ad)(l:List Mv):Int:=if l.length=0 then 19 else yJ a l 0
def zl(a:Ad):List (List Mv)->Int
 | []=>0
 | l::r=>if yS a l≠0 then yS a l else zl a r
theorem jh{a:Ad}{l:List (List Mv)}{k:Nat}(h:k=l.length):zl a (l.drop k)=0:=by subst h;rw[NB];rfl
theorem ji{a:Ad}{l:List (List Mv)}{k:Nat}(hk:k<l.length)(h:yS a l[k]≠0):zl a (l.drop k)=yS a l[k]:=by
 rw[Ly hk,zl,Ln h]
theorem jQ{a:Ad}{l:List (List Mv)}{k:Nat}(hk:k<l.length)(h:yS a l[k]=0):zl a (l.drop k)=zl a (l.drop (k+1)):=by
 rw[Ly hk,zl,Lj (by simpa using h)]
def Ad.mvs(a:Ad):List Mv:=a.sts.flatten
def Ad.at_(a:Ad)(s:Int):List Mv:=a.sts.getD s.toNat []
def ql(m k:Mv):Bool:=m.r.f.toNat &&& k.r.f.toNat==m.r.f.toNat
def xd(a:Ad):Bool:=a.mvs.all fun m=>(a.at_ m.to).all fun k=>ql m k
def xM(a:Ad):Int:=
 if a.n<1\/5<a.n then 2 else if a.sts.length<1\/256<a.sts.length\/4096<a.mvs.length then 5 else if zl a a.sts≠0 then zl a a.sts else if xd a=Av then 0 else 21
def zC(p:Pb):Int:=
 if yA p.t≠0 then yA p.t else if xM p.a≠0 then xM p.a else if p.t.n≠p.a.n then 22 else if p.k<0\/6<p.k then 2 else 0
def Rd.gcells(r:Rd):Array Au:=#[O U r.n,O U r.h0,O U r.h1,O U r.h2,O U r.h3,O U r.h4]
def hR(v u:Rd):Bool:=v.h0==u.h0&&(v.h1==u.h1&&(v.h2==u.h2&&(v.h3==u.h3&&v.h4==u.h4)))
theorem Qm(d:Nat)(v u:Rd)(w:Ba):(Op.equalIn (d+2) 43 (Aj #[O U v.h0,O U v.h1,O U v.h2,O U v.h3,O U v.h4]) (Aj #[O U u.h0,O U u.h1,O U u.h2,O U u.h3,O U u.h4])).run An w =
  .ok (hR v u) w:=Zn d ⟨0,0,0,v.h0,v.h1,v.h2,v.h3,v.h4⟩ ⟨0,0,0,u.h0,u.h1,u.h2,u.h3,u.h4⟩ w
theorem kF(d:Nat)(v u:Rd)(w:Ba):(Op.equalIn (d+3) 45 (.agg v.gcells) (.agg u.gcells)).run An w=.ok (decide (v.gl=u.gl)) w:=by
 have hu:An.underlying 45=J (.struct (An.fieldsOf 45)):=by kernel_rfl
 have hi:An.underlying 3=J (.int U):=LB;have hf : (An.fieldsOf 45).toList.map (fun f => (f.name, f.type, f.offset)) = [("N", 3, 0), ("Hears", 43, 1)] := by kernel_rfl
 rw[Pi w (d+2) 45 _ _ hu (by kernel_rfl)];have p0:∀x:Rd,(part 3 x.gcells 0).run An w=.ok (O U x.n) w:=fun x=>zL _ 0 _ rfl w
 have p1:∀x:Rd,(part 43 x.gcells 1).run An w=.ok (Aj #[O U x.h0,O U x.h1,O U x.h2,O U x.h3,O U x.h4]) w:=fun x=>by unfold Rd.gcells;kernel_rfl
 generalize (An.fieldsOf 45).toList=fs at hf
 obtain⟨f0,f1,rfl⟩:∃f0 f1,fs=[f0,f1]:=by
  have hl:fs.length=2:=by simpa using congrArg List.length hf
  rcases fs with _ | ⟨f0,_ | ⟨f1,_ | ⟨f2,r⟩⟩⟩<;>simp at hl
  exact⟨_,_,rfl⟩
 clear hu;simp only[List.map_cons,List.map_nil,List.cons.injEq,Prod.mk.injEq,and_true] at hf;obtain⟨⟨n0,t0,o0⟩,⟨n1,t1,o1⟩⟩:=hf
 have hd:decide (v.gl=u.gl)=(v.n==u.n&&hR v u):=by
  unfold hR Rd.gl;obtain⟨a0,a1,a2,a3,a4,a5,a6⟩:=v;obtain⟨b0,b1,b2,b3,b4,b5,b6⟩:=u;rw[Nr];simp
 rw[hd]
 cases h0:(v.n==u.n)<;>cases h3:hR v u <;>
  simp only[Op.eqFields,n0,n1,t0,t1,o0,o1,p0,p1,Sem.run_bind,Result.andThen_ok,run_equalIn_int w _ 3 _ _ _ _ hi,Qm,h0,h3,ne_eq,not_false_eq_true,if_true,Bool.not_false,Bool.not_true,Bool.false_eq_true,if_false,Sem.run_pure,Bool.true_and,Bool.false_and,String.reduceEq]
theorem kE(d:Nat)(v u:Rd)(w:Ba):(Op.equalIn (d+4) 75 (.agg v.cells) (.agg u.cells)).run An w=.ok (decide (v=u)) w:=by
 have hu:An.underlying 75=J (.struct (An.fieldsOf 75)):=by kernel_rfl
 have hi:An.underlying 3=J (.int U):=LB;have hf : (An.fieldsOf 75).toList.map (fun f => (f.name, f.type, f.offset)) = [("Graph", 45, 0), ("Faulty", 3, 6)] := by kernel_rfl
 rw[Pi w (d+3) 75 _ _ hu (by kernel_rfl)];have p0:∀x:Rd,(part 45 x.cells 0).run An w=.ok (.agg x.gcells) w:=fun x=>by unfold Rd.cells;kernel_rfl
 have p1:∀x:Rd,(part 3 x.cells 6).run An w=.ok (O U x.f) w:=fun x=>zL _ 6 _ rfl w
 generalize (An.fieldsOf 75).toList=fs at hf
 obtain⟨f0,f1,rfl⟩:∃f0 f1,fs=[f0,f1]:=by
  have hl:fs.length=2:=by simpa using congrArg List.length hf
  rcases fs with _ | ⟨f0,_ | ⟨f1,_ | ⟨f2,r⟩⟩⟩<;>simp at hl
  exact⟨_,_,rfl⟩
 clear hu;simp only[List.map_cons,List.map_nil,List.cons.injEq,Prod.mk.injEq,and_true] at hf;obtain⟨⟨n0,t0,o0⟩,⟨n1,t1,o1⟩⟩:=hf
 have hd:decide (v=u)=(decide (v.gl=u.gl)&&v.f==u.f):=by
  unfold Rd.gl;obtain⟨a0,a1,a2,a3,a4,a5,a6⟩:=v;obtain⟨b0,b1,b2,b3,b4,b5,b6⟩:=u;rw[Nr];simp;constructor
  . rintro⟨h0,h1,h2,h3,h4,h5,h6⟩;exact⟨⟨h0,h1,h2,h3,h4,h5⟩,h6⟩
  rintro⟨⟨h0,h1,h2,h3,h4,h5⟩,h6⟩;exact⟨h0,h1,h2,h3,h4,h5,h6⟩
 rw[hd]
 cases h0:decide (v.gl=u.gl)<;>cases h3:(v.f==u.f) <;>
  simp only[Op.eqFields,n0,n1,t0,t1,o0,o1,p0,p1,Sem.run_bind,Result.andThen_ok,run_equalIn_int w _ 3 _ _ _ _ hi,kF,h0,h3,ne_eq,not_false_eq_true,if_true,Bool.not_false,Bool.not_true,Bool.false_eq_true,if_false,Sem.run_pure,Bool.true_and,Bool.false_and,String.reduceEq]
theorem Ql(d:Nat)(v u:Mv)(w:Ba):(Op.equalIn (d+5) 121 (.agg v.cells) (.agg u.cells)).run An w=.ok (decide (v=u)) w:=by
 have hu:An.underlying 121=J (.struct (An.fieldsOf 121)):=by kernel_rfl
 have hi:An.underlying 3=J (.int U):=LB;have hf : (An.fieldsOf 121).toList.map (fun f => (f.name, f.type, f.offset)) = [("Round", 75, 0), ("To", 3, 7)] := by kernel_rfl
 rw[Pi w (d+4) 121 _ _ hu (by kernel_rfl)];have p0:∀x:Mv,(part 75 x.cells 0).run An w=.ok (.agg x.r.cells) w:=fun x=>by unfold Mv.cells;kernel_rfl
 have p1:∀x:Mv,(part 3 x.cells 7).run An w=.ok (O U x.to) w:=fun x=>zL _ 7 _ rfl w
 generalize (An.fieldsOf 121).toList=fs at hf
 obtain⟨f0,f1,rfl⟩:∃f0 f1,fs=[f0,f1]:=by
  have hl:fs.length=2:=by simpa using congrArg List.length hf
  rcases fs with _ | ⟨f0,_ | ⟨f1,_ | ⟨f2,r⟩⟩⟩<;>simp at hl
  exact⟨_,_,rfl⟩
 clear hu;simp only[List.map_cons,List.map_nil,List.cons.injEq,Prod.mk.injEq,and_true] at hf;obtain⟨⟨n0,t0,o0⟩,⟨n1,t1,o1⟩⟩:=hf
 have hd:decide (v=u)=(decide (v.r=u.r)&&v.to==u.to):=by
  obtain⟨a0,a1⟩:=v;obtain⟨b0,b1⟩:=u;rw[Nr];simp
 rw[hd]
 cases h0:decide (v.r=u.r)<;>cases h3:(v.to==u.to) <;>
  simp only[Op.eqFields,n0,n1,t0,t1,o0,o1,p0,p1,Sem.run_bind,Result.andThen_ok,run_equalIn_int w _ 3 _ _ _ _ hi,kE,h0,h3,ne_eq,not_false_eq_true,if_true,Bool.not_false,Bool.not_true,Bool.false_eq_true,if_false,Sem.run_pure,Bool.true_and,Bool.false_and,String.reduceEq]
theorem eql_graph(v u:Rd)(w:Ba):(binOp .eql 45 (.agg v.gcells) (.agg u.gcells)).run An w=.ok (Ai (decide (v.gl=u.gl))) w:=by
 simp only[binOp];simp[Op.equal,Op.maxDepth,kF 9997 v u w]
theorem JO(v u:Rd)(w:Ba):(binOp .neq 45 (.agg v.gcells) (.agg u.gcells)).run An w=.ok (Ai (decide (v.gl≠u.gl))) w:=by
 simp only[binOp];simp[Op.equal,Op.maxDepth,kF 9997 v u w]
theorem eql_round(v u:Rd)(w:Ba):(binOp .eql 75 (.agg v.cells) (.agg u.cells)).run An w=.ok (Ai (decide (v=u))) w:=by
 simp only[binOp];simp[Op.equal,Op.maxDepth,kE 9996 v u w]
theorem Za(v u:Rd)(w:Ba):(binOp .neq 75 (.agg v.cells) (.agg u.cells)).run An w=.ok (Ai (decide (v≠u))) w:=by
 simp only[binOp];simp[Op.equal,Op.maxDepth,kE 9996 v u w]
theorem neq_move(v u:Mv)(w:Ba):(binOp .neq 121 (.agg v.cells) (.agg u.cells)).run An w=.ok (Ai (decide (v≠u))) w:=by
 simp only[binOp];simp[Op.equal,Op.maxDepth,Ql 9995 v u w]
end
section
open Go.RowKit
attribute [local go_sem] Oper.semAt_some
theorem uB(A B:Bb)(ca cb:Nat)(xs ys:List Rd)(hx:xs.length<=17592186044416)(_hy:ys.length<=17592186044416)(w:Ba)(hA:RAt w w.heap.size A xs)(hB:RAt w w.heap.size B ys) :
  Ap An 129 #[I A xs.length ca,I B ys.length cb] w fun e w'=>e=Am (Ai (decide (xs=ys)))/\∃n,w'=w.drewN n:=by
 have HA:=zH hA;have HB:=zH hB;have HT:As (∀b,(xs=ys↔b=Av)->decide (xs=ys)=b):=fun b h=>by cases b<;>simp_all
 obtain⟨r,hr⟩:∃r,decide (xs=ys)=r:=⟨_,rfl⟩;rw[hr] at HT ⊢;go_enter func129,ntmps129
 by_cases hl:xs.length=ys.length
 case neg=>
  have hR:As (r=Ax):=HT.out Ax ⟨fun h=>absurd (congrArg List.length h) hl,fun h=>by cases h⟩;have e0:((xs.length:Int) != (ys.length:Int))=Av:=by simp;omega
  go_wp2_with fail;go_ret;exact⟨ze hR.out.symm,0,rfl⟩
 case pos=>
 have HL:=zH hl;rw[<-hl] at _hy ⊢;go_wp2_with fail
 go_loopw [5] (fun i wr=>∃k n:Nat,k<=xs.length/\i=O U (k:Int)/\As (xs.take k=ys.take k)/\As (wr=w.drewN n)) (fun i _=>xs.length-(Aq i).toNat)
 case atStart=>exact⟨0,0,by omega,rfl,by rw[As,LP,LP],rfl⟩
 obtain⟨k,n,hk,rfl,hp,hw⟩:=hrel
 by_cases ac:k<xs.length
 case neg=>
  obtain rfl:k=xs.length:=by omega
  have hR:As (r=Av):=HT.out Av ⟨fun _=>rfl,fun _=>xO HL.out hp.out⟩;go_wp2_with fail;go_ret;exact⟨ze hR.out.symm,n,hw.out⟩
 case pos=>
 have dQ:k<ys.length:=by have:=HL.out;omega
 obtain⟨ba,oa,ea,_,a0,a1,a2,a3,a4,a5,a6⟩:=(HA.out).row k ac;obtain⟨bb,ob,eb,_,b0,b1,b2,b3,b4,b5,b6⟩:=(HB.out).row k dQ;subst ea;subst eb;have nW:As (∀p,wr.cell? p=w.cell? p):=fun p=>by rw[hw.out];rfl
 rw[<-nW.out] at a0 a1 a2 a3 a4 a5 a6 b0 b1 b2 b3 b4 b5 b6;have hq:=fun W=>Za xs[k] ys[k] W
 by_cases he:xs[k]=ys[k]
 . have hR:=zH (yG hp.out ac dQ he)
   rw[Lm (by simpa using he)] at hq;rw[<-he] at b0 b1 b2 b3 b4 b5 b6 hq;obtain⟨u,hu⟩:=Kh (xs[k]);rw[hu] at a0 a1 a2 a3 a4 a5 a6 b0 b1 b2 b3 b4 b5 b6 hq;unfold Rd.cells at hq;go_wp2_with fail;go_quiet (fail);go_wp2_with fail
   go_roundw
   case rel=>exact⟨k+1,n+nq,by omega,by go_num,hR,by rw[As,hw.out,kG]⟩
   simp[Aq];omega
 have hR:As (r=Ax):=HT.out Ax ⟨fun h=>absurd (by subst h;rfl) he,fun h=>by cases h⟩;rw[Ll (by simpa using he)] at hq;obtain⟨u,hu⟩:=Kh (xs[k]);obtain⟨v,hv⟩:=Kh (ys[k]);rw[hu] at a0 a1 a2 a3 a4 a5 a6 hq;rw[hv] at b0 b1 b2 b3 b4 b5 b6 hq;unfold Rd.cells at hq;go_wp2_with fail;go_quiet (fail);go_wp2_with fail;go_ret;exact⟨ze hR.out.symm,n+nq,by rw[hw.out,kG]⟩
end
section
open Go.RowKit
theorem has_fact{s p:Nat}(hs:s<32)(hp:p<5):((wrap64 ((s:Int) / ((2^p:Nat):Int))).tmod 2==1)=s.testBit p:=by
 have h:=j5 (p:=fun s=>kW fun p=>!decide (p<5)||(((wrap64 ((s:Int) / ((2^p:Nat):Int))).tmod 2==1)==s.testBit p)) (by decide +kernel) hs;have h:=j5 h (show p<32 by omega);simpa only[hp,decide_true,Bool.not_true,Bool.false_or,beq_iff_eq] using h
theorem uM(s p:Nat)(hs:s<32)(hp:p<5)(w:Ba):Ap An 146 #[O U s,O U p] w fun e w'=>e=Am (Ai (s.testBit p))/\w=w':=by
 have H:=zH (has_fact hs hp);have hq:(2^p:Nat)<=2^5:=Pa (by omega) (by omega);have rc:1<=(2^p:Nat):=Nat.one_le_two_pow;have O6:=vx p (by omega) w;obtain⟨q,O2⟩:∃q:Nat,q=2^p:=⟨_,rfl⟩;rw[<-O2] at O6 hq rc H;clear O2;go_enter func146,ntmps146;go_wp2_with fail;refine O6.mono ?_;rintro e w' ⟨rfl,rfl⟩;go_wp2_with fail;go_ret;exact⟨ze H.out,rfl⟩
theorem YG{a b:Nat}(ha:a<32)(hb:b<32):(a &&& b==a)=Av↔(∀p,p<5->a.testBit p=Av->b.testBit p=Av):=by
 have h:=j5 (p:=fun a=>kW fun b=>((List.range 5).all fun p=>!a.testBit p||b.testBit p)==(a &&& b==a)) (by decide +kernel) ha;have h:=j5 h hb;simp only[beq_iff_eq] at h;rw[<-h];simp only[List.all_eq_true,List.mem_range,Bool.or_eq_true,Bool.not_eq_true'];constructor
 . intro h p hp h1
   rcases h p hp with h2 | h2
   . rw[h1] at h2;cases h2
   exact h2
 intro h p hp
 by_cases h1:a.testBit p=Av
 . exact .inr (h p hp h1)
 exact .inl (by simpa using h1)
theorem X9(a b:Nat)(ha:a<32)(hb:b<32)(w:Ba):Ap An 163 #[O U a,O U b] w fun e w'=>e=Am (Ai (a &&& b==a))/\w=w':=by
 have H:=zH (YG ha hb);have HA:=zH (fun p hp w=>uM a p ha hp w);have HB:=zH (fun p hp w=>uM b p hb hp w);go_enter func163,ntmps163;go_wp2_with fail
 go_loop [5] (fun i=>∃k:Nat,k<=5/\i=O U (k:Int)/\As (∀p,p<k->a.testBit p=Av->b.testBit p=Av)) (fun i=>5-(Aq i).toNat)
 case atStart=>exact⟨0,by omega,rfl,fun p hp=>by omega⟩
 obtain⟨k,hk,rfl,aj⟩:=hrel
 by_cases ac:k<5
 . have c1:=HA.out k ac w
   have c2:=HB.out k ac w;go_wp2_with fail;refine c1.mono ?_;rintro e w' ⟨rfl,rfl⟩
   by_cases h1:a.testBit k=Av
   . rw[h1]
     go_wp2_with fail;refine c2.mono ?_;rintro e w' ⟨rfl,rfl⟩
     by_cases h2:b.testBit k=Av
     . rw[h2]
       go_wp2_with fail
       go_round
       case rel=>
        refine⟨k+1,by omega,by go_num,fun p hp h=>?_⟩
        by_cases e:p=k
        . subst e;exact h2
        exact aj.out p (by omega) h
       simp[Aq];omega
     have WK:b.testBit k=Ax:=by simpa using h2
     rw[WK];go_wp2_with fail;go_ret;refine⟨ze ?_,rfl⟩;symm;rw[PT];exact fun e=>h2 (H.out.1 e k ac h1)
   have WL:a.testBit k=Ax:=by simpa using h1
   rw[WL];go_wp2_with fail
   go_round
   case rel=>
    refine⟨k+1,by omega,by go_num,fun p hp h=>?_⟩
    by_cases e:p=k
    . subst e;exact absurd h h1
    exact aj.out p (by omega) h
   simp[Aq];omega
 obtain rfl:k=5:=by omega
 go_wp2_with fail;go_ret;refine⟨ze ?_,rfl⟩;exact(H.out.2 aj.out).symm
theorem Q3(w:Ba)(a b:Nat):∃m,(w.drewN a).drewN b=w.drewN m:=⟨a+b,by simp[World.drewN_drewN]⟩
theorem drew3(w:Ba)(a b c:Nat):∃m,((w.drewN a).drewN b).drewN c=w.drewN m:=⟨a+b+c,by simp[World.drewN_drewN]⟩
theorem yT(A1 A2:Bb)(c1 c2:Nat)(xs ys:List Int)(hl:xs.length<=17592186044416)(eH:ys.length<=17592186044416)(w:Ba)(h1:IAt w w.heap.size A1 xs)(h2:IAt w w.heap.size A2 ys) :
  Ap An 148 #[I A1 xs.length c1,I A2 ys.length c2] w fun e w'=>e=Am (O U (zj xs ys))/\∃m,w'=w.drewN m:=by
 have HA:=zH h1;have HB:=zH h2;go_enter func148,ntmps148;go_wp2_with fail
 go_loopw [5] (fun i wr=>∃k:Nat,k<=xs.length/\k<=ys.length/\i=O U (k:Int)/\As (zj xs ys=zj (xs.drop k) (ys.drop k))/\∃m:Nat,wr=w.drewN m) (fun i _=>xs.length-(Aq i).toNat)
 case atStart=>exact⟨0,by omega,by omega,rfl,rfl,0,rfl⟩
 obtain⟨k,cy,fJ,rfl,Bc,m,rfl⟩:=hrel
 by_cases ac:k<xs.length/\k<ys.length
 . obtain⟨hx,hy⟩:=ac
   obtain⟨b1,o1,rfl,aC,c1⟩:=HA.out.at_ k hx;obtain⟨b2,o2,rfl,af,c2⟩:=HB.out.at_ k hy;have hs:=wH hx hy;obtain⟨x,pW⟩:=Kh (xs[k]);obtain⟨y,Cr⟩:=Kh (ys[k]);rw[pW] at c1 hs;rw[Cr] at c2 hs;have HS:=zH (Bc.out.trans hs)
   by_cases l1:x<y
   . have HR:=zH (HS.out.trans (Ln l1))
     go_wp2_with fail;go_quiet (fail);go_wp2_with fail;go_ret;exact⟨zc HR.out.symm,by first | exact Q3 _ _ _ | exact drew3 _ _ _ _⟩
   by_cases l2:y<x
   . have HR:=zH (HS.out.trans ((Lj l1).trans (Ln l2)))
     go_wp2_with fail;go_quiet (fail);go_wp2_with fail;go_quiet (fail);go_wp2_with fail;go_ret;exact⟨zc HR.out.symm,by first | exact Q3 _ _ _ | exact drew3 _ _ _ _⟩
   have HR:=zH (HS.out.trans ((Lj l1).trans (Lj l2)));go_wp2_with fail;go_quiet (fail);go_wp2_with fail;go_quiet (fail);go_wp2_with fail
   go_roundw
   case rel=>exact⟨k+1,by omega,by omega,by go_num,HR,by first | exact Q3 _ _ _ | exact drew3 _ _ _ _ | exact⟨_,rfl⟩⟩
   simp[Aq];omega
 have he:=vz (l:=xs) (m:=ys) (k:=k) (by omega) cy fJ;have HR:=zH (Bc.out.trans he);have hd:(decide ((k:Int)<(xs.length:Int))&&decide ((k:Int)<(ys.length:Int)))=Ax:=by simp;omega
 by_cases hx:k<xs.length
 . obtain rfl:k=ys.length:=by omega
   go_wp2_with fail
   all_goals first | (exfalso;omega) | skip
   all_goals
    go_ret;exact⟨zc (by rw[HR.out];first | (rw[Ln (by omega)]) | (rw[Lj (by omega),Ln (by omega)]) | (rw[Lj (by omega),Lj (by omega)])),_,rfl⟩
 obtain rfl:k=xs.length:=by omega
 go_wp2_with fail
 all_goals first | (exfalso;omega) | skip
 all_goals
  go_ret;exact⟨zc (by rw[HR.out];first | (rw[Ln (by omega)]) | (rw[Lj (by omega),Ln (by omega)]) | (rw[Lj (by omega),Lj (by omega)])),_,rfl⟩
def qK(x y:Int):Int:=if x<y then -1 else if y<x then 1 else 0
theorem uR(x y:Int)(w:Ba):Ap An 138 #[O U x,O U y] w fun e w'=>e=Am (O U (qK x y))/\w=w':=by
 have H:As (qK x y=if x<y then -1 else if y<x then 1 else 0):=rfl
 have hn:∀(x:Int) (w:Ba),Ap An 155 #[O U x] w fun e w'=>e=Am (Ai Ax)/\w=w':=fun x w=>by
  go_enter func155,ntmps155;go_wp2;go_ret;exact⟨by simp,rfl⟩
 have HN:=zH hn;go_enter func138,ntmps138;go_wp2_with (go_at_call 155;refine(HN.out _ _).mono ?_;rintro e w' ⟨rfl,rfl⟩)
 all_goals
  go_ret;refine⟨zc ?_,rfl⟩;rw[H.out]
  first | (rw[Ln (by omega)]) | (rw[Lj (by omega),Ln (by omega)]) | (rw[Lj (by omega),Lj (by omega)])
theorem jT(A1 A2:Bb)(c1 c2:Nat)(xs ys:List Int)(hl:xs.length<=17592186044416)(eH:ys.length<=17592186044416)(w:Ba)(h1:IAt w w.heap.size A1 xs)(h2:IAt w w.heap.size A2 ys) :
  Ap An 111 #[I A1 xs.length c1,I A2 ys.length c2] w fun e w'=>e=Am (O U (zj xs ys))/\w'=w:=by
 have HA:=zH h1;have HB:=zH h2;go_enter func111,ntmps111;go_wp2_with fail
 go_loop [11] (fun i=>∃k:Nat,k<=xs.length/\k<=ys.length/\i=O U (k:Int)/\As (zj xs ys=zj (xs.drop k) (ys.drop k))) (fun i=>xs.length-(Aq i).toNat)
 case atStart=>exact⟨0,by omega,by omega,rfl,rfl⟩
 obtain⟨k,cy,fJ,rfl,Bc⟩:=hrel
 by_cases hx:k<xs.length
 . obtain⟨b1,o1,rfl,aC,c1⟩:=HA.out.at_ k hx
   by_cases hy:k<ys.length
   . obtain⟨b2,o2,rfl,af,c2⟩:=HB.out.at_ k hy
     have hs:=wH hx hy;obtain⟨x,pW⟩:=Kh (xs[k]);obtain⟨y,Cr⟩:=Kh (ys[k]);rw[pW] at c1 hs;rw[Cr] at c2 hs;have HS:=zH (Bc.out.trans hs);have iV:As (qK x y=if x<y then -1 else if y<x then 1 else 0):=rfl;have hc:=zH (fun w=>uR x y w);obtain⟨cv,mo⟩:=Kh (qK x y);rw[mo] at hc iV;go_wp2_with fail;refine(hc.out _).mono ?_;rintro e w' ⟨rfl,rfl⟩
     by_cases l1:x<y
     . have HR:=zH (HS.out.trans (Ln l1))
       obtain rfl:cv=-1:=iV.out.trans (Ln l1);go_wp2_with fail;go_ret;exact⟨zc HR.out.symm,rfl⟩
     by_cases l2:y<x
     . have HR:=zH (HS.out.trans ((Lj l1).trans (Ln l2)))
       obtain rfl:cv=1:=iV.out.trans ((Lj l1).trans (Ln l2));go_wp2_with fail;go_ret;exact⟨zc HR.out.symm,rfl⟩
     have HR:=zH (HS.out.trans ((Lj l1).trans (Lj l2)));obtain rfl:cv=0:=iV.out.trans ((Lj l1).trans (Lj l2));go_wp2_with fail
     go_round
     case rel=>exact⟨k+1,by omega,by omega,by go_num,HR⟩
     simp[Aq];omega
   obtain rfl:k=ys.length:=by omega
   have he:=vz (l:=xs) (m:=ys) (k:=ys.length) (by omega) cy fJ;have HR:=zH (Bc.out.trans he);go_wp2_with fail;go_ret;exact⟨zc (by rw[HR.out,Lj (by omega),Ln (by omega)]),rfl⟩
 obtain rfl:k=xs.length:=by omega
 have he:=vz (l:=xs) (m:=ys) (k:=xs.length) (by omega) cy fJ;have HR:=zH (Bc.out.trans he);go_wp2_with fail
 all_goals
  go_ret;exact⟨zc (by rw[HR.out];first | (rw[Ln (by omega)]) | (rw[Lj (by omega),Lj (by omega)])),rfl⟩
theorem Zf{r:Rd}{k:Nat}(hk:k<5)(h:xy r.n k (r.h k)≠0):yp r (5-k) k=xy r.n k (r.h k):=by
 rw[show 5-k=(4-k)+1 by omega,yp,Ln h]
theorem YK{r:Rd}{k:Nat}(hk:k<5)(h:xy r.n k (r.h k)=0):yp r (5-k) k=yp r (5-(k+1)) (k+1):=by
 rw[show 5-k=(4-k)+1 by omega,yp,Lj (by simpa using h),show 4-k=5-(k+1) by omega]
theorem wU{n x:Int}{p:Nat}(h:n<=p)(hx:x≠0):xy n p x=3:=by unfold xy;rw[Ln h,Ln hx]
theorem wT{n:Int}{p:Nat}(h:n<=p):xy n p 0=0:=by unfold xy;rw[Ln h];rfl
theorem Zh{n x:Int}{p:Nat}(h:¬n<=p)(hx:x<0\/(2^n.toNat-1:Nat)<x):xy n p x=2:=by unfold xy;rw[Lj h,Ln hx]
theorem Zg{n x:Int}{p:Nat}(h:¬n<=p)(hx:¬(x<0\/(2^n.toNat-1:Nat)<x))(hb:x.toNat.testBit p=Av):xy n p x=0:=by unfold xy;rw[Lj h,Lj hx,Ln hb]
theorem YL{n x:Int}{p:Nat}(h:¬n<=p)(hx:¬(x<0\/(2^n.toNat-1:Nat)<x))(hb:x.toNat.testBit p=Ax):xy n p x=3:=by unfold xy;rw[Lj h,Lj hx,Lj (by rw[hb];decide)]
theorem bit_zero{s p:Nat}(hs:s<32)(hp:p<5):(bits BinOp.and U ((s:Int) / 2^p) 1==0)=!s.testBit p:=by
 have h:=j5 (p:=fun s=>kW fun p=>!decide (p<5)||((bits BinOp.and U ((s:Int) / 2^p) 1==0)==!s.testBit p)) (by decide +kernel) hs;have h:=j5 h (show p<32 by omega);simpa only[hp,decide_true,Bool.not_true,Bool.false_or,beq_iff_eq] using h
theorem JX(n:Int)(h1:1<=n)(h5:n<=5)(w:Ba):Ap An 131 #[O U n] w fun e w'=>e=Am (O U ((2^n.toNat-1:Nat):Int))/\w'=w:=by
 obtain rfl | rfl | rfl | rfl | rfl:n=1\/n=2\/n=3\/n=4\/n=5:=by omega
 all_goals
  go_enter func131,ntmps131;go_wp2;go_ret;exact⟨rfl,rfl⟩
theorem Xw(n:Int)(h1:1<=n)(hn:n<=5)(w:Ba):Ap An 180 #[O U n] w fun e w'=>e=Am (O U ((2^n.toNat-1:Nat):Int))/\w'=w:=by
 obtain⟨m,rfl⟩:=Lr (show 0<=n by omega);have hp:=vx m (by omega) w;go_enter func180,ntmps180;go_wp2_with fail;refine hp.mono ?_;rintro e w' ⟨rfl,rfl⟩;obtain rfl | rfl | rfl | rfl | rfl:m=1\/m=2\/m=3\/m=4\/m=5:=by omega
 all_goals
  go_wp2_with fail;go_ret;exact⟨rfl,rfl⟩
theorem j8{r:Rd}(h:r.n<1\/5<r.n):yv r=2:=Ln h
theorem wV{r:Rd}(h:¬(r.n<1\/5<r.n)):yv r=yp r (5-0) 0:=Lj h
theorem pow_le{n:Int}(h5:n<=5):(2^n.toNat-1:Nat)<=31:=by
 have:2^n.toNat<=2^5:=Pa (by omega) (by omega);omega
theorem Qh(r:Rd)(w:Ba):Ap An 100 #[.agg r.gcells] w fun e w'=>e=Am (O U (yv r))/\Ao w.heap.size w w':=by
 have ay:=zH (@j8 r);have al:=zH (@wV r);obtain⟨E,hE⟩:=Kh (yv r);rw[hE] at ay al ⊢
 have Bl:∀k,k<5->∀w,(Instr.index 43 (Aj #[O U r.h0,O U r.h1,O U r.h2,O U r.h3,O U r.h4]) (O U (k:Nat))).run An w=.ok (O U (r.h k)) w:=fun k hk w=>by
  obtain rfl | rfl | rfl | rfl | rfl:k=0\/k=1\/k=2\/k=3\/k=4:=by omega
  all_goals exact(by kernel_rfl)
 have BU:=zH Bl;unfold Rd.gcells
 by_cases hr:r.n<1\/5<r.n
 . have HR:=zH (ay.out hr)
   have HN:=zH hr;go_enter func100,ntmps100;go_wp2_with fail
   all_goals first | (exfalso;have:=HN.out;omega) | (go_ret;exact⟨zc HR.out.symm,zw w _⟩)
 have r1:¬r.n<1:=by omega
 have r2:¬5<r.n:=by omega
 have HE:=zH (al.out hr);go_enter func100,ntmps100;go_wp2_with fail
 all_goals first | (exfalso;omega) | skip
 go_loop [15] (fun i=>∃k:Nat,k<=5/\i=O U (k:Int)/\As (E=yp r (5-k) k)) (fun i=>5-(Aq i).toNat)
 case atStart=>exact⟨0,by omega,rfl,HE⟩
 obtain⟨k,hk,rfl,ai⟩:=hrel
 by_cases ac:k<5
 . have hx:=BU.out k ac
   have aG:=zH (@Zf r k ac);have az:=zH (@YK r k ac);have h1:=zH (@wU r.n (r.h k) k);have h2:=zH (@wT r.n k);have h3:=zH (@Zh r.n (r.h k) k);have h4:=zH (@Zg r.n (r.h k) k);have h5:=zH (@YL r.n (r.h k) k);obtain⟨x,pW⟩:=Kh (r.h k);rw[pW] at hx aG az h1 h3 h4 h5
   by_cases hp:r.n<=(k:Int)
   . by_cases hz:x=0
     . subst hz
       have hR:=zH (ai.out.trans (az.out (h2.out hp)));go_wp2_with fail
       all_goals first | (exfalso;omega) | skip
       go_round
       case rel=>exact⟨k+1,by omega,by go_num,hR⟩
       simp[Aq];omega
     have he:=h1.out hp hz;have hR:=zH (ai.out.trans ((aG.out (by rw[he];decide)).trans he));have e0:(x != 0)=Av:=by simpa using hz
     go_wp2_with fail
     all_goals first | (exfalso;omega) | skip
     go_ret;exact⟨zc hR.out.symm,zw w _⟩
   have hF:=zH (JX r.n (by omega) (by omega));have ib:=pow_le (n:=r.n) (by omega);obtain⟨F,KN⟩:∃F:Nat,(2^r.n.toNat-1:Nat)=F:=⟨_,rfl⟩;rw[KN] at h3 h4 h5 hF ib
   by_cases ho:x<0\/(F:Int)<x
   . have he:=h3.out hp ho
     have hR:=zH (ai.out.trans ((aG.out (by rw[he];decide)).trans he))
     by_cases nO:x<0
     . clear ho
       go_wp2_with fail
       all_goals first | (exfalso;omega) | skip
       go_ret;exact⟨zc hR.out.symm,zw w _⟩
     have mK:(F:Int)<x:=by omega
     go_wp2_with (go_at_call 131;refine(hF.out _).mono ?_;rintro e w' ⟨rfl,rfl⟩)
     all_goals first | (exfalso;omega) | skip
     go_ret;exact⟨zc hR.out.symm,zw w _⟩
   obtain⟨m,rfl⟩:=Lr (show 0<=x by omega);have hm:m<32:=by omega
   have pk:=bit_zero hm ac;have nO:¬((m:Int)<0):=by omega
   have mK:¬((F:Int)<(m:Int)):=by omega
   by_cases hb:m.testBit k=Av
   . have hR:=zH (ai.out.trans (az.out (h4.out hp ho (by simpa using hb))))
     rw[hb] at pk;go_wp2_with (go_at_call 131;refine(hF.out _).mono ?_;rintro e w' ⟨rfl,rfl⟩)
     all_goals first | (exfalso;omega) | skip
     go_round
     case rel=>exact⟨k+1,by omega,by go_num,hR⟩
     simp[Aq];omega
   have cF:m.testBit k=Ax:=by simpa using hb
   have he:=h5.out hp ho (by simpa using cF);have hR:=zH (ai.out.trans ((aG.out (by rw[he];decide)).trans he));rw[cF] at pk;go_wp2_with (go_at_call 131;refine(hF.out _).mono ?_;rintro e w' ⟨rfl,rfl⟩)
   all_goals first | (exfalso;omega) | skip
   go_ret;exact⟨zc hR.out.symm,zw w _⟩
 obtain rfl:k=5:=by omega
 have hR:As (E=0):=ai.out;go_wp2_with fail;go_ret;exact⟨zc hR.out.symm,zw w _⟩
theorem kz(r:Rd)(k:Nat)(hk:k<5):r.gcells[1+k]?=J (O U (r.h k)):=by
 obtain rfl | rfl | rfl | rfl | rfl:k=0\/k=1\/k=2\/k=3\/k=4:=by omega
 all_goals rfl
theorem Yj(r:Rd)(w:Ba):Ap An 174 #[.agg r.gcells] w fun e w'=>e=Am (O U (yv r))/\Ao w.heap.size w w':=by
 have ay:=zH (@j8 r);have al:=zH (@wV r);obtain⟨E,hE⟩:=Kh (yv r);rw[hE] at ay al ⊢;have Ay:=zH (fun k hk=>za (zh w (Ah r.gcells 45)) (1+k) (kz r k hk));unfold Rd.gcells at Ay ⊢
 by_cases hr:r.n<1\/5<r.n
 . have HR:=zH (ay.out hr)
   have HN:=zH hr;go_enter func174,ntmps174;go_wp2_with fail
   all_goals first | (exfalso;have:=HN.out;omega) | (go_ret;exact⟨zc HR.out.symm,zw w _⟩)
 have r1:¬r.n<1:=by omega
 have r2:¬5<r.n:=by omega
 have HE:=zH (al.out hr);go_enter func174,ntmps174;go_wp2_with fail
 all_goals first | (exfalso;omega) | skip
 obtain⟨W0,bH⟩:=Kh (w.alloc (Ah #[O U r.n,O U r.h0,O U r.h1,O U r.h2,O U r.h3,O U r.h4] 45));have de:W0.heap[w.heap.size]?=J (Ah #[O U r.n,O U r.h0,O U r.h1,O U r.h2,O U r.h3,O U r.h4] 45 (0,0)):=by rw[<-bH];exact zh _ _
 have HB:=zH (show Ao w.heap.size w W0 by rw[<-bH];exact zw w _);have q0:=za de 0 rfl;rw[bH] at Ay ⊢
 go_loop [3] (fun i=>∃k:Nat,k<=5/\i=O U (k:Int)/\As (E=yp r (5-k) k)) (fun i=>5-(Aq i).toNat)
 case atStart=>exact⟨0,by omega,rfl,HE⟩
 obtain⟨k,hk,rfl,ai⟩:=hrel
 by_cases ac:k<5
 . have hx:=Ay.out k ac
   have aG:=zH (@Zf r k ac);have az:=zH (@YK r k ac);have h1:=zH (@wU r.n (r.h k) k);have h2:=zH (@wT r.n k);have h3:=zH (@Zh r.n (r.h k) k);have h4:=zH (@Zg r.n (r.h k) k);have h5:=zH (@YL r.n (r.h k) k);obtain⟨x,pW⟩:=Kh (r.h k);rw[pW] at hx aG az h1 h3 h4 h5
   by_cases hp:r.n<=(k:Int)
   . by_cases hz:x=0
     . subst hz
       have hR:=zH (ai.out.trans (az.out (h2.out hp)));go_wp2_with fail
       all_goals first | (exfalso;omega) | skip
       go_round
       case rel=>exact⟨k+1,by omega,by go_num,hR⟩
       simp[Aq];omega
     have he:=h1.out hp hz;have hR:=zH (ai.out.trans ((aG.out (by rw[he];decide)).trans he));have e0:(x != 0)=Av:=by simpa using hz
     go_wp2_with fail
     all_goals first | (exfalso;omega) | skip
     go_ret;exact⟨zc hR.out.symm,HB.out⟩
   have hF:=zH (Xw r.n (by omega) (by omega));have ib:=pow_le (n:=r.n) (by omega);obtain⟨F,KN⟩:∃F:Nat,(2^r.n.toNat-1:Nat)=F:=⟨_,rfl⟩;rw[KN] at h3 h4 h5 hF ib
   by_cases ho:x<0\/(F:Int)<x
   . have he:=h3.out hp ho
     have hR:=zH (ai.out.trans ((aG.out (by rw[he];decide)).trans he))
     by_cases nO:x<0
     . clear ho
       go_wp2_with fail
       all_goals first | (exfalso;omega) | skip
       go_ret;exact⟨zc hR.out.symm,HB.out⟩
     have mK:(F:Int)<x:=by omega
     go_wp2_with (go_at_call 180;refine(hF.out _).mono ?_;rintro e w' ⟨rfl,db⟩;obtain rfl:=db.symm)
     all_goals first | (exfalso;omega) | skip
     go_ret;exact⟨zc hR.out.symm,HB.out⟩
   obtain⟨m,rfl⟩:=Lr (show 0<=x by omega);have hm:m<32:=by omega
   have nO:¬((m:Int)<0):=by omega
   have mK:¬((F:Int)<(m:Int)):=by omega
   have hH:=zH (fun w=>uM m k hm ac w)
   by_cases hb:m.testBit k=Av
   . have hR:=zH (ai.out.trans (az.out (h4.out hp ho (by simpa using hb))))
     rw[hb] at hH;go_wp2_with (first | (go_at_call 180;refine(hF.out _).mono ?_;rintro e w' ⟨rfl,db⟩;obtain rfl:=db.symm) | (go_at_call 146;refine(hH.out _).mono ?_;rintro e w' ⟨rfl,rfl⟩))
     all_goals first | (exfalso;omega) | skip
     go_round
     case rel=>exact⟨k+1,by omega,by go_num,hR⟩
     simp[Aq];omega
   have cF:m.testBit k=Ax:=by simpa using hb
   have he:=h5.out hp ho (by simpa using cF);have hR:=zH (ai.out.trans ((aG.out (by rw[he];decide)).trans he));rw[cF] at hH;go_wp2_with (first | (go_at_call 180;refine(hF.out _).mono ?_;rintro e w' ⟨rfl,db⟩;obtain rfl:=db.symm) | (go_at_call 146;refine(hH.out _).mono ?_;rintro e w' ⟨rfl,rfl⟩))
   all_goals first | (exfalso;omega) | skip
   go_ret;exact⟨zc hR.out.symm,HB.out⟩
 obtain rfl:k=5:=by omega
 have hR:As (E=0):=ai.out;go_wp2_with fail;go_ret;exact⟨zc hR.out.symm,HB.out⟩
theorem jW{r:Rd}(h:yv r≠0):zQ r=yv r:=Ln h
theorem ww{r:Rd}(h:yv r=0):zQ r=xA r.n r.f:=Lj (by simpa using h)
theorem wu(r:Rd)(w:Ba):Ap An 60 #[.agg r.cells] w fun e w'=>e=Am (O U (zQ r))/\Ao w.heap.size w w':=by
 have ay:=zH (@jW r);have al:=zH (@ww r);have HG:=zH (fun w=>Qh r w);have HS:=zH (fun w=>check_any r.n r.f w);obtain⟨E,hE⟩:=Kh (zQ r);rw[hE] at ay al ⊢;obtain⟨g,hg⟩:=Kh (yv r);rw[hg] at ay al HG;obtain⟨s,hs⟩:=Kh (xA r.n r.f);rw[hs] at al HS;unfold Rd.cells;unfold Rd.gcells at HG;go_enter func60,ntmps60;go_wp2_with fail;obtain⟨W0,bH⟩:=Kh (w.alloc (Ah #[O U r.n,O U r.h0,O U r.h1,O U r.h2,O U r.h3,O U r.h4,O U r.f] 75));have de:W0.heap[w.heap.size]?=J (Ah #[O U r.n,O U r.h0,O U r.h1,O U r.h2,O U r.h3,O U r.h4,O U r.f] 75 (0,0)):=by rw[<-bH];exact zh _ _
 have hB:Ao w.heap.size w W0:=by rw[<-bH];exact zw w _
 have mi:=zd de;rw[bH];refine(HG.out W0).mono ?_;rintro e w1 ⟨rfl,aC⟩;have HB:=zH (Lc hB aC);have d0:=Lb aC mi de;have q0:=za d0 0 rfl;have q6:=za d0 6 rfl
 by_cases h0:g=0
 . subst h0
   have hR:=zH (al.out (by simp));go_wp2_with fail;refine(HS.out _).mono ?_;rintro e w2 ⟨rfl,rfl⟩;go_wp2_with fail;go_ret;exact⟨zc hR.out.symm,HB.out⟩
 have hR:=zH (ay.out h0);have e0:(g != 0)=Av:=by simpa using h0
 go_wp2_with fail;go_ret;exact⟨zc hR.out.symm,HB.out⟩
theorem uC(r:Rd)(w:Ba):Ap An 161 #[.agg r.cells] w fun e w'=>e=Am (O U (zQ r))/\Ao w.heap.size w w':=by
 have ay:=zH (@jW r);have al:=zH (@ww r);have HG:=zH (fun w=>Yj r w);have HS:=zH (fun w=>Xy r.n r.f w);obtain⟨E,hE⟩:=Kh (zQ r);rw[hE] at ay al ⊢;obtain⟨g,hg⟩:=Kh (yv r);rw[hg] at ay al HG;obtain⟨s,hs⟩:=Kh (xA r.n r.f);rw[hs] at al HS;unfold Rd.cells;unfold Rd.gcells at HG;go_enter func161,ntmps161;go_wp2_with fail;obtain⟨W0,bH⟩:=Kh (w.alloc (Ah #[O U r.n,O U r.h0,O U r.h1,O U r.h2,O U r.h3,O U r.h4,O U r.f] 75));have de:W0.heap[w.heap.size]?=J (Ah #[O U r.n,O U r.h0,O U r.h1,O U r.h2,O U r.h3,O U r.h4,O U r.f] 75 (0,0)):=by rw[<-bH];exact zh _ _
 have hB:Ao w.heap.size w W0:=by rw[<-bH];exact zw w _
 have mi:=zd de;rw[bH];refine(HG.out W0).mono ?_;rintro e w1 ⟨rfl,aC⟩;have HB:=zH (Lc hB aC);have d0:=Lb aC mi de;have q0:=za d0 0 rfl;have q6:=za d0 6 rfl
 by_cases h0:g=0
 . subst h0
   have hR:=zH (al.out (by simp));go_wp2_with fail;refine(HS.out _).mono ?_;rintro e w2 ⟨rfl,rfl⟩;go_wp2_with fail;go_ret;exact⟨zc hR.out.symm,HB.out⟩
 have hR:=zH (ay.out h0);have e0:(g != 0)=Av:=by simpa using h0
 go_wp2_with fail;go_ret;exact⟨zc hR.out.symm,HB.out⟩
theorem zZ(w:Ba)(c1 c2:Array Au)(t1 t2:TypeId):∃W0,(w.alloc (Ah c1 t1)).alloc (Ah c2 t2)=W0/\W0.heap[w.heap.size]?=J (Ah c1 t1 (0,0))/\W0.heap[w.heap.size+1]?=J (Ah c2 t2 (0,0))/\w.heap.size+2<=W0.heap.size/\Ao w.heap.size w W0:=
 ⟨_,rfl,zB (zh _ _) _,by have:=zh (w.alloc (Ah c1 t1)) (Ah c2 t2);rwa[LZ] at this,by simp,xX w _ _⟩
theorem jD{x y:Int}{l m:List Int}:zj (x::l) (y::m)=if qK x y≠0 then qK x y else zj l m:=by
 rw[zj];unfold qK
 by_cases h1:x<y
 . simp[h1]
 by_cases h2:y<x
 . simp[h1,h2]
 simp[h1,h2]
theorem uN{r:Rd}{k:Nat}(hk:k<5):r.gl.drop (k+1)=r.h k::r.gl.drop (k+2):=by
 obtain rfl | rfl | rfl | rfl | rfl:k=0\/k=1\/k=2\/k=3\/k=4:=by omega
 all_goals rfl
theorem gl_step{a b:Rd}{k:Nat}(hk:k<5):zj (a.gl.drop (k+1)) (b.gl.drop (k+1))=if qK (a.h k) (b.h k)≠0 then qK (a.h k) (b.h k) else zj (a.gl.drop (k+2)) (b.gl.drop (k+2)):=by
 rw[uN hk,uN hk,jD]
theorem gl_zero{a b:Rd}:zj a.gl b.gl=if qK a.n b.n≠0 then qK a.n b.n else zj (a.gl.drop 1) (b.gl.drop 1):=jD
theorem QZ{a b:Rd}:zj a.l b.l=if zj a.gl b.gl≠0 then zj a.gl b.gl else qK a.f b.f:=by
 unfold Rd.l Rd.gl;simp only[jD]
 repeat' split
 all_goals first | rfl | (simp_all [zj];done) | (exfalso;simp_all [zj];done)
theorem cmpI_zero{x y:Int}(h:qK x y=0):x=y:=by
 unfold qK at h
 split at h
 . cases h
 split at h
 . cases h
 omega
theorem cmpI_self(x:Int):qK x x=0:=by unfold qK;rw[Lj (by omega),Lj (by omega)]
theorem ZU(a b:Rd)(w:Ba):Ap An 158 #[.agg a.gcells,.agg b.gcells] w fun e w'=>e=Am (O U (zj a.gl b.gl))/\∃W0 n,w'=World.drewN W0 n/\W0=(w.alloc (Ah a.gcells 45)).alloc (Ah b.gcells 45):=by
 have HQ:=zH (fun w=>eql_graph a b w);have H0:=zH (@gl_zero a b);have HS:As (a.gl=b.gl->zj a.gl b.gl=0):=fun h=>by rw[h];exact yC _
 obtain⟨E,hE⟩:=Kh (zj a.gl b.gl);rw[hE] at H0 HS ⊢;have pO:=zH (fun k hk=>za (zB (zh w (Ah a.gcells 45)) (Ah b.gcells 45)) (1+k) (kz a k hk));have nG:=zH (fun k hk=>za (zh (w.alloc (Ah a.gcells 45)) (Ah b.gcells 45)) (1+k) (kz b k hk));rw[LZ] at nG;have HX:As (∃W0,W0=(w.alloc (Ah a.gcells 45)).alloc (Ah b.gcells 45)):=⟨_,rfl⟩;unfold Rd.gcells at HQ pO nG HX ⊢
 by_cases he:a.gl=b.gl
 . have hq:∀w,_:=fun w=>HQ.out w
   rw[Ll he] at hq;have hR:=zH (HS.out he);go_enter func158,ntmps158;go_wp2_with fail;go_ret;exact⟨zc hR.out.symm,_,0,rfl,rfl⟩
 have hq:∀w,_:=fun w=>HQ.out w
 rw[Lm he] at hq;clear HQ HS he;have HN:=zH (fun w=>uR a.n b.n w);obtain⟨cn,s'⟩:=Kh (qK a.n b.n);have IW:As (cn=0↔a.n=b.n):=by rw[<-s'];exact⟨cmpI_zero,fun h=>by rw[h];exact cmpI_self _⟩
 rw[s'] at H0 HN;clear s'
 by_cases hn:a.n=b.n
 . have td:cn=0:=IW.out.2 hn
   subst td;have HE:=zH (H0.out.trans (Lj (by simp)));have e0:(a.n != b.n)=Ax:=by simpa using hn
   clear H0 HN IW hn;go_enter func158,ntmps158;go_wp2_with fail;obtain⟨W0,bH⟩:=HX.out;rw[<-bH] at pO nG ⊢;clear HX hq e0;have rL:=zH bH;clear bH
   go_loopw [20] (fun i wr=>∃k n:Nat,k<=5/\i=O U (k:Int)/\As (E=zj (a.gl.drop (k+1)) (b.gl.drop (k+1)))/\wr=W0.drewN n) (fun i _=>5-(Aq i).toNat)
   case atStart=>exact⟨0,0,by omega,rfl,HE,rfl⟩
   obtain⟨k,n,hk,rfl,ai,rfl⟩:=hrel;clear HE
   by_cases ac:k<5
   . have c1:=pO.out k ac
     have c2:=nG.out k ac;have hs:=zH (ai.out.trans (gl_step ac));have HC:=zH (fun (p:Nat)=>(uR (a.h k) (b.h k) (W0.drewN p)));obtain⟨x,hx⟩:=Kh (a.h k);obtain⟨y,hy⟩:=Kh (b.h k);rw[hx] at c1 hs HC;rw[hy] at c2 hs HC;obtain⟨cv,mo⟩:=Kh (qK x y);rw[mo] at hs HC;clear hx hy mo ai
     by_cases hz:cv=0
     . subst hz
       have hR:=zH (hs.out.trans (Lj (by simp)));clear hs;go_wp2_with fail;go_quiet ((go_at_call 138;exact(HC.out _).mono fun e w' h=>⟨h.1,_,h.2.symm⟩));go_wp2_with fail
       go_roundw
       case rel=>exact⟨k+1,_,by omega,by go_num,hR,rfl⟩
       simp[Aq];omega
     have hR:=zH (hs.out.trans (Ln hz));have e0:(cv != 0)=Av:=by simpa using hz
     clear hs hz;go_wp2_with fail;go_quiet ((go_at_call 138;exact(HC.out _).mono fun e w' h=>⟨h.1,_,h.2.symm⟩));go_wp2_with fail;go_ret;exact⟨zc hR.out.symm,W0,_,by first | rfl | exact(Pn ..),rL.out⟩
   obtain rfl:k=5:=by omega
   have hR:As (E=0):=ai.out;clear ai;go_wp2_with fail;go_ret;exact⟨zc hR.out.symm,W0,_,rfl,rL.out⟩
 have td:¬cn=0:=fun h=>hn (IW.out.1 h)
 have HE:=zH (H0.out.trans (Ln td));have e0:(a.n != b.n)=Av:=by simpa using hn
 go_enter func158,ntmps158;go_wp2_with fail;refine(HN.out _).mono ?_;rintro e w1 ⟨rfl,rfl⟩;go_wp2_with fail;go_ret;exact⟨zc HE.out.symm,_,0,rfl,rfl⟩
theorem JY(a b:Rd)(w:Ba):Ap An 158 #[.agg a.gcells,.agg b.gcells] w fun e w'=>e=Am (O U (zj a.gl b.gl))/\Ao w.heap.size w w':=
 (ZU a b w).mono fun e w' ⟨h1,W0,n,h2,h3⟩=>⟨h1,by rw[h2,h3];exact zx (xX w _ _) n⟩
theorem gJ(a b:Rd)(w:Ba):Ap An 141 #[.agg a.cells,.agg b.cells] w fun e w'=>e=Am (O U (zj a.l b.l))/\Ao w.heap.size w w':=by
 have HQ:=zH (fun w=>eql_round a b w);have HN:=zH (fun w=>JO a b w);have HS:=zH (@QZ a b);have HZ:As (a=b->zj a.l b.l=0):=fun h=>by rw[h];exact yC _
 have HG:=zH (fun w=>JY a b w);have HF:=zH (fun w=>uR a.f b.f w);have Gp:As (a.gl=b.gl↔zj a.gl b.gl=0):=⟨fun h=>by rw[h];exact yC _,xQ⟩;obtain⟨E,hE⟩:=Kh (zj a.l b.l);rw[hE] at HS HZ ⊢;obtain⟨g,hg⟩:=Kh (zj a.gl b.gl);rw[hg] at HS HG Gp;obtain⟨c,hc⟩:=Kh (qK a.f b.f);rw[hc] at HS HF;unfold Rd.gcells at HN HG;unfold Rd.cells at HQ ⊢
 by_cases he:a=b
 . have hq:∀w,_:=fun w=>HQ.out w
   rw[Ll he] at hq;have hR:=zH (HZ.out he);clear HQ HN HS HZ HG HF Gp he;go_enter func141,ntmps141;go_wp2_with fail;go_ret;exact⟨zc hR.out.symm,xX w _ _⟩
 have hq:∀w,_:=fun w=>HQ.out w
 rw[Lm he] at hq
 by_cases cJ:a.gl=b.gl
 . have hn:∀w,_:=fun w=>HN.out w
   rw[show decide (a.gl≠b.gl)=Ax by simpa using cJ] at hn;have hR:=zH (HS.out.trans (Lj (by simpa using Gp.out.1 cJ)));go_enter func141,ntmps141;go_wp2_with fail;refine(HF.out _).mono ?_;rintro e w1 ⟨rfl,rfl⟩;go_wp2_with fail;go_ret;exact⟨zc hR.out.symm,xX w _ _⟩
 have hn:∀w,_:=fun w=>HN.out w
 rw[show decide (a.gl≠b.gl)=Av by simpa using cJ] at hn;have hR:=zH (HS.out.trans (Ln (fun h=>cJ (Gp.out.2 h))));go_enter func141,ntmps141;go_wp2_with fail;refine(HG.out _).mono ?_;rintro e w1 ⟨rfl,hb⟩;have HB:=zH ((xX w (Ah #[O U a.n,O U a.h0,O U a.h1,O U a.h2,O U a.h3,O U a.h4,O U a.f] 75) (Ah #[O U b.n,O U b.h0,O U b.h1,O U b.h2,O U b.h3,O U b.h4,O U b.f] 75)).trans (hb.mono (by simp;omega)));go_wp2_with fail;go_ret;exact⟨zc hR.out.symm,HB.out⟩
theorem Xv(a b:Rd)(w:Ba):Ap An 176 #[.agg a.gcells,.agg b.gcells] w fun e w'=>e=Am (O U (zj a.gl b.gl))/\Ao w.heap.size w w':=by
 have H0:As (zj a.gl b.gl=if a.n<b.n then -1 else if b.n<a.n then 1 else zj (a.gl.drop 1) (b.gl.drop 1)):=rfl;obtain⟨E,hE⟩:=Kh (zj a.gl b.gl);rw[hE] at H0 ⊢;have pO:=zH (fun k hk=>za (zB (zh w (Ah a.gcells 45)) (Ah b.gcells 45)) (1+k) (kz a k hk));have nG:=zH (fun k hk=>za (zh (w.alloc (Ah a.gcells 45)) (Ah b.gcells 45)) (1+k) (kz b k hk));rw[LZ] at nG;have HX:As (∃W0,W0=(w.alloc (Ah a.gcells 45)).alloc (Ah b.gcells 45)):=⟨_,rfl⟩;unfold Rd.gcells at pO nG HX ⊢;clear hE
 by_cases h1:a.n<b.n
 . have hR:=zH (H0.out.trans (Ln h1))
   clear H0 pO nG HX;go_enter func176,ntmps176;go_wp2_with fail;go_ret;exact⟨zc hR.out.symm,xX w _ _⟩
 by_cases h2:b.n<a.n
 . have hR:=zH (H0.out.trans ((Lj h1).trans (Ln h2)))
   clear H0 pO nG HX;go_enter func176,ntmps176;go_wp2_with fail
   all_goals first | (exfalso;omega) | skip
   go_ret;exact⟨zc hR.out.symm,xX w _ _⟩
 have HE:=zH (H0.out.trans ((Lj h1).trans (Lj h2)));clear H0;go_enter func176,ntmps176;go_wp2_with fail
 all_goals first | (exfalso;omega) | skip
 obtain⟨W0,bH⟩:=HX.out;rw[<-bH] at pO nG ⊢;clear HX;have rL:=zH (show Ao w.heap.size w W0 by rw[bH];exact xX w _ _);clear bH
 go_loopw [5] (fun i wr=>∃k n:Nat,k<=5/\i=O U (k:Int)/\As (E=zj (a.gl.drop (k+1)) (b.gl.drop (k+1)))/\wr=W0.drewN n) (fun i _=>5-(Aq i).toNat)
 case atStart=>exact⟨0,0,by omega,rfl,HE,rfl⟩
 obtain⟨k,n,hk,rfl,ai,rfl⟩:=hrel;clear HE
 by_cases ac:k<5
 . have c1:=pO.out k ac
   have c2:=nG.out k ac;have hs:E=if a.h k<b.h k then -1 else if b.h k<a.h k then 1 else zj (a.gl.drop (k+1+1)) (b.gl.drop (k+1+1)):=by rw[ai.out,uN ac,uN ac,zj]
   obtain⟨x,hx⟩:=Kh (a.h k);obtain⟨y,hy⟩:=Kh (b.h k);rw[hx] at c1 hs;rw[hy] at c2 hs;have HS:=zH hs;clear hx hy ai hs
   by_cases l1:x<y
   . have hR:=zH (HS.out.trans (Ln l1))
     clear HS;go_wp2_with fail;go_quiet (fail);go_wp2_with fail;go_ret;exact⟨zc hR.out.symm,by repeat (first | exact rL.out | refine zx ?_ _)⟩
   by_cases l2:y<x
   . have hR:=zH (HS.out.trans ((Lj l1).trans (Ln l2)))
     clear HS;go_wp2_with fail;go_quiet (fail);go_wp2_with fail;go_quiet (fail);go_wp2_with fail;go_ret;exact⟨zc hR.out.symm,by repeat (first | exact rL.out | refine zx ?_ _)⟩
   have hR:=zH (HS.out.trans ((Lj l1).trans (Lj l2)));clear HS;go_wp2_with fail;go_quiet (fail);go_wp2_with fail;go_quiet (fail);go_wp2_with fail
   go_roundw
   case rel=>exact⟨k+1,_,by omega,by go_num,hR,rfl⟩
   simp[Aq];omega
 obtain rfl:k=5:=by omega
 have hR:As (E=0):=ai.out;clear ai;go_wp2_with fail;go_ret;exact⟨zc hR.out.symm,by repeat (first | exact rL.out | refine zx ?_ _)⟩
theorem wn(a b:Rd)(w:Ba):Ap An 162 #[.agg a.cells,.agg b.cells] w fun e w'=>e=Am (O U (zj a.l b.l))/\Ao w.heap.size w w':=by
 have HS:=zH (@QZ a b);have HG:=zH (fun w=>Xv a b w);have HF:As (qK a.f b.f=if a.f<b.f then -1 else if b.f<a.f then 1 else 0):=rfl;obtain⟨E,hE⟩:=Kh (zj a.l b.l);rw[hE] at HS ⊢;obtain⟨g,hg⟩:=Kh (zj a.gl b.gl);rw[hg] at HS HG;rw[HF.out] at HS;unfold Rd.gcells at HG;unfold Rd.cells;go_enter func162,ntmps162;go_wp2_with fail;obtain⟨W0,bH,b0,b1,bn,aX⟩:=zZ w #[O U a.n,O U a.h0,O U a.h1,O U a.h2,O U a.h3,O U a.h4,O U a.f] #[O U b.n,O U b.h0,O U b.h1,O U b.h2,O U b.h3,O U b.h4,O U b.f] 75 75;rw[bH];refine(HG.out W0).mono ?_;rintro e w1 ⟨rfl,aC⟩;have HB:=zH (Lc aX aC);have d0:=Lb aC (by omega) b0;have d1:=Lb aC (by omega) b1;have q6:=za d0 6 rfl;have p6:=za d1 6 rfl
 by_cases h0:g=0
 . subst h0
   have hR:=zH (HS.out.trans (Lj (by simp)))
   by_cases l1:a.f<b.f
   . have hR:=zH (hR.out.trans (Ln l1))
     go_wp2_with fail;go_ret;exact⟨zc hR.out.symm,HB.out⟩
   by_cases l2:b.f<a.f
   . have hR:=zH (hR.out.trans ((Lj l1).trans (Ln l2)))
     go_wp2_with fail
     all_goals first | (exfalso;omega) | skip
     go_ret;exact⟨zc hR.out.symm,HB.out⟩
   have hR:=zH (hR.out.trans ((Lj l1).trans (Lj l2)));go_wp2_with fail
   all_goals first | (exfalso;omega) | skip
   go_ret;exact⟨zc hR.out.symm,HB.out⟩
 have hR:=zH (HS.out.trans (Ln h0));have e0:(g != 0)=Av:=by simpa using h0
 go_wp2_with fail;go_ret;exact⟨zc hR.out.symm,HB.out⟩
end
section
open Go.RowKit
attribute [local go_sem] Oper.semAt_some
def LowA(a:Ad):Prop:=a.sts.length<=17592186044416/\∀l∈a.sts,l.length<=17592186044416
theorem ad_eq{a b:Ad}(h1:a.n=b.n)(h2:a.sts=b.sts):a=b:=by cases a;cases b;simp_all
theorem Xs(a b:Ad)(ha:LowA a)(hb:LowA b)(A B:Bb)(ca cb:Nat)(w:Ba)(hA:SAt w w.heap.size A a.sts)(hB:SAt w w.heap.size B b.sts) :
  Ap An 128 #[Aj #[O U a.n,I A a.sts.length ca],Aj #[O U b.n,I B b.sts.length cb]] w fun e w'=>e=Am (Ai (decide (a=b)))/\Ao w.heap.size w w':=by
 obtain⟨dS,dI⟩:=ha;obtain⟨aC,af⟩:=hb;have iF:=zH dI;have le:=zH af;obtain⟨w1,ah,d0,d1,bI,hBw⟩:=zZ w #[O U a.n,I A a.sts.length ca] #[O U b.n,I B b.sts.length cb] 27 27;have HA:=zH ((hA.keep hBw).more hBw.size);have HB:=zH ((hB.keep hBw).more hBw.size);have bk:=zH hBw;have bu:=zH d0;have bQ:=zH d1;have aq:=zH ah;obtain⟨p0,p1,_⟩:=Ka d0;obtain⟨q0,q1,_⟩:=Ka d1;clear ah d0 d1 hBw hA hB dI af;have HT:As (a≠b->decide (a=b)=Ax):=fun h=>Lm h
 have HU:As (a=b->decide (a=b)=Av):=fun h=>Ll h
 obtain⟨r,hr⟩:∃r,decide (a=b)=r:=⟨_,rfl⟩;rw[hr] at HT HU ⊢;clear hr;go_enter func128,ntmps128
 by_cases h1:a.n=b.n
 case neg=>
  have hR:=zH (HT.out (fun h=>h1 (congrArg Ad.n h)));have e0:(a.n != b.n)=Av:=by simpa using h1
  clear HT HU;go_wp2_with fail;rw[aq.out];go_wp2_with fail
  all_goals
   go_ret;exact⟨ze hR.out.symm,bk.out⟩
 case pos=>
 have H3:As (a.sts=b.sts->r=Av):=fun h=>HU.out (ad_eq h1 h)
 have H4:As (a.sts≠b.sts->r=Ax):=fun h=>HT.out (fun e=>h (congrArg Ad.sts e))
 rw[h1] at p0 aq bu ⊢;clear h1 HT HU
 by_cases h3:a.sts.length=b.sts.length
 case neg=>
  have hR:=zH (H4.out (fun h=>h3 (by rw[h])));have e0:((a.sts.length:Int) != (b.sts.length:Int))=Av:=by simp;omega
  have e1:¬((a.sts.length:Int)=(b.sts.length:Int)):=by omega
  clear H3 H4 h3;go_wp2_with fail;rw[aq.out];go_wp2_with fail;go_ret;exact⟨ze hR.out.symm,bk.out⟩
 case pos=>
 have HL:=zH h3;rw[<-h3] at q1 aC aq bQ ⊢;clear h3;go_wp2_with fail;rw[aq.out];go_wp2_with fail;clear p0 p1 q0 q1 aq
 go_loopw [5] (fun i wr=>∃k:Nat,k<=a.sts.length/\i=O U (k:Int)/\As (a.sts.take k=b.sts.take k)/\As (Ao w1.heap.size w1 wr)) (fun i _=>a.sts.length-(Aq i).toNat)
 case atStart=>exact⟨0,by omega,rfl,by rw[As,LP,LP],Lp _ _⟩
 obtain⟨k,hk,rfl,hp,aA⟩:=hrel;have p1:=za (La aA.out bu.out) 1 rfl;have q1:=za (La aA.out bQ.out) 1 rfl;have MR:=HL.out
 by_cases ac:k<a.sts.length
 case neg=>
  obtain rfl:k=a.sts.length:=by omega
  have hR:=zH (H3.out (xO HL.out hp.out));clear H3 H4 hp;go_wp2_with fail;go_ret;exact⟨ze hR.out.symm,Lc bk.out aA.out⟩
 case pos=>
 have dQ:k<b.sts.length:=by omega
 obtain⟨ba,oa,A',k1,ea,Kl,a0,IA⟩:=(HA.out.keep aA.out).at_ k ac;obtain⟨bb,ob,B',k2,eb,aI,b0,IB⟩:=(HB.out.keep aA.out).at_ k dQ;subst ea;subst eb;have dD:=iF.out _ (Ld ac);have cV:=le.out _ (Ld dQ);have h0:As (a.sts[k]=b.sts[k]->a.sts.take (k+1)=b.sts.take (k+1)):=fun he=>yG hp.out ac dQ he
 have hN:As (a.sts[k]≠b.sts[k]->r=Ax):=fun he=>H4.out (fun h=>he (by simp only[h]))
 obtain⟨X,hX⟩:=Kh (a.sts[k]);obtain⟨Y,hY⟩:=Kh (b.sts[k]);rw[hX] at a0 IA dD h0 hN;rw[hY] at b0 IB cV h0 hN
 by_cases hl:X.length=Y.length
 case neg=>
  have hR:=zH (hN.out (fun h=>hl (by rw[h])));have e0:((X.length:Int) != (Y.length:Int))=Av:=by simp;omega
  go_wp2_with fail;go_quiet (fail);go_wp2_with fail;go_ret;exact⟨ze hR.out.symm,zx (Lc bk.out aA.out) _⟩
 case pos=>
 have fA:=zH hl;rw[<-hl] at b0 cV;have Se:As (∀W,Ao wr.heap.size wr W->W.cell? ⟨ba,oa+k,Z⟩=J (I A' X.length k1)):=fun W hW=>(hW.cell (p:=⟨ba,_,Z⟩) (LE Kl aA.out.size)).trans a0
 have Bv:As (∀W,Ao wr.heap.size wr W->W.cell? ⟨bb,ob+k,Z⟩=J (I B' X.length k2)):=fun W hW=>(hW.cell (p:=⟨bb,_,Z⟩) (LE aI aA.out.size)).trans b0
 have T0:=zH (IA.more aA.out.size);have TZ:=zH (IB.more aA.out.size);obtain⟨W0,bH⟩:=Kh wr;rw[bH] at aA Se Bv T0 TZ p1 q1 a0 b0 ⊢;have lE:=zH aA.out.size;go_wp2_with fail;go_quiet (fail);go_wp2_with fail
 go_loopw [6] (fun i wx=>∃j:Nat,j<=X.length/\i=O U (j:Int)/\As (X.take j=Y.take j)/\As (Ao W0.heap.size W0 wx)) (fun i _=>X.length-(Aq i).toNat)
 case atStart=>exact⟨0,by omega,rfl,by rw[As,LP,LP],zx (Lp _ _) _⟩
 obtain⟨j,hj,rfl,hq,aM⟩:=hrel;have iX:=aA.out.trans (aM.out.mono lE.out);have Ug:=zH iX;have p1:=za (La iX bu.out) 1 rfl;have q1:=za (La iX bQ.out) 1 rfl;have a0:=Se.out _ aM.out;have b0:=Bv.out _ aM.out;clear iX
 by_cases bg:j<X.length
 case neg=>
  obtain rfl:j=X.length:=by omega
  have hR:=zH (h0.out (xO fA.out hq.out));clear h0 hN hq H3 H4;go_wp2_with fail
  go_roundw
  case rel=>exact⟨k+1,by omega,by go_num,hR,Ug⟩
  simp[Aq];omega
 case pos=>
 have rj:j<Y.length:=by have:=fA.out;omega
 obtain⟨b3,o3,e3,_,x0,x1,x2,x3,x4,x5,x6,x7⟩:=(T0.out.keep aM.out).row j bg;obtain⟨b4,o4,e4,_,y0,y1,y2,y3,y4,y5,y6,y7⟩:=(TZ.out.keep aM.out).row j rj;subst e3;subst e4;have hm:=fun W=>neq_move X[j] Y[j] W
 have g0:As (X[j]=Y[j]->X.take (j+1)=Y.take (j+1)):=fun he=>yG hq.out bg rj he
 have gN:As (X[j]≠Y[j]->r=Ax):=fun he=>hN.out (fun h=>he (by simp only[h]))
 obtain⟨m,Bg⟩:=Kh (X[j]);obtain⟨m',Bf⟩:=Kh (Y[j]);rw[Bg] at x0 x1 x2 x3 x4 x5 x6 x7 hm g0 gN;rw[Bf] at y0 y1 y2 y3 y4 y5 y6 y7 hm g0 gN;clear Bg Bf hq
 by_cases he:m=m'
 . have hR:=zH (g0.out he)
   rw[Lm (by simpa using he)] at hm;unfold Mv.cells at hm;subst he;clear g0 gN h0 hN H3 H4;go_wp2_with fail;go_quiet (fail);go_wp2_with fail
   go_roundw
   case rel=>exact⟨j+1,by omega,by go_num,hR,zx aM.out _⟩
   simp[Aq];omega
 have hR:=zH (gN.out he);rw[Ll (by simpa using he)] at hm;unfold Mv.cells at hm;clear g0 gN h0 hN H3 H4 he;go_wp2_with fail;go_quiet (fail);go_wp2_with fail;go_ret;exact⟨ze hR.out.symm,zx (Lc bk.out Ug.out) _⟩
end
end Go.Proofs.YtkledihebeidlaaGreatDoor
namespace Go.Proofs
set_option maxHeartbeats 4000000
open Go.Shelf
def Tryz.lays170_ren:Go.Shelf.Ren:=⟨fun | 170=>40 | n=>n,fun | 70=>88 | 3=>3 | 0=>0 | 72=>91 | 37=>89 | 5=>5 | n=>n,fun | n=>n⟩
theorem Tryz.lays170:Go.Proofs.Lays.n170 Tryz.prog Tryz.lays170_ren:={
 mixed:=by kernel_rfl
 f170:=Tryz.func40.trans (congrArg some (by kernel_rfl))
 t0:=Tryz.underlying0
 a0:=Tryz.isAgg0
 z0:=Tryz.sizeOf0
 v0:=Tryz.zeroValue0
 t3:=Tryz.underlying3
 a3:=Tryz.isAgg3
 z3:=Tryz.sizeOf3
 v3:=Tryz.zeroValue3
 t37:=Tryz.underlying89
 a37:=Tryz.isAgg89
 z37:=Tryz.sizeOf89
 v37:=Tryz.zeroValue89
 t70:=Tryz.underlying88
 a70:=Tryz.isAgg88
 z70:=Tryz.sizeOf88
 v70:=Tryz.zeroValue88
 t72:=Tryz.underlying91
 a72:=Tryz.isAgg91
 z72:=Tryz.sizeOf91
 v72:=Tryz.zeroValue91 }
def Tryz.lays169_ren:Go.Shelf.Ren:=⟨fun | 169=>41 | n=>n,fun | 70=>88 | 9=>9 | 0=>0 | 72=>91 | 37=>89 | 127=>150 | 3=>3 | 5=>5 | n=>n,fun | n=>n⟩
theorem Tryz.lays169:Go.Proofs.Lays.n169 Tryz.prog Tryz.lays169_ren:={
 mixed:=by kernel_rfl
 f169:=Tryz.func41.trans (congrArg some (by kernel_rfl))
 t0:=Tryz.underlying0
 a0:=Tryz.isAgg0
 z0:=Tryz.sizeOf0
 v0:=Tryz.zeroValue0
 t3:=Tryz.underlying3
 a3:=Tryz.isAgg3
 z3:=Tryz.sizeOf3
 v3:=Tryz.zeroValue3
 t9:=Tryz.underlying9
 a9:=Tryz.isAgg9
 z9:=Tryz.sizeOf9
 v9:=Tryz.zeroValue9
 t37:=Tryz.underlying89
 a37:=Tryz.isAgg89
 z37:=Tryz.sizeOf89
 v37:=Tryz.zeroValue89
 t70:=Tryz.underlying88
 a70:=Tryz.isAgg88
 z70:=Tryz.sizeOf88
 v70:=Tryz.zeroValue88
 t72:=Tryz.underlying91
 a72:=Tryz.isAgg91
 z72:=Tryz.sizeOf91
 v72:=Tryz.zeroValue91
 t127:=Tryz.underlying150
 a127:=Tryz.isAgg150
 z127:=Tryz.sizeOf150
 v127:=Tryz.zeroValue150 }
theorem Tryz.Builder_Extra_169:Builder.Extra Tryz.prog Tryz.lays169_ren:={
 sizeBuilder:=by kernel_rfl
 liesBuilder:=by kernel_rfl
 t5:=Tryz.underlying5
 a5:=Tryz.isAgg5
 z5:=Tryz.sizeOf5
 v5:=Tryz.zeroValue5
 infoByte:=by kernel_rfl
 cellsByte:=by kernel_rfl
 sizeByte:=by kernel_rfl
 neB5:=by decide }
open Go.RowKit in
/-- (*strings.Builder).Len: "Len returns the number of accumulated bytes; b.Len() == len(b.String()).": the world is as it was. (THE FORM '_f': 'Lib.IsBuilderF'.) (LAID: no walk: one application.) -/
theorem Tryz.Builder_Len_f (B b:Nat) (bs:List Value) (w:World) (h:Lib.IsBuilderF 91 5 B b bs w) :
  Calls Tryz.prog 40 #[.pointer (some ⟨b,0,none⟩)] w fun e w'=>e=.returned (.int .i64 bs.length)∧w'=w:=Any.Builder_Len_f Tryz.lays170 B b bs w h
open Go.RowKit in
/-- (*strings.Builder).String: "String returns the accumulated string.": WHATEVER THE BUILDER HOLDS; THE FORM '_k': OVER 'Lib.IsBuilderF' (a builder that 'String()' may have read), AND WITH THE FRAME THAT REACHES ABOVE THE BUILDER: 'Lib.OthersKept': every block that is not b and is no row of uint8's stands as it stood: the iterator of a range among them. (LAID: no walk: one application.) -/
theorem Tryz.Builder_String_any_k (B b:Nat) (l:List UInt8) (w:World) (h:Lib.IsBuilderF 91 5 B b (Lib.byteCells l) w) (hBw:B≤w.heap.size) :
  Calls Tryz.prog 41 #[.pointer (some ⟨b,0,none⟩)] w fun e w'=>e=.returned (.string ⟨l.toArray⟩)∧(Lib.IsBuilderF 91 5 B b (Lib.byteCells l) w'∧Below B w w'∧Lib.OthersKept 5 (some b) w w'):=Any.Builder_String_any_k Tryz.lays169 Tryz.Builder_Extra_169 B b l w h hBw
def Tryz.lays171_ren:Go.Shelf.Ren:=⟨fun | 171=>76 | 243=>109 | 246=>136 | 283=>151 | 284=>152 | 285=>153 | 286=>154 | 129=>169 | 317=>168 | 318=>170 | 319=>171 | 320=>172 | 337=>178 | 338=>179 | n=>n,fun | 3=>3 | 9=>9 | 2=>2 | 4=>4 | 171=>227 | 0=>0 | 53=>197 | 37=>89 | 5=>5 | 173=>230 | 212=>242 | 51=>194 | 20=>20 | 213=>243 | 46=>168 | 232=>248 | 233=>249 | n=>n,fun | 17=>0 | 18=>1 | 19=>2 | n=>n⟩
theorem Tryz.lays171:Go.Proofs.Lays.n171 Tryz.prog Tryz.lays171_ren:={
 mixed:=by kernel_rfl
 f129:=Tryz.func169.trans (congrArg some (by kernel_rfl))
 f171:=Tryz.func76.trans (congrArg some (by kernel_rfl))
 f243:=Tryz.func109.trans (congrArg some (by kernel_rfl))
 f246:=Tryz.func136.trans (congrArg some (by kernel_rfl))
 f283:=Tryz.func151.trans (congrArg some (by kernel_rfl))
 f284:=Tryz.func152.trans (congrArg some (by kernel_rfl))
 f285:=Tryz.func153.trans (congrArg some (by kernel_rfl))
 f286:=Tryz.func154.trans (congrArg some (by kernel_rfl))
 f317:=Tryz.func168.trans (congrArg some (by kernel_rfl))
 f318:=Tryz.func170.trans (congrArg some (by kernel_rfl))
 f319:=Tryz.func171.trans (congrArg some (by kernel_rfl))
 f320:=Tryz.func172.trans (congrArg some (by kernel_rfl))
 f337:=Tryz.func178.trans (congrArg some (by kernel_rfl))
 f338:=Tryz.func179.trans (congrArg some (by kernel_rfl))
 t0:=Tryz.underlying0
 a0:=Tryz.isAgg0
 z0:=Tryz.sizeOf0
 v0:=Tryz.zeroValue0
 t2:=Tryz.underlying2
 a2:=Tryz.isAgg2
 z2:=Tryz.sizeOf2
 v2:=Tryz.zeroValue2
 t3:=Tryz.underlying3
 a3:=Tryz.isAgg3
 z3:=Tryz.sizeOf3
 v3:=Tryz.zeroValue3
 t4:=Tryz.underlying4
 a4:=Tryz.isAgg4
 z4:=Tryz.sizeOf4
 v4:=Tryz.zeroValue4
 t5:=Tryz.underlying5
 a5:=Tryz.isAgg5
 z5:=Tryz.sizeOf5
 v5:=Tryz.zeroValue5
 t9:=Tryz.underlying9
 a9:=Tryz.isAgg9
 z9:=Tryz.sizeOf9
 v9:=Tryz.zeroValue9
 t20:=Tryz.underlying20
 a20:=Tryz.isAgg20
 z20:=Tryz.sizeOf20
 v20:=Tryz.zeroValue20
 t37:=Tryz.underlying89
 a37:=Tryz.isAgg89
 z37:=Tryz.sizeOf89
 v37:=Tryz.zeroValue89
 t46:=Tryz.underlying168
 a46:=Tryz.isAgg168
 z46:=Tryz.sizeOf168
 v46:=Tryz.zeroValue168
 t51:=Tryz.underlying194
 a51:=Tryz.isAgg194
 z51:=Tryz.sizeOf194
 v51:=Tryz.zeroValue194
 t53:=Tryz.underlying197
 a53:=Tryz.isAgg197
 z53:=Tryz.sizeOf197
 v53:=Tryz.zeroValue197
 t171:=Tryz.underlying227
 a171:=Tryz.isAgg227
 z171:=Tryz.sizeOf227
 v171:=Tryz.zeroValue227
 t173:=Tryz.underlying230
 a173:=Tryz.isAgg230
 z173:=Tryz.sizeOf230
 v173:=Tryz.zeroValue230
 t212:=Tryz.underlying242
 a212:=Tryz.isAgg242
 z212:=Tryz.sizeOf242
 v212:=Tryz.zeroValue242
 t213:=Tryz.underlying243
 a213:=Tryz.isAgg243
 z213:=Tryz.sizeOf243
 t232:=Tryz.underlying248
 a232:=Tryz.isAgg248
 z232:=Tryz.sizeOf248
 v232:=Tryz.zeroValue248
 t233:=Tryz.underlying249
 a233:=Tryz.isAgg249
 z233:=Tryz.sizeOf249
 v233:=Tryz.zeroValue249
 g17:=by kernel_rfl
 g18:=by kernel_rfl
 g19:=by kernel_rfl }
open Go.RowKit Go.Sort Go.Lib in
/-- THE ROAD WITHOUT THE TABLE: 0 <= i < 100: NO PREMISE ON THE WORLD, AND THE WORLD IS AS IT WAS: a row that keeps its argument in that range need list no table ('laid = []'). (LAID: no walk: one application.) -/
theorem Tryz.strconv_Itoa_small (i:Nat) (hi:i<100) (w:World) :
  Calls Tryz.prog 76 #[.int .i64 i] w fun e w'=>e=.returned (.string ⟨(Lib.decDigits i).toArray⟩)∧w'=w:=Any.strconv_Itoa_small Tryz.lays171 i hi w
def Tryz.lays212_ren:Go.Shelf.Ren:=⟨fun | 212=>90 | 263=>116 | 264=>117 | n=>n,fun | 46=>168 | 51=>194 | 146=>195 | 53=>197 | 148=>198 | n=>n,fun | n=>n⟩
theorem Tryz.lays212:Go.Proofs.Lays.n212 Tryz.prog Tryz.lays212_ren:={
 mixed:=by kernel_rfl
 f212:=Tryz.func90.trans (congrArg some (by kernel_rfl))
 f263:=Tryz.func116.trans (congrArg some (by kernel_rfl))
 f264:=Tryz.func117.trans (congrArg some (by kernel_rfl))
 t46:=Tryz.underlying168
 a46:=Tryz.isAgg168
 z46:=Tryz.sizeOf168
 v46:=Tryz.zeroValue168
 t51:=Tryz.underlying194
 a51:=Tryz.isAgg194
 z51:=Tryz.sizeOf194
 v51:=Tryz.zeroValue194
 t53:=Tryz.underlying197
 a53:=Tryz.isAgg197
 z53:=Tryz.sizeOf197
 v53:=Tryz.zeroValue197
 t146:=Tryz.underlying195
 a146:=Tryz.isAgg195
 z146:=Tryz.sizeOf195
 v146:=Tryz.zeroValue195
 t148:=Tryz.underlying198
 a148:=Tryz.isAgg198
 z148:=Tryz.sizeOf198
 v148:=Tryz.zeroValue198 }
open Go.RowKit Go.Lib in
/-- math/bits.Mul: "Mul returns the full-width product of x and y": on a machine of 64 bits: Mul64's. (LAID: no walk: one application.) -/
theorem Tryz.bits_Mul (x y:Nat) (hx:x<18446744073709551616) (hy:y<18446744073709551616) (w:World) :
  Calls Tryz.prog 90 #[.int .u64 x,.int .u64 y] w fun e w'=>e=.returned (.tuple #[.int .u64 ((x*y / 18446744073709551616:Nat):Int),.int .u64 ((x*y % 18446744073709551616:Nat):Int)])∧w'=w:=Any.bits_Mul Tryz.lays212 x y hx hy w
def Tryz.lays111_ren:Go.Shelf.Ren:=⟨fun | 111=>32 | n=>n,fun | 28=>49 | 3=>3 | 4=>4 | 0=>0 | n=>n,fun | n=>n⟩
theorem Tryz.lays111:Go.Proofs.Lays.n111 Tryz.prog Tryz.lays111_ren:={
 mixed:=by kernel_rfl
 f111:=Tryz.func32.trans (congrArg some (by kernel_rfl))
 t0:=Tryz.underlying0
 a0:=Tryz.isAgg0
 z0:=Tryz.sizeOf0
 v0:=Tryz.zeroValue0
 t3:=Tryz.underlying3
 a3:=Tryz.isAgg3
 z3:=Tryz.sizeOf3
 v3:=Tryz.zeroValue3
 t4:=Tryz.underlying4
 a4:=Tryz.isAgg4
 z4:=Tryz.sizeOf4
 v4:=Tryz.zeroValue4
 t28:=Tryz.underlying49
 a28:=Tryz.isAgg49
 z28:=Tryz.sizeOf49
 v28:=Tryz.zeroValue49 }
open Go.RowKit Go.Lib in
/-- slices.Equal at []int: "Equal reports whether two slices are equal: the same length and all elements equal. If the lengths are different, Equal returns false. Otherwise, the elements are compared in increasing index order, and the comparison stops at the first unequal pair. Empty and nil slices are considered equal.": IT RETURNS WHETHER THE TWO LISTS OF ELEMENTS ARE ONE; the world is as it was but for the count of draws (the test 's1[i] != s2[i]' has two reads, whose order the model draws, once a round). 'xs', 'ys': what the cells yB the two addresses hold (the spare capacity too, if you have it); 'xs.take n', 'ys.take m': the elements. THE TWO SLICES MAY OVERLAP. (LAID: no walk: one application.) -/
theorem Tryz.slices_Equal_int (b1 o1 n c b2 o2 m d:Nat) (xs ys:List Int) (w:World) (hx:n≤xs.length) (hy:m≤ys.length) (hbig:n≤9223372036854775807) (hbig2:m≤9223372036854775807) (hc1:∀j,j<xs.length→w.cell? ⟨b1,o1+j,none⟩=some (.int .i64 (xs.getD j 0))) (hc2:∀j,j<ys.length→w.cell? ⟨b2,o2+j,none⟩=some (.int .i64 (ys.getD j 0))) :
  Calls Tryz.prog 32 #[.slice (some ⟨b1,o1,none⟩) n c,.slice (some ⟨b2,o2,none⟩) m d] w fun e w'=>e=.returned (.bool (xs.take n==ys.take m))∧∃q,w'=w.drewN q:=Any.slices_Equal_int Tryz.lays111 b1 o1 n c b2 o2 m d xs ys w hx hy hbig hbig2 hc1 hc2
open Go.RowKit Go.Lib in
/-- The same where the first is of length 0 (a nil one too): no cell is asked for. (LAID: no walk: one application.) -/
theorem Tryz.slices_Equal_int_empty (a1 a2:Option Addr) (c m d:Nat) (w:World) (hbig2:m≤9223372036854775807) :
  Calls Tryz.prog 32 #[.slice a1 0 c,.slice a2 m d] w fun e w'=>e=.returned (.bool (decide (m=0)))∧w'=w:=Any.slices_Equal_int_empty Tryz.lays111 a1 a2 c m d w hbig2
open Go.RowKit Go.Lib in
theorem Tryz.slices_Equal_int_lens (a1 a2:Option Addr) (n c m d:Nat) (w:World) (hnm:n≠m) :
  Calls Tryz.prog 32 #[.slice a1 n c,.slice a2 m d] w fun e w'=>e=.returned (.bool false)∧w'=w:=Any.slices_Equal_int_lens Tryz.lays111 a1 a2 n c m d w hnm
end Go.Proofs
namespace Go.Proofs.YtkledihebeidlaaGreatDoor
set_option maxRecDepth 100000
set_option maxHeartbeats 4000000
section
open Go.RowKit
def ZX(b:Bool)(w:Ba)(e:Ending)(w':Ba):Prop:=∃i:Int,e=Am (O U i)/\decide (0<=i)=b/\∃n,w'=w.drewN n
theorem qN{α:Type}{p:α->Bool}{l:List α}{k:Nat}(hk:k<l.length):(l.drop k).any p=(p l[k]||(l.drop (k+1)).any p):=by
 rw[Ly hk];rfl
theorem kX{α:Type}{p:α->Bool}{l:List α}{k:Nat}(hk:k=l.length):(l.drop k).any p=Ax:=by subst hk;rw[NB];rfl
theorem Z6(x m:Int)(bm:Nat)(w:Ba)(hb:w.heap[bm]?=J (Ah #[O U m] 3 (0,0))) :
  Ap An 137 #[O U x,Ak (J ⟨bm,0,Z⟩)] w fun e w'=>e=Am (Ai (yO m x))/\w=w':=by
 have H:As (yO m x=decide (x<0\/m<=x)):=rfl;have c0:=za hb 0 rfl;go_enter func137,ntmps137;go_wp2
 all_goals
  go_ret;refine⟨ze ?_,rfl⟩;rw[H.out];simp
  try omega
theorem Xe(A:Bb)(c:Nat)(xs:List Int)(m:Int)(bm:Nat)(hl:xs.length<=17592186044416)(w:Ba)(hA:IAt w w.heap.size A xs)(hb:w.heap[bm]?=J (Ah #[O U m] 3 (0,0))) :
  Ap An 68 #[I A xs.length c,.func (.func 137) #[] #[Ak (J ⟨bm,0,Z⟩)]] w (ZX (xs.any (yO m)) w):=by
 have HA:=zH hA;have HV:=zH (fun x=>Z6 x m bm w hb);obtain⟨r,hr⟩:=Kh (xs.any (yO m));rw[hr];have HR:As (r=(xs.drop 0).any (yO m)):=by rw[LQ];exact hr.symm
 go_enter func68,ntmps68;go_wp2_with fail
 go_loop [8] (fun i=>∃k:Nat,k<=xs.length/\i=O U (k:Int)/\As (r=(xs.drop k).any (yO m))) (fun i=>xs.length-(Aq i).toNat)
 case atStart=>exact⟨0,by omega,rfl,HR⟩
 obtain⟨k,hk,rfl,ai⟩:=hrel
 by_cases ac:k<xs.length
 . obtain⟨b,o,rfl,dH,c1⟩:=HA.out.at_ k ac
   have hs:=qN (p:=yO m) ac;obtain⟨x,hx⟩:=Kh (xs[k]);rw[hx] at c1 hs;have HS:=zH hs;have HC:=zH (HV.out x);obtain⟨bo,bJ⟩:=Kh (yO m x);rw[bJ] at HS HC;go_wp2_with fail;refine HC.out.mono ?_;rintro e w' ⟨rfl,rfl⟩
   cases bo with
   | true=>
    have hR:r=Av:=by rw[ai.out,HS.out];rfl
    subst hR;go_wp2_with fail;go_ret;exact⟨(k:Int),rfl,by simp,0,rfl⟩
   | false=>
    have cf:As (r=(xs.drop (k+1)).any (yO m)):=by rw[ai.out,HS.out];rfl
    go_wp2_with fail
    go_round
    case rel=>exact⟨k+1,by omega,by go_num,cf⟩
    case measure=>simp[Aq];omega
 obtain rfl:k=xs.length:=by omega
 have hR:r=Ax:=ai.out.trans (kX rfl);subst hR;go_wp2_with fail;go_ret;exact⟨-1,rfl,by decide,0,rfl⟩
theorem gF(A:Bb)(c:Nat)(xs:List Int)(m:Int)(bm:Nat)(hl:xs.length<=17592186044416)(w:Ba)(hA:IAt w w.heap.size A xs)(hb:w.heap[bm]?=J (Ah #[O U m] 3 (0,0))) :
  Ap An 29 #[I A xs.length c,.func (.func 137) #[] #[Ak (J ⟨bm,0,Z⟩)]] w fun e w'=>e=Am (Ai (xs.any (yO m)))/\∃n,w'=w.drewN n:=by
 have hc:=Xe A c xs m bm hl w hA hb;obtain⟨r,hr⟩:=Kh (xs.any (yO m));rw[hr] at hc ⊢;have HC:=zH hc;go_enter func29,ntmps29;go_wp2_with fail;refine HC.out.mono ?_;rintro e w' ⟨i,rfl,hi,n,rfl⟩;have HI:=zH hi;clear hi HC;go_wp2_with fail;go_ret;exact⟨ze HI.out,_,rfl⟩
theorem jc{v:List Int}{n m:Int}(h:(v.length:Int)≠n):zr v n m=15:=Ln h
theorem jd{v:List Int}{n m:Int}(h:(v.length:Int)=n)(h2:v.any (yO m)=Av):zr v n m=2:=by unfold zr;rw[Lj (by simpa using h),Ln h2]
theorem uZ{v:List Int}{n m:Int}(h:(v.length:Int)=n)(h2:v.any (yO m)=Ax):zr v n m=0:=by unfold zr;rw[Lj (by simpa using h),Lj (by rw[h2];decide)]
theorem vX(A:Bb)(c:Nat)(xs:List Int)(n m:Int)(hl:xs.length<=17592186044416)(w:Ba)(hA:IAt w w.heap.size A xs) :
  Ap An 110 #[I A xs.length c,O U n,O U m] w fun e w'=>e=Am (O U (zr xs n m))/\Ao w.heap.size w w':=by
 have ay:=zH (@jc xs n m);have al:=zH (@jd xs n m);have aw:=zH (@uZ xs n m);have HC:=zH (gF A c xs m w.heap.size hl (w.alloc (Ah #[O U m] 3)) ((hA.keep (zw w _)).more (by simp)) (zh _ _));obtain⟨r,hr⟩:=Kh (xs.any (yO m));rw[hr] at al aw HC;obtain⟨E,hE⟩:=Kh (zr xs n m);rw[hE] at ay al aw ⊢;go_enter func110,ntmps110
 by_cases hn:(xs.length:Int)=n
 . have e0:((xs.length:Int) != n)=Ax:=by simp[hn]
   have HN:=zH hn;go_wp2_with fail;refine HC.out.mono ?_;rintro e w' ⟨rfl,q,rfl⟩
   cases r with
   | true=>
    have HR:=zH (al.out HN.out (by rfl));go_wp2_with fail;go_ret;exact⟨zc HR.out.symm,zx (zw w _) _⟩
   | false=>
    have HR:=zH (aw.out HN.out (by rfl));go_wp2_with fail;go_ret;exact⟨zc HR.out.symm,zx (zw w _) _⟩
 have HR:=zH (ay.out hn);have e0:((xs.length:Int) != n)=Av:=by simp[hn]
 go_wp2_with fail;go_ret;exact⟨zc HR.out.symm,zw w _⟩
theorem gR(A:Bb)(c:Nat)(xss:List (List Int))(k:Nat)(hk:k<xss.length)(hl:xss.length<=17592186044416)(aL:∀v∈xss,v.length<=17592186044416)(w:Ba)(hA:LAt w w.heap.size A xss) :
  Ap An 139 #[I A xss.length c,O U k] w fun e w'=>e=Am (Ai (xD (zp xss k) xss[k]))/\∃n,w'=w.drewN n:=by
 cases k with
 | zero=>
  have HR:As (xD (zp xss 0) xss[0]=Ax):=by rw[uf];rfl
  go_enter func139,ntmps139;go_wp2_with fail;go_quiet (fail);go_wp2_with fail;go_ret;exact⟨ze HR.out.symm,_,rfl⟩
 | succ j=>
  have hj:j<xss.length:=by omega
  have hb:xD (zp xss (j+1)) xss[j+1]=decide (0<=zj xss[j] xss[j+1]):=by rw[zT xss j hj];rfl
  obtain⟨b,o,A1,c1,rfl,aC,q1,I1⟩:=hA.at_ (j+1) hk;obtain⟨b2,o2,A2,c2,e2,af,q2,I2⟩:=hA.at_ j hj
  cases e2
  have l1:=aL _ (Ld hk);have l2:=aL _ (Ld hj);have hc:=fun n=>jT A2 A1 c2 c1 xss[j] xss[j+1] l2 l1 (w.drewN n) I2 I1
  obtain⟨r,hr⟩:=Kh (zj xss[j] xss[j+1]);rw[hr] at hb hc;have HB:=zH hb;have HC:=zH hc;obtain⟨n1,fU⟩:=Kh (xss[j+1].length);obtain⟨n2,sI⟩:=Kh (xss[j].length);rw[fU,sI] at HC;rw[fU] at q1 l1;rw[sI] at q2 l2;have e1:((j:Int)+1).toNat=j+1:=by omega
  have e3:IntKind.i64.wrap ((j:Int)+1-1)=(j:Int):=by rw[Lw];omega
  have e5:IntKind.i64.wrap ((j:Int)+1)=(j:Int)+1:=by rw[Lw];omega
  go_enter func139,ntmps139;go_wp2_with fail;go_quiet ((go_at_call 111;exact Rn (HC.out _)));go_wp2_with fail;go_ret;exact⟨ze HB.out.symm,_,rfl⟩
theorem ZA{xs ys:List Int}{k:Nat}(hk:k<xs.length)(hl:xs.length=ys.length)(h:xs.take k=ys.take k)(h2:xs[k]=ys[k]'(by omega)):xs.take (k+1)=ys.take (k+1):=by
 rw[Lu hk,Lu (by omega),h,h2]
theorem Xl(A B:Bb)(ca cb:Nat)(xs ys:List Int)(hl:xs.length<=17592186044416)(eH:ys.length<=17592186044416)(w:Ba)(hA:IAt w w.heap.size A xs)(hB:IAt w w.heap.size B ys) :
  Ap An 32 #[I A xs.length ca,I B ys.length cb] w fun e w'=>e=Am (Ai (decide (xs=ys)))/\∃n,w'=w.drewN n:=by
 have HA:=zH hA;have HB:=zH hB;go_enter func32,ntmps32
 by_cases he:xs.length=ys.length
 . have e0:((xs.length:Int) != (ys.length:Int))=Ax:=by simp[he]
   go_wp2_with fail
   go_loopw [13] (fun i wr=>∃k n:Nat,k<=xs.length/\i=O U (k:Int)/\As (xs.take k=ys.take k)/\wr=w.drewN n) (fun i _=>xs.length-(Aq i).toNat)
   case atStart=>exact⟨0,0,by omega,rfl,by simp[As],rfl⟩
   obtain⟨k,n,hk,rfl,mR,rfl⟩:=hrel
   by_cases ac:k<xs.length
   . obtain⟨b1,o1,rfl,aC,c1⟩:=HA.out.at_ k ac
     obtain⟨b2,o2,rfl,af,c2⟩:=HB.out.at_ k (by omega);have Ih:k<ys.length:=by omega
     obtain⟨x,hx⟩:=Kh (xs[k]);obtain⟨y,hy⟩:=Kh (ys[k]);have HX:=zH hx;have HY:=zH hy;rw[hx] at c1;rw[hy] at c2
     by_cases AG:x=y
     . subst AG
       go_wp2_with fail;go_quiet (fail);go_wp2_with fail
       go_roundw
       case rel=>exact⟨k+1,_,by omega,by go_num,ZA ac he mR.out (HX.out.trans HY.out.symm),rfl⟩
       simp[Aq];omega
     go_wp2_with fail;go_quiet (fail);go_wp2_with fail;go_ret;refine⟨ze (Lm ?_).symm,by first | exact⟨_,rfl⟩ | exact Q3 _ _ _⟩;rintro rfl;exact AG (HX.out.symm.trans HY.out)
   obtain rfl:k=xs.length:=by omega
   go_wp2_with fail;go_ret;refine⟨ze (Ll ?_).symm,_,rfl⟩;have:=mR.out;rwa[LD,he,LD] at this
 have e0:((xs.length:Int) != (ys.length:Int))=Av:=by simp;omega
 go_wp2_with fail;go_ret;exact⟨ze (Lm (fun h=>he (by rw[h]))).symm,0,rfl⟩
theorem has1_any(A B:Bb)(ca cb:Nat)(xs ys:List Int)(hl:xs.length<=17592186044416)(eH:ys.length<=17592186044416)(bv:Nat)(w:Ba)(hA:IAt w w.heap.size A xs)(hB:IAt w w.heap.size B ys)(hb:w.heap[bv]?=J (Ah #[I B ys.length cb] 49 (0,0))) :
  Ap An 157 #[I A xs.length ca,Ak (J ⟨bv,0,Z⟩)] w fun e w'=>e=Am (Ai (decide (xs=ys)))/\∃n,w'=w.drewN n:=by
 have c0:=za hb 0 rfl;have HC:=zH (Xl A B ca cb xs ys hl eH w hA hB);obtain⟨r,hr⟩:∃r,decide (xs=ys)=r:=⟨_,rfl⟩;rw[hr] at HC ⊢;go_enter func157,ntmps157;go_wp2_with fail;refine HC.out.mono ?_;rintro e w' ⟨rfl,n,rfl⟩;go_wp2_with fail;go_ret;exact⟨rfl,_,rfl⟩
theorem Qa(A:Bb)(c:Nat)(xss:List (List Int))(B:Bb)(cb:Nat)(ys:List Int)(bv:Nat)(hl:xss.length<=17592186044416)(aL:∀v∈xss,v.length<=17592186044416)(eH:ys.length<=17592186044416)(w:Ba)(hA:LAt w w.heap.size A xss)(hB:IAt w w.heap.size B ys)
  (hb:w.heap[bv]?=J (Ah #[I B ys.length cb] 49 (0,0))) :
  Ap An 173 #[I A xss.length c,.func (.func 157) #[] #[Ak (J ⟨bv,0,Z⟩)]] w (ZX (xss.any fun x=>decide (x=ys)) w):=by
 have HA:=zH hA;have HB:=zH hB;have HBb:=zH hb;have fA:=zH aL;obtain⟨r,hr⟩:∃r,(xss.any fun x=>decide (x=ys))=r:=⟨_,rfl⟩;rw[hr];have HR:As (r=(xss.drop 0).any fun x=>decide (x=ys)):=by rw[LQ];exact hr.symm
 go_enter func173,ntmps173;go_wp2_with fail
 go_loopw [8] (fun i wr=>∃k n:Nat,k<=xss.length/\i=O U (k:Int)/\As (r=(xss.drop k).any fun x=>decide (x=ys))/\wr=w.drewN n) (fun i _=>xss.length-(Aq i).toNat)
 case atStart=>exact⟨0,0,by omega,rfl,HR,rfl⟩
 obtain⟨k,n,hk,rfl,ai,rfl⟩:=hrel
 by_cases ac:k<xss.length
 . obtain⟨b,o,A1,c1,rfl,dH,q1,I1⟩:=HA.out.at_ k ac
   have l1:=fA.out _ (Ld ac);have hs:=qN (p:=fun x=>decide (x=ys)) ac;have HC:=zH (has1_any A1 B c1 cb xss[k] ys l1 eH bv (w.drewN n) I1 HB.out HBb.out);obtain⟨x,hx⟩:=Kh (xss[k]);rw[hx] at q1 hs HC l1;have HS:=zH hs;obtain⟨bo,bJ⟩:∃bo,decide (x=ys)=bo:=⟨_,rfl⟩;rw[bJ] at HS HC;obtain⟨xl,fC⟩:=Kh x.length;rw[fC] at q1 HC l1;go_wp2_with fail;refine HC.out.mono ?_;rintro e w' ⟨rfl,n2,rfl⟩
   cases bo with
   | true=>
    have hR:r=Av:=by rw[ai.out,HS.out];rfl
    subst hR;go_wp2_with fail;go_ret;exact⟨(k:Int),rfl,by simp,_,rfl⟩
   | false=>
    have cf:As (r=(xss.drop (k+1)).any fun x=>decide (x=ys)):=by rw[ai.out,HS.out];rfl
    go_wp2_with fail
    go_roundw
    case rel=>exact⟨k+1,_,by omega,by go_num,cf,rfl⟩
    case measure=>simp[Aq];omega
 obtain rfl:k=xss.length:=by omega
 have hR:r=Ax:=ai.out.trans (kX rfl);subst hR;go_wp2_with fail;go_ret;exact⟨-1,rfl,by decide,_,rfl⟩
theorem gK(A:Bb)(c:Nat)(xss:List (List Int))(B:Bb)(cb:Nat)(ys:List Int)(bv:Nat)(hl:xss.length<=17592186044416)(aL:∀v∈xss,v.length<=17592186044416)(eH:ys.length<=17592186044416)(w:Ba)(hA:LAt w w.heap.size A xss)(hB:IAt w w.heap.size B ys)
  (hb:w.heap[bv]?=J (Ah #[I B ys.length cb] 49 (0,0))) :
  Ap An 156 #[I A xss.length c,.func (.func 157) #[] #[Ak (J ⟨bv,0,Z⟩)]] w fun e w'=>e=Am (Ai (xss.any fun x=>decide (x=ys)))/\∃n,w'=w.drewN n:=by
 have hc:=Qa A c xss B cb ys bv hl aL eH w hA hB hb;obtain⟨r,hr⟩:∃r,(xss.any fun x=>decide (x=ys))=r:=⟨_,rfl⟩;rw[hr] at hc ⊢;have HC:=zH hc;go_enter func156,ntmps156;go_wp2_with fail;refine HC.out.mono ?_;rintro e w' ⟨i,rfl,hi,n,rfl⟩;have HI:=zH hi;clear hi HC;go_wp2_with fail;go_ret;exact⟨ze HI.out,_,rfl⟩
theorem Je{xss:List (List Int)}{ys:List Int}:(xss.any fun x=>decide (x=ys))=decide (ys∈xss):=by
 rw[Nr,Ns,L6];constructor
 . rintro⟨x,h,e⟩
   rw[<-LK e];exact h
 exact fun h=>⟨ys,h,Ll rfl⟩
theorem thas_any(A:Bb)(c:Nat)(xss:List (List Int))(B:Bb)(cb:Nat)(ys:List Int)(hl:xss.length<=17592186044416)(aL:∀v∈xss,v.length<=17592186044416)(eH:ys.length<=17592186044416)(w:Ba)(hA:LAt w w.heap.size A xss)(hB:IAt w w.heap.size B ys) :
  Ap An 140 #[I A xss.length c,I B ys.length cb] w fun e w'=>e=Am (Ai (decide (ys∈xss)))/\Ao w.heap.size w w':=by
 have HC:=zH (gK A c xss B cb ys w.heap.size hl aL eH (w.alloc (Ah #[I B ys.length cb] 49)) ((hA.keep (zw w _)).more (by simp)) ((hB.keep (zw w _)).more (by simp)) (zh _ _));rw[Je] at HC;obtain⟨r,hr⟩:=Kh (decide (ys∈xss));rw[hr] at HC ⊢;go_enter func140,ntmps140;go_wp2_with fail;refine HC.out.mono ?_;rintro e w' ⟨rfl,n,rfl⟩;go_wp2_with fail;go_ret;exact⟨rfl,zx (zw w _) _⟩
theorem tboxes(w:Ba)(c1 c2:Array Au)(t1 t2:TypeId):∃W0,(w.alloc (Ah c1 t1)).alloc (Ah c2 t2)=W0/\W0.heap[w.heap.size]?=J (Ah c1 t1 (0,0))/\W0.heap[w.heap.size+1]?=J (Ah c2 t2 (0,0))/\w.heap.size+2<=W0.heap.size/\Ao w.heap.size w W0:=
 ⟨_,rfl,zB (zh _ _) _,by have:=zh (w.alloc (Ah c1 t1)) (Ah c2 t2);rwa[LZ] at this,by simp,xX w _ _⟩
def FewL(l:List (List Int)):Prop:=l.length<=30/\∀v∈l,v.length<=10
def FewC(c:Cs):Prop:=c.inp.length<=10/\FewL c.out/\FewL c.calm
def FewT(t:Tk):Prop:=t.cases.length<=30/\∀c∈t.cases,FewC c
theorem uu{n m:Int}{c:Cs}(h:c.out.length<1):qB n m c=5:=Ln (.inl h)
theorem gq{n m:Int}{c:Cs}(h:1<=c.out.length)(h1:c.out.length<=30)(h2:qd (fun v=>zr v n m) c.out≠0):qB n m c=qd (fun v=>zr v n m) c.out:=by unfold qB;rw[Lj (by omega),Ln h2]
theorem uv{n m:Int}{c:Cs}(h:1<=c.out.length)(h1:c.out.length<=30)(h2:qd (fun v=>zr v n m) c.out=0):qB n m c=qd (xU c.out) c.calm:=by unfold qB;rw[Lj (by omega),Lj (by simpa using h2)]
theorem Zz(n ins m:Int)(cs:Au)(A0 A1 A2:Bb)(k0 k1 k2:Nat)(x:Cs)(hf:FewC x)(w:Ba)(h1:LAt w w.heap.size A1 x.out)(h2:LAt w w.heap.size A2 x.calm) :
  Ap An 112 #[Aj #[O U n,O U ins,O U m,cs],Aj #[I A0 x.inp.length k0,I A1 x.out.length k1,I A2 x.calm.length k2]] w fun e w'=>e=Am (O U (qB n m x))/\Ao w.heap.size w w':=by
 obtain⟨VQ,⟨dR,fq⟩,VP,VO⟩:=hf;have eC:=zH fq;have oA:=zH VO;have H1:=zH h1;have H2:=zH h2;have ay:=zH (@uu n m x);have al:=zH (@gq n m x);have aw:=zH (@uv n m x);obtain⟨E,hE⟩:=Kh (qB n m x);rw[hE] at ay al aw ⊢;obtain⟨xi,xo,xc⟩:=x;dsimp only at VQ dR VP eC oA H1 H2 ay al aw ⊢
 by_cases hz:xo.length<1
 . have HR:=zH (ay.out hz)
   go_enter func112,ntmps112;go_wp2_with fail
   all_goals first | (exfalso;omega) | skip
   go_ret;exact⟨zc HR.out.symm,xX w _ _⟩
 have bS:¬((xo.length:Int)<1):=by omega
 have al:=zH (al.out (by omega) (by omega));have aw:=zH (aw.out (by omega) (by omega));go_enter func112,ntmps112;go_wp2_with fail
 all_goals first | (exfalso;omega) | skip
 obtain⟨W0,bH,b0,b1,bn,aX⟩:=tboxes w #[O U n,O U ins,O U m,cs] #[I A0 xi.length k0,I A1 xo.length k1,I A2 xc.length k2] 24 118;rw[bH];have fh:=zH aX;have lZ:=zH b0;have lY:=zH b1;clear bH aX b0 b1;obtain⟨F,hF⟩:∃F,qd (fun v=>zr v n m) xo=F:=⟨_,rfl⟩;have HF:As (F=yc (fun v=>zr v n m) xo 0):=by rw[xp];exact hF.symm
 rw[hF] at al aw;clear hF
 go_loopw [23] (fun i wr=>∃k:Nat,k<=xo.length/\i=O U (k:Int)/\As (F=yc (fun v=>zr v n m) xo k)/\Ao W0.heap.size W0 wr) (fun i _=>xo.length-(Aq i).toNat)
 case atStart=>exact⟨0,by omega,rfl,HF,Lp _ _⟩
 obtain⟨k,hk,rfl,ai,aA⟩:=hrel;clear HF;have ce:=zH (Lc fh.out aA);have d0:=Lb aA (by omega) lZ.out;have d1:=Lb aA (by omega) lY.out;have q0:=za d0 0 rfl;have q2:=za d0 2 rfl;have q3:=za d1 1 rfl;have q4:=za d1 2 rfl;have HW:=zH aA
 by_cases ac:k<xo.length
 . have HL:=zH (H1.out.keep ce.out)
   obtain⟨b,o,A3,k3,rfl,hb,c3,I3⟩:=HL.out.at_ k ac;have l3:=eC.out _ (Ld ac);have aG:=zH (@xG (fun v=>zr v n m) xo k ac);have bf:=zH (@yY (fun v=>zr v n m) xo k ac);have az:=zH (@qb (fun v=>zr v n m) xo k ac);have HV:=zH (fun (w':Ba) (h:IAt w' w'.heap.size A3 xo[k])=>vX A3 k3 xo[k] n m (by omega) w' h);have HU:=zH (fun (w':Ba) (h:LAt w' w'.heap.size (J ⟨b,o,Z⟩) xo)=>gR (J ⟨b,o,Z⟩) k1 xo k ac (by omega) (fun v hv=>by have:=eC.out v hv;omega) w' h);obtain⟨v,hv⟩:=Kh (xo[k]);obtain⟨bo,bJ⟩:=Kh (xD (zp xo k) xo[k]);rw[bJ] at bf az HU;rw[hv] at c3 I3 l3 aG bf az HV;obtain⟨ev,cu⟩:=Kh (zr v n m);rw[cu] at aG bf az HV;obtain⟨vl,cm⟩:=Kh v.length;rw[cm] at c3 l3 HV;have HI:=zH I3;clear hv bJ cu cm I3 aA d0 d1;go_wp2_with fail;refine(HV.out _ ((HI.out.more (by have:=ce.out.size;omega)))).mono ?_;rintro e w1 ⟨rfl,aC⟩;have dB:=zH (Lc ce.out aC);have aq:=zH (Lc HW.out aC);have d0:=Lb aq.out (by omega) lZ.out;have d1:=Lb aq.out (by omega) lY.out;have q0:=za d0 0 rfl;have q2:=za d0 2 rfl;have q3:=za d1 1 rfl;have q4:=za d1 2 rfl;clear aC d0 d1
   by_cases he:ev=0
   . subst he
     have EG:=zH ((H1.out.keep dB.out).more dB.out.size);clear aG;go_wp2_with fail;refine(HU.out _ EG.out).mono ?_;rintro e w2 ⟨rfl,nq,rfl⟩
     cases bo with
     | true=>
      have hR:=zH (ai.out.trans (bf.out (by simp) (by simp)));have HR:=zH ((al.out (by rw[hR.out];decide)).trans hR.out);go_wp2_with fail;go_ret;exact⟨zc HR.out.symm,zx dB.out _⟩
     | false=>
      have hR:=zH (ai.out.trans (az.out (by simp) (by simp)));go_wp2_with fail
      go_roundw
      case rel=>exact⟨k+1,by omega,by go_num,hR,zx aq.out _⟩
      case measure=>simp[Aq];omega
   have hR:=zH (ai.out.trans (aG.out he));have HR:=zH ((al.out (by rw[hR.out];exact he)).trans hR.out);have e0:(ev != 0)=Av:=by simpa using he
   go_wp2_with fail;go_ret;exact⟨zc HR.out.symm,dB.out⟩
 obtain rfl:k=xo.length:=by omega
 have hR:=zH (ai.out.trans xF);have HR:=zH (aw.out hR.out);go_wp2_with fail;obtain⟨W1,cO⟩:∃W1,W1=wr:=⟨_,rfl⟩;rw[<-cO] at ce HW q0 q2 q3 q4 ⊢;have Wk:=HW.out.size;obtain⟨G,hG⟩:=Kh (qd (xU xo) xc);have HG:As (G=yc (xU xo) xc 0):=by rw[xp];exact hG.symm
 rw[hG] at HR;clear hG
 go_loopw [45] (fun i wr=>∃k:Nat,k<=xc.length/\i=O U (k:Int)/\As (G=yc (xU xo) xc k)/\Ao W1.heap.size W1 wr) (fun i _=>xc.length-(Aq i).toNat)
 case atStart=>exact⟨0,by omega,rfl,HG,Lp _ _⟩
 obtain⟨k,hk,rfl,ai,aA⟩:=hrel;clear HG;have dB:=zH (Lc ce.out aA);have aq:=zH (Lc HW.out aA);have HWl:=zH aA;have d1:=Lb aq.out (by omega) lY.out;have q3:=za d1 1 rfl;have q4:=za d1 2 rfl;clear aA
 by_cases ac:k<xc.length
 . have HL:=zH (H2.out.keep dB.out)
   have TR:=zH ((H1.out.keep dB.out).more dB.out.size);obtain⟨b,o,A3,k3,rfl,hb,c3,I3⟩:=HL.out.at_ k ac;have l3:=oA.out _ (Ld ac);have aG:=zH (@xG (xU xo) xc k ac);have bf:=zH (@yY (xU xo) xc k ac);have az:=zH (@qb (xU xo) xc k ac);have HV:=zH (fun (w':Ba) (h0:LAt w' w'.heap.size A1 xo) (h:IAt w' w'.heap.size A3 xc[k])=>thas_any A1 k1 xo A3 k3 xc[k] (by omega) (fun v hv=>by have:=eC.out v hv;omega) (by omega) w' h0 h);have HU:=zH (fun (w':Ba) (h:LAt w' w'.heap.size (J ⟨b,o,Z⟩) xc)=>gR (J ⟨b,o,Z⟩) k2 xc k ac (by omega) (fun v hv=>by have:=oA.out v hv;omega) w' h);have ep:As (∀v,xU xo v=if v∈xo then 0 else 6):=fun _=>rfl
   obtain⟨v,hv⟩:=Kh (xc[k]);obtain⟨bo,bJ⟩:=Kh (xD (zp xc k) xc[k]);rw[bJ] at bf az HU;rw[hv] at c3 I3 l3 aG bf az HV;have ep:=zH (ep.out v);obtain⟨ev,cu⟩:=Kh (xU xo v);rw[cu] at aG bf az ep;obtain⟨vl,cm⟩:=Kh v.length;rw[cm] at c3 l3 HV;have HI:=zH I3;clear hv bJ cu cm I3
   by_cases hm:v∈xo
   . have he:ev=0:=ep.out.trans (Ln hm)
     subst he;rw[Ll hm] at HV;clear aG hm ep;go_wp2_with fail;refine(HV.out _ TR.out ((HI.out.more (by have:=dB.out.size;omega)))).mono ?_;rintro e w1 ⟨rfl,aC⟩;have eD:=zH (Lc dB.out aC);have Ml:=zH (Lc aq.out aC);have d1:=Lb Ml.out (by omega) lY.out;have q3:=za d1 1 rfl;have q4:=za d1 2 rfl;have EG:=zH ((H2.out.keep eD.out).more eD.out.size);have HWm:=zH (Lc HWl.out aC);clear aC d1;go_wp2_with fail;refine(HU.out _ EG.out).mono ?_;rintro e w2 ⟨rfl,nq,rfl⟩
     cases bo with
     | true=>
      have hR:=zH (ai.out.trans (bf.out (by simp) (by simp)));have cf:=zH (HR.out.trans hR.out);clear ai bf az HR HV HU;go_wp2_with fail;go_ret;exact⟨zc cf.out.symm,zx eD.out _⟩
     | false=>
      have hR:=zH (ai.out.trans (az.out (by simp) (by simp)));clear ai bf az HV HU;go_wp2_with fail
      go_roundw
      case rel=>exact⟨k+1,by omega,by go_num,hR,zx HWm.out _⟩
      case measure=>simp[Aq];omega
   have he:ev=6:=ep.out.trans (Lj hm);subst he;rw[Lm hm] at HV;have hR:=zH (ai.out.trans (aG.out (by decide)));have cf:=zH (HR.out.trans hR.out);clear ai bf az aG hm ep HR HU;go_wp2_with fail;refine(HV.out _ TR.out ((HI.out.more (by have:=dB.out.size;omega)))).mono ?_;rintro e w1 ⟨rfl,aC⟩;have eD:=zH (Lc dB.out aC);go_wp2_with fail;go_ret;exact⟨zc cf.out.symm,eD.out⟩
 obtain rfl:k=xc.length:=by omega
 have hR:=zH (ai.out.trans xF);have cf:=zH (HR.out.trans hR.out);go_wp2_with fail;go_ret;exact⟨zc cf.out.symm,dB.out⟩
theorem ki(A:Bb)(c:Nat)(xs:List Int)(n m:Int)(hl:xs.length<=17592186044416)(w:Ba)(hA:IAt w w.heap.size A xs) :
  Ap An 159 #[I A xs.length c,O U n,O U m] w fun e w'=>e=Am (O U (zr xs n m))/\w'=w:=by
 have HA:=zH hA;have ay:=zH (@jc xs n m);have al:=zH (@jd xs n m);have aw:=zH (@uZ xs n m);obtain⟨E,hE⟩:=Kh (zr xs n m);rw[hE] at ay al aw ⊢
 by_cases hn:(xs.length:Int)=n
 . subst hn
   have al:=zH (al.out rfl);have aw:=zH (aw.out rfl);obtain⟨r,hr⟩:=Kh (xs.any (yO m));rw[hr] at al aw;have HR:As (r=(xs.drop 0).any (yO m)):=by rw[LQ];exact hr.symm
   go_enter func159,ntmps159;go_wp2_with fail
   go_loop [7] (fun i=>∃k:Nat,k<=xs.length/\i=O U (k:Int)/\As (r=(xs.drop k).any (yO m))) (fun i=>xs.length-(Aq i).toNat)
   case atStart=>exact⟨0,by omega,rfl,HR⟩
   obtain⟨k,hk,rfl,ai⟩:=hrel
   by_cases ac:k<xs.length
   . obtain⟨b,o,rfl,dH,c1⟩:=HA.out.at_ k ac
     have hs:=qN (p:=yO m) ac;have ho:As (∀x,yO m x=decide (x<0\/m<=x)):=fun _=>rfl
     obtain⟨x,hx⟩:=Kh (xs[k]);rw[hx] at c1 hs;rw[ho.out x] at hs;have HS:=zH hs
     by_cases h1:x<0\/m<=x
     . have hR:r=Av:=by rw[ai.out,HS.out,Ll h1];rfl
       subst hR;have HE:=zH (al.out rfl)
       by_cases h2:x<0
       . clear h1
         go_wp2_with fail;go_ret;exact⟨zc HE.out.symm,rfl⟩
       have h3:m<=x:=by omega
       go_wp2_with fail;go_ret;exact⟨zc HE.out.symm,rfl⟩
     have cf:As (r=(xs.drop (k+1)).any (yO m)):=by rw[ai.out,HS.out,Lm h1];rfl
     have h2:¬x<0:=by omega
     have h3:¬m<=x:=by omega
     go_wp2_with fail
     go_round
     case rel=>exact⟨k+1,by omega,by go_num,cf⟩
     simp[Aq];omega
   obtain rfl:k=xs.length:=by omega
   have hR:r=Ax:=ai.out.trans (kX rfl);subst hR;have HE:=zH (aw.out rfl);go_wp2_with fail;go_ret;exact⟨zc HE.out.symm,rfl⟩
 have HR:=zH (ay.out hn);have e0:((xs.length:Int) != n)=Av:=by simp[hn]
 go_enter func159,ntmps159;go_wp2_with fail;go_ret;exact⟨zc HR.out.symm,rfl⟩
theorem Yi(A:Bb)(c:Nat)(xss:List (List Int))(B:Bb)(cb:Nat)(ys:List Int)(hl:xss.length<=17592186044416)(aL:∀v∈xss,v.length<=17592186044416)(eH:ys.length<=17592186044416)(w:Ba)(hA:LAt w w.heap.size A xss)(hB:IAt w w.heap.size B ys) :
  Ap An 160 #[I A xss.length c,I B ys.length cb] w fun e w'=>e=Am (Ai (decide (ys∈xss)))/\∃n,w'=w.drewN n:=by
 have HA:=zH hA;have HB:=zH hB;have fA:=zH aL;rw[<-Je];obtain⟨r,hr⟩:∃r,(xss.any fun x=>decide (x=ys))=r:=⟨_,rfl⟩;rw[hr];have HR:As (r=(xss.drop 0).any fun x=>decide (x=ys)):=by rw[LQ];exact hr.symm
 go_enter func160,ntmps160;go_wp2_with fail
 go_loopw [5] (fun i wr=>∃k n:Nat,k<=xss.length/\i=O U (k:Int)/\As (r=(xss.drop k).any fun x=>decide (x=ys))/\wr=w.drewN n) (fun i _=>xss.length-(Aq i).toNat)
 case atStart=>exact⟨0,0,by omega,rfl,HR,rfl⟩
 obtain⟨k,n,hk,rfl,ai,rfl⟩:=hrel
 by_cases ac:k<xss.length
 . obtain⟨b,o,A1,c1,rfl,dH,q1,I1⟩:=HA.out.at_ k ac
   have l1:=fA.out _ (Ld ac);have hs:=qN (p:=fun x=>decide (x=ys)) ac;have HC:=zH (yT A1 B c1 cb xss[k] ys l1 eH (w.drewN n) I1 HB.out);obtain⟨x,hx⟩:=Kh (xss[k]);rw[hx] at q1 hs HC l1;have HS:=zH hs;have hz:As (zj x ys=0->x=ys):=xQ;have cp:As (x=ys->zj x ys=0):=fun h=>by rw[h];exact yC _
   obtain⟨bo,bJ⟩:=Kh (zj x ys);rw[bJ] at hz HC cp;obtain⟨xl,fC⟩:=Kh x.length;rw[fC] at q1 HC l1;go_wp2_with fail;refine HC.out.mono ?_;rintro e w' ⟨rfl,n2,rfl⟩
   by_cases hb:bo=0
   . have hR:r=Av:=by rw[ai.out,HS.out,Ll (hz.out hb)];rfl
     subst hR;subst hb;go_wp2_with fail;go_ret;exact⟨rfl,_,rfl⟩
   have cf:As (r=(xss.drop (k+1)).any fun x=>decide (x=ys)):=by rw[ai.out,HS.out,Lm (fun h=>hb (cp.out h))];rfl
   have e0:(bo==0)=Ax:=by simpa using hb
   go_wp2_with fail
   go_roundw
   case rel=>exact⟨k+1,_,by omega,by go_num,cf,rfl⟩
   simp[Aq];omega
 obtain rfl:k=xss.length:=by omega
 have hR:r=Ax:=ai.out.trans (kX rfl);subst hR;go_wp2_with fail;go_ret;exact⟨rfl,_,rfl⟩
def kC(l:List (List Int))(m:Nat):Bool:=decide (l.length<=m)&&l.all fun v=>decide (v.length<=10)
theorem Y9{α:Type}{p:α->Bool}{l:List α}{k:Nat}(hk:k<l.length):(l.drop k).all p=(p l[k]&&(l.drop (k+1)).all p):=by
 rw[Ly hk];rfl
theorem Jg{α:Type}{p:α->Bool}{l:List α}{k:Nat}(hk:k=l.length):(l.drop k).all p=Av:=by subst hk;rw[NB];rfl
theorem YO(A:Bb)(c:Nat)(xss:List (List Int))(hl:xss.length<=17592186044416)(aL:∀v∈xss,v.length<=17592186044416)(w:Ba)(hA:LAt w w.heap.size A xss) :
  Ap An 118 #[I A xss.length c,O U 30] w fun e w'=>e=Am (Ai (kC xss 30))/\w'=w:=by
 have HA:=zH hA;have fA:=zH aL;have H:As (kC xss 30=(decide (xss.length<=30)&&xss.all fun v=>decide (v.length<=10))):=rfl;obtain⟨r,hr⟩:=Kh (kC xss 30);rw[hr] at H ⊢
 by_cases hz:xss.length<=30
 . have HR:As (r=(xss.drop 0).all fun v=>decide (v.length<=10)):=by rw[LQ,H.out,Ll hz,Nq];rfl
   have bS:¬(30<(xss.length:Int)):=by omega
   go_enter func118,ntmps118;go_wp2_with fail
   all_goals first | (exfalso;omega) | skip
   go_loop [5] (fun i=>∃k:Nat,k<=xss.length/\i=O U (k:Int)/\As (r=(xss.drop k).all fun v=>decide (v.length<=10))) (fun i=>xss.length-(Aq i).toNat)
   case atStart=>exact⟨0,by omega,rfl,HR⟩
   obtain⟨k,hk,rfl,ai⟩:=hrel
   by_cases ac:k<xss.length
   . obtain⟨b,o,A1,c1,rfl,dH,q1,_⟩:=HA.out.at_ k ac
     have l1:=fA.out _ (Ld ac);have HS:=zH (Y9 (p:=fun v=>decide (v.length<=10)) ac);obtain⟨xl,fC⟩:=Kh (xss[k].length);rw[fC] at q1 HS l1
     by_cases hx:xl<=10
     . have cf:As (r=(xss.drop (k+1)).all fun v=>decide (v.length<=10)):=by rw[ai.out,HS.out,Ll hx];rfl
       go_wp2_with fail
       all_goals first | (exfalso;omega) | skip
       go_round
       case rel=>exact⟨k+1,by omega,by go_num,cf⟩
       simp[Aq];omega
     have hR:r=Ax:=by rw[ai.out,HS.out,Lm hx];rfl
     subst hR;go_wp2_with fail
     all_goals first | (exfalso;omega) | skip
     go_ret;exact⟨rfl,rfl⟩
   obtain rfl:k=xss.length:=by omega
   have hR:r=Av:=ai.out.trans (Jg rfl);subst hR;go_wp2_with fail;go_ret;exact⟨rfl,rfl⟩
 have hR:r=Ax:=by rw[H.out,Lm hz];rfl
 subst hR;go_enter func118,ntmps118;go_wp2_with fail
 all_goals first | (exfalso;omega) | skip
 go_ret;exact⟨rfl,rfl⟩
theorem vY{t:Tk}(h:t.n<1\/5<t.n\/t.ins<1\/8<t.ins\/t.outs<1\/8<t.outs):yA t=2:=Ln h
theorem we{t:Tk}(h:¬(t.n<1\/5<t.n\/t.ins<1\/8<t.ins\/t.outs<1\/8<t.outs))(h2:t.cases.length<1):yA t=5:=by unfold yA;rw[Lj h,Ln (.inl h2)]
theorem vZ{t:Tk}(h:¬(t.n<1\/5<t.n\/t.ins<1\/8<t.ins\/t.outs<1\/8<t.outs))(h2:1<=t.cases.length)(h3:t.cases.length<=30):yA t=yM t t.cases 0:=by unfold yA;rw[Lj h,Lj (by omega)]
theorem Zq{t:Tk}{p:Option Cs}{c:Cs}(h:zr c.inp t.n t.ins≠0):xE t p c=zr c.inp t.n t.ins:=Ln h
theorem uy{t:Tk}{p:Option Cs}{c:Cs}(h:zr c.inp t.n t.ins=0)(h2:xD (p.map Cs.inp) c.inp=Av):xE t p c=14:=by unfold xE;rw[Lj (by simpa using h),Ln h2]
theorem Zr{t:Tk}{p:Option Cs}{c:Cs}(h:zr c.inp t.n t.ins=0)(h2:xD (p.map Cs.inp) c.inp=Ax):xE t p c=qB t.n t.outs c:=by unfold xE;rw[Lj (by simpa using h),Lj (by rw[h2];decide)]
theorem Xh(t:Tk)(A:Bb)(kc:Nat)(hf:FewT t)(w:Ba)(hA:CAt w w.heap.size A t.cases) :
  Ap An 77 #[Aj #[O U t.n,O U t.ins,O U t.outs,I A t.cases.length kc]] w fun e w'=>e=Am (O U (yA t))/\Ao w.heap.size w w':=by
 obtain⟨dR,fq⟩:=hf;have eC:=zH fq;have HA:=zH hA;have ay:=zH (@vY t);have al:=zH (@we t);have aw:=zH (@vZ t);obtain⟨E,hE⟩:=Kh (yA t);rw[hE] at ay al aw ⊢;obtain⟨cv,mo⟩:=Kh (I A t.cases.length kc)
 by_cases hr:t.n<1\/5<t.n\/t.ins<1\/8<t.ins\/t.outs<1\/8<t.outs
 . have HR:=zH (ay.out hr)
   obtain⟨n,ins,outs,cases⟩:=t;dsimp only at hr mo ⊢;rw[mo];have HN:=zH hr;clear ay al aw mo hA fq eC HA hE hr;go_enter func77,ntmps77;go_wp2_with fail
   all_goals first | (exfalso;have:=HN.out;omega) | (go_ret;exact⟨zc HR.out.symm,zw w _⟩)
 have r1:¬t.n<1:=by omega
 have r2:¬5<t.n:=by omega
 have r3:¬t.ins<1:=by omega
 have r4:¬8<t.ins:=by omega
 have r5:¬t.outs<1:=by omega
 have r6:¬8<t.outs:=by omega
 have al:=zH (al.out hr);have aw:=zH (aw.out hr);clear hr ay mo hE hA fq
 by_cases hz:t.cases.length<1
 . have HR:=zH (al.out hz)
   obtain⟨n,ins,outs,cases⟩:=t;dsimp only at dR r1 r2 r3 r4 r5 r6 hz ⊢;clear al aw eC HA;go_enter func77,ntmps77;go_wp2_with fail
   all_goals first | (exfalso;omega) | skip
   go_ret;exact⟨zc HR.out.symm,zw w _⟩
 have bS:¬((t.cases.length:Int)<1):=by omega
 have aw:=zH (aw.out (by omega) (by omega));obtain⟨n,hn⟩:=Kh t.n;obtain⟨ins,Dc⟩:=Kh t.ins;obtain⟨outs,rh⟩:=Kh t.outs;obtain⟨cs,bq⟩:=Kh t.cases;have HT:As (t.n=n/\t.ins=ins/\t.outs=outs):=⟨hn,Dc,rh⟩;rw[hn] at r1 r2 ⊢;rw[Dc] at r3 r4 ⊢;rw[rh] at r5 r6 ⊢;rw[bq] at dR eC HA bS aw ⊢;go_enter func77,ntmps77;go_wp2_with fail
 all_goals first | (exfalso;omega) | skip
 obtain⟨W0,bH,b0,bn,aX⟩:∃W0,w.alloc (Ah #[O U n,O U ins,O U outs,I A cs.length kc] 24)=W0/\W0.heap[w.heap.size]?=J (Ah #[O U n,O U ins,O U outs,I A cs.length kc] 24 (0,0))/\w.heap.size+1<=W0.heap.size/\Ao w.heap.size w W0:=
  ⟨_,rfl,zh _ _,by simp,zw w _⟩
 rw[bH];have fh:=zH aX;have lZ:=zH b0
 go_loopw [46] (fun i wr=>∃k:Nat,k<=cs.length/\i=O U (k:Int)/\As (E=yM t cs k)/\Ao W0.heap.size W0 wr) (fun i _=>cs.length-(Aq i).toNat)
 case atStart=>exact⟨0,by omega,rfl,aw,Lp _ _⟩
 obtain⟨k,hk,rfl,ai,aA⟩:=hrel;have ce:=zH (Lc fh.out aA);have HW:=zH aA;have d0:=Lb aA (by omega) lZ.out;obtain⟨q0,q1,q2,q3,_⟩:=Kb d0
 by_cases ac:k<cs.length
 . obtain⟨b,o,A0,k0,A1,k1,A2,k2,rfl,dH,c0,c1,c2,I0,I1,I2⟩:=(HA.out.keep ce.out).row k ac
   obtain⟨f0,f1,f2⟩:=eC.out _ (Ld ac);have aG:=zH (@ux t cs k ac);have az:=zH (@gt t cs k ac);obtain⟨e1,e2,e3⟩:=HT.out;have lI:=zH (@Zq t (zp cs k) cs[k]);have bf:=zH (@uy t (zp cs k) cs[k]);have cQ:=zH (@Zr t (zp cs k) cs[k]);rw[e1,e2] at lI bf cQ;rw[e3] at cQ;have HV:=zH (fun (w':Ba) (h:IAt w' w'.heap.size A0 cs[k].inp)=>vX A0 k0 cs[k].inp n ins (by omega) w' h);have HG:=zH (fun (w':Ba) (h1:LAt w' w'.heap.size A1 cs[k].out) (h2:LAt w' w'.heap.size A2 cs[k].calm)=>Zz n ins outs (I (J ⟨b,o,Z⟩) cs.length kc) A0 A1 A2 k0 k1 k2 cs[k] (eC.out _ (Ld ac)) w' h1 h2);obtain⟨bo,bJ⟩:=Kh (xD ((zp cs k).map Cs.inp) cs[k].inp);have bD:=zH bJ;rw[bJ] at bf cQ;obtain⟨ev,cu⟩:=Kh (zr cs[k].inp n ins);rw[cu] at lI bf cQ HV;obtain⟨gv,FB⟩:=Kh (qB n outs cs[k]);rw[FB] at cQ HG;obtain⟨x,hx⟩:=Kh (cs[k]);have HX:=zH hx;rw[hx] at c0 c1 c2 I0 I1 I2 f0 aG az lI bf cQ HV HG;obtain⟨xi,xo,xc⟩:=x;dsimp only at c0 c1 c2 I0 I1 I2 f0 HV HG;have Gx:=ce.out.size;have mL:w.heap.size<wr.heap.size:=by have:=HW.out.size;omega
   have J0:=I0.more Gx;have J1:=I1.more Gx;have J2:=I2.more Gx;go_wp2_with fail
   obtain⟨W1,cO,b1,bI,aB⟩:∃W1,wr.alloc (Ah #[I A0 xi.length k0,I A1 xo.length k1,I A2 xc.length k2] 118)=W1/\W1.heap[wr.heap.size]?=J (Ah #[I A0 xi.length k0,I A1 xo.length k1,I A2 xc.length k2] 118 (0,0))/\wr.heap.size+1<=W1.heap.size/\Ao wr.heap.size wr W1:=
    ⟨_,rfl,zh _ _,by simp,zw wr _⟩
   rw[cO];have K0:=(J0.keep aB).more aB.size;have K1:=zH ((J1.keep aB).more aB.size);have K2:=zH ((J2.keep aB).more aB.size);have BL:=zH (ce.out.trans (aB.mono Gx));have BW:=zH (Lc HW.out aB);have lY:=zH b1;refine(HV.out _ K0).mono ?_;rintro e w1 ⟨rfl,aC⟩;have M1:=zH ((K1.out.keep aC).more aC.size);have M2:=zH ((K2.out.keep aC).more aC.size);have dJ:=zH (Lc BL.out aC);have nJ:=zH (Lc BW.out aC);have M0:=zH ((K0.keep aC).more aC.size);have d0:=Lb nJ.out (by omega) lZ.out;have d1:=Lb aC (by omega) lY.out;obtain⟨q0,q1,q2,q3,_⟩:=Kb d0;obtain⟨p0,p1,p2,_⟩:=Kc d1
   by_cases cu:ev=0
   case neg=>
    have hd:=lI.out cu;have hR:=zH (ai.out.trans ((aG.out (by rw[hd];exact cu)).trans hd));have e0:(ev != 0)=Av:=by simpa using cu
    go_wp2_with fail;go_ret;exact⟨zc hR.out.symm,dJ.out⟩
   case pos=>
   subst cu
   cases k with
   | zero=>
    obtain rfl:bo=Ax:=by rw[<-bD.out];rfl
    go_wp2_with fail;go_quiet (fail);have cQ:=zH (cQ.out (by simp) (by simp));go_wp2_with fail;refine(HG.out _ (by exact M1.out.keep (zx (Lp _ _) _)) (by exact M2.out.keep (zx (Lp _ _) _))).mono ?_;rintro e w2 ⟨rfl,af⟩;have AC:=zH (dJ.out.trans ((belD af).mono dJ.out.size));have EZ:=zH (nJ.out.trans ((belD af).mono nJ.out.size))
    by_cases hg:gv=0
    . subst hg
      have hR:=zH (ai.out.trans (az.out cQ.out));go_wp2_with fail
      go_roundw
      case rel=>exact⟨_,ac,by go_num,hR,EZ.out⟩
      case measure=>simp[Aq];omega
    . have hR:=zH (ai.out.trans ((aG.out (by rw[cQ.out];exact hg)).trans cQ.out))
      have e0:(gv != 0)=Av:=by simpa using hg
      go_wp2_with fail;go_ret;exact⟨zc hR.out.symm,AC.out⟩
   | succ j=>
    have hj:j<cs.length:=by omega
    have bV:xD ((zp cs (j+1)).map Cs.inp) cs[j+1].inp=decide (0<=zj cs[j].inp cs[j+1].inp):=by rw[zT cs j hj];rfl
    obtain⟨b',o',nK,mH,_,_,_,_,e',_,u0,_,_,U0,_,_⟩:=((HA.out.keep dJ.out).row j hj)
    cases e'
    obtain⟨nu,_,_⟩:=eC.out _ (Ld hj);rw[HX.out] at bV;have hc:=fun n=>jT nK A0 mH k0 cs[j].inp xi (by omega) (by omega) (w1.drewN n) (U0.more dJ.out.size) M0.out
    rw[show xD ((zp cs (j+1)).map Cs.inp) xi=bo by have:=bD.out;rwa[HX.out] at this] at bV;obtain⟨r,hr⟩:=Kh (zj cs[j].inp xi);rw[hr] at bV hc;have cG:=zH bV;obtain⟨nl,eG⟩:=Kh (cs[j].inp.length);rw[eG] at u0 hc nu;have HC:=zH hc;have g1:((j:Int)+1).toNat=j+1:=by omega
    have g3:IntKind.i64.wrap ((j:Int)+1-1)=(j:Int):=by rw[Lw];omega
    have g5:IntKind.i64.wrap ((j:Int)+1)=(j:Int)+1:=by rw[Lw];omega
    clear bV hc hr eG U0 bD HX
    cases bo with
    | true=>
     have g7:decide (0<=r)=Av:=cG.out.symm;have g8:0<=r:=LK g7;have hd:=bf.out (by simp) (by simp);have hR:=zH (ai.out.trans ((aG.out (by rw[hd];decide)).trans hd));clear ai aG az bf cQ HV HG hd cG;go_wp2_with fail;go_quiet ((go_at_call 111;exact Rn (HC.out _)));clear HC g1 g3 g5 u0;go_wp2_with fail;go_ret;exact⟨zc hR.out.symm,zx dJ.out _⟩
    | false=>
     have g7:decide (0<=r)=Ax:=cG.out.symm;have g8:¬0<=r:=NG g7;clear cG;go_wp2_with fail;go_quiet ((go_at_call 111;exact Rn (HC.out _)));have cQ:=zH (cQ.out (by simp) (by simp));go_wp2_with fail;refine(HG.out _ (by exact M1.out.keep (zx (Lp _ _) _)) (by exact M2.out.keep (zx (Lp _ _) _))).mono ?_;rintro e w2 ⟨rfl,af⟩;have AC:=zH (dJ.out.trans ((belD af).mono dJ.out.size));have EZ:=zH (nJ.out.trans ((belD af).mono nJ.out.size))
     by_cases hg:gv=0
     . subst hg
       have hR:=zH (ai.out.trans (az.out cQ.out));go_wp2_with fail
       go_roundw
       case rel=>exact⟨j+1+1,ac,by go_num,hR,EZ.out⟩
       case measure=>simp[Aq];omega
     . have hR:=zH (ai.out.trans ((aG.out (by rw[cQ.out];exact hg)).trans cQ.out))
       have e0:(gv != 0)=Av:=by simpa using hg
       go_wp2_with fail;go_ret;exact⟨zc hR.out.symm,AC.out⟩
 obtain rfl:k=cs.length:=by omega
 have HR:=zH (ai.out.trans uw);go_wp2_with fail;go_ret;exact⟨zc HR.out.symm,ce.out⟩
end
end Go.Proofs.YtkledihebeidlaaGreatDoor
