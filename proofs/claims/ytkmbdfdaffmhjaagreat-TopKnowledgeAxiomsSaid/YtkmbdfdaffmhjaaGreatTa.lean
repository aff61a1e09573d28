/- Merged. -/
import Derived.WalkKit
import Derived.WalkSpells
import Derived.WalkLawsBesides
import Derived.Outline
import Derived.Below
import Derived.Laws.OwnMore
import Derived.Lib.Hide
import Derived.Deep.Draws
import Derived.Deep.AppendLies
import Derived.Test.YtkmbdfdaffmhjaaGreatRows
import Derived.ProofKit
import Derived.LaidMore
import Derived.OpenShut
import Derived.Carry
import Derived.Deep.Slices
import Derived.Deep.Fields
import Derived.ChangeSame
import Derived.Stop.Joined
import Derived.Test.YtkmbdfdaffmhjaaGreatProg
import Derived.Deep.QuietTactic
import Derived.BigQuiet
import Derived.Laws.StructEq
import Derived.Laws.BitsAllLaws
import Derived.Laws.BitsLemmas
import Derived.StillTactics
import Derived.Shelf.Small.Wraps
import Derived.Shelf.Bits.Mul64
import Derived.Shelf.Slices.Turned
import Derived.Shelf.Slices.Equal
import Derived.Ground.Names2Prog
import Derived.Shelf.Slices.Clone
import Derived.Shelf.Slices.SearchI
import Derived.Shelf.Slices.Empties2
open Go.Proofs.Tryz
open Go.Value renaming int->O,slice->I,bool->Ah,agg->Ai,pointer->Aj
open Go.IntKind renaming i64->U
open Option renaming none->Z,some->J
open Go.Obj renaming cells->Ag
open Go.Ending renaming returned->Ak
open Go.Proofs.Tryz renaming prog->Al
open Go.RowKit renaming Below->Am,intOf->Ap,Hid->Aq
open Go renaming Calls->An,Value->Ar,run_equalIn_struct->RN
open Bool renaming true->Au,false->Aw
open Go.World renaming drewN_drewN->P6
open Go.Calls renaming quiet_of_same->RK,quiet_of->NT
namespace Go.Proofs.YtkmbdfdaffmhjaaGreat
abbrev Bb:=Option Addr
abbrev Ba:=World
abbrev Ln:=@Array.getElem?_eq_some_iff
abbrev NP:=@Go.RowKit.Below.heap_alloc
abbrev Li:=@Go.RowKit.Below.refl
abbrev Ld:=@Nat.le_refl
abbrev Ng:=@List.mem_append
abbrev RH:=@List.mem_cons_of_mem
abbrev RT:=@List.mem_cons_self
abbrev PJ:=@List.mem_append_left
abbrev Nj:=@List.append_nil
abbrev Pp:=@Nat.add_assoc
abbrev Lq:=@List.take_succ_eq_append_getElem
abbrev LF:=@Go.Proofs.Tryz.underlying3
abbrev Pj:=@Go.Proofs.Tryz.underlying72
abbrev N0:=@Nat.mul_one
abbrev Rs:=@if_true
abbrev Rj:=@if_false
abbrev Nn:=@Bool.true_and
abbrev L4:=@List.map_cons
abbrev Nr:=@List.map_nil
abbrev PH:=@and_true
abbrev N6:=@Bool.eq_iff_iff
abbrev P4:=@not_false_eq_true
abbrev LH:=@List.all_eq_true
abbrev Sf:=@List.range_succ
abbrev Lj:=@if_pos
abbrev Lg:=@if_neg
abbrev RP:=@bne_iff_ne
abbrev Nk:=@Nat.pow_le_pow_right
abbrev Ls:=@Int.eq_ofNat_of_zero_le
abbrev Ly:=@List.drop_eq_getElem_cons
abbrev NI:=@List.drop_length
abbrev Rv:=@List.drop_of_length_le
abbrev Ni:=@List.drop_zero
abbrev PG:=@Bool.false_or
abbrev RQ:=@beq_iff_eq
abbrev PX:=@List.mem_range
abbrev PM:=@Bool.or_eq_true
abbrev NM:=@Go.World.size_alloc
abbrev Lw:=@decide_eq_true
abbrev Lu:=@decide_eq_false
abbrev Le:=@List.getElem_mem
abbrev Ll:=@Go.IntKind.wrap_i64
abbrev LS:=@List.take_length
abbrev Ny:=@decide_eq_true_eq
abbrev Lx:=@of_decide_eq_true
abbrev Nt:=@of_decide_eq_false
abbrev LB:=@Bool.and_eq_true
set_option maxRecDepth 100000
theorem zH{p:Prop}(h:p):Go.RowKit.Hid p:=h
set_option maxHeartbeats 16000000
section
open Go.RowKit
theorem Qb{p q:Prop}[Decidable p][Decidable q](h:p↔q):decide p=decide q:=by simp[h]
theorem zz{a b:Bool}(h:a=b):Ak (Ah a)=Ak (Ah b):=by rw[h]
theorem zr{k:IntKind}{a b:Int}(h:a=b):Ak (.int k a)=Ak (.int k b):=by rw[h]
structure Vw where
 p:Int
 r:Int
 i:Int
 h0:Int
 h1:Int
 h2:Int
 h3:Int
 h4:Int
deriving DecidableEq,Inhabited
def Vw.h(v:Vw):Nat->Int
 | 0=>v.h0
 | 1=>v.h1
 | 2=>v.h2
 | 3=>v.h3
 | _=>v.h4
def Vw.cells(v:Vw):Array Ar:=#[O U v.p,O U v.r,O U v.i,O U v.h0,O U v.h1,O U v.h2,O U v.h3,O U v.h4]
theorem Vw.cells_h(v:Vw)(q:Nat)(hq:q<5):v.cells[3+q]?=J (O U (v.h q)):=by
 match q,hq with
 | 0,_=>rfl
 | 1,_=>rfl
 | 2,_=>rfl
 | 3,_=>rfl
 | 4,_=>rfl
def VAt(w:Ba)(B:Nat)(A:Bb)(vs:List Vw):Prop:=
 0<vs.length->∃b off,A=J ⟨b,off,Z⟩/\b<B/\∀(i:Nat) (hi:i<vs.length) (k:Nat) (u:Ar),vs[i].cells[k]?=J u->w.cell? ⟨b,off+i*8+k,Z⟩=J u
theorem VAt.keep{w w':Ba}{B:Nat}{A:Bb}{vs:List Vw}(h:VAt w B A vs)(hb:Am B w w'):VAt w' B A vs:=fun h0=>by
 obtain⟨b,off,e,ac,hc⟩:=h h0;exact⟨b,off,e,ac,fun i hi k u hk=>(hb.cell (p:=⟨b,_,Z⟩) ac).trans (hc i hi k u hk)⟩
theorem VAt.more{w:Ba}{B B':Nat}{A:Bb}{vs:List Vw}(h:VAt w B A vs)(hB:B<=B'):VAt w B' A vs:=fun h0=>by
 obtain⟨b,off,e,ac,hc⟩:=h h0;exact⟨b,off,e,by omega,hc⟩
theorem VAt.row{w:Ba}{B:Nat}{A:Bb}{vs:List Vw}(h:VAt w B A vs)(k:Nat)(hk:k<vs.length) :
  ∃b off,A=J ⟨b,off,Z⟩/\b<B/\w.cell? ⟨b,off+k*8,Z⟩=J (O U vs[k].p)/\w.cell? ⟨b,off+k*8+1,Z⟩=J (O U vs[k].r) /\
   w.cell? ⟨b,off+k*8+2,Z⟩=J (O U vs[k].i)/\w.cell? ⟨b,off+k*8+3,Z⟩=J (O U vs[k].h0)/\w.cell? ⟨b,off+k*8+4,Z⟩=J (O U vs[k].h1) /\
   w.cell? ⟨b,off+k*8+5,Z⟩=J (O U vs[k].h2)/\w.cell? ⟨b,off+k*8+6,Z⟩=J (O U vs[k].h3)/\w.cell? ⟨b,off+k*8+7,Z⟩=J (O U vs[k].h4):=by
 obtain⟨b,off,e,ac,hc⟩:=h (by omega);exact⟨b,off,e,ac,hc k hk 0 _ rfl,hc k hk 1 _ rfl,hc k hk 2 _ rfl,hc k hk 3 _ rfl,hc k hk 4 _ rfl,hc k hk 5 _ rfl,hc k hk 6 _ rfl,hc k hk 7 _ rfl⟩
def IAt(w:Ba)(B:Nat)(A:Bb)(xs:List Int):Prop:=
 0<xs.length->∃b off,A=J ⟨b,off,Z⟩/\b<B/\∀(i:Nat) (hi:i<xs.length),w.cell? ⟨b,off+i,Z⟩=J (O U xs[i])
theorem IAt.keep{w w':Ba}{B:Nat}{A:Bb}{xs:List Int}(h:IAt w B A xs)(hb:Am B w w'):IAt w' B A xs:=fun h0=>by
 obtain⟨b,off,e,ac,hc⟩:=h h0;exact⟨b,off,e,ac,fun i hi=>(hb.cell (p:=⟨b,_,Z⟩) ac).trans (hc i hi)⟩
theorem IAt.more{w:Ba}{B B':Nat}{A:Bb}{xs:List Int}(h:IAt w B A xs)(hB:B<=B'):IAt w B' A xs:=fun h0=>by
 obtain⟨b,off,e,ac,hc⟩:=h h0;exact⟨b,off,e,by omega,hc⟩
theorem IAt.at_{w:Ba}{B:Nat}{A:Bb}{xs:List Int}(h:IAt w B A xs)(k:Nat)(hk:k<xs.length):∃b off,A=J ⟨b,off,Z⟩/\b<B/\w.cell? ⟨b,off+k,Z⟩=J (O U xs[k]):=by
 obtain⟨b,off,e,ac,hc⟩:=h (by omega);exact⟨b,off,e,ac,hc k hk⟩
theorem IAt.nil(w:Ba)(B:Nat)(A:Bb):IAt w B A []:=fun h=>absurd h (by simp)
theorem IAt.of_own{w:Ba}{ab:Nat}{e:TypeId}{A:Bb}{n c:Nat}{xs:List Int}(h:w.ownsRow ab e 1 (I A n c) n (xs.map (O U))):IAt w w.heap.size A xs:=fun h0=>by
 have hn:xs.length=n:=by simpa using h.1
 obtain⟨g,cap,hv,_,ac⟩:=h.form (by omega);have hA:A=J ⟨g,0,Z⟩:=by injection hv
 subst hA;refine⟨g,0,rfl,ac,fun i hi=>?_⟩;have:=h.cells (g:=g) rfl i (O U xs[i]) (by simp[hi]);rw[show(⟨g,0,Z⟩:Addr).add i=⟨g,0+i,Z⟩ from by unfold Addr.add;split<;>simp_all] at this;exact this
theorem zh{w:Ba}{g:Nat}{t:TypeId}{cs:Array Ar}(h:w.heap[g]?=J (Ag cs t (0,0)))(i:Nat){u:Ar}(hu:cs[i]?=J u):w.cell? ⟨g,i,Z⟩=J u:=by
 rw[cell_of_row w g i cs t (0,0) h];exact hu
theorem Ka{w:Ba}{b:Nat}{v0 v1 v2 v3:Ar}{l:List Ar}{t:TypeId}(h:w.heap[b]?=J (Ag ⟨v0::v1::v2::v3::l⟩ t (0,0))):w.cell? ⟨b,0,Z⟩=J v0/\w.cell? ⟨b,1,Z⟩=J v1/\w.cell? ⟨b,2,Z⟩=J v2/\w.cell? ⟨b,3,Z⟩=J v3/\True:=⟨zh h 0 rfl,zh h 1 rfl,zh h 2 rfl,zh h 3 rfl,trivial⟩
theorem Kb{w:Ba}{b:Nat}{v0 v1 v2:Ar}{l:List Ar}{t:TypeId}(h:w.heap[b]?=J (Ag ⟨v0::v1::v2::l⟩ t (0,0))):w.cell? ⟨b,0,Z⟩=J v0/\w.cell? ⟨b,1,Z⟩=J v1/\w.cell? ⟨b,2,Z⟩=J v2/\True:=⟨zh h 0 rfl,zh h 1 rfl,zh h 2 rfl,trivial⟩
theorem Ke{w:Ba}{b:Nat}{v0 v1:Ar}{l:List Ar}{t:TypeId}(h:w.heap[b]?=J (Ag ⟨v0::v1::l⟩ t (0,0))):w.cell? ⟨b,0,Z⟩=J v0/\w.cell? ⟨b,1,Z⟩=J v1/\True:=⟨zh h 0 rfl,zh h 1 rfl,trivial⟩
theorem Kf{w:Ba}{b:Nat}{v0 v1 v2 v3 v4 v5 v6 v7:Ar}{l:List Ar}{t:TypeId}(h:w.heap[b]?=J (Ag ⟨v0::v1::v2::v3::v4::v5::v6::v7::l⟩ t (0,0))):w.cell? ⟨b,0,Z⟩=J v0/\w.cell? ⟨b,1,Z⟩=J v1/\w.cell? ⟨b,2,Z⟩=J v2/\w.cell? ⟨b,3,Z⟩=J v3/\w.cell? ⟨b,4,Z⟩=J v4/\w.cell? ⟨b,5,Z⟩=J v5/\w.cell? ⟨b,6,Z⟩=J v6/\w.cell? ⟨b,7,Z⟩=J v7/\True:=⟨zh h 0 rfl,zh h 1 rfl,zh h 2 rfl,zh h 3 rfl,zh h 4 rfl,zh h 5 rfl,zh h 6 rfl,zh h 7 rfl,trivial⟩
theorem Kg{w:Ba}{b:Nat}{v0 v1 v2 v3 v4 v5 v6:Ar}{l:List Ar}{t:TypeId}(h:w.heap[b]?=J (Ag ⟨v0::v1::v2::v3::v4::v5::v6::l⟩ t (0,0))):w.cell? ⟨b,0,Z⟩=J v0/\w.cell? ⟨b,1,Z⟩=J v1/\w.cell? ⟨b,2,Z⟩=J v2/\w.cell? ⟨b,3,Z⟩=J v3/\w.cell? ⟨b,4,Z⟩=J v4/\w.cell? ⟨b,5,Z⟩=J v5/\w.cell? ⟨b,6,Z⟩=J v6/\True:=⟨zh h 0 rfl,zh h 1 rfl,zh h 2 rfl,zh h 3 rfl,zh h 4 rfl,zh h 5 rfl,zh h 6 rfl,trivial⟩
theorem Kh{w:Ba}{b:Nat}{v0 v1 v2 v3 v4:Ar}{l:List Ar}{t:TypeId}(h:w.heap[b]?=J (Ag ⟨v0::v1::v2::v3::v4::l⟩ t (0,0))):w.cell? ⟨b,0,Z⟩=J v0/\w.cell? ⟨b,1,Z⟩=J v1/\w.cell? ⟨b,2,Z⟩=J v2/\w.cell? ⟨b,3,Z⟩=J v3/\w.cell? ⟨b,4,Z⟩=J v4/\True:=⟨zh h 0 rfl,zh h 1 rfl,zh h 2 rfl,zh h 3 rfl,zh h 4 rfl,trivial⟩
theorem Ki{w:Ba}{b:Nat}{v0 v1 v2 v3 v4 v5:Ar}{l:List Ar}{t:TypeId}(h:w.heap[b]?=J (Ag ⟨v0::v1::v2::v3::v4::v5::l⟩ t (0,0))):w.cell? ⟨b,0,Z⟩=J v0/\w.cell? ⟨b,1,Z⟩=J v1/\w.cell? ⟨b,2,Z⟩=J v2/\w.cell? ⟨b,3,Z⟩=J v3/\w.cell? ⟨b,4,Z⟩=J v4/\w.cell? ⟨b,5,Z⟩=J v5/\True:=⟨zh h 0 rfl,zh h 1 rfl,zh h 2 rfl,zh h 3 rfl,zh h 4 rfl,zh h 5 rfl,trivial⟩
theorem Kj{w:Ba}{b:Nat}{v0 v1 v2 v3 v4 v5 v6 v7 v8 v9 T4 v11:Ar}{l:List Ar}{t:TypeId}(h:w.heap[b]?=J (Ag ⟨v0::v1::v2::v3::v4::v5::v6::v7::v8::v9::T4::v11::l⟩ t (0,0))):w.cell? ⟨b,0,Z⟩=J v0/\w.cell? ⟨b,1,Z⟩=J v1/\w.cell? ⟨b,2,Z⟩=J v2/\w.cell? ⟨b,3,Z⟩=J v3/\w.cell? ⟨b,4,Z⟩=J v4/\w.cell? ⟨b,5,Z⟩=J v5/\w.cell? ⟨b,6,Z⟩=J v6/\w.cell? ⟨b,7,Z⟩=J v7/\w.cell? ⟨b,8,Z⟩=J v8/\w.cell? ⟨b,9,Z⟩=J v9/\w.cell? ⟨b,10,Z⟩=J T4/\w.cell? ⟨b,11,Z⟩=J v11/\True:=⟨zh h 0 rfl,zh h 1 rfl,zh h 2 rfl,zh h 3 rfl,zh h 4 rfl,zh h 5 rfl,zh h 6 rfl,zh h 7 rfl,zh h 8 rfl,zh h 9 rfl,zh h 10 rfl,zh h 11 rfl,trivial⟩
theorem Kk{α:Sort _}(a:α):∃u,a=u:=⟨_,rfl⟩
theorem zK{w:Ba}{b:Nat}{v0 v1 v2 v3 v4 v5 v6 v7 v8 v9:Ar}{l:List Ar}{t:TypeId}(h:w.heap[b]?=J (Ag ⟨v0::v1::v2::v3::v4::v5::v6::v7::v8::v9::l⟩ t (0,0))):w.cell? ⟨b,0,Z⟩=J v0/\w.cell? ⟨b,1,Z⟩=J v1/\w.cell? ⟨b,2,Z⟩=J v2/\w.cell? ⟨b,3,Z⟩=J v3/\w.cell? ⟨b,4,Z⟩=J v4/\w.cell? ⟨b,5,Z⟩=J v5/\w.cell? ⟨b,6,Z⟩=J v6/\w.cell? ⟨b,7,Z⟩=J v7/\w.cell? ⟨b,8,Z⟩=J v8/\w.cell? ⟨b,9,Z⟩=J v9:=
 ⟨zh h 0 rfl,zh h 1 rfl,zh h 2 rfl,zh h 3 rfl,zh h 4 rfl,zh h 5 rfl,zh h 6 rfl,zh h 7 rfl,zh h 8 rfl,zh h 9 rfl⟩
theorem zi{w:Ba}{g:Nat}{t:TypeId}{cs:Array Ar}(h:w.heap[g]?=J (Ag cs t (0,0)))(i:Nat):w.frozen? ⟨g,i,Z⟩=Aw:=by
 simp[World.frozen?,h]
theorem zk{w:Ba}{g:Nat}{o:Obj}(h:w.heap[g]?=J o):g<w.heap.size:=(Ln.1 h).1
theorem La{w w':Ba}{k:Nat}{o:Obj}(h:Am w.heap.size w w')(e:w.heap[k]?=J o):w'.heap[k]?=J o:=(h.block _ (zk e)).trans e
theorem Lb{n k:Nat}{w w':Ba}{x:Option Obj}(h:Am n w w')(o:k<n)(e:w.heap[k]?=x):w'.heap[k]?=x:=(h.block _ o).trans e
theorem Lc{w w1 w2:Ba}(h:Am w.heap.size w w1)(g:Am w1.heap.size w1 w2):Am w.heap.size w w2:=h.trans (g.mono h.size)
theorem zx(w:Ba)(o:Obj):(w.alloc o).heap[w.heap.size]?=J o:=heap_alloc_new w o
theorem xa{w:Ba}{g:Nat}{o:Obj}(h:w.heap[g]?=J o)(o':Obj):(w.alloc o').heap[g]?=J o:=(NP w o' g (zk h)).trans h
theorem XE{w w':Ba}{g B:Nat}{o:Obj}(h:w.heap[g]?=J o)(hb:Am B w w')(hg:g<B):w'.heap[g]?=J o:=(hb.block g hg).trans h
theorem zU(w:Ba)(a:Obj):Am w.heap.size w (w.alloc a):=(Li _ _).alloc (Ld _) _
theorem un(w:Ba)(a b:Obj):Am w.heap.size w ((w.alloc a).alloc b):=(zU w a).alloc (by simp) _
theorem bel3(w:Ba)(a b c:Obj):Am w.heap.size w (((w.alloc a).alloc b).alloc c):=(un w a b).alloc (by simp;omega) _
theorem JB{B:Nat}{w w':Ba}(h:Am B w.drew w'):Am B w w':=⟨h.os,h.tape,h.output,h.size,h.block⟩
theorem belD{B:Nat}{w w':Ba}{n:Nat}(h:Am B (w.drewN n) w'):Am B w w':=⟨h.os,h.tape,h.output,h.size,h.block⟩
theorem yv{B:Nat}{a w:Ba}(h:Am B a w)(n:Nat):Am B a (w.drewN n):=⟨h.os,h.tape,h.output,h.size,h.block⟩
end
section
open Go.ChangeShapes Go.WideShapes Go.ChangeAt Go.RowKit Go.Deep
section
variable {H:Type} {enc:TypeId×Ar->H} {P:Program}
theorem post_below{f:Func}{s:ChangeSpec}{apart fresh CI Oi:Bool}{W W':Ba}{args:Array Ar}{v:Ar}{ds gs:List (DataW H)}{before pa pv:List MemPlace}
  (hW:DataW.Whole enc P f.params.toList s.vars apart W args.toList ds gs before)
  (ct:∀(b:Nat) (sp:Nat->Bool) (hd:Bool),DataW.TrodAll enc P W' b sp hd f.resultTypes.toList (v.resultList f.resultTypes.size) (s.fn H (ds++gs)).results [])
  (oX:∀sp:Nat->Bool,(∀p∈before,sp p.block=Au)->DataW.TrodAll enc P W' 0 sp Au f.params.toList args.toList (s.fn H (ds++gs)).args pa)
  (na:∀sp:Nat->Bool,(∀p∈before,sp p.block=Au)->DataW.TrodVars enc P W' sp s.vars (s.fn H (ds++gs)).vars pv)
  (fW:before=pa++pv) (hb:Am W.heap.size W W')
  (dp:∀(j:Nat) (t:TypeId) (r:Ar),f.resultTypes[j]?=J t->(v.resultList f.resultTypes.size)[j]?=J r->Value.okWide P W' .any 0 t r) :
  s.post enc P f apart fresh CI Oi W args v W':=by
 have ac:∀p∈before,p.block<W.heap.size:=fun p hp=>hW.lt p hp
 have hold:∀p∈before,(fun b=>decide (b<W.heap.size)) p.block=Au:=fun p hp=>by simpa using ac p hp
 refine⟨ds,gs,before,[],pa,pv,hW,ct _ _ _,oX _ hold,na _ hold,World.keptBut_mono (fun p hp=>⟨hp,?_⟩) (hb.frame (·∈before)),fun _=>?_⟩
 . rw[fW,Ng] at hp
   exact Or.inr hp
 obtain⟨_,_,_,_,_,hz,hn⟩:=hW;refine⟨dp,_,_,([]++pa)++pv,⟨[]++pa,pv,trodAll_append (oX _ (fun _ _=>rfl)) (ct _ _ _),na _ (fun _ _=>rfl),rfl,?_,?_⟩,?_⟩
 . intro b off hp
   have dD:MemPlace.cell b off∈before:=by rw[fW];simpa using hp
   rw[hb.frozen (ac _ dD)];exact hz b off dD
 . intro ha
   have:=hn ha;rw[fW] at this;simpa using this
 intro p hp _;rw[fW];simpa using hp
theorem vH(hl:laidOutB P=Au){W W':Ba}{sp:Nat->Bool}(hb:Am W.heap.size W W') :
  ∀ {ts:List TypeId} {vs:List Ar} {ds:List (DataW H)} {ps:List MemPlace},(∀t∈ts,P.readableRec t=Au/\t<P.types.size)->DataW.TrodAll enc P W 0 (fun _=>Au) Au ts vs ds ps ->
   (∀x∈ps,x.block<W.heap.size)->(∀x∈ps,sp x.block=Au)->DataW.TrodAll enc P W' 0 sp Au ts vs ds ps
 | [],[],[],_,_,h,_,_=>h
 | _::_,_::_,_::_,_,hT,⟨p,q,h1,h2,e⟩,ac,hs=>by
  subst e;refine⟨p,q,?_,vH hl hb (fun t ht=>hT t (RH _ ht)) h2 (fun x hx=>ac x (List.mem_append_right _ hx)) (fun x hx=>hs x (List.mem_append_right _ hx)),rfl⟩;have hh:=hT _ (RT ..);exact WideElems.Trod_stays hl hh.1 hh.2 h1 (fun x hx=>hb.same (ac x (PJ _ hx))) (fun x hx=>hs x (PJ _ hx))
theorem ud{C:Checked}{os:Os}{f:FuncId}{fn:Func}{s:ChangeSpec}{X:Ba->Array Ar->Prop}{tb:TypeId}(cz:os.Started)
  (hX:∀(w w':Ba) (args:Array Ar),w.heap=w'.heap->X w args->X w' args) (own:ownKnob C.prog.godebug=Z) (Fo:C.prog.inits.idxOf? f=Z) (hfn:C.prog.funcs[f]?=J fn)
  (BS:∃(w:Ba) (tape:Tape) (i:Input),w.os=os/\(w.forCall tape i).Shaped C.prog/\i.vars=[]/\Input.okWide C.prog (w.forCall tape i) .any w.heap.size f i /\
   ((s.pre enc C.prog fn [] Aw (w.forCall tape i).memory i.args/\X (w.forCall tape i).memory i.args)/\sizedMet enc C.prog fn (OpenSpec.ofChange s) Aw (w.forCall tape i).memory i.args)/\({}:Assume).holds C.prog (lone (Frame.enter C.prog f i.args .normal) [] (w.forCall tape i)))
  (ct:fn.resultTypes=#[tb]) (DY:C.prog.underlying tb=J .bool) (hl:laidOutB C.prog=Au) (KI:∀t∈fn.params.toList,C.prog.readableRec t=Au/\t<C.prog.types.size) (na:s.vars=[])
  (hs:∀ds:List (DataW H),ds.length=fn.params.size->s.fn H ds={ results:=[.lit (.bool Au)],args:=ds })
  (walk:∀(W:Ba) (ab:Nat) (args:Array Ar) (ds:List (DataW H)) (ps:List MemPlace),(∀(j:Nat) t v,fn.params[j]?=J t->args[j]?=J v->Value.okWide C.prog W .any ab t v) ->
   DataW.TrodAll enc C.prog W 0 (fun _=>Au) Au fn.params.toList args.toList ds ps->(DataW.weightsEach C.prog fn.params.toList ds).all (·<=reachBytes)=Au->(∀x∈ps,x.block<W.heap.size)->X W args ->
   An C.prog f args W fun e W'=>e=Ak (Ah Au)/\Am W.heap.size W W') :
  ReturnsInHanded {} C os f .any (fun w args=>(s.pre enc C.prog fn [] Aw w args/\X w args)/\sizedMet enc C.prog fn (OpenSpec.ofChange s) Aw w args) (s.post enc C.prog fn Aw Au Aw Aw):=by
 refine returnsInHanded_of_change_and (C:=C) (X:=X) hX own cz Fo hfn BS ?_;intro W ab args ds gs before Kx hW _ bL hL _;have th:=hW;obtain⟨p,q,GN,hV,Sx,hfz,hnd⟩:=hW;have hA:DataW.TrodAll enc C.prog W 0 (fun _=>Au) Au fn.params.toList args.toList ds p:=GN
 have Is:gs=[]/\q=[]:=by
  rw[na] at hV;exact trodVars_none hV
 obtain⟨rfl,rfl⟩:=Is
 have aL:∀ {ts:List TypeId} {vs:List Ar} {ds:List (DataW H)} {ps:List MemPlace},DataW.TrodAll enc C.prog W 0 (fun _=>Au) Au ts vs ds ps->ds.length=ts.length:=by
  intro ts
  induction ts with
  | nil=>intro vs ds ps h;obtain⟨_,rfl,_⟩:=trodAll_nil h;rfl
  | cons t ts ih=>intro vs ds ps h;obtain⟨_,_,_,_,_,_,_,rfl,_,_,h2⟩:=trodAll_cons h;simp[ih h2]
 have VN:ds.length=fn.params.size:=by rw[aL hA];simp
 have oV:before=p:=by rw[Sx,Nj]
 subst oV;have ac:∀x∈before,x.block<W.heap.size:=fun x hx=>th.lt x hx
 have ic:(DataW.weightsEach C.prog fn.params.toList ds).all (·<=reachBytes)=Au:=by
  have e:s.plain.varTypes C.prog=[]:=by simp[ChangeSpec.plain,DataSpec.varTypes,na]
  rw[e,Nj,Nj] at bL;exact bL
 refine(walk W ab args ds before Kx hA ic ac hL).mono fun e W' ⟨he,hb⟩=>?_
 subst he;refine⟨_,rfl,post_below (pa:=before) (pv:=[]) th ?_ ?_ ?_ (by rw[Nj]) hb ?_⟩
 . intro b sp hd
   rw[Nj,hs ds VN,ct];exact trodAll_mk1 (shut_bool DY _)
 . intro sp hsp
   rw[Nj,hs ds VN];exact vH hl hb KI hA ac hsp
 . intro sp hsp
   rw[Nj,hs ds VN,na]
   rfl
 exact ok_one ct rfl (okWide_bool_mk DY _)
end
theorem xf:Al.cellsOf 3=1:=by kernel_rfl
theorem cells5:Al.cellsOf 72=5:=by kernel_rfl
theorem ue:laidOutB Al=Au:=by kernel_rfl
theorem lawOwn:ownKnob Al.godebug=Z:=by kernel_rfl
end
section
open Go.RowKit
structure Rd where
 n:Int
 h0:Int
 h1:Int
 h2:Int
 h3:Int
 h4:Int
 f:Int
deriving DecidableEq,Inhabited
def Rd.h(r:Rd):Nat->Int
 | 0=>r.h0
 | 1=>r.h1
 | 2=>r.h2
 | 3=>r.h3
 | _=>r.h4
def Rd.cells(r:Rd):Array Ar:=#[O U r.n,O U r.h0,O U r.h1,O U r.h2,O U r.h3,O U r.h4,O U r.f]
structure Mv where
 r:Rd
 to:Int
deriving DecidableEq,Inhabited
def Mv.cells(m:Mv):Array Ar:=#[O U m.r.n,O U m.r.h0,O U m.r.h1,O U m.r.h2,O U m.r.h3,O U m.r.h4,O U m.r.f,O U m.to]
structure Cs where
 inp:List Int
 out:List (List Int)
 calm:List (List Int)
deriving DecidableEq,Inhabited
structure Tk where
 n:Int
 ins:Int
 outs:Int
 cases:List Cs
deriving DecidableEq,Inhabited
structure Ad where
 n:Int
 sts:List (List Mv)
deriving DecidableEq,Inhabited
structure Pb where
 t:Tk
 a:Ad
 k:Int
deriving DecidableEq,Inhabited
structure Exn where
 c:Int
 word:List Rd
 views:List (List Int)
deriving DecidableEq,Inhabited
structure Sy where
 p:Pb
 n:Int
 vs:List Vw
 xs:List Exn
deriving DecidableEq,Inhabited
section
variable {w w':Ba} {B B':Nat} {A:Bb}
def LAt(w:Ba)(B:Nat)(A:Bb)(xss:List (List Int)):Prop:=
 0<xss.length->∃b off,A=J ⟨b,off,Z⟩/\b<B/\∀(i:Nat) (hi:i<xss.length),∃A' c,w.cell? ⟨b,off+i,Z⟩=J (I A' xss[i].length c)/\IAt w B A' xss[i]
theorem LAt.keep{xss:List (List Int)}(h:LAt w B A xss)(hb:Am B w w'):LAt w' B A xss:=fun h0=>by
 obtain⟨b,off,e,ac,hc⟩:=h h0;refine⟨b,off,e,ac,fun i hi=>?_⟩;obtain⟨A',c,h1,h2⟩:=hc i hi;exact⟨A',c,(hb.cell (p:=⟨b,_,Z⟩) ac).trans h1,h2.keep hb⟩
theorem LAt.more{xss:List (List Int)}(h:LAt w B A xss)(hB:B<=B'):LAt w B' A xss:=fun h0=>by
 obtain⟨b,off,e,ac,hc⟩:=h h0;refine⟨b,off,e,by omega,fun i hi=>?_⟩;obtain⟨A',c,h1,h2⟩:=hc i hi;exact⟨A',c,h1,h2.more hB⟩
theorem LAt.at_{xss:List (List Int)}(h:LAt w B A xss)(i:Nat)(hi:i<xss.length):∃b off A' c,A=J ⟨b,off,Z⟩/\b<B/\w.cell? ⟨b,off+i,Z⟩=J (I A' xss[i].length c)/\IAt w B A' xss[i]:=by
 obtain⟨b,off,e,ac,hc⟩:=h (by omega);obtain⟨A',c,h1,h2⟩:=hc i hi;exact⟨b,off,A',c,e,ac,h1,h2⟩
theorem LAt.nil(w:Ba)(B:Nat)(A:Bb):LAt w B A []:=fun h=>absurd h (by simp)
def RAt(w:Ba)(B:Nat)(A:Bb)(rs:List Rd):Prop:=
 0<rs.length->∃b off,A=J ⟨b,off,Z⟩/\b<B/\∀(i:Nat) (hi:i<rs.length) (k:Nat) (u:Ar),rs[i].cells[k]?=J u->w.cell? ⟨b,off+i*7+k,Z⟩=J u
theorem RAt.keep{rs:List Rd}(h:RAt w B A rs)(hb:Am B w w'):RAt w' B A rs:=fun h0=>by
 obtain⟨b,off,e,ac,hc⟩:=h h0;exact⟨b,off,e,ac,fun i hi k u hk=>(hb.cell (p:=⟨b,_,Z⟩) ac).trans (hc i hi k u hk)⟩
theorem RAt.more{rs:List Rd}(h:RAt w B A rs)(hB:B<=B'):RAt w B' A rs:=fun h0=>by
 obtain⟨b,off,e,ac,hc⟩:=h h0;exact⟨b,off,e,by omega,hc⟩
theorem RAt.row{rs:List Rd}(h:RAt w B A rs)(k:Nat)(hk:k<rs.length) :
  ∃b off,A=J ⟨b,off,Z⟩/\b<B/\w.cell? ⟨b,off+k*7,Z⟩=J (O U rs[k].n)/\w.cell? ⟨b,off+k*7+1,Z⟩=J (O U rs[k].h0) /\
   w.cell? ⟨b,off+k*7+2,Z⟩=J (O U rs[k].h1)/\w.cell? ⟨b,off+k*7+3,Z⟩=J (O U rs[k].h2)/\w.cell? ⟨b,off+k*7+4,Z⟩=J (O U rs[k].h3) /\
   w.cell? ⟨b,off+k*7+5,Z⟩=J (O U rs[k].h4)/\w.cell? ⟨b,off+k*7+6,Z⟩=J (O U rs[k].f):=by
 obtain⟨b,off,e,ac,hc⟩:=h (by omega);exact⟨b,off,e,ac,hc k hk 0 _ rfl,hc k hk 1 _ rfl,hc k hk 2 _ rfl,hc k hk 3 _ rfl,hc k hk 4 _ rfl,hc k hk 5 _ rfl,hc k hk 6 _ rfl⟩
def MAt(w:Ba)(B:Nat)(A:Bb)(ms:List Mv):Prop:=
 0<ms.length->∃b off,A=J ⟨b,off,Z⟩/\b<B/\∀(i:Nat) (hi:i<ms.length) (k:Nat) (u:Ar),ms[i].cells[k]?=J u->w.cell? ⟨b,off+i*8+k,Z⟩=J u
theorem MAt.keep{ms:List Mv}(h:MAt w B A ms)(hb:Am B w w'):MAt w' B A ms:=fun h0=>by
 obtain⟨b,off,e,ac,hc⟩:=h h0;exact⟨b,off,e,ac,fun i hi k u hk=>(hb.cell (p:=⟨b,_,Z⟩) ac).trans (hc i hi k u hk)⟩
theorem MAt.more{ms:List Mv}(h:MAt w B A ms)(hB:B<=B'):MAt w B' A ms:=fun h0=>by
 obtain⟨b,off,e,ac,hc⟩:=h h0;exact⟨b,off,e,by omega,hc⟩
theorem MAt.row{ms:List Mv}(h:MAt w B A ms)(k:Nat)(hk:k<ms.length) :
  ∃b off,A=J ⟨b,off,Z⟩/\b<B/\w.cell? ⟨b,off+k*8,Z⟩=J (O U ms[k].r.n)/\w.cell? ⟨b,off+k*8+1,Z⟩=J (O U ms[k].r.h0) /\
   w.cell? ⟨b,off+k*8+2,Z⟩=J (O U ms[k].r.h1)/\w.cell? ⟨b,off+k*8+3,Z⟩=J (O U ms[k].r.h2)/\w.cell? ⟨b,off+k*8+4,Z⟩=J (O U ms[k].r.h3) /\
   w.cell? ⟨b,off+k*8+5,Z⟩=J (O U ms[k].r.h4)/\w.cell? ⟨b,off+k*8+6,Z⟩=J (O U ms[k].r.f)/\w.cell? ⟨b,off+k*8+7,Z⟩=J (O U ms[k].to):=by
 obtain⟨b,off,e,ac,hc⟩:=h (by omega);exact⟨b,off,e,ac,hc k hk 0 _ rfl,hc k hk 1 _ rfl,hc k hk 2 _ rfl,hc k hk 3 _ rfl,hc k hk 4 _ rfl,hc k hk 5 _ rfl,hc k hk 6 _ rfl,hc k hk 7 _ rfl⟩
def SAt(w:Ba)(B:Nat)(A:Bb)(xss:List (List Mv)):Prop:=
 0<xss.length->∃b off,A=J ⟨b,off,Z⟩/\b<B/\∀(i:Nat) (hi:i<xss.length),∃A' c,w.cell? ⟨b,off+i,Z⟩=J (I A' xss[i].length c)/\MAt w B A' xss[i]
theorem SAt.keep{xss:List (List Mv)}(h:SAt w B A xss)(hb:Am B w w'):SAt w' B A xss:=fun h0=>by
 obtain⟨b,off,e,ac,hc⟩:=h h0;refine⟨b,off,e,ac,fun i hi=>?_⟩;obtain⟨A',c,h1,h2⟩:=hc i hi;exact⟨A',c,(hb.cell (p:=⟨b,_,Z⟩) ac).trans h1,h2.keep hb⟩
theorem SAt.more{xss:List (List Mv)}(h:SAt w B A xss)(hB:B<=B'):SAt w B' A xss:=fun h0=>by
 obtain⟨b,off,e,ac,hc⟩:=h h0;refine⟨b,off,e,by omega,fun i hi=>?_⟩;obtain⟨A',c,h1,h2⟩:=hc i hi;exact⟨A',c,h1,h2.more hB⟩
theorem SAt.at_{xss:List (List Mv)}(h:SAt w B A xss)(i:Nat)(hi:i<xss.length):∃b off A' c,A=J ⟨b,off,Z⟩/\b<B/\w.cell? ⟨b,off+i,Z⟩=J (I A' xss[i].length c)/\MAt w B A' xss[i]:=by
 obtain⟨b,off,e,ac,hc⟩:=h (by omega);obtain⟨A',c,h1,h2⟩:=hc i hi;exact⟨b,off,A',c,e,ac,h1,h2⟩
theorem SAt.nil(w:Ba)(B:Nat)(A:Bb):SAt w B A []:=fun h=>absurd h (by simp)
def WAt(w:Ba)(B:Nat)(A:Bb)(xss:List (List Rd)):Prop:=
 0<xss.length->∃b off,A=J ⟨b,off,Z⟩/\b<B/\∀(i:Nat) (hi:i<xss.length),∃A' c,w.cell? ⟨b,off+i,Z⟩=J (I A' xss[i].length c)/\RAt w B A' xss[i]
theorem WAt.keep{xss:List (List Rd)}(h:WAt w B A xss)(hb:Am B w w'):WAt w' B A xss:=fun h0=>by
 obtain⟨b,off,e,ac,hc⟩:=h h0;refine⟨b,off,e,ac,fun i hi=>?_⟩;obtain⟨A',c,h1,h2⟩:=hc i hi;exact⟨A',c,(hb.cell (p:=⟨b,_,Z⟩) ac).trans h1,h2.keep hb⟩
theorem WAt.more{xss:List (List Rd)}(h:WAt w B A xss)(hB:B<=B'):WAt w B' A xss:=fun h0=>by
 obtain⟨b,off,e,ac,hc⟩:=h h0;refine⟨b,off,e,by omega,fun i hi=>?_⟩;obtain⟨A',c,h1,h2⟩:=hc i hi;exact⟨A',c,h1,h2.more hB⟩
theorem WAt.at_{xss:List (List Rd)}(h:WAt w B A xss)(i:Nat)(hi:i<xss.length):∃b off A' c,A=J ⟨b,off,Z⟩/\b<B/\w.cell? ⟨b,off+i,Z⟩=J (I A' xss[i].length c)/\RAt w B A' xss[i]:=by
 obtain⟨b,off,e,ac,hc⟩:=h (by omega);obtain⟨A',c,h1,h2⟩:=hc i hi;exact⟨b,off,A',c,e,ac,h1,h2⟩
def CsV(w:Ba)(B:Nat)(v0 v1 v2:Ar)(x:Cs):Prop:=
 (∃A c,v0=I A x.inp.length c/\IAt w B A x.inp)/\(∃A c,v1=I A x.out.length c/\LAt w B A x.out)/\(∃A c,v2=I A x.calm.length c/\LAt w B A x.calm)
theorem CsV.keep{v0 v1 v2:Ar}{x:Cs}(h:CsV w B v0 v1 v2 x)(hb:Am B w w'):CsV w' B v0 v1 v2 x:=by
 obtain⟨⟨A,c,e,h1⟩,⟨A2,c2,e2,h2⟩,⟨A3,c3,e3,h3⟩⟩:=h;exact⟨⟨A,c,e,h1.keep hb⟩,⟨A2,c2,e2,h2.keep hb⟩,⟨A3,c3,e3,h3.keep hb⟩⟩
theorem CsV.more{v0 v1 v2:Ar}{x:Cs}(h:CsV w B v0 v1 v2 x)(hB:B<=B'):CsV w B' v0 v1 v2 x:=by
 obtain⟨⟨A,c,e,h1⟩,⟨A2,c2,e2,h2⟩,⟨A3,c3,e3,h3⟩⟩:=h;exact⟨⟨A,c,e,h1.more hB⟩,⟨A2,c2,e2,h2.more hB⟩,⟨A3,c3,e3,h3.more hB⟩⟩
def CAt(w:Ba)(B:Nat)(A:Bb)(cs:List Cs):Prop:=
 0<cs.length->∃b off,A=J ⟨b,off,Z⟩/\b<B/\∀(i:Nat) (hi:i<cs.length),∃v0 v1 v2,w.cell? ⟨b,off+i*3,Z⟩=J v0/\w.cell? ⟨b,off+i*3+1,Z⟩=J v1/\w.cell? ⟨b,off+i*3+2,Z⟩=J v2/\CsV w B v0 v1 v2 cs[i]
theorem CAt.keep{cs:List Cs}(h:CAt w B A cs)(hb:Am B w w'):CAt w' B A cs:=fun h0=>by
 obtain⟨b,off,e,ac,hc⟩:=h h0;refine⟨b,off,e,ac,fun i hi=>?_⟩;obtain⟨v0,v1,v2,c0,c1,c2,hv⟩:=hc i hi;exact⟨v0,v1,v2,(hb.cell (p:=⟨b,_,Z⟩) ac).trans c0,(hb.cell (p:=⟨b,_,Z⟩) ac).trans c1,(hb.cell (p:=⟨b,_,Z⟩) ac).trans c2,hv.keep hb⟩
theorem CAt.more{cs:List Cs}(h:CAt w B A cs)(hB:B<=B'):CAt w B' A cs:=fun h0=>by
 obtain⟨b,off,e,ac,hc⟩:=h h0;refine⟨b,off,e,by omega,fun i hi=>?_⟩;obtain⟨v0,v1,v2,c0,c1,c2,hv⟩:=hc i hi;exact⟨v0,v1,v2,c0,c1,c2,hv.more hB⟩
theorem CAt.nil(w:Ba)(B:Nat)(A:Bb):CAt w B A []:=fun h=>absurd h (by simp)
theorem CAt.row{cs:List Cs}(h:CAt w B A cs)(i:Nat)(hi:i<cs.length) :
  ∃b off A0 c0 A1 c1 A2 c2,A=J ⟨b,off,Z⟩/\b<B/\w.cell? ⟨b,off+i*3,Z⟩=J (I A0 cs[i].inp.length c0)/\w.cell? ⟨b,off+i*3+1,Z⟩=J (I A1 cs[i].out.length c1)/\w.cell? ⟨b,off+i*3+2,Z⟩=J (I A2 cs[i].calm.length c2) /\
   IAt w B A0 cs[i].inp/\LAt w B A1 cs[i].out/\LAt w B A2 cs[i].calm:=by
 obtain⟨b,off,e,ac,hc⟩:=h (by omega);obtain⟨v0,v1,v2,c0,c1,c2,⟨A0,k0,rfl,h0⟩,⟨A1,k1,rfl,h1⟩,⟨A2,k2,rfl,h2⟩⟩:=hc i hi;exact⟨b,off,A0,k0,A1,k1,A2,k2,e,ac,c0,c1,c2,h0,h1,h2⟩
def XsV(w:Ba)(B:Nat)(v0 v1 v2:Ar)(x:Exn):Prop:=
 v0=O U x.c/\(∃A c,v1=I A x.word.length c/\RAt w B A x.word)/\(∃A c,v2=I A x.views.length c/\LAt w B A x.views)
theorem XsV.keep{v0 v1 v2:Ar}{x:Exn}(h:XsV w B v0 v1 v2 x)(hb:Am B w w'):XsV w' B v0 v1 v2 x:=by
 obtain⟨e,⟨A2,c2,e2,h2⟩,⟨A3,c3,e3,h3⟩⟩:=h;exact⟨e,⟨A2,c2,e2,h2.keep hb⟩,⟨A3,c3,e3,h3.keep hb⟩⟩
theorem XsV.more{v0 v1 v2:Ar}{x:Exn}(h:XsV w B v0 v1 v2 x)(hB:B<=B'):XsV w B' v0 v1 v2 x:=by
 obtain⟨e,⟨A2,c2,e2,h2⟩,⟨A3,c3,e3,h3⟩⟩:=h;exact⟨e,⟨A2,c2,e2,h2.more hB⟩,⟨A3,c3,e3,h3.more hB⟩⟩
def XAt(w:Ba)(B:Nat)(A:Bb)(xs:List Exn):Prop:=
 0<xs.length->∃b off,A=J ⟨b,off,Z⟩/\b<B/\∀(i:Nat) (hi:i<xs.length),∃v0 v1 v2,w.cell? ⟨b,off+i*3,Z⟩=J v0/\w.cell? ⟨b,off+i*3+1,Z⟩=J v1/\w.cell? ⟨b,off+i*3+2,Z⟩=J v2/\XsV w B v0 v1 v2 xs[i]
theorem XAt.keep{xs:List Exn}(h:XAt w B A xs)(hb:Am B w w'):XAt w' B A xs:=fun h0=>by
 obtain⟨b,off,e,ac,hc⟩:=h h0;refine⟨b,off,e,ac,fun i hi=>?_⟩;obtain⟨v0,v1,v2,c0,c1,c2,hv⟩:=hc i hi;exact⟨v0,v1,v2,(hb.cell (p:=⟨b,_,Z⟩) ac).trans c0,(hb.cell (p:=⟨b,_,Z⟩) ac).trans c1,(hb.cell (p:=⟨b,_,Z⟩) ac).trans c2,hv.keep hb⟩
theorem XAt.more{xs:List Exn}(h:XAt w B A xs)(hB:B<=B'):XAt w B' A xs:=fun h0=>by
 obtain⟨b,off,e,ac,hc⟩:=h h0;refine⟨b,off,e,by omega,fun i hi=>?_⟩;obtain⟨v0,v1,v2,c0,c1,c2,hv⟩:=hc i hi;exact⟨v0,v1,v2,c0,c1,c2,hv.more hB⟩
theorem XAt.nil(w:Ba)(B:Nat)(A:Bb):XAt w B A []:=fun h=>absurd h (by simp)
theorem XAt.row{xs:List Exn}(h:XAt w B A xs)(i:Nat)(hi:i<xs.length) :
  ∃b off A1 c1 A2 c2,A=J ⟨b,off,Z⟩/\b<B/\w.cell? ⟨b,off+i*3,Z⟩=J (O U xs[i].c)/\w.cell? ⟨b,off+i*3+1,Z⟩=J (I A1 xs[i].word.length c1)/\w.cell? ⟨b,off+i*3+2,Z⟩=J (I A2 xs[i].views.length c2) /\
   RAt w B A1 xs[i].word/\LAt w B A2 xs[i].views:=by
 obtain⟨b,off,e,ac,hc⟩:=h (by omega);obtain⟨v0,v1,v2,c0,c1,c2,rfl,⟨A1,k1,rfl,h1⟩,⟨A2,k2,rfl,h2⟩⟩:=hc i hi;exact⟨b,off,A1,k1,A2,k2,e,ac,c0,c1,c2,h1,h2⟩
end
end
section
open Go.RowKit
attribute [local go_sem] Oper.semAt_some
theorem drewN2(w:Ba)(n m:Nat):(w.drewN n).drewN m=w.drewN (n+m):=by unfold World.drewN;simp[Nat.add_assoc]
theorem Y6{α:Type}{xs ys:List α}{k:Nat}(h:xs.take k=ys.take k)(h1:k<xs.length)(h2:k<ys.length)(he:xs[k]=ys[k]):xs.take (k+1)=ys.take (k+1):=by
 rw[Lq h1,Lq h2,h,he]
end
section
open Go.RowKit
theorem yw(xs:Array Ar)(i:Nat)(x:Ar)(h:xs[i]?=J x)(w:Ba):(part 3 xs i).run Al w=.ok x w:=by
 have hi:Al.underlying 3=J (.int U):=LF;unfold part isAgg;simp[go_sem,run_underlying hi,h]
def hE(v u:Vw):Bool:=v.h0==u.h0&&(v.h1==u.h1&&(v.h2==u.h2&&(v.h3==u.h3&&v.h4==u.h4)))
theorem gd(d:Nat)(v u:Vw)(w:Ba):(Op.equalIn (d+2) 72 (Ai #[O U v.h0,O U v.h1,O U v.h2,O U v.h3,O U v.h4]) (Ai #[O U u.h0,O U u.h1,O U u.h2,O U u.h3,O U u.h4])).run Al w =
  .ok (hE v u) w:=by
 have hu:Al.underlying 72=J (.array 5 3):=Pj;have hi:Al.underlying 3=J (.int U):=LF;have hs:(sizeOf 3).run Al w=.ok 1 w:=by kernel_rfl
 have p0:=fun x0 x1 x2 x3 x4=>yw #[x0,x1,x2,x3,x4] 0 x0 rfl w
 have p1:=fun x0 x1 x2 x3 x4=>yw #[x0,x1,x2,x3,x4] 1 x1 rfl w
 have p2:=fun x0 x1 x2 x3 x4=>yw #[x0,x1,x2,x3,x4] 2 x2 rfl w
 have p3:=fun x0 x1 x2 x3 x4=>yw #[x0,x1,x2,x3,x4] 3 x3 rfl w
 have p4:=fun x0 x1 x2 x3 x4=>yw #[x0,x1,x2,x3,x4] 4 x4 rfl w
 unfold Op.equalIn hE
 cases h0:(v.h0==u.h0)
 . simp only[Sem.run_bind,run_underlying hu,Result.andThen_ok,hs,Std.Legacy.Range.forIn_eq_forIn_range',Std.Legacy.Range.size,Nat.sub_zero,Nat.add_sub_cancel,Nat.div_one,show List.range' 0 5 1=[0,1,2,3,4] from rfl,List.forIn_cons,List.forIn_nil,p0,Nat.mul_one,run_equalIn_int w d 3 _ _ _ _ hi,h0,Bool.not_false,if_true,Sem.run_pure,Bool.false_and]
 cases h1:(v.h1==u.h1)
 . simp only[Sem.run_bind,run_underlying hu,Result.andThen_ok,hs,Std.Legacy.Range.forIn_eq_forIn_range',Std.Legacy.Range.size,Nat.sub_zero,Nat.add_sub_cancel,Nat.div_one,show List.range' 0 5 1=[0,1,2,3,4] from rfl,List.forIn_cons,List.forIn_nil,p0,p1,Nat.mul_one,run_equalIn_int w d 3 _ _ _ _ hi,h0,h1,Bool.not_false,Bool.not_true,if_true,Bool.false_eq_true,if_false,Sem.run_pure,Bool.true_and,Bool.false_and]
 cases h2:(v.h2==u.h2)
 . simp only[Sem.run_bind,run_underlying hu,Result.andThen_ok,hs,Std.Legacy.Range.forIn_eq_forIn_range',Std.Legacy.Range.size,Nat.sub_zero,Nat.add_sub_cancel,Nat.div_one,show List.range' 0 5 1=[0,1,2,3,4] from rfl,List.forIn_cons,List.forIn_nil,p0,p1,p2,Nat.mul_one,run_equalIn_int w d 3 _ _ _ _ hi,h0,h1,h2,Bool.not_false,Bool.not_true,if_true,Bool.false_eq_true,if_false,Sem.run_pure,Bool.true_and,Bool.false_and]
 cases h3:(v.h3==u.h3)
 . simp only[Sem.run_bind,run_underlying hu,Result.andThen_ok,hs,Std.Legacy.Range.forIn_eq_forIn_range',Std.Legacy.Range.size,Nat.sub_zero,Nat.add_sub_cancel,Nat.div_one,show List.range' 0 5 1=[0,1,2,3,4] from rfl,List.forIn_cons,List.forIn_nil,p0,p1,p2,p3,Nat.mul_one,run_equalIn_int w d 3 _ _ _ _ hi,h0,h1,h2,h3,Bool.not_false,Bool.not_true,if_true,Bool.false_eq_true,if_false,Sem.run_pure,Bool.true_and,Bool.false_and]
 cases h4:(v.h4==u.h4)
 . simp only[Sem.run_bind,run_underlying hu,Result.andThen_ok,hs,Std.Legacy.Range.forIn_eq_forIn_range',Std.Legacy.Range.size,Nat.sub_zero,Nat.add_sub_cancel,Nat.div_one,show List.range' 0 5 1=[0,1,2,3,4] from rfl,List.forIn_cons,List.forIn_nil,p0,p1,p2,p3,p4,Nat.mul_one,run_equalIn_int w d 3 _ _ _ _ hi,h0,h1,h2,h3,h4,Bool.not_false,Bool.not_true,if_true,Bool.false_eq_true,if_false,Sem.run_pure,Bool.true_and]
 simp only[Sem.run_bind,run_underlying hu,Result.andThen_ok,hs,Std.Legacy.Range.forIn_eq_forIn_range',Std.Legacy.Range.size,Nat.sub_zero,Nat.add_sub_cancel,Nat.div_one,show List.range' 0 5 1=[0,1,2,3,4] from rfl,List.forIn_cons,List.forIn_nil,p0,p1,p2,p3,p4,Nat.mul_one,run_equalIn_int w d 3 _ _ _ _ hi,h0,h1,h2,h3,h4,Bool.not_true,Bool.false_eq_true,if_false,Sem.run_pure,Bool.true_and]
theorem uj(d:Nat)(v u:Vw)(w:Ba):(Op.equalIn (d+3) 133 (.agg v.cells) (.agg u.cells)).run Al w=.ok (decide (v=u)) w:=by
 have hu:Al.underlying 133=J (.struct (Al.fieldsOf 133)):=by kernel_rfl
 have hi:Al.underlying 3=J (.int U):=LF;have hf : (Al.fieldsOf 133).toList.map (fun f => (f.name, f.type, f.offset)) = [("Proc", 3, 0), ("Round", 3, 1), ("Input", 3, 2), ("Heard", 72, 3)] := by kernel_rfl
 rw[RN w (d+2) 133 _ _ hu (by kernel_rfl)];have p0:∀x:Vw,(part 3 x.cells 0).run Al w=.ok (O U x.p) w:=fun x=>yw _ 0 _ rfl w
 have p1:∀x:Vw,(part 3 x.cells 1).run Al w=.ok (O U x.r) w:=fun x=>yw _ 1 _ rfl w
 have p2:∀x:Vw,(part 3 x.cells 2).run Al w=.ok (O U x.i) w:=fun x=>yw _ 2 _ rfl w
 have p3:∀x:Vw,(part 72 x.cells 3).run Al w=.ok (Ai #[O U x.h0,O U x.h1,O U x.h2,O U x.h3,O U x.h4]) w:=fun x=>by unfold Vw.cells;kernel_rfl
 generalize (Al.fieldsOf 133).toList=fs at hf
 obtain⟨f0,f1,f2,f3,rfl⟩:∃f0 f1 f2 f3,fs=[f0,f1,f2,f3]:=by
  have hl:fs.length=4:=by simpa using congrArg List.length hf
  rcases fs with _ | ⟨f0,_ | ⟨f1,_ | ⟨f2,_ | ⟨f3,_ | ⟨f4,r⟩⟩⟩⟩⟩<;>simp at hl
  exact⟨_,_,_,_,rfl⟩
 clear hu;simp only[List.map_cons,List.map_nil,List.cons.injEq,Prod.mk.injEq,and_true] at hf;obtain⟨⟨n0,t0,o0⟩,⟨n1,t1,o1⟩,⟨n2,t2,o2⟩,⟨n3,t3,o3⟩⟩:=hf
 have hd:decide (v=u)=(v.p==u.p&&(v.r==u.r&&(v.i==u.i&&hE v u))):=by
  unfold hE;obtain⟨a0,a1,a2,a3,a4,a5,a6,a7⟩:=v;obtain⟨b0,b1,b2,b3,b4,b5,b6,b7⟩:=u;rw[N6];simp
 rw[hd]
 cases h0:(v.p==u.p)<;>cases h1:(v.r==u.r)<;>cases h2:(v.i==u.i)<;>cases h3:hE v u <;>
  simp only[Op.eqFields,n0,n1,n2,n3,t0,t1,t2,t3,o0,o1,o2,o3,p0,p1,p2,p3,Sem.run_bind,Result.andThen_ok,run_equalIn_int w _ 3 _ _ _ _ hi,gd,h0,h1,h2,h3,ne_eq,not_false_eq_true,if_true,Bool.not_false,Bool.not_true,Bool.false_eq_true,if_false,Sem.run_pure,Bool.true_and,Bool.false_and,String.reduceEq]
theorem eql_view(v u:Vw)(w:Ba):(binOp .eql 133 (.agg v.cells) (.agg u.cells)).run Al w=.ok (Ah (decide (v=u))) w:=by
 simp only[binOp];simp[Op.equal,Op.maxDepth,uj 9997 v u w]
theorem neq_view(v u:Vw)(w:Ba):(binOp .neq 133 (.agg v.cells) (.agg u.cells)).run Al w=.ok (Ah (decide (v≠u))) w:=by
 simp only[binOp];simp[Op.equal,Op.maxDepth,uj 9997 v u w]
def uY(p:Nat->Bool):Bool:=(List.range 32).all p
theorem jJ{p:Nat->Bool}(h:uY p=Au){s:Nat}(hs:s<32):p s=Au:=LH.1 h s (by simpa using hs)
def yp(s k:Nat):List Nat:=(List.range k).filter fun p=>s.testBit p
theorem Zm{s k:Nat}:yp s (k+1)=if s.testBit k=Au then yp s k++[k] else yp s k:=by
 unfold yp;rw[Sf,List.filter_append]
 by_cases h:s.testBit k=Au<;>simp[h]
def wI(n:Int):Int:=if n<1\/5<n then 1 else 0
def yZ(n s:Int):Int:=if n<1\/5<n then 1 else if s<0\/(2^n.toNat:Nat)<=s then 2 else 0
theorem procs_any(n:Int)(w:Ba):An Al 191 #[O U n] w fun e w'=>e=Ak (O U (wI n))/\w=w':=by
 have H:Aq (wI n=if n<1\/5<n then 1 else 0):=rfl;go_enter func191,ntmps191;go_wp2
 all_goals
  go_ret;refine⟨zr ?_,rfl⟩;rw[H.out]
  first | (rw[Lj (by omega)]) | (rw[Lg (by omega)])
theorem J7(n:Int)(w:Ba):An Al 195 #[O U n] w fun e w'=>e=Ak (O U (wI n))/\w=w':=by
 have H:Aq (wI n=if n<1\/5<n then 1 else 0):=rfl;go_enter func195,ntmps195;go_wp2
 all_goals
  go_ret;refine⟨zr ?_,rfl⟩;rw[H.out]
  first | (rw[Lj (by omega)]) | (rw[Lg (by omega)])
theorem procs_ok{n:Int}(h:¬(n<1\/5<n)):n=1\/n=2\/n=3\/n=4\/n=5:=by omega
theorem Ya{n:Int}(h:n<1\/5<n):wI n=1:=Lj h
theorem Xe{n:Int}(h:¬(n<1\/5<n)):wI n=0:=Lg h
theorem Xz(n s:Int)(w:Ba):An Al 181 #[O U n,O U s] w fun e w'=>e=Ak (O U (yZ n s))/\w=w':=by
 have H:Aq (yZ n s=if n<1\/5<n then 1 else if s<0\/(2^n.toNat:Nat)<=s then 2 else 0):=rfl;go_enter func181,ntmps181;go_wp2_with fail;refine(procs_any n w).mono ?_;rintro e w' ⟨rfl,rfl⟩
 by_cases hn:n<1\/5<n
 . rw[Ya hn]
   rw[Lj hn] at H;go_wp2;go_ret;exact⟨zr H.out.symm,rfl⟩
 rw[Xe hn];rw[Lg hn] at H;rcases procs_ok hn with rfl | rfl | rfl | rfl | rfl
 all_goals
  go_wp2
 all_goals
  try simp only[bne_iff_ne,ne_eq,bne_eq_false_iff_eq] at *
  go_ret;refine⟨zr ?_,rfl⟩;rw[H.out]
  first | (rw[Lj (by simp;omega)]) | (rw[Lg (by simp;omega)])
theorem check_ok{n s:Int}(h:yZ n s=0):∃m k:Nat,n=(m:Int)/\s=(k:Int)/\1<=m/\m<=5/\k<2^m/\k<32:=by
 unfold yZ at h
 split at h
 . cases h
 split at h
 . cases h
 rename_i h1 h2;refine⟨n.toNat,s.toNat,by omega,by omega,by omega,by omega,?_,?_⟩
 . omega
 have:2^n.toNat<=2^5:=Nk (by omega) (by omega);omega
theorem wK(k:Nat)(hk:k<=5)(w:Ba):An Al 180 #[O U k] w fun e w'=>e=Ak (O U ((2^k:Nat):Int))/\w=w':=by
 go_enter func180,ntmps180;go_wp2
 go_loop [3,4] (fun v i=>∃j q:Nat,j<=k/\q=2^j/\q<=32/\v=O U (q:Int)/\i=O U (j:Int)) (fun _ i=>5-(Ap i).toNat)
 case atStart=>exact⟨0,1,by omega,rfl,by omega,rfl,rfl⟩
 obtain⟨j,q,hj,hq,hq2,rfl,rfl⟩:=hrel;have H:Aq (q=2^j):=hq;clear hq
 by_cases ac:j<k
 . go_wp2
   go_round
   case rel=>
    have h1:q*2=2^(j+1):=by rw[H.out,Nat.pow_succ]
    have h2:(2^(j+1):Nat)<=2^5:=Nk (by omega) (by omega);exact⟨j+1,q*2,by omega,h1,by omega,by go_num,by go_num⟩
   simp[Ap];omega
 obtain rfl:j=k:=by omega
 go_wp2;go_ret;exact⟨by have:=H.out;subst this;simp,rfl⟩
theorem rcheck_any(n s:Int)(w:Ba):An Al 189 #[O U n,O U s] w fun e w'=>e=Ak (O U (yZ n s))/\w=w':=by
 have H:Aq (yZ n s=if n<1\/5<n then 1 else if s<0\/(2^n.toNat:Nat)<=s then 2 else 0):=rfl;go_enter func189,ntmps189;go_wp2_with fail;refine(J7 n w).mono ?_;rintro e w' ⟨rfl,rfl⟩
 by_cases hn:n<1\/5<n
 . rw[Ya hn]
   rw[Lj hn] at H;go_wp2;go_ret;exact⟨zr H.out.symm,rfl⟩
 rw[Xe hn];rw[Lg hn] at H;obtain⟨m,rfl⟩:=Ls (show 0<=n by omega);have hp:=wK m (by omega) w;go_wp2_with fail
 . refine hp.mono ?_
   rintro e w' ⟨rfl,rfl⟩;go_wp2_with fail
   all_goals
    go_ret;refine⟨zr ?_,rfl⟩;rw[H.out]
    first | (rw[Lj (by simp;omega)]) | (rw[Lg (by simp;omega)])
 go_ret;refine⟨zr ?_,rfl⟩;rw[H.out,Lj (by omega)]
def zB:List Int->List Int->Int
 | [],[]=>0
 | [],_::_=>-1
 | _::_,[]=>1
 | a::l,b::m=>if a<b then -1 else if b<a then 1 else zB l m
theorem qC:∀l:List Int,zB l l=0
 | []=>rfl
 | a::l=>by rw[zB,Lg (Int.lt_irrefl a),Lg (Int.lt_irrefl a),qC l]
theorem jV:∀ {l m:List Int},zB l m=0->l=m
 | [],[],_=>rfl
 | [],_::_,h=>by cases h
 | _::_,[],h=>by cases h
 | a::l,b::m,h=>by
  rw[zB] at h
  split at h
  . cases h
  . split at h
    . cases h
    . rw[jV h,show a=b by omega]
theorem Yd{l m:List Int}{k:Nat}(h1:k<l.length)(h2:k<m.length):zB (l.drop k) (m.drop k)=if l[k]<m[k] then -1 else if m[k]<l[k] then 1 else zB (l.drop (k+1)) (m.drop (k+1)):=by
 rw[Ly h1,Ly h2,zB]
theorem wN{l m:List Int}{k:Nat}(h:k=l.length\/k=m.length)(h1:k<=l.length)(h2:k<=m.length):zB (l.drop k) (m.drop k)=if l.length<m.length then -1 else if m.length<l.length then 1 else 0:=by
 rcases h with h | h
 . subst h
   rw[NI]
   by_cases hm:l.length<m.length
   . rw[Lj hm,Ly hm];rfl
   have:m.drop l.length=[]:=Rv (by omega);rw[this,Lg hm,Lg (by omega)];rfl
 subst h;rw[NI]
 by_cases hm:m.length<l.length
 . rw[Lg (by omega),Lj hm,Ly hm];rfl
 have:l.drop m.length=[]:=Rv (by omega);rw[this,Lg (by omega),Lg hm];rfl
def kL(m x:Int):Bool:=decide (x<0\/m<=x)
def zJ(v:List Int)(n m:Int):Int:=if (v.length:Int)≠n then 15 else if v.any (kL m)=Au then 2 else 0
def zD{α:Type}(l:List α)(k:Nat):Option α:=if k=0 then Z else l[k-1]?
theorem gS{α:Type}(l:List α):zD l 0=Z:=rfl
theorem yu{α:Type}(l:List α)(k:Nat)(hk:k<l.length):zD l (k+1)=J l[k]:=by unfold zD;simp[hk]
def qk(p:Option (List Int))(v:List Int):Bool:=match p with | none=>Aw | some q=>decide (0<=zB q v)
def vd(f:List Int->Int):Option (List Int)->List (List Int)->Int
 | _,[]=>0
 | p,v::r=>if f v≠0 then f v else if qk p v=Au then 14 else vd f (J v) r
def qZ(f:List Int->Int)(l:List (List Int)):Int:=vd f Z l
def yL(f:List Int->Int)(l:List (List Int))(k:Nat):Int:=vd f (zD l k) (l.drop k)
theorem xS{f:List Int->Int}{l:List (List Int)}:yL f l 0=qZ f l:=by unfold yL qZ;rw[gS,Ni]
theorem qp{f:List Int->Int}{l:List (List Int)}:yL f l l.length=0:=by unfold yL;rw[NI];rfl
theorem qq{f:List Int->Int}{l:List (List Int)}{k:Nat}(hk:k<l.length)(h:f l[k]≠0):yL f l k=f l[k]:=by
 unfold yL;rw[Ly hk,vd,Lj h]
theorem xB{f:List Int->Int}{l:List (List Int)}{k:Nat}(hk:k<l.length)(h:f l[k]=0)(h2:qk (zD l k) l[k]=Au):yL f l k=14:=by
 unfold yL;rw[Ly hk,vd,Lg (by simpa using h),Lj h2]
theorem qR{f:List Int->Int}{l:List (List Int)}{k:Nat}(hk:k<l.length)(h:f l[k]=0)(h2:qk (zD l k) l[k]=Aw):yL f l k=yL f l (k+1):=by
 unfold yL;rw[Ly hk,vd,Lg (by simpa using h),Lg (by rw[h2];decide),yu l k hk]
def qH(l:List (List Int))(v:List Int):Int:=if v∈l then 0 else 6
def kP(n m:Int)(c:Cs):Int:=
 if c.out.length<1\/1024<c.out.length then 5 else if qZ (fun v=>zJ v n m) c.out≠0 then qZ (fun v=>zJ v n m) c.out else qZ (qH c.out) c.calm
def qM(t:Tk)(p:Option Cs)(c:Cs):Int:=
 if zJ c.inp t.n t.ins≠0 then zJ c.inp t.n t.ins else if qk (p.map Cs.inp) c.inp=Au then 14 else kP t.n t.outs c
def jj(t:Tk):Option Cs->List Cs->Int
 | _,[]=>0
 | p,c::r=>if qM t p c≠0 then qM t p c else jj t (J c) r
def xC(t:Tk)(l:List Cs)(k:Nat):Int:=jj t (zD l k) (l.drop k)
theorem Zj{t:Tk}{l:List Cs}:xC t l l.length=0:=by unfold xC;rw[NI];rfl
theorem Zk{t:Tk}{l:List Cs}{k:Nat}(hk:k<l.length)(h:qM t (zD l k) l[k]≠0):xC t l k=qM t (zD l k) l[k]:=by
 unfold xC;rw[Ly hk,jj,Lj h]
theorem YH{t:Tk}{l:List Cs}{k:Nat}(hk:k<l.length)(h:qM t (zD l k) l[k]=0):xC t l k=xC t l (k+1):=by
 unfold xC;rw[Ly hk,jj,Lg (by simpa using h),yu l k hk]
def xp(t:Tk):Int:=
 if t.n<1\/5<t.n\/t.ins<1\/8<t.ins\/t.outs<1\/8<t.outs then 2 else if t.cases.length<1\/1024<t.cases.length then 5 else xC t t.cases 0
def xE(n:Int)(p:Nat)(x:Int):Int:=
 if n<=p then (if x≠0 then 3 else 0) else if x<0\/(2^n.toNat-1:Nat)<x then 2 else if x.toNat.testBit p=Au then 0 else 3
def yH(r:Rd):Nat->Nat->Int
 | 0,_=>0
 | k+1,p=>if xE r.n p (r.h p)≠0 then xE r.n p (r.h p) else yH r k (p+1)
def yM(r:Rd):Int:=if r.n<1\/5<r.n then 2 else yH r 5 0
def yi(r:Rd):Int:=if yM r≠0 then yM r else yZ r.n r.f
def Rd.gl(r:Rd):List Int:=[r.n,r.h0,r.h1,r.h2,r.h3,r.h4]
def Rd.l(r:Rd):List Int:=[r.n,r.h0,r.h1,r.h2,r.h3,r.h4,r.f]
def YX(p:Option Mv)(m:Mv):Bool:=match p with | none=>Aw | some q=>decide (0<=zB q.r.l m.r.l)
def xV(a:Ad)(p:Option Mv)(m:Mv):Int:=
 if yi m.r≠0 then yi m.r else if m.r.n≠a.n then 22 else if YX p m=Au then 14 else if m.to<0\/(a.sts.length:Int)<=m.to then 2 else 0
def je(a:Ad):Option Mv->List Mv->Int
 | _,[]=>0
 | p,m::r=>if xV a p m≠0 then xV a p m else je a (J m) r
def xO(a:Ad)(l:List Mv)(k:Nat):Int:=je a (zD l k) (l.drop k)
theorem gY{a:Ad}{l:List Mv}:xO a l l.length=0:=by unfold xO;rw[NI];rfl
theorem gZ{a:Ad}{l:List Mv}{k:Nat}(hk:k<l.length)(h:xV a (zD l k) l[k]≠0):xO a l k=xV a (zD l k) l[k]:=by
 unfold xO;rw[Ly hk,je,Lj h]
theorem Yh{a:Ad}{l:List Mv}{k:Nat}(hk:k<l.length)(h:xV a (zD l k) l[k]=0):xO a l k=xO a l (k+1):=by
 unfold xO;rw[Ly hk,je,Lg (by simpa using h),yu l k hk]
def qt(a:Ad)(l:List Mv):Int:=if l.length=0 then 19 else xO a l 0
def zG(a:Ad):List (List Mv)->Int
 | []=>0
 | l::r=>if qt a l≠0 then qt a l else zG a r
theorem vI{a:Ad}{l:List (List Mv)}{k:Nat}(h:k=l.length):zG a (l.drop k)=0:=by subst h;rw[NI];rfl
theorem vJ{a:Ad}{l:List (List Mv)}{k:Nat}(hk:k<l.length)(h:qt a l[k]≠0):zG a (l.drop k)=qt a l[k]:=by
 rw[Ly hk,zG,Lj h]
theorem uz{a:Ad}{l:List (List Mv)}{k:Nat}(hk:k<l.length)(h:qt a l[k]=0):zG a (l.drop k)=zG a (l.drop (k+1)):=by
 rw[Ly hk,zG,Lg (by simpa using h)]
def Ad.mvs(a:Ad):List Mv:=a.sts.flatten
def Ad.at_(a:Ad)(s:Int):List Mv:=a.sts.getD s.toNat []
def ko(m k:Mv):Bool:=m.r.f.toNat &&& k.r.f.toNat==m.r.f.toNat
def xF(a:Ad):Bool:=a.mvs.all fun m=>(a.at_ m.to).all fun k=>ko m k
def qn(a:Ad):Int:=
 if a.n<1\/5<a.n then 2 else if a.sts.length<1\/256<a.sts.length\/4096<a.mvs.length then 5 else if zG a a.sts≠0 then zG a a.sts else if xF a=Au then 0 else 21
def zV(p:Pb):Int:=
 if xp p.t≠0 then xp p.t else if qn p.a≠0 then qn p.a else if p.t.n≠p.a.n then 22 else if p.k<0\/6<p.k then 2 else 0
def Rd.gcells(r:Rd):Array Ar:=#[O U r.n,O U r.h0,O U r.h1,O U r.h2,O U r.h3,O U r.h4]
def hR(v u:Rd):Bool:=v.h0==u.h0&&(v.h1==u.h1&&(v.h2==u.h2&&(v.h3==u.h3&&v.h4==u.h4)))
theorem eqlIn_arrR(d:Nat)(v u:Rd)(w:Ba):(Op.equalIn (d+2) 72 (Ai #[O U v.h0,O U v.h1,O U v.h2,O U v.h3,O U v.h4]) (Ai #[O U u.h0,O U u.h1,O U u.h2,O U u.h3,O U u.h4])).run Al w =
  .ok (hR v u) w:=gd d ⟨0,0,0,v.h0,v.h1,v.h2,v.h3,v.h4⟩ ⟨0,0,0,u.h0,u.h1,u.h2,u.h3,u.h4⟩ w
theorem j7(d:Nat)(v u:Rd)(w:Ba):(Op.equalIn (d+3) 74 (.agg v.gcells) (.agg u.gcells)).run Al w=.ok (decide (v.gl=u.gl)) w:=by
 have hu:Al.underlying 74=J (.struct (Al.fieldsOf 74)):=by kernel_rfl
 have hi:Al.underlying 3=J (.int U):=LF;have hf : (Al.fieldsOf 74).toList.map (fun f => (f.name, f.type, f.offset)) = [("N", 3, 0), ("Hears", 72, 1)] := by kernel_rfl
 rw[RN w (d+2) 74 _ _ hu (by kernel_rfl)];have p0:∀x:Rd,(part 3 x.gcells 0).run Al w=.ok (O U x.n) w:=fun x=>yw _ 0 _ rfl w
 have p1:∀x:Rd,(part 72 x.gcells 1).run Al w=.ok (Ai #[O U x.h0,O U x.h1,O U x.h2,O U x.h3,O U x.h4]) w:=fun x=>by unfold Rd.gcells;kernel_rfl
 generalize (Al.fieldsOf 74).toList=fs at hf
 obtain⟨f0,f1,rfl⟩:∃f0 f1,fs=[f0,f1]:=by
  have hl:fs.length=2:=by simpa using congrArg List.length hf
  rcases fs with _ | ⟨f0,_ | ⟨f1,_ | ⟨f2,r⟩⟩⟩<;>simp at hl
  exact⟨_,_,rfl⟩
 clear hu;simp only[List.map_cons,List.map_nil,List.cons.injEq,Prod.mk.injEq,and_true] at hf;obtain⟨⟨n0,t0,o0⟩,⟨n1,t1,o1⟩⟩:=hf
 have hd:decide (v.gl=u.gl)=(v.n==u.n&&hR v u):=by
  unfold hR Rd.gl;obtain⟨a0,a1,a2,a3,a4,a5,a6⟩:=v;obtain⟨b0,b1,b2,b3,b4,b5,b6⟩:=u;rw[N6];simp
 rw[hd]
 cases h0:(v.n==u.n)<;>cases h3:hR v u <;>
  simp only[Op.eqFields,n0,n1,t0,t1,o0,o1,p0,p1,Sem.run_bind,Result.andThen_ok,run_equalIn_int w _ 3 _ _ _ _ hi,eqlIn_arrR,h0,h3,ne_eq,not_false_eq_true,if_true,Bool.not_false,Bool.not_true,Bool.false_eq_true,if_false,Sem.run_pure,Bool.true_and,Bool.false_and,String.reduceEq]
theorem Zf(d:Nat)(v u:Rd)(w:Ba):(Op.equalIn (d+4) 76 (.agg v.cells) (.agg u.cells)).run Al w=.ok (decide (v=u)) w:=by
 have hu:Al.underlying 76=J (.struct (Al.fieldsOf 76)):=by kernel_rfl
 have hi:Al.underlying 3=J (.int U):=LF;have hf : (Al.fieldsOf 76).toList.map (fun f => (f.name, f.type, f.offset)) = [("Graph", 74, 0), ("Faulty", 3, 6)] := by kernel_rfl
 rw[RN w (d+3) 76 _ _ hu (by kernel_rfl)];have p0:∀x:Rd,(part 74 x.cells 0).run Al w=.ok (.agg x.gcells) w:=fun x=>by unfold Rd.cells;kernel_rfl
 have p1:∀x:Rd,(part 3 x.cells 6).run Al w=.ok (O U x.f) w:=fun x=>yw _ 6 _ rfl w
 generalize (Al.fieldsOf 76).toList=fs at hf
 obtain⟨f0,f1,rfl⟩:∃f0 f1,fs=[f0,f1]:=by
  have hl:fs.length=2:=by simpa using congrArg List.length hf
  rcases fs with _ | ⟨f0,_ | ⟨f1,_ | ⟨f2,r⟩⟩⟩<;>simp at hl
  exact⟨_,_,rfl⟩
 clear hu;simp only[List.map_cons,List.map_nil,List.cons.injEq,Prod.mk.injEq,and_true] at hf;obtain⟨⟨n0,t0,o0⟩,⟨n1,t1,o1⟩⟩:=hf
 have hd:decide (v=u)=(decide (v.gl=u.gl)&&v.f==u.f):=by
  unfold Rd.gl;obtain⟨a0,a1,a2,a3,a4,a5,a6⟩:=v;obtain⟨b0,b1,b2,b3,b4,b5,b6⟩:=u;rw[N6];simp;constructor
  . rintro⟨h0,h1,h2,h3,h4,h5,h6⟩;exact⟨⟨h0,h1,h2,h3,h4,h5⟩,h6⟩
  rintro⟨⟨h0,h1,h2,h3,h4,h5⟩,h6⟩;exact⟨h0,h1,h2,h3,h4,h5,h6⟩
 rw[hd]
 cases h0:decide (v.gl=u.gl)<;>cases h3:(v.f==u.f) <;>
  simp only[Op.eqFields,n0,n1,t0,t1,o0,o1,p0,p1,Sem.run_bind,Result.andThen_ok,run_equalIn_int w _ 3 _ _ _ _ hi,j7,h0,h3,ne_eq,not_false_eq_true,if_true,Bool.not_false,Bool.not_true,Bool.false_eq_true,if_false,Sem.run_pure,Bool.true_and,Bool.false_and,String.reduceEq]
theorem eql_graph(v u:Rd)(w:Ba):(binOp .eql 74 (.agg v.gcells) (.agg u.gcells)).run Al w=.ok (Ah (decide (v.gl=u.gl))) w:=by
 simp only[binOp];simp[Op.equal,Op.maxDepth,j7 9997 v u w]
theorem neq_graph(v u:Rd)(w:Ba):(binOp .neq 74 (.agg v.gcells) (.agg u.gcells)).run Al w=.ok (Ah (decide (v.gl≠u.gl))) w:=by
 simp only[binOp];simp[Op.equal,Op.maxDepth,j7 9997 v u w]
theorem eql_round(v u:Rd)(w:Ba):(binOp .eql 76 (.agg v.cells) (.agg u.cells)).run Al w=.ok (Ah (decide (v=u))) w:=by
 simp only[binOp];simp[Op.equal,Op.maxDepth,Zf 9996 v u w]
theorem neq_round(v u:Rd)(w:Ba):(binOp .neq 76 (.agg v.cells) (.agg u.cells)).run Al w=.ok (Ah (decide (v≠u))) w:=by
 simp only[binOp];simp[Op.equal,Op.maxDepth,Zf 9996 v u w]
theorem has_fact{s p:Nat}(hs:s<32)(hp:p<5):((wrap64 ((s:Int) / ((2^p:Nat):Int))).tmod 2==1)=s.testBit p:=by
 have h:=jJ (p:=fun s=>uY fun p=>!decide (p<5)||(((wrap64 ((s:Int) / ((2^p:Nat):Int))).tmod 2==1)==s.testBit p)) (by decide +kernel) hs;have h:=jJ h (show p<32 by omega);simpa only[hp,decide_true,Bool.not_true,Bool.false_or,beq_iff_eq] using h
theorem Zx(s p:Nat)(hs:s<32)(hp:p<5)(w:Ba):An Al 159 #[O U s,O U p] w fun e w'=>e=Ak (Ah (s.testBit p))/\w=w':=by
 have H:=zH (has_fact hs hp);have hq:(2^p:Nat)<=2^5:=Nk (by omega) (by omega);have Bw:1<=(2^p:Nat):=Nat.one_le_two_pow;have Sz:=wK p (by omega) w;obtain⟨q,hqq⟩:∃q:Nat,q=2^p:=⟨_,rfl⟩;rw[<-hqq] at Sz hq Bw H;clear hqq;go_enter func159,ntmps159;go_wp2_with fail;refine Sz.mono ?_;rintro e w' ⟨rfl,rfl⟩;go_wp2_with fail;go_ret;exact⟨zz H.out,rfl⟩
theorem Q5{a b:Nat}(ha:a<32)(hb:b<32):(a &&& b==a)=Au↔(∀p,p<5->a.testBit p=Au->b.testBit p=Au):=by
 have h:=jJ (p:=fun a=>uY fun b=>((List.range 5).all fun p=>!a.testBit p||b.testBit p)==(a &&& b==a)) (by decide +kernel) ha;have h:=jJ h hb;simp only[beq_iff_eq] at h;rw[<-h];simp only[List.all_eq_true,List.mem_range,Bool.or_eq_true,Bool.not_eq_true'];constructor
 . intro h p hp h1
   rcases h p hp with h2 | h2
   . rw[h1] at h2;cases h2
   exact h2
 intro h p hp
 by_cases h1:a.testBit p=Au
 . exact .inr (h p hp h1)
 exact .inl (by simpa using h1)
theorem inside_any(a b:Nat)(ha:a<32)(hb:b<32)(w:Ba):An Al 179 #[O U a,O U b] w fun e w'=>e=Ak (Ah (a &&& b==a))/\w=w':=by
 have H:=zH (Q5 ha hb);have HA:=zH (fun p hp w=>Zx a p ha hp w);have HB:=zH (fun p hp w=>Zx b p hb hp w);go_enter func179,ntmps179;go_wp2_with fail
 go_loop [5] (fun i=>∃k:Nat,k<=5/\i=O U (k:Int)/\Aq (∀p,p<k->a.testBit p=Au->b.testBit p=Au)) (fun i=>5-(Ap i).toNat)
 case atStart=>exact⟨0,by omega,rfl,fun p hp=>by omega⟩
 obtain⟨k,hk,rfl,ax⟩:=hrel
 by_cases ac:k<5
 . have c1:=HA.out k ac w
   have c2:=HB.out k ac w;go_wp2_with fail;refine c1.mono ?_;rintro e w' ⟨rfl,rfl⟩
   by_cases h1:a.testBit k=Au
   . rw[h1]
     go_wp2_with fail;refine c2.mono ?_;rintro e w' ⟨rfl,rfl⟩
     by_cases h2:b.testBit k=Au
     . rw[h2]
       go_wp2_with fail
       go_round
       case rel=>
        refine⟨k+1,by omega,by go_num,fun p hp h=>?_⟩
        by_cases e:p=k
        . subst e;exact h2
        exact ax.out p (by omega) h
       simp[Ap];omega
     have h2':b.testBit k=Aw:=by simpa using h2
     rw[h2'];go_wp2_with fail;go_ret;refine⟨zz ?_,rfl⟩;symm;rw[Bool.eq_false_iff];exact fun e=>h2 (H.out.1 e k ac h1)
   have WU:a.testBit k=Aw:=by simpa using h1
   rw[WU];go_wp2_with fail
   go_round
   case rel=>
    refine⟨k+1,by omega,by go_num,fun p hp h=>?_⟩
    by_cases e:p=k
    . subst e;exact absurd h h1
    exact ax.out p (by omega) h
   simp[Ap];omega
 obtain rfl:k=5:=by omega
 go_wp2_with fail;go_ret;refine⟨zz ?_,rfl⟩;exact(H.out.2 ax.out).symm
theorem drew2(w:Ba)(a b:Nat):∃m,(w.drewN a).drewN b=w.drewN m:=⟨a+b,by simp[World.drewN_drewN]⟩
theorem drew3(w:Ba)(a b c:Nat):∃m,((w.drewN a).drewN b).drewN c=w.drewN m:=⟨a+b+c,by simp[World.drewN_drewN]⟩
theorem qv(A1 A2:Bb)(c1 c2:Nat)(xs ys:List Int)(hl:xs.length<=17592186044416)(ew:ys.length<=17592186044416)(w:Ba)(h1:IAt w w.heap.size A1 xs)(h2:IAt w w.heap.size A2 ys) :
  An Al 175 #[I A1 xs.length c1,I A2 ys.length c2] w fun e w'=>e=Ak (O U (zB xs ys))/\∃m,w'=w.drewN m:=by
 have HA:=zH h1;have HB:=zH h2;go_enter func175,ntmps175;go_wp2_with fail
 go_loopw [5] (fun i wr=>∃k:Nat,k<=xs.length/\k<=ys.length/\i=O U (k:Int)/\Aq (zB xs ys=zB (xs.drop k) (ys.drop k))/\∃m:Nat,wr=w.drewN m) (fun i _=>xs.length-(Ap i).toNat)
 case atStart=>exact⟨0,by omega,by omega,rfl,rfl,0,rfl⟩
 obtain⟨k,aW,iZ,rfl,Ii,m,rfl⟩:=hrel
 by_cases ac:k<xs.length/\k<ys.length
 . obtain⟨hx,hy⟩:=ac
   obtain⟨b1,o1,rfl,aQ,c1⟩:=HA.out.at_ k hx;obtain⟨b2,o2,rfl,ah,c2⟩:=HB.out.at_ k hy;have hs:=Yd hx hy;obtain⟨x,Fv⟩:=Kk (xs[k]);obtain⟨y,Ux⟩:=Kk (ys[k]);rw[Fv] at c1 hs;rw[Ux] at c2 hs;have HS:=zH (Ii.out.trans hs)
   by_cases l1:x<y
   . have HR:=zH (HS.out.trans (Lj l1))
     go_wp2_with fail;go_quiet (fail);go_wp2_with fail;go_ret;exact⟨zr HR.out.symm,by first | exact drew2 _ _ _ | exact drew3 _ _ _ _⟩
   by_cases l2:y<x
   . have HR:=zH (HS.out.trans ((Lg l1).trans (Lj l2)))
     go_wp2_with fail;go_quiet (fail);go_wp2_with fail;go_quiet (fail);go_wp2_with fail;go_ret;exact⟨zr HR.out.symm,by first | exact drew2 _ _ _ | exact drew3 _ _ _ _⟩
   have HR:=zH (HS.out.trans ((Lg l1).trans (Lg l2)));go_wp2_with fail;go_quiet (fail);go_wp2_with fail;go_quiet (fail);go_wp2_with fail
   go_roundw
   case rel=>exact⟨k+1,by omega,by omega,by go_num,HR,by first | exact drew2 _ _ _ | exact drew3 _ _ _ _ | exact⟨_,rfl⟩⟩
   simp[Ap];omega
 have he:=wN (l:=xs) (m:=ys) (k:=k) (by omega) aW iZ;have HR:=zH (Ii.out.trans he);have hd:(decide ((k:Int)<(xs.length:Int))&&decide ((k:Int)<(ys.length:Int)))=Aw:=by simp;omega
 by_cases hx:k<xs.length
 . obtain rfl:k=ys.length:=by omega
   go_wp2_with fail
   all_goals first | (exfalso;omega) | skip
   all_goals
    go_ret;exact⟨zr (by rw[HR.out];first | (rw[Lj (by omega)]) | (rw[Lg (by omega),Lj (by omega)]) | (rw[Lg (by omega),Lg (by omega)])),_,rfl⟩
 obtain rfl:k=xs.length:=by omega
 go_wp2_with fail
 all_goals first | (exfalso;omega) | skip
 all_goals
  go_ret;exact⟨zr (by rw[HR.out];first | (rw[Lj (by omega)]) | (rw[Lg (by omega),Lj (by omega)]) | (rw[Lg (by omega),Lg (by omega)])),_,rfl⟩
def jh(x y:Int):Int:=if x<y then -1 else if y<x then 1 else 0
theorem ZB(x y:Int)(w:Ba):An Al 168 #[O U x,O U y] w fun e w'=>e=Ak (O U (jh x y))/\w=w':=by
 have H:Aq (jh x y=if x<y then -1 else if y<x then 1 else 0):=rfl
 have hn:∀(x:Int) (w:Ba),An Al 183 #[O U x] w fun e w'=>e=Ak (Ah Aw)/\w=w':=fun x w=>by
  go_enter func183,ntmps183;go_wp2;go_ret;exact⟨by simp,rfl⟩
 have HN:=zH hn;go_enter func168,ntmps168;go_wp2_with (go_at_call 183;refine(HN.out _ _).mono ?_;rintro e w' ⟨rfl,rfl⟩)
 all_goals
  go_ret;refine⟨zr ?_,rfl⟩;rw[H.out]
  first | (rw[Lj (by omega)]) | (rw[Lg (by omega),Lj (by omega)]) | (rw[Lg (by omega),Lg (by omega)])
theorem uC(A1 A2:Bb)(c1 c2:Nat)(xs ys:List Int)(hl:xs.length<=17592186044416)(ew:ys.length<=17592186044416)(w:Ba)(h1:IAt w w.heap.size A1 xs)(h2:IAt w w.heap.size A2 ys) :
  An Al 151 #[I A1 xs.length c1,I A2 ys.length c2] w fun e w'=>e=Ak (O U (zB xs ys))/\w'=w:=by
 have HA:=zH h1;have HB:=zH h2;go_enter func151,ntmps151;go_wp2_with fail
 go_loop [11] (fun i=>∃k:Nat,k<=xs.length/\k<=ys.length/\i=O U (k:Int)/\Aq (zB xs ys=zB (xs.drop k) (ys.drop k))) (fun i=>xs.length-(Ap i).toNat)
 case atStart=>exact⟨0,by omega,by omega,rfl,rfl⟩
 obtain⟨k,aW,iZ,rfl,Ii⟩:=hrel
 by_cases hx:k<xs.length
 . obtain⟨b1,o1,rfl,aQ,c1⟩:=HA.out.at_ k hx
   by_cases hy:k<ys.length
   . obtain⟨b2,o2,rfl,ah,c2⟩:=HB.out.at_ k hy
     have hs:=Yd hx hy;obtain⟨x,Fv⟩:=Kk (xs[k]);obtain⟨y,Ux⟩:=Kk (ys[k]);rw[Fv] at c1 hs;rw[Ux] at c2 hs;have HS:=zH (Ii.out.trans hs);have oU:Aq (jh x y=if x<y then -1 else if y<x then 1 else 0):=rfl;have hc:=zH (fun w=>ZB x y w);obtain⟨cv,td⟩:=Kk (jh x y);rw[td] at hc oU;go_wp2_with fail;refine(hc.out _).mono ?_;rintro e w' ⟨rfl,rfl⟩
     by_cases l1:x<y
     . have HR:=zH (HS.out.trans (Lj l1))
       obtain rfl:cv=-1:=oU.out.trans (Lj l1);go_wp2_with fail;go_ret;exact⟨zr HR.out.symm,rfl⟩
     by_cases l2:y<x
     . have HR:=zH (HS.out.trans ((Lg l1).trans (Lj l2)))
       obtain rfl:cv=1:=oU.out.trans ((Lg l1).trans (Lj l2));go_wp2_with fail;go_ret;exact⟨zr HR.out.symm,rfl⟩
     have HR:=zH (HS.out.trans ((Lg l1).trans (Lg l2)));obtain rfl:cv=0:=oU.out.trans ((Lg l1).trans (Lg l2));go_wp2_with fail
     go_round
     case rel=>exact⟨k+1,by omega,by omega,by go_num,HR⟩
     simp[Ap];omega
   obtain rfl:k=ys.length:=by omega
   have he:=wN (l:=xs) (m:=ys) (k:=ys.length) (by omega) aW iZ;have HR:=zH (Ii.out.trans he);go_wp2_with fail;go_ret;exact⟨zr (by rw[HR.out,Lg (by omega),Lj (by omega)]),rfl⟩
 obtain rfl:k=xs.length:=by omega
 have he:=wN (l:=xs) (m:=ys) (k:=xs.length) (by omega) aW iZ;have HR:=zH (Ii.out.trans he);go_wp2_with fail
 all_goals
  go_ret;exact⟨zr (by rw[HR.out];first | (rw[Lj (by omega)]) | (rw[Lg (by omega),Lg (by omega)])),rfl⟩
theorem Xn{r:Rd}{k:Nat}(hk:k<5)(h:xE r.n k (r.h k)≠0):yH r (5-k) k=xE r.n k (r.h k):=by
 rw[show 5-k=(4-k)+1 by omega,yH,Lj h]
theorem Jc{r:Rd}{k:Nat}(hk:k<5)(h:xE r.n k (r.h k)=0):yH r (5-k) k=yH r (5-(k+1)) (k+1):=by
 rw[show 5-k=(4-k)+1 by omega,yH,Lg (by simpa using h),show 4-k=5-(k+1) by omega]
theorem Ys{n x:Int}{p:Nat}(h:n<=p)(hx:x≠0):xE n p x=3:=by unfold xE;rw[Lj h,Lj hx]
theorem Yr{n:Int}{p:Nat}(h:n<=p):xE n p 0=0:=by unfold xE;rw[Lj h];rfl
theorem Xp{n x:Int}{p:Nat}(h:¬n<=p)(hx:x<0\/(2^n.toNat-1:Nat)<x):xE n p x=2:=by unfold xE;rw[Lg h,Lj hx]
theorem Xo{n x:Int}{p:Nat}(h:¬n<=p)(hx:¬(x<0\/(2^n.toNat-1:Nat)<x))(hb:x.toNat.testBit p=Au):xE n p x=0:=by unfold xE;rw[Lg h,Lg hx,Lj hb]
theorem Jd{n x:Int}{p:Nat}(h:¬n<=p)(hx:¬(x<0\/(2^n.toNat-1:Nat)<x))(hb:x.toNat.testBit p=Aw):xE n p x=3:=by unfold xE;rw[Lg h,Lg hx,Lg (by rw[hb];decide)]
theorem bit_zero{s p:Nat}(hs:s<32)(hp:p<5):(bits BinOp.and U ((s:Int) / 2^p) 1==0)=!s.testBit p:=by
 have h:=jJ (p:=fun s=>uY fun p=>!decide (p<5)||((bits BinOp.and U ((s:Int) / 2^p) 1==0)==!s.testBit p)) (by decide +kernel) hs;have h:=jJ h (show p<32 by omega);simpa only[hp,decide_true,Bool.not_true,Bool.false_or,beq_iff_eq] using h
theorem gfull_any(n:Int)(h1:1<=n)(h5:n<=5)(w:Ba):An Al 193 #[O U n] w fun e w'=>e=Ak (O U ((2^n.toNat-1:Nat):Int))/\w'=w:=by
 obtain rfl | rfl | rfl | rfl | rfl:n=1\/n=2\/n=3\/n=4\/n=5:=by omega
 all_goals
  go_enter func193,ntmps193;go_wp2;go_ret;exact⟨rfl,rfl⟩
theorem rfull5_any(n:Int)(h1:1<=n)(hn:n<=5)(w:Ba):An Al 194 #[O U n] w fun e w'=>e=Ak (O U ((2^n.toNat-1:Nat):Int))/\w'=w:=by
 obtain⟨m,rfl⟩:=Ls (show 0<=n by omega);have hp:=wK m (by omega) w;go_enter func194,ntmps194;go_wp2_with fail;refine hp.mono ?_;rintro e w' ⟨rfl,rfl⟩;obtain rfl | rfl | rfl | rfl | rfl:m=1\/m=2\/m=3\/m=4\/m=5:=by omega
 all_goals
  go_wp2_with fail;go_ret;exact⟨rfl,rfl⟩
theorem uQ{r:Rd}(h:r.n<1\/5<r.n):yM r=2:=Lj h
theorem Yt{r:Rd}(h:¬(r.n<1\/5<r.n)):yM r=yH r (5-0) 0:=Lg h
theorem pow_le{n:Int}(h5:n<=5):(2^n.toNat-1:Nat)<=31:=by
 have:2^n.toNat<=2^5:=Nk (by omega) (by omega);omega
theorem gcheck_any(r:Rd)(w:Ba):An Al 186 #[.agg r.gcells] w fun e w'=>e=Ak (O U (yM r))/\Am w.heap.size w w':=by
 have aq:=zH (@uQ r);have am:=zH (@Yt r);obtain⟨E,hE⟩:=Kk (yM r);rw[hE] at aq am ⊢
 have Vr:∀k,k<5->∀w,(Instr.index 72 (Ai #[O U r.h0,O U r.h1,O U r.h2,O U r.h3,O U r.h4]) (O U (k:Nat))).run Al w=.ok (O U (r.h k)) w:=fun k hk w=>by
  obtain rfl | rfl | rfl | rfl | rfl:k=0\/k=1\/k=2\/k=3\/k=4:=by omega
  all_goals exact(by kernel_rfl)
 have Bd:=zH Vr;unfold Rd.gcells
 by_cases hr:r.n<1\/5<r.n
 . have HR:=zH (aq.out hr)
   have HN:=zH hr;go_enter func186,ntmps186;go_wp2_with fail
   all_goals first | (exfalso;have:=HN.out;omega) | (go_ret;exact⟨zr HR.out.symm,zU w _⟩)
 have r1:¬r.n<1:=by omega
 have r2:¬5<r.n:=by omega
 have HE:=zH (am.out hr);go_enter func186,ntmps186;go_wp2_with fail
 all_goals first | (exfalso;omega) | skip
 go_loop [15] (fun i=>∃k:Nat,k<=5/\i=O U (k:Int)/\Aq (E=yH r (5-k) k)) (fun i=>5-(Ap i).toNat)
 case atStart=>exact⟨0,by omega,rfl,HE⟩
 obtain⟨k,hk,rfl,av⟩:=hrel
 by_cases ac:k<5
 . have hx:=Bd.out k ac
   have bh:=zH (@Xn r k ac);have bk:=zH (@Jc r k ac);have h1:=zH (@Ys r.n (r.h k) k);have h2:=zH (@Yr r.n k);have h3:=zH (@Xp r.n (r.h k) k);have h4:=zH (@Xo r.n (r.h k) k);have h5:=zH (@Jd r.n (r.h k) k);obtain⟨x,Fv⟩:=Kk (r.h k);rw[Fv] at hx bh bk h1 h3 h4 h5
   by_cases hp:r.n<=(k:Int)
   . by_cases hz:x=0
     . subst hz
       have hR:=zH (av.out.trans (bk.out (h2.out hp)));go_wp2_with fail
       all_goals first | (exfalso;omega) | skip
       go_round
       case rel=>exact⟨k+1,by omega,by go_num,hR⟩
       simp[Ap];omega
     have he:=h1.out hp hz;have hR:=zH (av.out.trans ((bh.out (by rw[he];decide)).trans he));have e0:(x != 0)=Au:=by simpa using hz
     go_wp2_with fail
     all_goals first | (exfalso;omega) | skip
     go_ret;exact⟨zr hR.out.symm,zU w _⟩
   have hF:=zH (gfull_any r.n (by omega) (by omega));have Cv:=pow_le (n:=r.n) (by omega);obtain⟨F,WN⟩:∃F:Nat,(2^r.n.toNat-1:Nat)=F:=⟨_,rfl⟩;rw[WN] at h3 h4 h5 hF Cv
   by_cases ho:x<0\/(F:Int)<x
   . have he:=h3.out hp ho
     have hR:=zH (av.out.trans ((bh.out (by rw[he];decide)).trans he))
     by_cases iT:x<0
     . clear ho
       go_wp2_with fail
       all_goals first | (exfalso;omega) | skip
       go_ret;exact⟨zr hR.out.symm,zU w _⟩
     have sS:(F:Int)<x:=by omega
     go_wp2_with (go_at_call 193;refine(hF.out _).mono ?_;rintro e w' ⟨rfl,rfl⟩)
     all_goals first | (exfalso;omega) | skip
     go_ret;exact⟨zr hR.out.symm,zU w _⟩
   obtain⟨m,rfl⟩:=Ls (show 0<=x by omega);have hm:m<32:=by omega
   have hbz:=bit_zero hm ac;have iT:¬((m:Int)<0):=by omega
   have sS:¬((F:Int)<(m:Int)):=by omega
   by_cases hb:m.testBit k=Au
   . have hR:=zH (av.out.trans (bk.out (h4.out hp ho (by simpa using hb))))
     rw[hb] at hbz;go_wp2_with (go_at_call 193;refine(hF.out _).mono ?_;rintro e w' ⟨rfl,rfl⟩)
     all_goals first | (exfalso;omega) | skip
     go_round
     case rel=>exact⟨k+1,by omega,by go_num,hR⟩
     simp[Ap];omega
   have dZ:m.testBit k=Aw:=by simpa using hb
   have he:=h5.out hp ho (by simpa using dZ);have hR:=zH (av.out.trans ((bh.out (by rw[he];decide)).trans he));rw[dZ] at hbz;go_wp2_with (go_at_call 193;refine(hF.out _).mono ?_;rintro e w' ⟨rfl,rfl⟩)
   all_goals first | (exfalso;omega) | skip
   go_ret;exact⟨zr hR.out.symm,zU w _⟩
 obtain rfl:k=5:=by omega
 have hR:Aq (E=0):=av.out;go_wp2_with fail;go_ret;exact⟨zr hR.out.symm,zU w _⟩
theorem jY(r:Rd)(k:Nat)(hk:k<5):r.gcells[1+k]?=J (O U (r.h k)):=by
 obtain rfl | rfl | rfl | rfl | rfl:k=0\/k=1\/k=2\/k=3\/k=4:=by omega
 all_goals rfl
theorem QC(r:Rd)(w:Ba):An Al 188 #[.agg r.gcells] w fun e w'=>e=Ak (O U (yM r))/\Am w.heap.size w w':=by
 have aq:=zH (@uQ r);have am:=zH (@Yt r);obtain⟨E,hE⟩:=Kk (yM r);rw[hE] at aq am ⊢;have rC:=zH (fun k hk=>zh (zx w (Ag r.gcells 74)) (1+k) (jY r k hk));unfold Rd.gcells at rC ⊢
 by_cases hr:r.n<1\/5<r.n
 . have HR:=zH (aq.out hr)
   have HN:=zH hr;go_enter func188,ntmps188;go_wp2_with fail
   all_goals first | (exfalso;have:=HN.out;omega) | (go_ret;exact⟨zr HR.out.symm,zU w _⟩)
 have r1:¬r.n<1:=by omega
 have r2:¬5<r.n:=by omega
 have HE:=zH (am.out hr);go_enter func188,ntmps188;go_wp2_with fail
 all_goals first | (exfalso;omega) | skip
 obtain⟨W0,eJ⟩:=Kk (w.alloc (Ag #[O U r.n,O U r.h0,O U r.h1,O U r.h2,O U r.h3,O U r.h4] 74));have lL:W0.heap[w.heap.size]?=J (Ag #[O U r.n,O U r.h0,O U r.h1,O U r.h2,O U r.h3,O U r.h4] 74 (0,0)):=by rw[<-eJ];exact zx _ _
 have HB:=zH (show Am w.heap.size w W0 by rw[<-eJ];exact zU w _);have q0:=zh lL 0 rfl;rw[eJ] at rC ⊢
 go_loop [3] (fun i=>∃k:Nat,k<=5/\i=O U (k:Int)/\Aq (E=yH r (5-k) k)) (fun i=>5-(Ap i).toNat)
 case atStart=>exact⟨0,by omega,rfl,HE⟩
 obtain⟨k,hk,rfl,av⟩:=hrel
 by_cases ac:k<5
 . have hx:=rC.out k ac
   have bh:=zH (@Xn r k ac);have bk:=zH (@Jc r k ac);have h1:=zH (@Ys r.n (r.h k) k);have h2:=zH (@Yr r.n k);have h3:=zH (@Xp r.n (r.h k) k);have h4:=zH (@Xo r.n (r.h k) k);have h5:=zH (@Jd r.n (r.h k) k);obtain⟨x,Fv⟩:=Kk (r.h k);rw[Fv] at hx bh bk h1 h3 h4 h5
   by_cases hp:r.n<=(k:Int)
   . by_cases hz:x=0
     . subst hz
       have hR:=zH (av.out.trans (bk.out (h2.out hp)));go_wp2_with fail
       all_goals first | (exfalso;omega) | skip
       go_round
       case rel=>exact⟨k+1,by omega,by go_num,hR⟩
       simp[Ap];omega
     have he:=h1.out hp hz;have hR:=zH (av.out.trans ((bh.out (by rw[he];decide)).trans he));have e0:(x != 0)=Au:=by simpa using hz
     go_wp2_with fail
     all_goals first | (exfalso;omega) | skip
     go_ret;exact⟨zr hR.out.symm,HB.out⟩
   have hF:=zH (rfull5_any r.n (by omega) (by omega));have Cv:=pow_le (n:=r.n) (by omega);obtain⟨F,WN⟩:∃F:Nat,(2^r.n.toNat-1:Nat)=F:=⟨_,rfl⟩;rw[WN] at h3 h4 h5 hF Cv
   by_cases ho:x<0\/(F:Int)<x
   . have he:=h3.out hp ho
     have hR:=zH (av.out.trans ((bh.out (by rw[he];decide)).trans he))
     by_cases iT:x<0
     . clear ho
       go_wp2_with fail
       all_goals first | (exfalso;omega) | skip
       go_ret;exact⟨zr hR.out.symm,HB.out⟩
     have sS:(F:Int)<x:=by omega
     go_wp2_with (go_at_call 194;refine(hF.out _).mono ?_;rintro e w' ⟨rfl,my⟩;obtain rfl:=my.symm)
     all_goals first | (exfalso;omega) | skip
     go_ret;exact⟨zr hR.out.symm,HB.out⟩
   obtain⟨m,rfl⟩:=Ls (show 0<=x by omega);have hm:m<32:=by omega
   have iT:¬((m:Int)<0):=by omega
   have sS:¬((F:Int)<(m:Int)):=by omega
   have hH:=zH (fun w=>Zx m k hm ac w)
   by_cases hb:m.testBit k=Au
   . have hR:=zH (av.out.trans (bk.out (h4.out hp ho (by simpa using hb))))
     rw[hb] at hH;go_wp2_with (first | (go_at_call 194;refine(hF.out _).mono ?_;rintro e w' ⟨rfl,my⟩;obtain rfl:=my.symm) | (go_at_call 159;refine(hH.out _).mono ?_;rintro e w' ⟨rfl,rfl⟩))
     all_goals first | (exfalso;omega) | skip
     go_round
     case rel=>exact⟨k+1,by omega,by go_num,hR⟩
     simp[Ap];omega
   have dZ:m.testBit k=Aw:=by simpa using hb
   have he:=h5.out hp ho (by simpa using dZ);have hR:=zH (av.out.trans ((bh.out (by rw[he];decide)).trans he));rw[dZ] at hH;go_wp2_with (first | (go_at_call 194;refine(hF.out _).mono ?_;rintro e w' ⟨rfl,my⟩;obtain rfl:=my.symm) | (go_at_call 159;refine(hH.out _).mono ?_;rintro e w' ⟨rfl,rfl⟩))
   all_goals first | (exfalso;omega) | skip
   go_ret;exact⟨zr hR.out.symm,HB.out⟩
 obtain rfl:k=5:=by omega
 have hR:Aq (E=0):=av.out;go_wp2_with fail;go_ret;exact⟨zr hR.out.symm,HB.out⟩
theorem uF{r:Rd}(h:yM r≠0):yi r=yM r:=Lj h
theorem Z7{r:Rd}(h:yM r=0):yi r=yZ r.n r.f:=Lg (by simpa using h)
theorem Z6(r:Rd)(w:Ba):An Al 171 #[.agg r.cells] w fun e w'=>e=Ak (O U (yi r))/\Am w.heap.size w w':=by
 have aq:=zH (@uF r);have am:=zH (@Z7 r);have HG:=zH (fun w=>gcheck_any r w);have HS:=zH (fun w=>Xz r.n r.f w);obtain⟨E,hE⟩:=Kk (yi r);rw[hE] at aq am ⊢;obtain⟨g,hg⟩:=Kk (yM r);rw[hg] at aq am HG;obtain⟨s,hs⟩:=Kk (yZ r.n r.f);rw[hs] at am HS;unfold Rd.cells;unfold Rd.gcells at HG;go_enter func171,ntmps171;go_wp2_with fail;obtain⟨W0,eJ⟩:=Kk (w.alloc (Ag #[O U r.n,O U r.h0,O U r.h1,O U r.h2,O U r.h3,O U r.h4,O U r.f] 76));have lL:W0.heap[w.heap.size]?=J (Ag #[O U r.n,O U r.h0,O U r.h1,O U r.h2,O U r.h3,O U r.h4,O U r.f] 76 (0,0)):=by rw[<-eJ];exact zx _ _
 have hB:Am w.heap.size w W0:=by rw[<-eJ];exact zU w _
 have tI:=zk lL;rw[eJ];refine(HG.out W0).mono ?_;rintro e w1 ⟨rfl,aQ⟩;have HB:=zH (Lc hB aQ);have d0:=Lb aQ tI lL;have q0:=zh d0 0 rfl;have q6:=zh d0 6 rfl
 by_cases h0:g=0
 . subst h0
   have hR:=zH (am.out (by simp));go_wp2_with fail;refine(HS.out _).mono ?_;rintro e w2 ⟨rfl,rfl⟩;go_wp2_with fail;go_ret;exact⟨zr hR.out.symm,HB.out⟩
 have hR:=zH (aq.out h0);have e0:(g != 0)=Au:=by simpa using h0
 go_wp2_with fail;go_ret;exact⟨zr hR.out.symm,HB.out⟩
theorem Zo(r:Rd)(w:Ba):An Al 177 #[.agg r.cells] w fun e w'=>e=Ak (O U (yi r))/\Am w.heap.size w w':=by
 have aq:=zH (@uF r);have am:=zH (@Z7 r);have HG:=zH (fun w=>QC r w);have HS:=zH (fun w=>rcheck_any r.n r.f w);obtain⟨E,hE⟩:=Kk (yi r);rw[hE] at aq am ⊢;obtain⟨g,hg⟩:=Kk (yM r);rw[hg] at aq am HG;obtain⟨s,hs⟩:=Kk (yZ r.n r.f);rw[hs] at am HS;unfold Rd.cells;unfold Rd.gcells at HG;go_enter func177,ntmps177;go_wp2_with fail;obtain⟨W0,eJ⟩:=Kk (w.alloc (Ag #[O U r.n,O U r.h0,O U r.h1,O U r.h2,O U r.h3,O U r.h4,O U r.f] 76));have lL:W0.heap[w.heap.size]?=J (Ag #[O U r.n,O U r.h0,O U r.h1,O U r.h2,O U r.h3,O U r.h4,O U r.f] 76 (0,0)):=by rw[<-eJ];exact zx _ _
 have hB:Am w.heap.size w W0:=by rw[<-eJ];exact zU w _
 have tI:=zk lL;rw[eJ];refine(HG.out W0).mono ?_;rintro e w1 ⟨rfl,aQ⟩;have HB:=zH (Lc hB aQ);have d0:=Lb aQ tI lL;have q0:=zh d0 0 rfl;have q6:=zh d0 6 rfl
 by_cases h0:g=0
 . subst h0
   have hR:=zH (am.out (by simp));go_wp2_with fail;refine(HS.out _).mono ?_;rintro e w2 ⟨rfl,rfl⟩;go_wp2_with fail;go_ret;exact⟨zr hR.out.symm,HB.out⟩
 have hR:=zH (aq.out h0);have e0:(g != 0)=Au:=by simpa using h0
 go_wp2_with fail;go_ret;exact⟨zr hR.out.symm,HB.out⟩
theorem xk(w:Ba)(c1 c2:Array Ar)(t1 t2:TypeId):∃W0,(w.alloc (Ag c1 t1)).alloc (Ag c2 t2)=W0/\W0.heap[w.heap.size]?=J (Ag c1 t1 (0,0))/\W0.heap[w.heap.size+1]?=J (Ag c2 t2 (0,0))/\w.heap.size+2<=W0.heap.size/\Am w.heap.size w W0:=
 ⟨_,rfl,xa (zx _ _) _,by have:=zx (w.alloc (Ag c1 t1)) (Ag c2 t2);rwa[NM] at this,by simp,un w _ _⟩
theorem ub{x y:Int}{l m:List Int}:zB (x::l) (y::m)=if jh x y≠0 then jh x y else zB l m:=by
 rw[zB];unfold jh
 by_cases h1:x<y
 . simp[h1]
 by_cases h2:y<x
 . simp[h1,h2]
 simp[h1,h2]
theorem Zy{r:Rd}{k:Nat}(hk:k<5):r.gl.drop (k+1)=r.h k::r.gl.drop (k+2):=by
 obtain rfl | rfl | rfl | rfl | rfl:k=0\/k=1\/k=2\/k=3\/k=4:=by omega
 all_goals rfl
theorem gl_step{a b:Rd}{k:Nat}(hk:k<5):zB (a.gl.drop (k+1)) (b.gl.drop (k+1))=if jh (a.h k) (b.h k)≠0 then jh (a.h k) (b.h k) else zB (a.gl.drop (k+2)) (b.gl.drop (k+2)):=by
 rw[Zy hk,Zy hk,ub]
theorem gl_zero{a b:Rd}:zB a.gl b.gl=if jh a.n b.n≠0 then jh a.n b.n else zB (a.gl.drop 1) (b.gl.drop 1):=ub
theorem l_split{a b:Rd}:zB a.l b.l=if zB a.gl b.gl≠0 then zB a.gl b.gl else jh a.f b.f:=by
 unfold Rd.l Rd.gl;simp only[ub]
 repeat' split
 all_goals first | rfl | (simp_all [zB];done) | (exfalso;simp_all [zB];done)
theorem cmpI_zero{x y:Int}(h:jh x y=0):x=y:=by
 unfold jh at h
 split at h
 . cases h
 split at h
 . cases h
 omega
theorem cmpI_self(x:Int):jh x x=0:=by unfold jh;rw[Lg (by omega),Lg (by omega)]
theorem X9(a b:Rd)(w:Ba):An Al 187 #[.agg a.gcells,.agg b.gcells] w fun e w'=>e=Ak (O U (zB a.gl b.gl))/\∃W0 n,w'=World.drewN W0 n/\W0=(w.alloc (Ag a.gcells 74)).alloc (Ag b.gcells 74):=by
 have HQ:=zH (fun w=>eql_graph a b w);have H0:=zH (@gl_zero a b);have HS:Aq (a.gl=b.gl->zB a.gl b.gl=0):=fun h=>by rw[h];exact qC _
 obtain⟨E,hE⟩:=Kk (zB a.gl b.gl);rw[hE] at H0 HS ⊢;have Di:=zH (fun k hk=>zh (xa (zx w (Ag a.gcells 74)) (Ag b.gcells 74)) (1+k) (jY a k hk));have dV:=zH (fun k hk=>zh (zx (w.alloc (Ag a.gcells 74)) (Ag b.gcells 74)) (1+k) (jY b k hk));rw[NM] at dV;have HX:Aq (∃W0,W0=(w.alloc (Ag a.gcells 74)).alloc (Ag b.gcells 74)):=⟨_,rfl⟩;unfold Rd.gcells at HQ Di dV HX ⊢
 by_cases he:a.gl=b.gl
 . have hq:∀w,_:=fun w=>HQ.out w
   rw[Lw he] at hq;have hR:=zH (HS.out he);go_enter func187,ntmps187;go_wp2_with fail;go_ret;exact⟨zr hR.out.symm,_,0,rfl,rfl⟩
 have hq:∀w,_:=fun w=>HQ.out w
 rw[Lu he] at hq;clear HQ HS he;have HN:=zH (fun w=>ZB a.n b.n w);obtain⟨cn,Gk⟩:=Kk (jh a.n b.n);have VO:Aq (cn=0↔a.n=b.n):=by rw[<-Gk];exact⟨cmpI_zero,fun h=>by rw[h];exact cmpI_self _⟩
 rw[Gk] at H0 HN;clear Gk
 by_cases hn:a.n=b.n
 . have CD:cn=0:=VO.out.2 hn
   subst CD;have HE:=zH (H0.out.trans (Lg (by simp)));have e0:(a.n != b.n)=Aw:=by simpa using hn
   clear H0 HN VO hn;go_enter func187,ntmps187;go_wp2_with fail;obtain⟨W0,eJ⟩:=HX.out;rw[<-eJ] at Di dV ⊢;clear HX hq e0;have EC:=zH eJ;clear eJ
   go_loopw [20] (fun i wr=>∃k n:Nat,k<=5/\i=O U (k:Int)/\Aq (E=zB (a.gl.drop (k+1)) (b.gl.drop (k+1)))/\wr=W0.drewN n) (fun i _=>5-(Ap i).toNat)
   case atStart=>exact⟨0,0,by omega,rfl,HE,rfl⟩
   obtain⟨k,n,hk,rfl,av,rfl⟩:=hrel;clear HE
   by_cases ac:k<5
   . have c1:=Di.out k ac
     have c2:=dV.out k ac;have hs:=zH (av.out.trans (gl_step ac));have HC:=zH (fun (p:Nat)=>(ZB (a.h k) (b.h k) (W0.drewN p)));obtain⟨x,hx⟩:=Kk (a.h k);obtain⟨y,hy⟩:=Kk (b.h k);rw[hx] at c1 hs HC;rw[hy] at c2 hs HC;obtain⟨cv,td⟩:=Kk (jh x y);rw[td] at hs HC;clear hx hy td av
     by_cases hz:cv=0
     . subst hz
       have hR:=zH (hs.out.trans (Lg (by simp)));clear hs;go_wp2_with fail;go_quiet ((go_at_call 168;exact(HC.out _).mono fun e w' h=>⟨h.1,_,h.2.symm⟩));go_wp2_with fail
       go_roundw
       case rel=>exact⟨k+1,_,by omega,by go_num,hR,rfl⟩
       simp[Ap];omega
     have hR:=zH (hs.out.trans (Lj hz));have e0:(cv != 0)=Au:=by simpa using hz
     clear hs hz;go_wp2_with fail;go_quiet ((go_at_call 168;exact(HC.out _).mono fun e w' h=>⟨h.1,_,h.2.symm⟩));go_wp2_with fail;go_ret;exact⟨zr hR.out.symm,W0,_,by first | rfl | exact(P6 ..),EC.out⟩
   obtain rfl:k=5:=by omega
   have hR:Aq (E=0):=av.out;clear av;go_wp2_with fail;go_ret;exact⟨zr hR.out.symm,W0,_,rfl,EC.out⟩
 have CD:¬cn=0:=fun h=>hn (VO.out.1 h)
 have HE:=zH (H0.out.trans (Lj CD));have e0:(a.n != b.n)=Au:=by simpa using hn
 go_enter func187,ntmps187;go_wp2_with fail;refine(HN.out _).mono ?_;rintro e w1 ⟨rfl,rfl⟩;go_wp2_with fail;go_ret;exact⟨zr HE.out.symm,_,0,rfl,rfl⟩
theorem gcomp_any(a b:Rd)(w:Ba):An Al 187 #[.agg a.gcells,.agg b.gcells] w fun e w'=>e=Ak (O U (zB a.gl b.gl))/\Am w.heap.size w w':=
 (X9 a b w).mono fun e w' ⟨h1,W0,n,h2,h3⟩=>⟨h1,by rw[h2,h3];exact yv (un w _ _) n⟩
theorem YQ(a b:Rd)(w:Ba):An Al 172 #[.agg a.cells,.agg b.cells] w fun e w'=>e=Ak (O U (zB a.l b.l))/\Am w.heap.size w w':=by
 have HQ:=zH (fun w=>eql_round a b w);have HN:=zH (fun w=>neq_graph a b w);have HS:=zH (@l_split a b);have HZ:Aq (a=b->zB a.l b.l=0):=fun h=>by rw[h];exact qC _
 have HG:=zH (fun w=>gcomp_any a b w);have HF:=zH (fun w=>ZB a.f b.f w);have TH:Aq (a.gl=b.gl↔zB a.gl b.gl=0):=⟨fun h=>by rw[h];exact qC _,jV⟩;obtain⟨E,hE⟩:=Kk (zB a.l b.l);rw[hE] at HS HZ ⊢;obtain⟨g,hg⟩:=Kk (zB a.gl b.gl);rw[hg] at HS HG TH;obtain⟨c,hc⟩:=Kk (jh a.f b.f);rw[hc] at HS HF;unfold Rd.gcells at HN HG;unfold Rd.cells at HQ ⊢
 by_cases he:a=b
 . have hq:∀w,_:=fun w=>HQ.out w
   rw[Lw he] at hq;have hR:=zH (HZ.out he);clear HQ HN HS HZ HG HF TH he;go_enter func172,ntmps172;go_wp2_with fail;go_ret;exact⟨zr hR.out.symm,un w _ _⟩
 have hq:∀w,_:=fun w=>HQ.out w
 rw[Lu he] at hq
 by_cases fd:a.gl=b.gl
 . have hn:∀w,_:=fun w=>HN.out w
   rw[show decide (a.gl≠b.gl)=Aw by simpa using fd] at hn;have hR:=zH (HS.out.trans (Lg (by simpa using TH.out.1 fd)));go_enter func172,ntmps172;go_wp2_with fail;refine(HF.out _).mono ?_;rintro e w1 ⟨rfl,rfl⟩;go_wp2_with fail;go_ret;exact⟨zr hR.out.symm,un w _ _⟩
 have hn:∀w,_:=fun w=>HN.out w
 rw[show decide (a.gl≠b.gl)=Au by simpa using fd] at hn;have hR:=zH (HS.out.trans (Lj (fun h=>fd (TH.out.2 h))));go_enter func172,ntmps172;go_wp2_with fail;refine(HG.out _).mono ?_;rintro e w1 ⟨rfl,hb⟩;have HB:=zH ((un w (Ag #[O U a.n,O U a.h0,O U a.h1,O U a.h2,O U a.h3,O U a.h4,O U a.f] 76) (Ag #[O U b.n,O U b.h0,O U b.h1,O U b.h2,O U b.h3,O U b.h4,O U b.f] 76)).trans (hb.mono (by simp;omega)));go_wp2_with fail;go_ret;exact⟨zr hR.out.symm,HB.out⟩
theorem J9(a b:Rd)(w:Ba):An Al 190 #[.agg a.gcells,.agg b.gcells] w fun e w'=>e=Ak (O U (zB a.gl b.gl))/\Am w.heap.size w w':=by
 have H0:Aq (zB a.gl b.gl=if a.n<b.n then -1 else if b.n<a.n then 1 else zB (a.gl.drop 1) (b.gl.drop 1)):=rfl;obtain⟨E,hE⟩:=Kk (zB a.gl b.gl);rw[hE] at H0 ⊢;have Di:=zH (fun k hk=>zh (xa (zx w (Ag a.gcells 74)) (Ag b.gcells 74)) (1+k) (jY a k hk));have dV:=zH (fun k hk=>zh (zx (w.alloc (Ag a.gcells 74)) (Ag b.gcells 74)) (1+k) (jY b k hk));rw[NM] at dV;have HX:Aq (∃W0,W0=(w.alloc (Ag a.gcells 74)).alloc (Ag b.gcells 74)):=⟨_,rfl⟩;unfold Rd.gcells at Di dV HX ⊢;clear hE
 by_cases h1:a.n<b.n
 . have hR:=zH (H0.out.trans (Lj h1))
   clear H0 Di dV HX;go_enter func190,ntmps190;go_wp2_with fail;go_ret;exact⟨zr hR.out.symm,un w _ _⟩
 by_cases h2:b.n<a.n
 . have hR:=zH (H0.out.trans ((Lg h1).trans (Lj h2)))
   clear H0 Di dV HX;go_enter func190,ntmps190;go_wp2_with fail
   all_goals first | (exfalso;omega) | skip
   go_ret;exact⟨zr hR.out.symm,un w _ _⟩
 have HE:=zH (H0.out.trans ((Lg h1).trans (Lg h2)));clear H0;go_enter func190,ntmps190;go_wp2_with fail
 all_goals first | (exfalso;omega) | skip
 obtain⟨W0,eJ⟩:=HX.out;rw[<-eJ] at Di dV ⊢;clear HX;have EC:=zH (show Am w.heap.size w W0 by rw[eJ];exact un w _ _);clear eJ
 go_loopw [5] (fun i wr=>∃k n:Nat,k<=5/\i=O U (k:Int)/\Aq (E=zB (a.gl.drop (k+1)) (b.gl.drop (k+1)))/\wr=W0.drewN n) (fun i _=>5-(Ap i).toNat)
 case atStart=>exact⟨0,0,by omega,rfl,HE,rfl⟩
 obtain⟨k,n,hk,rfl,av,rfl⟩:=hrel;clear HE
 by_cases ac:k<5
 . have c1:=Di.out k ac
   have c2:=dV.out k ac;have hs:E=if a.h k<b.h k then -1 else if b.h k<a.h k then 1 else zB (a.gl.drop (k+1+1)) (b.gl.drop (k+1+1)):=by rw[av.out,Zy ac,Zy ac,zB]
   obtain⟨x,hx⟩:=Kk (a.h k);obtain⟨y,hy⟩:=Kk (b.h k);rw[hx] at c1 hs;rw[hy] at c2 hs;have HS:=zH hs;clear hx hy av hs
   by_cases l1:x<y
   . have hR:=zH (HS.out.trans (Lj l1))
     clear HS;go_wp2_with fail;go_quiet (fail);go_wp2_with fail;go_ret;exact⟨zr hR.out.symm,by repeat (first | exact EC.out | refine yv ?_ _)⟩
   by_cases l2:y<x
   . have hR:=zH (HS.out.trans ((Lg l1).trans (Lj l2)))
     clear HS;go_wp2_with fail;go_quiet (fail);go_wp2_with fail;go_quiet (fail);go_wp2_with fail;go_ret;exact⟨zr hR.out.symm,by repeat (first | exact EC.out | refine yv ?_ _)⟩
   have hR:=zH (HS.out.trans ((Lg l1).trans (Lg l2)));clear HS;go_wp2_with fail;go_quiet (fail);go_wp2_with fail;go_quiet (fail);go_wp2_with fail
   go_roundw
   case rel=>exact⟨k+1,_,by omega,by go_num,hR,rfl⟩
   simp[Ap];omega
 obtain rfl:k=5:=by omega
 have hR:Aq (E=0):=av.out;clear av;go_wp2_with fail;go_ret;exact⟨zr hR.out.symm,by repeat (first | exact EC.out | refine yv ?_ _)⟩
theorem Z0(a b:Rd)(w:Ba):An Al 178 #[.agg a.cells,.agg b.cells] w fun e w'=>e=Ak (O U (zB a.l b.l))/\Am w.heap.size w w':=by
 have HS:=zH (@l_split a b);have HG:=zH (fun w=>J9 a b w);have HF:Aq (jh a.f b.f=if a.f<b.f then -1 else if b.f<a.f then 1 else 0):=rfl;obtain⟨E,hE⟩:=Kk (zB a.l b.l);rw[hE] at HS ⊢;obtain⟨g,hg⟩:=Kk (zB a.gl b.gl);rw[hg] at HS HG;rw[HF.out] at HS;unfold Rd.gcells at HG;unfold Rd.cells;go_enter func178,ntmps178;go_wp2_with fail;obtain⟨W0,eJ,b0,b1,bL,dl⟩:=xk w #[O U a.n,O U a.h0,O U a.h1,O U a.h2,O U a.h3,O U a.h4,O U a.f] #[O U b.n,O U b.h0,O U b.h1,O U b.h2,O U b.h3,O U b.h4,O U b.f] 76 76;rw[eJ];refine(HG.out W0).mono ?_;rintro e w1 ⟨rfl,aQ⟩;have HB:=zH (Lc dl aQ);have d0:=Lb aQ (by omega) b0;have d1:=Lb aQ (by omega) b1;have q6:=zh d0 6 rfl;have p6:=zh d1 6 rfl
 by_cases h0:g=0
 . subst h0
   have hR:=zH (HS.out.trans (Lg (by simp)))
   by_cases l1:a.f<b.f
   . have hR:=zH (hR.out.trans (Lj l1))
     go_wp2_with fail;go_ret;exact⟨zr hR.out.symm,HB.out⟩
   by_cases l2:b.f<a.f
   . have hR:=zH (hR.out.trans ((Lg l1).trans (Lj l2)))
     go_wp2_with fail
     all_goals first | (exfalso;omega) | skip
     go_ret;exact⟨zr hR.out.symm,HB.out⟩
   have hR:=zH (hR.out.trans ((Lg l1).trans (Lg l2)));go_wp2_with fail
   all_goals first | (exfalso;omega) | skip
   go_ret;exact⟨zr hR.out.symm,HB.out⟩
 have hR:=zH (HS.out.trans (Lj h0));have e0:(g != 0)=Au:=by simpa using h0
 go_wp2_with fail;go_ret;exact⟨zr hR.out.symm,HB.out⟩
end
section
open Go.RowKit
attribute [local go_sem] Oper.semAt_some
def LowA(a:Ad):Prop:=a.sts.length<=17592186044416/\∀l∈a.sts,l.length<=17592186044416
end
end Go.Proofs.YtkmbdfdaffmhjaaGreat
namespace Go.Proofs
set_option maxHeartbeats 16000000
open Go.Shelf
def Tryz.lays212_ren:Go.Shelf.Ren:=⟨fun | 212=>76 | 263=>126 | 264=>127 | n=>n,fun | 46=>144 | 51=>194 | 146=>195 | 53=>197 | 148=>198 | n=>n,fun | n=>n⟩
theorem Tryz.lays212:Go.Proofs.Lays.n212 Tryz.prog Tryz.lays212_ren:={
 mixed:=by kernel_rfl
 f212:=Tryz.func76.trans (congrArg some (by kernel_rfl))
 f263:=Tryz.func126.trans (congrArg some (by kernel_rfl))
 f264:=Tryz.func127.trans (congrArg some (by kernel_rfl))
 t46:=Tryz.underlying144
 a46:=Tryz.isAgg144
 z46:=Tryz.sizeOf144
 v46:=Tryz.zeroValue144
 t51:=Tryz.underlying194
 a51:=Tryz.isAgg194
 z51:=Tryz.sizeOf194
 v51:=Tryz.zeroValue194
 t53:=Tryz.underlying197
 a53:=Tryz.isAgg197
 z53:=Tryz.sizeOf197
 v53:=Tryz.zeroValue197
 t146:=Tryz.underlying195
 a146:=Tryz.isAgg195
 z146:=Tryz.sizeOf195
 v146:=Tryz.zeroValue195
 t148:=Tryz.underlying198
 a148:=Tryz.isAgg198
 z148:=Tryz.sizeOf198
 v148:=Tryz.zeroValue198 }
open Go.RowKit Go.Lib in
/-- math/bits.Mul: "Mul returns the full-width product of x and y": on a machine of 64 bits: Mul64's. (LAID: no walk: one application.) -/
theorem Tryz.bits_Mul (x y:Nat) (hx:x<18446744073709551616) (hy:y<18446744073709551616) (w:World) :
  Calls Tryz.prog 76 #[.int .u64 x,.int .u64 y] w fun e w'=>e=.returned (.tuple #[.int .u64 ((x*y / 18446744073709551616:Nat):Int),.int .u64 ((x*y % 18446744073709551616:Nat):Int)])∧w'=w:=Any.bits_Mul Tryz.lays212 x y hx hy w
def Tryz.lays111_ren:Go.Shelf.Ren:=⟨fun | 111=>108 | n=>n,fun | 28=>50 | 3=>3 | 4=>4 | 0=>0 | n=>n,fun | n=>n⟩
theorem Tryz.lays111:Go.Proofs.Lays.n111 Tryz.prog Tryz.lays111_ren:={
 mixed:=by kernel_rfl
 f111:=Tryz.func108.trans (congrArg some (by kernel_rfl))
 t0:=Tryz.underlying0
 a0:=Tryz.isAgg0
 z0:=Tryz.sizeOf0
 v0:=Tryz.zeroValue0
 t3:=Tryz.underlying3
 a3:=Tryz.isAgg3
 z3:=Tryz.sizeOf3
 v3:=Tryz.zeroValue3
 t4:=Tryz.underlying4
 a4:=Tryz.isAgg4
 z4:=Tryz.sizeOf4
 v4:=Tryz.zeroValue4
 t28:=Tryz.underlying50
 a28:=Tryz.isAgg50
 z28:=Tryz.sizeOf50
 v28:=Tryz.zeroValue50 }
open Go.RowKit Go.Lib in
/-- slices.Equal at []int: "Equal reports whether two slices are equal: the same length and all elements equal. If the lengths are different, Equal returns false. Otherwise, the elements are compared in increasing index order, and the comparison stops at the first unequal pair. Empty and nil slices are considered equal.": IT RETURNS WHETHER THE TWO LISTS OF ELEMENTS ARE ONE; the world is as it was but for the count of draws (the test 's1[i] != s2[i]' has two reads, whose order the model draws, once a round). 'xs', 'ys': what the cells yT the two addresses hold (the spare capacity too, if you have it); 'xs.take n', 'ys.take m': the elements. THE TWO SLICES MAY OVERLAP. (LAID: no walk: one application.) -/
theorem Tryz.slices_Equal_int (b1 o1 n c b2 o2 m d:Nat) (xs ys:List Int) (w:World) (hx:n≤xs.length) (hy:m≤ys.length) (hbig:n≤9223372036854775807) (hbig2:m≤9223372036854775807) (hc1:∀j,j<xs.length→w.cell? ⟨b1,o1+j,none⟩=some (.int .i64 (xs.getD j 0))) (hc2:∀j,j<ys.length→w.cell? ⟨b2,o2+j,none⟩=some (.int .i64 (ys.getD j 0))) :
  Calls Tryz.prog 108 #[.slice (some ⟨b1,o1,none⟩) n c,.slice (some ⟨b2,o2,none⟩) m d] w fun e w'=>e=.returned (.bool (xs.take n==ys.take m))∧∃q,w'=w.drewN q:=Any.slices_Equal_int Tryz.lays111 b1 o1 n c b2 o2 m d xs ys w hx hy hbig hbig2 hc1 hc2
open Go.RowKit Go.Lib in
/-- The same where the first is of length 0 (a nil one too): no cell is asked for. (LAID: no walk: one application.) -/
theorem Tryz.slices_Equal_int_empty (a1 a2:Option Addr) (c m d:Nat) (w:World) (hbig2:m≤9223372036854775807) :
  Calls Tryz.prog 108 #[.slice a1 0 c,.slice a2 m d] w fun e w'=>e=.returned (.bool (decide (m=0)))∧w'=w:=Any.slices_Equal_int_empty Tryz.lays111 a1 a2 c m d w hbig2
open Go.RowKit Go.Lib in
theorem Tryz.slices_Equal_int_lens (a1 a2:Option Addr) (n c m d:Nat) (w:World) (hnm:n≠m) :
  Calls Tryz.prog 108 #[.slice a1 n c,.slice a2 m d] w fun e w'=>e=.returned (.bool false)∧w'=w:=Any.slices_Equal_int_lens Tryz.lays111 a1 a2 n c m d w hnm
end Go.Proofs
namespace Go.Proofs.YtkmbdfdaffmhjaaGreat
set_option maxRecDepth 100000
set_option maxHeartbeats 16000000
section
open Go.RowKit
def RetIdx(b:Bool)(w:Ba)(e:Ending)(w':Ba):Prop:=∃i:Int,e=Ak (O U i)/\decide (0<=i)=b/\∃n,w'=w.drewN n
theorem va{α:Type}{p:α->Bool}{l:List α}{k:Nat}(hk:k<l.length):(l.drop k).any p=(p l[k]||(l.drop (k+1)).any p):=by
 rw[Ly hk];rfl
theorem we{α:Type}{p:α->Bool}{l:List α}{k:Nat}(hk:k=l.length):(l.drop k).any p=Aw:=by subst hk;rw[NI];rfl
theorem Qo(x m:Int)(bm:Nat)(w:Ba)(hb:w.heap[bm]?=J (Ag #[O U m] 3 (0,0))) :
  An Al 167 #[O U x,Aj (J ⟨bm,0,Z⟩)] w fun e w'=>e=Ak (Ah (kL m x))/\w=w':=by
 have H:Aq (kL m x=decide (x<0\/m<=x)):=rfl;have c0:=zh hb 0 rfl;go_enter func167,ntmps167;go_wp2
 all_goals
  go_ret;refine⟨zz ?_,rfl⟩;rw[H.out];simp
  try omega
theorem JN(A:Bb)(c:Nat)(xs:List Int)(m:Int)(bm:Nat)(hl:xs.length<=17592186044416)(w:Ba)(hA:IAt w w.heap.size A xs)(hb:w.heap[bm]?=J (Ag #[O U m] 3 (0,0))) :
  An Al 182 #[I A xs.length c,.func (.func 167) #[] #[Aj (J ⟨bm,0,Z⟩)]] w (RetIdx (xs.any (kL m)) w):=by
 have HA:=zH hA;have HV:=zH (fun x=>Qo x m bm w hb);obtain⟨r,hr⟩:=Kk (xs.any (kL m));rw[hr];have HR:Aq (r=(xs.drop 0).any (kL m)):=by rw[Ni];exact hr.symm
 go_enter func182,ntmps182;go_wp2_with fail
 go_loop [8] (fun i=>∃k:Nat,k<=xs.length/\i=O U (k:Int)/\Aq (r=(xs.drop k).any (kL m))) (fun i=>xs.length-(Ap i).toNat)
 case atStart=>exact⟨0,by omega,rfl,HR⟩
 obtain⟨k,hk,rfl,av⟩:=hrel
 by_cases ac:k<xs.length
 . obtain⟨b,o,rfl,lw,c1⟩:=HA.out.at_ k ac
   have hs:=va (p:=kL m) ac;obtain⟨x,hx⟩:=Kk (xs[k]);rw[hx] at c1 hs;have HS:=zH hs;have HC:=zH (HV.out x);obtain⟨bo,dN⟩:=Kk (kL m x);rw[dN] at HS HC;go_wp2_with fail;refine HC.out.mono ?_;rintro e w' ⟨rfl,rfl⟩
   cases bo with
   | true=>
    have hR:r=Au:=by rw[av.out,HS.out];rfl
    subst hR;go_wp2_with fail;go_ret;exact⟨(k:Int),rfl,by simp,0,rfl⟩
   | false=>
    have dH:Aq (r=(xs.drop (k+1)).any (kL m)):=by rw[av.out,HS.out];rfl
    go_wp2_with fail
    go_round
    case rel=>exact⟨k+1,by omega,by go_num,dH⟩
    case measure=>simp[Ap];omega
 obtain rfl:k=xs.length:=by omega
 have hR:r=Aw:=av.out.trans (we rfl);subst hR;go_wp2_with fail;go_ret;exact⟨-1,rfl,by decide,0,rfl⟩
theorem YO(A:Bb)(c:Nat)(xs:List Int)(m:Int)(bm:Nat)(hl:xs.length<=17592186044416)(w:Ba)(hA:IAt w w.heap.size A xs)(hb:w.heap[bm]?=J (Ag #[O U m] 3 (0,0))) :
  An Al 166 #[I A xs.length c,.func (.func 167) #[] #[Aj (J ⟨bm,0,Z⟩)]] w fun e w'=>e=Ak (Ah (xs.any (kL m)))/\∃n,w'=w.drewN n:=by
 have hc:=JN A c xs m bm hl w hA hb;obtain⟨r,hr⟩:=Kk (xs.any (kL m));rw[hr] at hc ⊢;have HC:=zH hc;go_enter func166,ntmps166;go_wp2_with fail;refine HC.out.mono ?_;rintro e w' ⟨i,rfl,hi,n,rfl⟩;have HI:=zH hi;clear hi HC;go_wp2_with fail;go_ret;exact⟨zz HI.out,_,rfl⟩
theorem vD{v:List Int}{n m:Int}(h:(v.length:Int)≠n):zJ v n m=15:=Lj h
theorem vE{v:List Int}{n m:Int}(h:(v.length:Int)=n)(h2:v.any (kL m)=Au):zJ v n m=2:=by unfold zJ;rw[Lg (by simpa using h),Lj h2]
theorem ZI{v:List Int}{n m:Int}(h:(v.length:Int)=n)(h2:v.any (kL m)=Aw):zJ v n m=0:=by unfold zJ;rw[Lg (by simpa using h),Lg (by rw[h2];decide)]
theorem gE(A:Bb)(c:Nat)(xs:List Int)(n m:Int)(hl:xs.length<=17592186044416)(w:Ba)(hA:IAt w w.heap.size A xs) :
  An Al 150 #[I A xs.length c,O U n,O U m] w fun e w'=>e=Ak (O U (zJ xs n m))/\Am w.heap.size w w':=by
 have aq:=zH (@vD xs n m);have am:=zH (@vE xs n m);have aM:=zH (@ZI xs n m);have HC:=zH (YO A c xs m w.heap.size hl (w.alloc (Ag #[O U m] 3)) ((hA.keep (zU w _)).more (by simp)) (zx _ _));obtain⟨r,hr⟩:=Kk (xs.any (kL m));rw[hr] at am aM HC;obtain⟨E,hE⟩:=Kk (zJ xs n m);rw[hE] at aq am aM ⊢;go_enter func150,ntmps150
 by_cases hn:(xs.length:Int)=n
 . have e0:((xs.length:Int) != n)=Aw:=by simp[hn]
   have HN:=zH hn;go_wp2_with fail;refine HC.out.mono ?_;rintro e w' ⟨rfl,q,rfl⟩
   cases r with
   | true=>
    have HR:=zH (am.out HN.out (by rfl));go_wp2_with fail;go_ret;exact⟨zr HR.out.symm,yv (zU w _) _⟩
   | false=>
    have HR:=zH (aM.out HN.out (by rfl));go_wp2_with fail;go_ret;exact⟨zr HR.out.symm,yv (zU w _) _⟩
 have HR:=zH (aq.out hn);have e0:((xs.length:Int) != n)=Au:=by simp[hn]
 go_wp2_with fail;go_ret;exact⟨zr HR.out.symm,zU w _⟩
theorem Y4(A:Bb)(c:Nat)(xss:List (List Int))(k:Nat)(hk:k<xss.length)(hl:xss.length<=17592186044416)(aN:∀v∈xss,v.length<=17592186044416)(w:Ba)(hA:LAt w w.heap.size A xss) :
  An Al 169 #[I A xss.length c,O U k] w fun e w'=>e=Ak (Ah (qk (zD xss k) xss[k]))/\∃n,w'=w.drewN n:=by
 cases k with
 | zero=>
  have HR:Aq (qk (zD xss 0) xss[0]=Aw):=by rw[gS];rfl
  go_enter func169,ntmps169;go_wp2_with fail;go_quiet (fail);go_wp2_with fail;go_ret;exact⟨zz HR.out.symm,_,rfl⟩
 | succ j=>
  have hj:j<xss.length:=by omega
  have hb:qk (zD xss (j+1)) xss[j+1]=decide (0<=zB xss[j] xss[j+1]):=by rw[yu xss j hj];rfl
  obtain⟨b,o,A1,c1,rfl,aQ,q1,I1⟩:=hA.at_ (j+1) hk;obtain⟨b2,o2,A2,c2,e2,ah,q2,I2⟩:=hA.at_ j hj
  cases e2
  have l1:=aN _ (Le hk);have l2:=aN _ (Le hj);have hc:=fun n=>uC A2 A1 c2 c1 xss[j] xss[j+1] l2 l1 (w.drewN n) I2 I1
  obtain⟨r,hr⟩:=Kk (zB xss[j] xss[j+1]);rw[hr] at hb hc;have HB:=zH hb;have HC:=zH hc;obtain⟨n1,dG⟩:=Kk (xss[j+1].length);obtain⟨n2,sZ⟩:=Kk (xss[j].length);rw[dG,sZ] at HC;rw[dG] at q1 l1;rw[sZ] at q2 l2;have e1:((j:Int)+1).toNat=j+1:=by omega
  have e3:IntKind.i64.wrap ((j:Int)+1-1)=(j:Int):=by rw[Ll];omega
  have e5:IntKind.i64.wrap ((j:Int)+1)=(j:Int)+1:=by rw[Ll];omega
  go_enter func169,ntmps169;go_wp2_with fail;go_quiet ((go_at_call 151;exact RK (HC.out _)));go_wp2_with fail;go_ret;exact⟨zz HB.out.symm,_,rfl⟩
theorem XM{xs ys:List Int}{k:Nat}(hk:k<xs.length)(hl:xs.length=ys.length)(h:xs.take k=ys.take k)(h2:xs[k]=ys[k]'(by omega)):xs.take (k+1)=ys.take (k+1):=by
 rw[Lq hk,Lq (by omega),h,h2]
theorem J5(A B:Bb)(ca cb:Nat)(xs ys:List Int)(hl:xs.length<=17592186044416)(ew:ys.length<=17592186044416)(w:Ba)(hA:IAt w w.heap.size A xs)(hB:IAt w w.heap.size B ys) :
  An Al 108 #[I A xs.length ca,I B ys.length cb] w fun e w'=>e=Ak (Ah (decide (xs=ys)))/\∃n,w'=w.drewN n:=by
 have HA:=zH hA;have HB:=zH hB;go_enter func108,ntmps108
 by_cases he:xs.length=ys.length
 . have e0:((xs.length:Int) != (ys.length:Int))=Aw:=by simp[he]
   go_wp2_with fail
   go_loopw [13] (fun i wr=>∃k n:Nat,k<=xs.length/\i=O U (k:Int)/\Aq (xs.take k=ys.take k)/\wr=w.drewN n) (fun i _=>xs.length-(Ap i).toNat)
   case atStart=>exact⟨0,0,by omega,rfl,by simp[Aq],rfl⟩
   obtain⟨k,n,hk,rfl,Bu,rfl⟩:=hrel
   by_cases ac:k<xs.length
   . obtain⟨b1,o1,rfl,aQ,c1⟩:=HA.out.at_ k ac
     obtain⟨b2,o2,rfl,ah,c2⟩:=HB.out.at_ k (by omega);have hlt2:k<ys.length:=by omega
     obtain⟨x,hx⟩:=Kk (xs[k]);obtain⟨y,hy⟩:=Kk (ys[k]);have HX:=zH hx;have HY:=zH hy;rw[hx] at c1;rw[hy] at c2
     by_cases hxy:x=y
     . subst hxy
       go_wp2_with fail;go_quiet (fail);go_wp2_with fail
       go_roundw
       case rel=>exact⟨k+1,_,by omega,by go_num,XM ac he Bu.out (HX.out.trans HY.out.symm),rfl⟩
       simp[Ap];omega
     go_wp2_with fail;go_quiet (fail);go_wp2_with fail;go_ret;refine⟨zz (Lu ?_).symm,by first | exact⟨_,rfl⟩ | exact drew2 _ _ _⟩;rintro rfl;exact hxy (HX.out.symm.trans HY.out)
   obtain rfl:k=xs.length:=by omega
   go_wp2_with fail;go_ret;refine⟨zz (Lw ?_).symm,_,rfl⟩;have:=Bu.out;rwa[LS,he,LS] at this
 have e0:((xs.length:Int) != (ys.length:Int))=Au:=by simp;omega
 go_wp2_with fail;go_ret;exact⟨zz (Lu (fun h=>he (by rw[h]))).symm,0,rfl⟩
theorem has1_any(A B:Bb)(ca cb:Nat)(xs ys:List Int)(hl:xs.length<=17592186044416)(ew:ys.length<=17592186044416)(bv:Nat)(w:Ba)(hA:IAt w w.heap.size A xs)(hB:IAt w w.heap.size B ys)(hb:w.heap[bv]?=J (Ag #[I B ys.length cb] 50 (0,0))) :
  An Al 185 #[I A xs.length ca,Aj (J ⟨bv,0,Z⟩)] w fun e w'=>e=Ak (Ah (decide (xs=ys)))/\∃n,w'=w.drewN n:=by
 have c0:=zh hb 0 rfl;have HC:=zH (J5 A B ca cb xs ys hl ew w hA hB);obtain⟨r,hr⟩:∃r,decide (xs=ys)=r:=⟨_,rfl⟩;rw[hr] at HC ⊢;go_enter func185,ntmps185;go_wp2_with fail;refine HC.out.mono ?_;rintro e w' ⟨rfl,n,rfl⟩;go_wp2_with fail;go_ret;exact⟨rfl,_,rfl⟩
theorem hindex_any(A:Bb)(c:Nat)(xss:List (List Int))(B:Bb)(cb:Nat)(ys:List Int)(bv:Nat)(hl:xss.length<=17592186044416)(aN:∀v∈xss,v.length<=17592186044416)(ew:ys.length<=17592186044416)(w:Ba)(hA:LAt w w.heap.size A xss)(hB:IAt w w.heap.size B ys)
  (hb:w.heap[bv]?=J (Ag #[I B ys.length cb] 50 (0,0))) :
  An Al 192 #[I A xss.length c,.func (.func 185) #[] #[Aj (J ⟨bv,0,Z⟩)]] w (RetIdx (xss.any fun x=>decide (x=ys)) w):=by
 have HA:=zH hA;have HB:=zH hB;have HBb:=zH hb;have tp:=zH aN;obtain⟨r,hr⟩:∃r,(xss.any fun x=>decide (x=ys))=r:=⟨_,rfl⟩;rw[hr];have HR:Aq (r=(xss.drop 0).any fun x=>decide (x=ys)):=by rw[Ni];exact hr.symm
 go_enter func192,ntmps192;go_wp2_with fail
 go_loopw [8] (fun i wr=>∃k n:Nat,k<=xss.length/\i=O U (k:Int)/\Aq (r=(xss.drop k).any fun x=>decide (x=ys))/\wr=w.drewN n) (fun i _=>xss.length-(Ap i).toNat)
 case atStart=>exact⟨0,0,by omega,rfl,HR,rfl⟩
 obtain⟨k,n,hk,rfl,av,rfl⟩:=hrel
 by_cases ac:k<xss.length
 . obtain⟨b,o,A1,c1,rfl,lw,q1,I1⟩:=HA.out.at_ k ac
   have l1:=tp.out _ (Le ac);have hs:=va (p:=fun x=>decide (x=ys)) ac;have HC:=zH (has1_any A1 B c1 cb xss[k] ys l1 ew bv (w.drewN n) I1 HB.out HBb.out);obtain⟨x,hx⟩:=Kk (xss[k]);rw[hx] at q1 hs HC l1;have HS:=zH hs;obtain⟨bo,dN⟩:∃bo,decide (x=ys)=bo:=⟨_,rfl⟩;rw[dN] at HS HC;obtain⟨xl,nC⟩:=Kk x.length;rw[nC] at q1 HC l1;go_wp2_with fail;refine HC.out.mono ?_;rintro e w' ⟨rfl,n2,rfl⟩
   cases bo with
   | true=>
    have hR:r=Au:=by rw[av.out,HS.out];rfl
    subst hR;go_wp2_with fail;go_ret;exact⟨(k:Int),rfl,by simp,_,rfl⟩
   | false=>
    have dH:Aq (r=(xss.drop (k+1)).any fun x=>decide (x=ys)):=by rw[av.out,HS.out];rfl
    go_wp2_with fail
    go_roundw
    case rel=>exact⟨k+1,_,by omega,by go_num,dH,rfl⟩
    case measure=>simp[Ap];omega
 obtain rfl:k=xss.length:=by omega
 have hR:r=Aw:=av.out.trans (we rfl);subst hR;go_wp2_with fail;go_ret;exact⟨-1,rfl,by decide,_,rfl⟩
theorem YV(A:Bb)(c:Nat)(xss:List (List Int))(B:Bb)(cb:Nat)(ys:List Int)(bv:Nat)(hl:xss.length<=17592186044416)(aN:∀v∈xss,v.length<=17592186044416)(ew:ys.length<=17592186044416)(w:Ba)(hA:LAt w w.heap.size A xss)(hB:IAt w w.heap.size B ys)
  (hb:w.heap[bv]?=J (Ag #[I B ys.length cb] 50 (0,0))) :
  An Al 184 #[I A xss.length c,.func (.func 185) #[] #[Aj (J ⟨bv,0,Z⟩)]] w fun e w'=>e=Ak (Ah (xss.any fun x=>decide (x=ys)))/\∃n,w'=w.drewN n:=by
 have hc:=hindex_any A c xss B cb ys bv hl aN ew w hA hB hb;obtain⟨r,hr⟩:∃r,(xss.any fun x=>decide (x=ys))=r:=⟨_,rfl⟩;rw[hr] at hc ⊢;have HC:=zH hc;go_enter func184,ntmps184;go_wp2_with fail;refine HC.out.mono ?_;rintro e w' ⟨i,rfl,hi,n,rfl⟩;have HI:=zH hi;clear hi HC;go_wp2_with fail;go_ret;exact⟨zz HI.out,_,rfl⟩
theorem any_mem{xss:List (List Int)}{ys:List Int}:(xss.any fun x=>decide (x=ys))=decide (ys∈xss):=by
 rw[N6,List.any_eq_true,Ny];constructor
 . rintro⟨x,h,e⟩
   rw[<-Lx e];exact h
 exact fun h=>⟨ys,h,Lw rfl⟩
theorem thas_any(A:Bb)(c:Nat)(xss:List (List Int))(B:Bb)(cb:Nat)(ys:List Int)(hl:xss.length<=17592186044416)(aN:∀v∈xss,v.length<=17592186044416)(ew:ys.length<=17592186044416)(w:Ba)(hA:LAt w w.heap.size A xss)(hB:IAt w w.heap.size B ys) :
  An Al 170 #[I A xss.length c,I B ys.length cb] w fun e w'=>e=Ak (Ah (decide (ys∈xss)))/\Am w.heap.size w w':=by
 have HC:=zH (YV A c xss B cb ys w.heap.size hl aN ew (w.alloc (Ag #[I B ys.length cb] 50)) ((hA.keep (zU w _)).more (by simp)) ((hB.keep (zU w _)).more (by simp)) (zx _ _));rw[any_mem] at HC;obtain⟨r,hr⟩:=Kk (decide (ys∈xss));rw[hr] at HC ⊢;go_enter func170,ntmps170;go_wp2_with fail;refine HC.out.mono ?_;rintro e w' ⟨rfl,n,rfl⟩;go_wp2_with fail;go_ret;exact⟨rfl,yv (zU w _) _⟩
theorem tboxes(w:Ba)(c1 c2:Array Ar)(t1 t2:TypeId):∃W0,(w.alloc (Ag c1 t1)).alloc (Ag c2 t2)=W0/\W0.heap[w.heap.size]?=J (Ag c1 t1 (0,0))/\W0.heap[w.heap.size+1]?=J (Ag c2 t2 (0,0))/\w.heap.size+2<=W0.heap.size/\Am w.heap.size w W0:=
 ⟨_,rfl,xa (zx _ _) _,by have:=zx (w.alloc (Ag c1 t1)) (Ag c2 t2);rwa[NM] at this,by simp,un w _ _⟩
def FewL(l:List (List Int)):Prop:=l.length<=30/\∀v∈l,v.length<=10
def FewC(c:Cs):Prop:=c.inp.length<=10/\FewL c.out/\FewL c.calm
def FewT(t:Tk):Prop:=t.cases.length<=30/\∀c∈t.cases,FewC c
theorem Zh{n m:Int}{c:Cs}(h:c.out.length<1):kP n m c=5:=Lj (.inl h)
theorem YG{n m:Int}{c:Cs}(h:1<=c.out.length)(h1:c.out.length<=30)(h2:qZ (fun v=>zJ v n m) c.out≠0):kP n m c=qZ (fun v=>zJ v n m) c.out:=by unfold kP;rw[Lg (by omega),Lj h2]
theorem Zi{n m:Int}{c:Cs}(h:1<=c.out.length)(h1:c.out.length<=30)(h2:qZ (fun v=>zJ v n m) c.out=0):kP n m c=qZ (qH c.out) c.calm:=by unfold kP;rw[Lg (by omega),Lg (by simpa using h2)]
theorem XI(n ins m:Int)(cs:Ar)(A0 A1 A2:Bb)(k0 k1 k2:Nat)(x:Cs)(hf:FewC x)(w:Ba)(h1:LAt w w.heap.size A1 x.out)(h2:LAt w w.heap.size A2 x.calm) :
  An Al 152 #[Ai #[O U n,O U ins,O U m,cs],Ai #[I A0 x.inp.length k0,I A1 x.out.length k1,I A2 x.calm.length k2]] w fun e w'=>e=Ak (O U (kP n m x))/\Am w.heap.size w w':=by
 obtain⟨hf0,⟨iE,mD⟩,hf3,Gf⟩:=hf;have mh:=zH mD;have sb:=zH Gf;have H1:=zH h1;have H2:=zH h2;have aq:=zH (@Zh n m x);have am:=zH (@YG n m x);have aM:=zH (@Zi n m x);obtain⟨E,hE⟩:=Kk (kP n m x);rw[hE] at aq am aM ⊢;obtain⟨xi,xo,xc⟩:=x;dsimp only at hf0 iE hf3 mh sb H1 H2 aq am aM ⊢
 by_cases hz:xo.length<1
 . have HR:=zH (aq.out hz)
   go_enter func152,ntmps152;go_wp2_with fail
   all_goals first | (exfalso;omega) | skip
   go_ret;exact⟨zr HR.out.symm,un w _ _⟩
 have cY:¬((xo.length:Int)<1):=by omega
 have am:=zH (am.out (by omega) (by omega));have aM:=zH (aM.out (by omega) (by omega));go_enter func152,ntmps152;go_wp2_with fail
 all_goals first | (exfalso;omega) | skip
 obtain⟨W0,eJ,b0,b1,bL,dl⟩:=tboxes w #[O U n,O U ins,O U m,cs] #[I A0 xi.length k0,I A1 xo.length k1,I A2 xc.length k2] 24 71;rw[eJ];have iN:=zH dl;have sG:=zH b0;have EA:=zH b1;clear eJ dl b0 b1;obtain⟨F,hF⟩:∃F,qZ (fun v=>zJ v n m) xo=F:=⟨_,rfl⟩;have HF:Aq (F=yL (fun v=>zJ v n m) xo 0):=by rw[xS];exact hF.symm
 rw[hF] at am aM;clear hF
 go_loopw [23] (fun i wr=>∃k:Nat,k<=xo.length/\i=O U (k:Int)/\Aq (F=yL (fun v=>zJ v n m) xo k)/\Am W0.heap.size W0 wr) (fun i _=>xo.length-(Ap i).toNat)
 case atStart=>exact⟨0,by omega,rfl,HF,Li _ _⟩
 obtain⟨k,hk,rfl,av,cp⟩:=hrel;clear HF;have ix:=zH (Lc iN.out cp);have d0:=Lb cp (by omega) sG.out;have d1:=Lb cp (by omega) EA.out;have q0:=zh d0 0 rfl;have q2:=zh d0 2 rfl;have q3:=zh d1 1 rfl;have q4:=zh d1 2 rfl;have HW:=zH cp
 by_cases ac:k<xo.length
 . have HL:=zH (H1.out.keep ix.out)
   obtain⟨b,o,A3,k3,rfl,hb,c3,I3⟩:=HL.out.at_ k ac;have l3:=mh.out _ (Le ac);have bh:=zH (@qq (fun v=>zJ v n m) xo k ac);have cG:=zH (@xB (fun v=>zJ v n m) xo k ac);have bk:=zH (@qR (fun v=>zJ v n m) xo k ac);have HV:=zH (fun (w':Ba) (h:IAt w' w'.heap.size A3 xo[k])=>gE A3 k3 xo[k] n m (by omega) w' h);have HU:=zH (fun (w':Ba) (h:LAt w' w'.heap.size (J ⟨b,o,Z⟩) xo)=>Y4 (J ⟨b,o,Z⟩) k1 xo k ac (by omega) (fun v hv=>by have:=mh.out v hv;omega) w' h);obtain⟨v,hv⟩:=Kk (xo[k]);obtain⟨bo,dN⟩:=Kk (qk (zD xo k) xo[k]);rw[dN] at cG bk HU;rw[hv] at c3 I3 l3 bh cG bk HV;obtain⟨ev,dY⟩:=Kk (zJ v n m);rw[dY] at bh cG bk HV;obtain⟨vl,eq⟩:=Kk v.length;rw[eq] at c3 l3 HV;have HI:=zH I3;clear hv dN dY eq I3 cp d0 d1;go_wp2_with fail;refine(HV.out _ ((HI.out.more (by have:=ix.out.size;omega)))).mono ?_;rintro e w1 ⟨rfl,aQ⟩;have iM:=zH (Lc ix.out aQ);have ak:=zH (Lc HW.out aQ);have d0:=Lb ak.out (by omega) sG.out;have d1:=Lb ak.out (by omega) EA.out;have q0:=zh d0 0 rfl;have q2:=zh d0 2 rfl;have q3:=zh d1 1 rfl;have q4:=zh d1 2 rfl;clear aQ d0 d1
   by_cases he:ev=0
   . subst he
     have OJ:=zH ((H1.out.keep iM.out).more iM.out.size);clear bh;go_wp2_with fail;refine(HU.out _ OJ.out).mono ?_;rintro e w2 ⟨rfl,nq,rfl⟩
     cases bo with
     | true=>
      have hR:=zH (av.out.trans (cG.out (by simp) (by simp)));have HR:=zH ((am.out (by rw[hR.out];decide)).trans hR.out);go_wp2_with fail;go_ret;exact⟨zr HR.out.symm,yv iM.out _⟩
     | false=>
      have hR:=zH (av.out.trans (bk.out (by simp) (by simp)));go_wp2_with fail
      go_roundw
      case rel=>exact⟨k+1,by omega,by go_num,hR,yv ak.out _⟩
      case measure=>simp[Ap];omega
   have hR:=zH (av.out.trans (bh.out he));have HR:=zH ((am.out (by rw[hR.out];exact he)).trans hR.out);have e0:(ev != 0)=Au:=by simpa using he
   go_wp2_with fail;go_ret;exact⟨zr HR.out.symm,iM.out⟩
 obtain rfl:k=xo.length:=by omega
 have hR:=zH (av.out.trans qp);have HR:=zH (aM.out hR.out);go_wp2_with fail;obtain⟨W1,fG⟩:∃W1,W1=wr:=⟨_,rfl⟩;rw[<-fG] at ix HW q0 q2 q3 q4 ⊢;have hW1s:=HW.out.size;obtain⟨G,hG⟩:=Kk (qZ (qH xo) xc);have HG:Aq (G=yL (qH xo) xc 0):=by rw[xS];exact hG.symm
 rw[hG] at HR;clear hG
 go_loopw [45] (fun i wr=>∃k:Nat,k<=xc.length/\i=O U (k:Int)/\Aq (G=yL (qH xo) xc k)/\Am W1.heap.size W1 wr) (fun i _=>xc.length-(Ap i).toNat)
 case atStart=>exact⟨0,by omega,rfl,HG,Li _ _⟩
 obtain⟨k,hk,rfl,av,cp⟩:=hrel;clear HG;have iM:=zH (Lc ix.out cp);have ak:=zH (Lc HW.out cp);have HWl:=zH cp;have d1:=Lb ak.out (by omega) EA.out;have q3:=zh d1 1 rfl;have q4:=zh d1 2 rfl;clear cp
 by_cases ac:k<xc.length
 . have HL:=zH (H2.out.keep iM.out)
   have HL0:=zH ((H1.out.keep iM.out).more iM.out.size);obtain⟨b,o,A3,k3,rfl,hb,c3,I3⟩:=HL.out.at_ k ac;have l3:=sb.out _ (Le ac);have bh:=zH (@qq (qH xo) xc k ac);have cG:=zH (@xB (qH xo) xc k ac);have bk:=zH (@qR (qH xo) xc k ac);have HV:=zH (fun (w':Ba) (h0:LAt w' w'.heap.size A1 xo) (h:IAt w' w'.heap.size A3 xc[k])=>thas_any A1 k1 xo A3 k3 xc[k] (by omega) (fun v hv=>by have:=mh.out v hv;omega) (by omega) w' h0 h);have HU:=zH (fun (w':Ba) (h:LAt w' w'.heap.size (J ⟨b,o,Z⟩) xc)=>Y4 (J ⟨b,o,Z⟩) k2 xc k ac (by omega) (fun v hv=>by have:=sb.out v hv;omega) w' h);have l8:Aq (∀v,qH xo v=if v∈xo then 0 else 6):=fun _=>rfl
   obtain⟨v,hv⟩:=Kk (xc[k]);obtain⟨bo,dN⟩:=Kk (qk (zD xc k) xc[k]);rw[dN] at cG bk HU;rw[hv] at c3 I3 l3 bh cG bk HV;have l8:=zH (l8.out v);obtain⟨ev,dY⟩:=Kk (qH xo v);rw[dY] at bh cG bk l8;obtain⟨vl,eq⟩:=Kk v.length;rw[eq] at c3 l3 HV;have HI:=zH I3;clear hv dN dY eq I3
   by_cases hm:v∈xo
   . have he:ev=0:=l8.out.trans (Lj hm)
     subst he;rw[Lw hm] at HV;clear bh hm l8;go_wp2_with fail;refine(HV.out _ HL0.out ((HI.out.more (by have:=iM.out.size;omega)))).mono ?_;rintro e w1 ⟨rfl,aQ⟩;have ot:=zH (Lc iM.out aQ);have dK:=zH (Lc ak.out aQ);have d1:=Lb dK.out (by omega) EA.out;have q3:=zh d1 1 rfl;have q4:=zh d1 2 rfl;have OJ:=zH ((H2.out.keep ot.out).more ot.out.size);have HWm:=zH (Lc HWl.out aQ);clear aQ d1;go_wp2_with fail;refine(HU.out _ OJ.out).mono ?_;rintro e w2 ⟨rfl,nq,rfl⟩
     cases bo with
     | true=>
      have hR:=zH (av.out.trans (cG.out (by simp) (by simp)));have dH:=zH (HR.out.trans hR.out);clear av cG bk HR HV HU;go_wp2_with fail;go_ret;exact⟨zr dH.out.symm,yv ot.out _⟩
     | false=>
      have hR:=zH (av.out.trans (bk.out (by simp) (by simp)));clear av cG bk HV HU;go_wp2_with fail
      go_roundw
      case rel=>exact⟨k+1,by omega,by go_num,hR,yv HWm.out _⟩
      case measure=>simp[Ap];omega
   have he:ev=6:=l8.out.trans (Lg hm);subst he;rw[Lu hm] at HV;have hR:=zH (av.out.trans (bh.out (by decide)));have dH:=zH (HR.out.trans hR.out);clear av cG bk bh hm l8 HR HU;go_wp2_with fail;refine(HV.out _ HL0.out ((HI.out.more (by have:=iM.out.size;omega)))).mono ?_;rintro e w1 ⟨rfl,aQ⟩;have ot:=zH (Lc iM.out aQ);go_wp2_with fail;go_ret;exact⟨zr dH.out.symm,ot.out⟩
 obtain rfl:k=xc.length:=by omega
 have hR:=zH (av.out.trans qp);have dH:=zH (HR.out.trans hR.out);go_wp2_with fail;go_ret;exact⟨zr dH.out.symm,iM.out⟩
theorem jQ(A:Bb)(c:Nat)(xs:List Int)(n m:Int)(hl:xs.length<=17592186044416)(w:Ba)(hA:IAt w w.heap.size A xs) :
  An Al 174 #[I A xs.length c,O U n,O U m] w fun e w'=>e=Ak (O U (zJ xs n m))/\w'=w:=by
 have HA:=zH hA;have aq:=zH (@vD xs n m);have am:=zH (@vE xs n m);have aM:=zH (@ZI xs n m);obtain⟨E,hE⟩:=Kk (zJ xs n m);rw[hE] at aq am aM ⊢
 by_cases hn:(xs.length:Int)=n
 . subst hn
   have am:=zH (am.out rfl);have aM:=zH (aM.out rfl);obtain⟨r,hr⟩:=Kk (xs.any (kL m));rw[hr] at am aM;have HR:Aq (r=(xs.drop 0).any (kL m)):=by rw[Ni];exact hr.symm
   go_enter func174,ntmps174;go_wp2_with fail
   go_loop [7] (fun i=>∃k:Nat,k<=xs.length/\i=O U (k:Int)/\Aq (r=(xs.drop k).any (kL m))) (fun i=>xs.length-(Ap i).toNat)
   case atStart=>exact⟨0,by omega,rfl,HR⟩
   obtain⟨k,hk,rfl,av⟩:=hrel
   by_cases ac:k<xs.length
   . obtain⟨b,o,rfl,lw,c1⟩:=HA.out.at_ k ac
     have hs:=va (p:=kL m) ac;have ho:Aq (∀x,kL m x=decide (x<0\/m<=x)):=fun _=>rfl
     obtain⟨x,hx⟩:=Kk (xs[k]);rw[hx] at c1 hs;rw[ho.out x] at hs;have HS:=zH hs
     by_cases h1:x<0\/m<=x
     . have hR:r=Au:=by rw[av.out,HS.out,Lw h1];rfl
       subst hR;have HE:=zH (am.out rfl)
       by_cases h2:x<0
       . clear h1
         go_wp2_with fail;go_ret;exact⟨zr HE.out.symm,rfl⟩
       have h3:m<=x:=by omega
       go_wp2_with fail;go_ret;exact⟨zr HE.out.symm,rfl⟩
     have dH:Aq (r=(xs.drop (k+1)).any (kL m)):=by rw[av.out,HS.out,Lu h1];rfl
     have h2:¬x<0:=by omega
     have h3:¬m<=x:=by omega
     go_wp2_with fail
     go_round
     case rel=>exact⟨k+1,by omega,by go_num,dH⟩
     simp[Ap];omega
   obtain rfl:k=xs.length:=by omega
   have hR:r=Aw:=av.out.trans (we rfl);subst hR;have HE:=zH (aM.out rfl);go_wp2_with fail;go_ret;exact⟨zr HE.out.symm,rfl⟩
 have HR:=zH (aq.out hn);have e0:((xs.length:Int) != n)=Au:=by simp[hn]
 go_enter func174,ntmps174;go_wp2_with fail;go_ret;exact⟨zr HR.out.symm,rfl⟩
theorem QB(A:Bb)(c:Nat)(xss:List (List Int))(B:Bb)(cb:Nat)(ys:List Int)(hl:xss.length<=17592186044416)(aN:∀v∈xss,v.length<=17592186044416)(ew:ys.length<=17592186044416)(w:Ba)(hA:LAt w w.heap.size A xss)(hB:IAt w w.heap.size B ys) :
  An Al 176 #[I A xss.length c,I B ys.length cb] w fun e w'=>e=Ak (Ah (decide (ys∈xss)))/\∃n,w'=w.drewN n:=by
 have HA:=zH hA;have HB:=zH hB;have tp:=zH aN;rw[<-any_mem];obtain⟨r,hr⟩:∃r,(xss.any fun x=>decide (x=ys))=r:=⟨_,rfl⟩;rw[hr];have HR:Aq (r=(xss.drop 0).any fun x=>decide (x=ys)):=by rw[Ni];exact hr.symm
 go_enter func176,ntmps176;go_wp2_with fail
 go_loopw [5] (fun i wr=>∃k n:Nat,k<=xss.length/\i=O U (k:Int)/\Aq (r=(xss.drop k).any fun x=>decide (x=ys))/\wr=w.drewN n) (fun i _=>xss.length-(Ap i).toNat)
 case atStart=>exact⟨0,0,by omega,rfl,HR,rfl⟩
 obtain⟨k,n,hk,rfl,av,rfl⟩:=hrel
 by_cases ac:k<xss.length
 . obtain⟨b,o,A1,c1,rfl,lw,q1,I1⟩:=HA.out.at_ k ac
   have l1:=tp.out _ (Le ac);have hs:=va (p:=fun x=>decide (x=ys)) ac;have HC:=zH (qv A1 B c1 cb xss[k] ys l1 ew (w.drewN n) I1 HB.out);obtain⟨x,hx⟩:=Kk (xss[k]);rw[hx] at q1 hs HC l1;have HS:=zH hs;have hz:Aq (zB x ys=0->x=ys):=jV;have ep:Aq (x=ys->zB x ys=0):=fun h=>by rw[h];exact qC _
   obtain⟨bo,dN⟩:=Kk (zB x ys);rw[dN] at hz HC ep;obtain⟨xl,nC⟩:=Kk x.length;rw[nC] at q1 HC l1;go_wp2_with fail;refine HC.out.mono ?_;rintro e w' ⟨rfl,n2,rfl⟩
   by_cases hb:bo=0
   . have hR:r=Au:=by rw[av.out,HS.out,Lw (hz.out hb)];rfl
     subst hR;subst hb;go_wp2_with fail;go_ret;exact⟨rfl,_,rfl⟩
   have dH:Aq (r=(xss.drop (k+1)).any fun x=>decide (x=ys)):=by rw[av.out,HS.out,Lu (fun h=>hb (ep.out h))];rfl
   have e0:(bo==0)=Aw:=by simpa using hb
   go_wp2_with fail
   go_roundw
   case rel=>exact⟨k+1,_,by omega,by go_num,dH,rfl⟩
   simp[Ap];omega
 obtain rfl:k=xss.length:=by omega
 have hR:r=Aw:=av.out.trans (we rfl);subst hR;go_wp2_with fail;go_ret;exact⟨rfl,_,rfl⟩
def j5(l:List (List Int))(m:Nat):Bool:=decide (l.length<=m)&&l.all fun v=>decide (v.length<=10)
theorem JG{α:Type}{p:α->Bool}{l:List α}{k:Nat}(hk:k<l.length):(l.drop k).all p=(p l[k]&&(l.drop (k+1)).all p):=by
 rw[Ly hk];rfl
theorem all_end{α:Type}{p:α->Bool}{l:List α}{k:Nat}(hk:k=l.length):(l.drop k).all p=Au:=by subst hk;rw[NI];rfl
theorem Jj(A:Bb)(c:Nat)(xss:List (List Int))(hl:xss.length<=17592186044416)(aN:∀v∈xss,v.length<=17592186044416)(w:Ba)(hA:LAt w w.heap.size A xss) :
  An Al 132 #[I A xss.length c,O U 30] w fun e w'=>e=Ak (Ah (j5 xss 30))/\w'=w:=by
 have HA:=zH hA;have tp:=zH aN;have H:Aq (j5 xss 30=(decide (xss.length<=30)&&xss.all fun v=>decide (v.length<=10))):=rfl;obtain⟨r,hr⟩:=Kk (j5 xss 30);rw[hr] at H ⊢
 by_cases hz:xss.length<=30
 . have HR:Aq (r=(xss.drop 0).all fun v=>decide (v.length<=10)):=by rw[Ni,H.out,Lw hz,Nn];rfl
   have cY:¬(30<(xss.length:Int)):=by omega
   go_enter func132,ntmps132;go_wp2_with fail
   all_goals first | (exfalso;omega) | skip
   go_loop [5] (fun i=>∃k:Nat,k<=xss.length/\i=O U (k:Int)/\Aq (r=(xss.drop k).all fun v=>decide (v.length<=10))) (fun i=>xss.length-(Ap i).toNat)
   case atStart=>exact⟨0,by omega,rfl,HR⟩
   obtain⟨k,hk,rfl,av⟩:=hrel
   by_cases ac:k<xss.length
   . obtain⟨b,o,A1,c1,rfl,lw,q1,_⟩:=HA.out.at_ k ac
     have l1:=tp.out _ (Le ac);have HS:=zH (JG (p:=fun v=>decide (v.length<=10)) ac);obtain⟨xl,nC⟩:=Kk (xss[k].length);rw[nC] at q1 HS l1
     by_cases hx:xl<=10
     . have dH:Aq (r=(xss.drop (k+1)).all fun v=>decide (v.length<=10)):=by rw[av.out,HS.out,Lw hx];rfl
       go_wp2_with fail
       all_goals first | (exfalso;omega) | skip
       go_round
       case rel=>exact⟨k+1,by omega,by go_num,dH⟩
       simp[Ap];omega
     have hR:r=Aw:=by rw[av.out,HS.out,Lu hx];rfl
     subst hR;go_wp2_with fail
     all_goals first | (exfalso;omega) | skip
     go_ret;exact⟨rfl,rfl⟩
   obtain rfl:k=xss.length:=by omega
   have hR:r=Au:=av.out.trans (all_end rfl);subst hR;go_wp2_with fail;go_ret;exact⟨rfl,rfl⟩
 have hR:r=Aw:=by rw[H.out,Lu hz];rfl
 subst hR;go_enter func132,ntmps132;go_wp2_with fail
 all_goals first | (exfalso;omega) | skip
 go_ret;exact⟨rfl,rfl⟩
theorem gI{t:Tk}(h:t.n<1\/5<t.n\/t.ins<1\/8<t.ins\/t.outs<1\/8<t.outs):xp t=2:=Lj h
theorem ZQ{t:Tk}(h:¬(t.n<1\/5<t.n\/t.ins<1\/8<t.ins\/t.outs<1\/8<t.outs))(h2:t.cases.length<1):xp t=5:=by unfold xp;rw[Lg h,Lj (.inl h2)]
theorem gJ{t:Tk}(h:¬(t.n<1\/5<t.n\/t.ins<1\/8<t.ins\/t.outs<1\/8<t.outs))(h2:1<=t.cases.length)(h3:t.cases.length<=30):xp t=xC t t.cases 0:=by unfold xp;rw[Lg h,Lg (by omega)]
theorem XA{t:Tk}{p:Option Cs}{c:Cs}(h:zJ c.inp t.n t.ins≠0):qM t p c=zJ c.inp t.n t.ins:=Lj h
theorem Zl{t:Tk}{p:Option Cs}{c:Cs}(h:zJ c.inp t.n t.ins=0)(h2:qk (p.map Cs.inp) c.inp=Au):qM t p c=14:=by unfold qM;rw[Lg (by simpa using h),Lj h2]
theorem XB{t:Tk}{p:Option Cs}{c:Cs}(h:zJ c.inp t.n t.ins=0)(h2:qk (p.map Cs.inp) c.inp=Aw):qM t p c=kP t.n t.outs c:=by unfold qM;rw[Lg (by simpa using h),Lg (by rw[h2];decide)]
theorem JV(t:Tk)(A:Bb)(kc:Nat)(hf:FewT t)(w:Ba)(hA:CAt w w.heap.size A t.cases) :
  An Al 129 #[Ai #[O U t.n,O U t.ins,O U t.outs,I A t.cases.length kc]] w fun e w'=>e=Ak (O U (xp t))/\Am w.heap.size w w':=by
 obtain⟨iE,mD⟩:=hf;have mh:=zH mD;have HA:=zH hA;have aq:=zH (@gI t);have am:=zH (@ZQ t);have aM:=zH (@gJ t);obtain⟨E,hE⟩:=Kk (xp t);rw[hE] at aq am aM ⊢;obtain⟨cv,td⟩:=Kk (I A t.cases.length kc)
 by_cases hr:t.n<1\/5<t.n\/t.ins<1\/8<t.ins\/t.outs<1\/8<t.outs
 . have HR:=zH (aq.out hr)
   obtain⟨n,ins,outs,cases⟩:=t;dsimp only at hr td ⊢;rw[td];have HN:=zH hr;clear aq am aM td hA mD mh HA hE hr;go_enter func129,ntmps129;go_wp2_with fail
   all_goals first | (exfalso;have:=HN.out;omega) | (go_ret;exact⟨zr HR.out.symm,zU w _⟩)
 have r1:¬t.n<1:=by omega
 have r2:¬5<t.n:=by omega
 have r3:¬t.ins<1:=by omega
 have r4:¬8<t.ins:=by omega
 have r5:¬t.outs<1:=by omega
 have r6:¬8<t.outs:=by omega
 have am:=zH (am.out hr);have aM:=zH (aM.out hr);clear hr aq td hE hA mD
 by_cases hz:t.cases.length<1
 . have HR:=zH (am.out hz)
   obtain⟨n,ins,outs,cases⟩:=t;dsimp only at iE r1 r2 r3 r4 r5 r6 hz ⊢;clear am aM mh HA;go_enter func129,ntmps129;go_wp2_with fail
   all_goals first | (exfalso;omega) | skip
   go_ret;exact⟨zr HR.out.symm,zU w _⟩
 have cY:¬((t.cases.length:Int)<1):=by omega
 have aM:=zH (aM.out (by omega) (by omega));obtain⟨n,hn⟩:=Kk t.n;obtain⟨ins,Mf⟩:=Kk t.ins;obtain⟨outs,DD⟩:=Kk t.outs;obtain⟨cs,cN⟩:=Kk t.cases;have HT:Aq (t.n=n/\t.ins=ins/\t.outs=outs):=⟨hn,Mf,DD⟩;rw[hn] at r1 r2 ⊢;rw[Mf] at r3 r4 ⊢;rw[DD] at r5 r6 ⊢;rw[cN] at iE mh HA cY aM ⊢;go_enter func129,ntmps129;go_wp2_with fail
 all_goals first | (exfalso;omega) | skip
 obtain⟨W0,eJ,b0,bL,dl⟩:∃W0,w.alloc (Ag #[O U n,O U ins,O U outs,I A cs.length kc] 24)=W0/\W0.heap[w.heap.size]?=J (Ag #[O U n,O U ins,O U outs,I A cs.length kc] 24 (0,0))/\w.heap.size+1<=W0.heap.size/\Am w.heap.size w W0:=
  ⟨_,rfl,zx _ _,by simp,zU w _⟩
 rw[eJ];have iN:=zH dl;have sG:=zH b0
 go_loopw [46] (fun i wr=>∃k:Nat,k<=cs.length/\i=O U (k:Int)/\Aq (E=xC t cs k)/\Am W0.heap.size W0 wr) (fun i _=>cs.length-(Ap i).toNat)
 case atStart=>exact⟨0,by omega,rfl,aM,Li _ _⟩
 obtain⟨k,hk,rfl,av,cp⟩:=hrel;have ix:=zH (Lc iN.out cp);have HW:=zH cp;have d0:=Lb cp (by omega) sG.out;obtain⟨q0,q1,q2,q3,_⟩:=Ka d0
 by_cases ac:k<cs.length
 . obtain⟨b,o,A0,k0,A1,k1,A2,k2,rfl,lw,c0,c1,c2,I0,I1,I2⟩:=(HA.out.keep ix.out).row k ac
   obtain⟨f0,f1,f2⟩:=mh.out _ (Le ac);have bh:=zH (@Zk t cs k ac);have bk:=zH (@YH t cs k ac);obtain⟨e1,e2,e3⟩:=HT.out;have si:=zH (@XA t (zD cs k) cs[k]);have cG:=zH (@Zl t (zD cs k) cs[k]);have fu:=zH (@XB t (zD cs k) cs[k]);rw[e1,e2] at si cG fu;rw[e3] at fu;have HV:=zH (fun (w':Ba) (h:IAt w' w'.heap.size A0 cs[k].inp)=>gE A0 k0 cs[k].inp n ins (by omega) w' h);have HG:=zH (fun (w':Ba) (h1:LAt w' w'.heap.size A1 cs[k].out) (h2:LAt w' w'.heap.size A2 cs[k].calm)=>XI n ins outs (I (J ⟨b,o,Z⟩) cs.length kc) A0 A1 A2 k0 k1 k2 cs[k] (mh.out _ (Le ac)) w' h1 h2);obtain⟨bo,dN⟩:=Kk (qk ((zD cs k).map Cs.inp) cs[k].inp);have cP:=zH dN;rw[dN] at cG fu;obtain⟨ev,dY⟩:=Kk (zJ cs[k].inp n ins);rw[dY] at si cG fu HV;obtain⟨gv,hgv⟩:=Kk (kP n outs cs[k]);rw[hgv] at fu HG;obtain⟨x,hx⟩:=Kk (cs[k]);have HX:=zH hx;rw[hx] at c0 c1 c2 I0 I1 I2 f0 bh bk si cG fu HV HG;obtain⟨xi,xo,xc⟩:=x;dsimp only at c0 c1 c2 I0 I1 I2 f0 HV HG;have TP:=ix.out.size;have Sp:w.heap.size<wr.heap.size:=by have:=HW.out.size;omega
   have J0:=I0.more TP;have J1:=I1.more TP;have J2:=I2.more TP;go_wp2_with fail
   obtain⟨W1,fG,b1,aw,aB⟩:∃W1,wr.alloc (Ag #[I A0 xi.length k0,I A1 xo.length k1,I A2 xc.length k2] 71)=W1/\W1.heap[wr.heap.size]?=J (Ag #[I A0 xi.length k0,I A1 xo.length k1,I A2 xc.length k2] 71 (0,0))/\wr.heap.size+1<=W1.heap.size/\Am wr.heap.size wr W1:=
    ⟨_,rfl,zx _ _,by simp,zU wr _⟩
   rw[fG];have K0:=(J0.keep aB).more aB.size;have K1:=zH ((J1.keep aB).more aB.size);have K2:=zH ((J2.keep aB).more aB.size);have BL:=zH (ix.out.trans (aB.mono TP));have BW:=zH (Lc HW.out aB);have EA:=zH b1;refine(HV.out _ K0).mono ?_;rintro e w1 ⟨rfl,aQ⟩;have M1:=zH ((K1.out.keep aQ).more aQ.size);have M2:=zH ((K2.out.keep aQ).more aQ.size);have lj:=zH (Lc BL.out aQ);have Bn:=zH (Lc BW.out aQ);have M0:=zH ((K0.keep aQ).more aQ.size);have d0:=Lb Bn.out (by omega) sG.out;have d1:=Lb aQ (by omega) EA.out;obtain⟨q0,q1,q2,q3,_⟩:=Ka d0;obtain⟨p0,p1,p2,_⟩:=Kb d1
   by_cases dY:ev=0
   case neg=>
    have hd:=si.out dY;have hR:=zH (av.out.trans ((bh.out (by rw[hd];exact dY)).trans hd));have e0:(ev != 0)=Au:=by simpa using dY
    go_wp2_with fail;go_ret;exact⟨zr hR.out.symm,lj.out⟩
   case pos=>
   subst dY
   cases k with
   | zero=>
    obtain rfl:bo=Aw:=by rw[<-cP.out];rfl
    go_wp2_with fail;go_quiet (fail);have fu:=zH (fu.out (by simp) (by simp));go_wp2_with fail;refine(HG.out _ (by exact M1.out.keep (yv (Li _ _) _)) (by exact M2.out.keep (yv (Li _ _) _))).mono ?_;rintro e w2 ⟨rfl,ah⟩;have Hu:=zH (lj.out.trans ((belD ah).mono lj.out.size));have Pc:=zH (Bn.out.trans ((belD ah).mono Bn.out.size))
    by_cases hg:gv=0
    . subst hg
      have hR:=zH (av.out.trans (bk.out fu.out));go_wp2_with fail
      go_roundw
      case rel=>exact⟨_,ac,by go_num,hR,Pc.out⟩
      case measure=>simp[Ap];omega
    . have hR:=zH (av.out.trans ((bh.out (by rw[fu.out];exact hg)).trans fu.out))
      have e0:(gv != 0)=Au:=by simpa using hg
      go_wp2_with fail;go_ret;exact⟨zr hR.out.symm,Hu.out⟩
   | succ j=>
    have hj:j<cs.length:=by omega
    have dt:qk ((zD cs (j+1)).map Cs.inp) cs[j+1].inp=decide (0<=zB cs[j].inp cs[j+1].inp):=by rw[yu cs j hj];rfl
    obtain⟨b',o',Bo,tA,_,_,_,_,e',_,u0,_,_,U0,_,_⟩:=((HA.out.keep lj.out).row j hj)
    cases e'
    obtain⟨AH,_,_⟩:=mh.out _ (Le hj);rw[HX.out] at dt;have hc:=fun n=>uC Bo A0 tA k0 cs[j].inp xi (by omega) (by omega) (w1.drewN n) (U0.more lj.out.size) M0.out
    rw[show qk ((zD cs (j+1)).map Cs.inp) xi=bo by have:=cP.out;rwa[HX.out] at this] at dt;obtain⟨r,hr⟩:=Kk (zB cs[j].inp xi);rw[hr] at dt hc;have eN:=zH dt;obtain⟨nl,fN⟩:=Kk (cs[j].inp.length);rw[fN] at u0 hc AH;have HC:=zH hc;have g1:((j:Int)+1).toNat=j+1:=by omega
    have g3:IntKind.i64.wrap ((j:Int)+1-1)=(j:Int):=by rw[Ll];omega
    have g5:IntKind.i64.wrap ((j:Int)+1)=(j:Int)+1:=by rw[Ll];omega
    clear dt hc hr fN U0 cP HX
    cases bo with
    | true=>
     have g7:decide (0<=r)=Au:=eN.out.symm;have g8:0<=r:=Lx g7;have hd:=cG.out (by simp) (by simp);have hR:=zH (av.out.trans ((bh.out (by rw[hd];decide)).trans hd));clear av bh bk cG fu HV HG hd eN;go_wp2_with fail;go_quiet ((go_at_call 151;exact RK (HC.out _)));clear HC g1 g3 g5 u0;go_wp2_with fail;go_ret;exact⟨zr hR.out.symm,yv lj.out _⟩
    | false=>
     have g7:decide (0<=r)=Aw:=eN.out.symm;have g8:¬0<=r:=Nt g7;clear eN;go_wp2_with fail;go_quiet ((go_at_call 151;exact RK (HC.out _)));have fu:=zH (fu.out (by simp) (by simp));go_wp2_with fail;refine(HG.out _ (by exact M1.out.keep (yv (Li _ _) _)) (by exact M2.out.keep (yv (Li _ _) _))).mono ?_;rintro e w2 ⟨rfl,ah⟩;have Hu:=zH (lj.out.trans ((belD ah).mono lj.out.size));have Pc:=zH (Bn.out.trans ((belD ah).mono Bn.out.size))
     by_cases hg:gv=0
     . subst hg
       have hR:=zH (av.out.trans (bk.out fu.out));go_wp2_with fail
       go_roundw
       case rel=>exact⟨j+1+1,ac,by go_num,hR,Pc.out⟩
       case measure=>simp[Ap];omega
     . have hR:=zH (av.out.trans ((bh.out (by rw[fu.out];exact hg)).trans fu.out))
       have e0:(gv != 0)=Au:=by simpa using hg
       go_wp2_with fail;go_ret;exact⟨zr hR.out.symm,Hu.out⟩
 obtain rfl:k=cs.length:=by omega
 have HR:=zH (av.out.trans Zj);go_wp2_with fail;go_ret;exact⟨zr HR.out.symm,ix.out⟩
theorem vi{P:Program}{f:FuncId}{args:Array Ar}{W:Ba}{q a:Nat}{v:Ar}(h:An P f args (W.drewN (q+a)) fun e w'=>e=Ak v/\w'=W.drewN (q+a)):An P f args (W.drewN (q+a)) fun e w'=>e=Ak v/\∃n,w'=W.drewN (q+n):=
 h.mono fun _ _ ⟨h1,h2⟩=>⟨h1,a,h2⟩
theorem yE{P:Program}{f:FuncId}{args:Array Ar}{W:Ba}{q a:Nat}{v:Ar}(h:An P f args (W.drewN (q+a)) fun e w'=>e=Ak v/\∃n,w'=(W.drewN (q+a)).drewN n):An P f args (W.drewN (q+a)) fun e w'=>e=Ak v/\∃n,w'=W.drewN (q+n):=
 h.mono fun _ _ ⟨h1,n,h2⟩=>⟨h1,a+n,by rw[h2,P6,Pp]⟩
theorem rone_any(t:Tk)(A:Bb)(kc:Nat)(hf:FewT t)(i:Nat)(hi:i<t.cases.length)(w:Ba)(hA:CAt w w.heap.size A t.cases) :
  An Al 156 #[Ai #[O U t.n,O U t.ins,O U t.outs,I A t.cases.length kc],O U i] w fun e w'=>e=Ak (O U (qM t (zD t.cases i) t.cases[i]))/\Am w.heap.size w w':=by
 obtain⟨iE,mD⟩:=hf;have pG:=zH mD;have si:=zH (@XA t (zD t.cases i) t.cases[i]);have cG:=zH (@Zl t (zD t.cases i) t.cases[i]);have fu:=zH (@XB t (zD t.cases i) t.cases[i]);obtain⟨E,hE⟩:=Kk (qM t (zD t.cases i) t.cases[i]);rw[hE] at si cG fu ⊢;obtain⟨n,ins,m,cs⟩:=t;dsimp only at iE pG si cG fu hA hi ⊢;obtain⟨b,o,A0,k0,A1,k1,A2,k2,e,lw,c0,c1,c2,I0,I1,I2⟩:=hA.row i hi;obtain⟨f0,⟨f1,f2⟩,f3,f4⟩:=mD _ (Le hi);obtain⟨bo,dN⟩:=Kk (qk ((zD cs i).map Cs.inp) cs[i].inp);have cP:=zH dN;rw[dN] at cG fu;have aq:=zH (@Zh n m cs[i]);have am:=zH (@YG n m cs[i]);have aM:=zH (@Zi n m cs[i]);obtain⟨x,hx⟩:=Kk (cs[i]);have HX:=zH hx;rw[hx] at c0 c1 c2 I0 I1 I2 f0 f1 f2 f3 f4 si cG fu aq am aM;obtain⟨xi,xo,xc⟩:=x;dsimp only at c0 c1 c2 I0 I1 I2 f0 f1 f2 f3 f4 si cG fu aq am aM;obtain⟨ev,dY⟩:=Kk (zJ xi n ins);rw[dY] at si cG fu;have mh:=zH f2;have sb:=zH f4;obtain⟨W1,fG,b0,b1,bL,aB⟩:=tboxes w #[O U n,O U ins,O U m,I A cs.length kc] #[I A0 xi.length k0,I A1 xo.length k1,I A2 xc.length k2] 24 71;have eS:=zH aB;have H0:=zH ((I0.keep aB).more (show w.heap.size<=W1.heap.size by omega));have H1:=zH ((I1.keep aB).more (show w.heap.size<=W1.heap.size by omega));have H2:=zH ((I2.keep aB).more (show w.heap.size<=W1.heap.size by omega));have I6:=zH ((hA.keep aB).more (show w.heap.size<=W1.heap.size by omega));have Oq:=zH (jQ A0 k0 xi n ins (by omega) W1 H0.out);rw[dY] at Oq;subst e
 have sG:=zH b0;have EA:=zH b1;have oZ:=zH fG;clear hE dN hx dY f2 f4 hA mD I0 I1 I2 fG aB b0 b1 bL;go_enter func156,ntmps156;go_wp2_with fail;rw[oZ.out];obtain⟨q0,q1,q2,q3,_⟩:=Ka sG.out;obtain⟨p0,p1,p2,_⟩:=Kb EA.out;have Ss:=eS.out.size;clear oZ c0 c1 c2;refine Oq.out.mono ?_;rintro e w' ⟨rfl,my⟩;obtain rfl:W1=w':=my.symm;clear Oq
 by_cases dY:ev=0
 case neg=>
  have hd:=zH (si.out dY);have e0:(ev != 0)=Au:=by simpa using dY
  clear si cG fu aq am aM dY cP HX;go_wp2_with fail;go_ret;exact⟨zr hd.out.symm,eS.out⟩
 case pos=>
 subst dY;clear si
 cases i with
 | zero=>
  obtain rfl:bo=Aw:=by rw[<-cP.out];rfl
  have g0:decide ((0:Int)<0)=Aw:=by decide
  clear cP HX;go_wp2_with fail;go_quiet (fail);have di:=zH (fu.out (by simp) (by simp));clear cG fu
  by_cases hz:xo.length<1
  . have hR:=zH (di.out.trans (aq.out hz))
    clear di aq am aM;go_wp2_with fail
    all_goals first | (exfalso;omega) | skip
    go_ret;exact⟨zr hR.out.symm,by repeat (first | exact eS.out | refine yv ?_ _)⟩
  have cY:¬((xo.length:Int)<1):=by omega
  have am:=zH (fun h=>di.out.trans (am.out (by omega) (by omega) h));have aM:=zH (fun h=>di.out.trans (aM.out (by omega) (by omega) h));clear aq di;obtain⟨F,hF⟩:∃F,qZ (fun v=>zJ v n m) xo=F:=⟨_,rfl⟩;have HF:Aq (F=yL (fun v=>zJ v n m) xo 0):=by rw[xS];exact hF.symm
  rw[hF] at am aM;clear hF;go_wp2_with fail
  all_goals first | (exfalso;omega) | skip
  go_loopw [7] (fun i wr=>∃k q:Nat,k<=xo.length/\i=O U (k:Int)/\Aq (F=yL (fun v=>zJ v n m) xo k)/\wr=W1.drewN q) (fun i _=>xo.length-(Ap i).toNat)
  case atStart=>exact⟨0,_,by omega,rfl,HF,rfl⟩
  case round=>
   obtain⟨k,q,hk,rfl,av,rfl⟩:=hrel;clear HF
   by_cases ac:k<xo.length
   . obtain⟨b,o,A3,k3,rfl,hb,c3,I3⟩:=H1.out.at_ k ac
     have l3:=mh.out _ (Le ac);have AJ:=zH I3;have bh:=zH (@qq (fun v=>zJ v n m) xo k ac);have cG:=zH (@xB (fun v=>zJ v n m) xo k ac);have bk:=zH (@qR (fun v=>zJ v n m) xo k ac);have HV:=zH (fun (p:Nat)=>jQ A3 k3 xo[k] n m (by omega) (W1.drewN p) I3);obtain⟨bo,dN⟩:=Kk (qk (zD xo k) xo[k]);have cP:=zH dN;rw[dN] at cG bk;obtain⟨v,hv⟩:=Kk (xo[k]);have HX:=zH hv;rw[hv] at c3 AJ l3 bh cG bk HV;obtain⟨ev,dY⟩:=Kk (zJ v n m);rw[dY] at bh cG bk HV;obtain⟨vl,eq⟩:=Kk v.length;have lP:=zH eq;rw[eq] at c3 l3 HV;clear hv dN dY eq I3
     by_cases he:ev=0
     case neg=>
      have hR:=zH (av.out.trans (bh.out he));have HR:=zH ((am.out (by rw[hR.out];exact he)).trans hR.out);clear av cG bk bh am aM cP HX lP;have e0:(ev != 0)=Au:=by simpa using he
      clear he;go_wp2_with fail;go_quiet ((go_at_call 174;exact vi (HV.out _)));go_wp2_with fail;go_ret;exact⟨zr HR.out.symm,by repeat (first | exact eS.out | refine yv ?_ _)⟩
     case pos=>
     subst he;clear bh;go_wp2_with fail;go_quiet ((go_at_call 174;exact vi (HV.out _)));clear HV;have iZ:k<=30:=by omega
     cases k with
     | zero=>
      obtain rfl:bo=Aw:=by rw[<-cP.out];rfl
      have g0:decide ((0:Int)<0)=Aw:=by decide
      clear cP HX lP;go_wp2_with fail;go_quiet (fail);have hR:=zH (av.out.trans (bk.out (by simp) (by simp)));clear av cG bk;go_wp2_with fail
      go_roundw
      case rel=>exact⟨0+1,_,by omega,by go_num,hR,rfl⟩
      case measure=>simp[Ap];omega
     | succ j=>
      have hj:j<xo.length:=by omega
      have dt:qk (zD xo (j+1)) xo[j+1]=decide (0<=zB xo[j] xo[j+1]):=by rw[yu xo j hj];rfl
      obtain⟨b',o',Bo,tA,e',_,u0,U0⟩:=H1.out.at_ j hj
      cases e'
      have AH:=mh.out _ (Le hj);rw[HX.out] at dt;have hc:=fun (p:Nat)=>qv Bo A3 tA k3 xo[j] v (by omega) (by rw[<-HX.out];have:=mh.out _ (Le ac);omega) (W1.drewN p) U0 AJ.out
      rw[show qk (zD xo (j+1)) v=bo by have:=cP.out;rwa[HX.out] at this] at dt;obtain⟨r,hr⟩:=Kk (zB xo[j] v);rw[hr] at dt hc;have eN:=zH dt;obtain⟨nl,fN⟩:=Kk (xo[j].length);rw[fN] at u0 hc AH;rw[lP.out] at hc;have HC:=zH hc;clear dt hc hr fN U0 cP HX lP;have g1:((j:Int)+1).toNat=j+1:=by omega
      have g3:IntKind.i64.wrap ((j:Int)+1-1)=(j:Int):=by rw[Ll];omega
      have g5:IntKind.i64.wrap ((j:Int)+1)=(j:Int)+1:=by rw[Ll];omega
      have g6:decide ((0:Int)<(j:Int)+1)=Au:=Lw (by omega)
      cases bo with
      | true=>
       have g7:decide (0<=r)=Au:=eN.out.symm;have g8:0<=r:=Lx g7;clear eN;go_wp2_with fail;go_quiet ((go_at_call 175;first | exact yE (HC.out _) | exact NT (HC.out _)));clear HC g1 g3 g5 g6 u0;have hR:=zH (av.out.trans (cG.out (by simp) (by simp)));have dH:=zH ((am.out (by rw[hR.out];decide)).trans hR.out);clear av cG bk am aM;go_wp2_with fail;go_ret;exact⟨zr dH.out.symm,by repeat (first | exact eS.out | refine yv ?_ _)⟩
      | false=>
       have g7:decide (0<=r)=Aw:=eN.out.symm;have g8:¬0<=r:=Nt g7;clear eN;go_wp2_with fail;go_quiet ((go_at_call 175;first | exact yE (HC.out _) | exact NT (HC.out _)));clear HC g1 g3 g5 g6 u0;have hR:=zH (av.out.trans (bk.out (by simp) (by simp)));clear av cG bk;go_wp2_with fail
       go_roundw
       case rel=>exact⟨j+1+1,_,by omega,by go_num,hR,rfl⟩
       case measure=>simp[Ap];omega
   . obtain rfl:k=xo.length:=by omega
     have hR:=zH (av.out.trans qp);have HR:=zH (aM.out hR.out);clear av am aM hR;go_wp2_with fail;obtain⟨G,hG⟩:=Kk (qZ (qH xo) xc);have HG:Aq (G=yL (qH xo) xc 0):=by rw[xS];exact hG.symm
     rw[hG] at HR;clear hG
     go_loopw [9] (fun i wr=>∃k q:Nat,k<=xc.length/\i=O U (k:Int)/\Aq (G=yL (qH xo) xc k)/\wr=W1.drewN q) (fun i _=>xc.length-(Ap i).toNat)
     case atStart=>exact⟨0,_,by omega,rfl,HG,rfl⟩
     case round=>
      obtain⟨k,q,hk,rfl,av,rfl⟩:=hrel;clear HG
      by_cases ac:k<xc.length
      . obtain⟨b,o,A3,k3,rfl,hb,c3,I3⟩:=H2.out.at_ k ac
        have l3:=sb.out _ (Le ac);have AJ:=zH I3;have bh:=zH (@qq (qH xo) xc k ac);have cG:=zH (@xB (qH xo) xc k ac);have bk:=zH (@qR (qH xo) xc k ac);have HV:=zH (fun (p:Nat)=>QB A1 k1 xo A3 k3 xc[k] (by omega) (fun v hv=>by have:=mh.out v hv;omega) (by omega) (W1.drewN p) H1.out I3);have l8:Aq (∀v,qH xo v=if v∈xo then 0 else 6):=fun _=>rfl
        obtain⟨bo,dN⟩:=Kk (qk (zD xc k) xc[k]);have cP:=zH dN;rw[dN] at cG bk;obtain⟨v,hv⟩:=Kk (xc[k]);have HX:=zH hv;rw[hv] at c3 AJ l3 bh cG bk HV;have l8:=zH (l8.out v);obtain⟨ev,dY⟩:=Kk (qH xo v);rw[dY] at bh cG bk l8;obtain⟨vl,eq⟩:=Kk v.length;have lP:=zH eq;rw[eq] at c3 l3 HV;clear hv dN dY eq I3
        by_cases hm:v∈xo
        case neg=>
         have he:ev=6:=l8.out.trans (Lg hm);subst he;rw[Lu hm] at HV;have hR:=zH (av.out.trans (bh.out (by decide)));have dH:=zH (HR.out.trans hR.out);clear av cG bk bh hm l8 HR cP HX lP;go_wp2_with fail;go_quiet ((go_at_call 176;exact yE (HV.out _)));go_wp2_with fail;go_ret;exact⟨zr dH.out.symm,by repeat (first | exact eS.out | refine yv ?_ _)⟩
        case pos=>
        have he:ev=0:=l8.out.trans (Lj hm);subst he;rw[Lw hm] at HV;clear bh hm l8;go_wp2_with fail;go_quiet ((go_at_call 176;exact yE (HV.out _)));clear HV;have iZ:k<=30:=by omega
        cases k with
        | zero=>
         obtain rfl:bo=Aw:=by rw[<-cP.out];rfl
         have g0:decide ((0:Int)<0)=Aw:=by decide
         clear cP HX lP;go_wp2_with fail;go_quiet (fail);have hR:=zH (av.out.trans (bk.out (by simp) (by simp)));clear av cG bk;go_wp2_with fail
         go_roundw
         case rel=>exact⟨0+1,_,by omega,by go_num,hR,rfl⟩
         case measure=>simp[Ap];omega
        | succ j=>
         have hj:j<xc.length:=by omega
         have dt:qk (zD xc (j+1)) xc[j+1]=decide (0<=zB xc[j] xc[j+1]):=by rw[yu xc j hj];rfl
         obtain⟨b',o',Bo,tA,e',_,u0,U0⟩:=H2.out.at_ j hj
         cases e'
         have AH:=sb.out _ (Le hj);rw[HX.out] at dt;have hc:=fun (p:Nat)=>qv Bo A3 tA k3 xc[j] v (by omega) (by rw[<-HX.out];have:=sb.out _ (Le ac);omega) (W1.drewN p) U0 AJ.out
         rw[show qk (zD xc (j+1)) v=bo by have:=cP.out;rwa[HX.out] at this] at dt;obtain⟨r,hr⟩:=Kk (zB xc[j] v);rw[hr] at dt hc;have eN:=zH dt;obtain⟨nl,fN⟩:=Kk (xc[j].length);rw[fN] at u0 hc AH;rw[lP.out] at hc;have HC:=zH hc;clear dt hc hr fN U0 cP HX lP;have g1:((j:Int)+1).toNat=j+1:=by omega
         have g3:IntKind.i64.wrap ((j:Int)+1-1)=(j:Int):=by rw[Ll];omega
         have g5:IntKind.i64.wrap ((j:Int)+1)=(j:Int)+1:=by rw[Ll];omega
         have g6:decide ((0:Int)<(j:Int)+1)=Au:=Lw (by omega)
         cases bo with
         | true=>
          have g7:decide (0<=r)=Au:=eN.out.symm;have g8:0<=r:=Lx g7;clear eN;go_wp2_with fail;go_quiet ((go_at_call 175;first | exact yE (HC.out _) | exact NT (HC.out _)));clear HC g1 g3 g5 g6 u0;have hR:=zH (av.out.trans (cG.out (by simp) (by simp)));have dH:=zH (HR.out.trans hR.out);clear av cG bk HR;go_wp2_with fail;go_ret;exact⟨zr dH.out.symm,by repeat (first | exact eS.out | refine yv ?_ _)⟩
         | false=>
          have g7:decide (0<=r)=Aw:=eN.out.symm;have g8:¬0<=r:=Nt g7;clear eN;go_wp2_with fail;go_quiet ((go_at_call 175;first | exact yE (HC.out _) | exact NT (HC.out _)));clear HC g1 g3 g5 g6 u0;have hR:=zH (av.out.trans (bk.out (by simp) (by simp)));clear av cG bk;go_wp2_with fail
          go_roundw
          case rel=>exact⟨j+1+1,_,by omega,by go_num,hR,rfl⟩
          case measure=>simp[Ap];omega
      . obtain rfl:k=xc.length:=by omega
        have hR:=zH (av.out.trans qp);have dH:=zH (HR.out.trans hR.out);clear av HR hR;go_wp2_with fail;go_ret;exact⟨zr dH.out.symm,by repeat (first | exact eS.out | refine yv ?_ _)⟩
 | succ j=>
  have hj:j<cs.length:=by omega
  have dt:qk ((zD cs (j+1)).map Cs.inp) cs[j+1].inp=decide (0<=zB cs[j].inp cs[j+1].inp):=by rw[yu cs j hj];rfl
  obtain⟨b',o',Bo,tA,_,_,_,_,e',_,u0,_,_,U0,_,_⟩:=I6.out.row j hj
  cases e'
  obtain⟨AH,_,_⟩:=pG.out _ (Le hj);rw[HX.out] at dt;have hc:=fun (p:Nat)=>qv Bo A0 tA k0 cs[j].inp xi (by omega) (by omega) (W1.drewN p) U0 H0.out
  rw[show qk ((zD cs (j+1)).map Cs.inp) xi=bo by have:=cP.out;rwa[HX.out] at this] at dt;obtain⟨r,hr⟩:=Kk (zB cs[j].inp xi);rw[hr] at dt hc;have eN:=zH dt;obtain⟨nl,fN⟩:=Kk (cs[j].inp.length);rw[fN] at u0 hc AH;have HC:=zH hc;clear dt hc hr fN U0 cP HX;have g1:((j:Int)+1).toNat=j+1:=by omega
  have g3:IntKind.i64.wrap ((j:Int)+1-1)=(j:Int):=by rw[Ll];omega
  have g5:IntKind.i64.wrap ((j:Int)+1)=(j:Int)+1:=by rw[Ll];omega
  have g6:decide ((0:Int)<(j:Int)+1)=Au:=Lw (by omega)
  cases bo with
  | true=>
   have g7:decide (0<=r)=Au:=eN.out.symm;have g8:0<=r:=Lx g7;clear eN;go_wp2_with fail;go_quiet ((go_at_call 175;first | exact yE (HC.out _) | exact NT (HC.out _)));clear HC g1 g3 g5 g6 u0;have hd:=zH (cG.out (by simp) (by simp));clear cG fu aq am aM;go_wp2_with fail;go_ret;exact⟨zr hd.out.symm,by repeat (first | exact eS.out | refine yv ?_ _)⟩
  | false=>
   have g7:decide (0<=r)=Aw:=eN.out.symm;have g8:¬0<=r:=Nt g7;clear eN;go_wp2_with fail;go_quiet ((go_at_call 175;first | exact yE (HC.out _) | exact NT (HC.out _)));clear HC g1 g3 g5 g6 u0;have di:=zH (fu.out (by simp) (by simp));clear cG fu
   by_cases hz:xo.length<1
   . have hR:=zH (di.out.trans (aq.out hz))
     clear di aq am aM;go_wp2_with fail
     all_goals first | (exfalso;omega) | skip
     go_ret;exact⟨zr hR.out.symm,by repeat (first | exact eS.out | refine yv ?_ _)⟩
   have cY:¬((xo.length:Int)<1):=by omega
   have am:=zH (fun h=>di.out.trans (am.out (by omega) (by omega) h));have aM:=zH (fun h=>di.out.trans (aM.out (by omega) (by omega) h));clear aq di;obtain⟨F,hF⟩:∃F,qZ (fun v=>zJ v n m) xo=F:=⟨_,rfl⟩;have HF:Aq (F=yL (fun v=>zJ v n m) xo 0):=by rw[xS];exact hF.symm
   rw[hF] at am aM;clear hF;go_wp2_with fail
   all_goals first | (exfalso;omega) | skip
   go_loopw [7] (fun i wr=>∃k q:Nat,k<=xo.length/\i=O U (k:Int)/\Aq (F=yL (fun v=>zJ v n m) xo k)/\wr=W1.drewN q) (fun i _=>xo.length-(Ap i).toNat)
   case atStart=>exact⟨0,_,by omega,rfl,HF,rfl⟩
   case round=>
    obtain⟨k,q,hk,rfl,av,rfl⟩:=hrel;clear HF
    by_cases ac:k<xo.length
    . obtain⟨b,o,A3,k3,rfl,hb,c3,I3⟩:=H1.out.at_ k ac
      have l3:=mh.out _ (Le ac);have AJ:=zH I3;have bh:=zH (@qq (fun v=>zJ v n m) xo k ac);have cG:=zH (@xB (fun v=>zJ v n m) xo k ac);have bk:=zH (@qR (fun v=>zJ v n m) xo k ac);have HV:=zH (fun (p:Nat)=>jQ A3 k3 xo[k] n m (by omega) (W1.drewN p) I3);obtain⟨bo,dN⟩:=Kk (qk (zD xo k) xo[k]);have cP:=zH dN;rw[dN] at cG bk;obtain⟨v,hv⟩:=Kk (xo[k]);have HX:=zH hv;rw[hv] at c3 AJ l3 bh cG bk HV;obtain⟨ev,dY⟩:=Kk (zJ v n m);rw[dY] at bh cG bk HV;obtain⟨vl,eq⟩:=Kk v.length;have lP:=zH eq;rw[eq] at c3 l3 HV;clear hv dN dY eq I3
      by_cases he:ev=0
      case neg=>
       have hR:=zH (av.out.trans (bh.out he));have HR:=zH ((am.out (by rw[hR.out];exact he)).trans hR.out);clear av cG bk bh am aM cP HX lP;have e0:(ev != 0)=Au:=by simpa using he
       clear he;go_wp2_with fail;go_quiet ((go_at_call 174;exact vi (HV.out _)));go_wp2_with fail;go_ret;exact⟨zr HR.out.symm,by repeat (first | exact eS.out | refine yv ?_ _)⟩
      case pos=>
      subst he;clear bh;go_wp2_with fail;go_quiet ((go_at_call 174;exact vi (HV.out _)));clear HV;have iZ:k<=30:=by omega
      cases k with
      | zero=>
       obtain rfl:bo=Aw:=by rw[<-cP.out];rfl
       have g0:decide ((0:Int)<0)=Aw:=by decide
       clear cP HX lP;go_wp2_with fail;go_quiet (fail);have hR:=zH (av.out.trans (bk.out (by simp) (by simp)));clear av cG bk;go_wp2_with fail
       go_roundw
       case rel=>exact⟨0+1,_,by omega,by go_num,hR,rfl⟩
       case measure=>simp[Ap];omega
      | succ j=>
       have hj:j<xo.length:=by omega
       have dt:qk (zD xo (j+1)) xo[j+1]=decide (0<=zB xo[j] xo[j+1]):=by rw[yu xo j hj];rfl
       obtain⟨b',o',Bo,tA,e',_,u0,U0⟩:=H1.out.at_ j hj
       cases e'
       have AH:=mh.out _ (Le hj);rw[HX.out] at dt;have hc:=fun (p:Nat)=>qv Bo A3 tA k3 xo[j] v (by omega) (by rw[<-HX.out];have:=mh.out _ (Le ac);omega) (W1.drewN p) U0 AJ.out
       rw[show qk (zD xo (j+1)) v=bo by have:=cP.out;rwa[HX.out] at this] at dt;obtain⟨r,hr⟩:=Kk (zB xo[j] v);rw[hr] at dt hc;have eN:=zH dt;obtain⟨nl,fN⟩:=Kk (xo[j].length);rw[fN] at u0 hc AH;rw[lP.out] at hc;have HC:=zH hc;clear dt hc hr fN U0 cP HX lP;have g1:((j:Int)+1).toNat=j+1:=by omega
       have g3:IntKind.i64.wrap ((j:Int)+1-1)=(j:Int):=by rw[Ll];omega
       have g5:IntKind.i64.wrap ((j:Int)+1)=(j:Int)+1:=by rw[Ll];omega
       have g6:decide ((0:Int)<(j:Int)+1)=Au:=Lw (by omega)
       cases bo with
       | true=>
        have g7:decide (0<=r)=Au:=eN.out.symm;have g8:0<=r:=Lx g7;clear eN;go_wp2_with fail;go_quiet ((go_at_call 175;first | exact yE (HC.out _) | exact NT (HC.out _)));clear HC g1 g3 g5 g6 u0;have hR:=zH (av.out.trans (cG.out (by simp) (by simp)));have dH:=zH ((am.out (by rw[hR.out];decide)).trans hR.out);clear av cG bk am aM;go_wp2_with fail;go_ret;exact⟨zr dH.out.symm,by repeat (first | exact eS.out | refine yv ?_ _)⟩
       | false=>
        have g7:decide (0<=r)=Aw:=eN.out.symm;have g8:¬0<=r:=Nt g7;clear eN;go_wp2_with fail;go_quiet ((go_at_call 175;first | exact yE (HC.out _) | exact NT (HC.out _)));clear HC g1 g3 g5 g6 u0;have hR:=zH (av.out.trans (bk.out (by simp) (by simp)));clear av cG bk;go_wp2_with fail
        go_roundw
        case rel=>exact⟨j+1+1,_,by omega,by go_num,hR,rfl⟩
        case measure=>simp[Ap];omega
    . obtain rfl:k=xo.length:=by omega
      have hR:=zH (av.out.trans qp);have HR:=zH (aM.out hR.out);clear av am aM hR;go_wp2_with fail;obtain⟨G,hG⟩:=Kk (qZ (qH xo) xc);have HG:Aq (G=yL (qH xo) xc 0):=by rw[xS];exact hG.symm
      rw[hG] at HR;clear hG
      go_loopw [9] (fun i wr=>∃k q:Nat,k<=xc.length/\i=O U (k:Int)/\Aq (G=yL (qH xo) xc k)/\wr=W1.drewN q) (fun i _=>xc.length-(Ap i).toNat)
      case atStart=>exact⟨0,_,by omega,rfl,HG,rfl⟩
      case round=>
       obtain⟨k,q,hk,rfl,av,rfl⟩:=hrel;clear HG
       by_cases ac:k<xc.length
       . obtain⟨b,o,A3,k3,rfl,hb,c3,I3⟩:=H2.out.at_ k ac
         have l3:=sb.out _ (Le ac);have AJ:=zH I3;have bh:=zH (@qq (qH xo) xc k ac);have cG:=zH (@xB (qH xo) xc k ac);have bk:=zH (@qR (qH xo) xc k ac);have HV:=zH (fun (p:Nat)=>QB A1 k1 xo A3 k3 xc[k] (by omega) (fun v hv=>by have:=mh.out v hv;omega) (by omega) (W1.drewN p) H1.out I3);have l8:Aq (∀v,qH xo v=if v∈xo then 0 else 6):=fun _=>rfl
         obtain⟨bo,dN⟩:=Kk (qk (zD xc k) xc[k]);have cP:=zH dN;rw[dN] at cG bk;obtain⟨v,hv⟩:=Kk (xc[k]);have HX:=zH hv;rw[hv] at c3 AJ l3 bh cG bk HV;have l8:=zH (l8.out v);obtain⟨ev,dY⟩:=Kk (qH xo v);rw[dY] at bh cG bk l8;obtain⟨vl,eq⟩:=Kk v.length;have lP:=zH eq;rw[eq] at c3 l3 HV;clear hv dN dY eq I3
         by_cases hm:v∈xo
         case neg=>
          have he:ev=6:=l8.out.trans (Lg hm);subst he;rw[Lu hm] at HV;have hR:=zH (av.out.trans (bh.out (by decide)));have dH:=zH (HR.out.trans hR.out);clear av cG bk bh hm l8 HR cP HX lP;go_wp2_with fail;go_quiet ((go_at_call 176;exact yE (HV.out _)));go_wp2_with fail;go_ret;exact⟨zr dH.out.symm,by repeat (first | exact eS.out | refine yv ?_ _)⟩
         case pos=>
         have he:ev=0:=l8.out.trans (Lj hm);subst he;rw[Lw hm] at HV;clear bh hm l8;go_wp2_with fail;go_quiet ((go_at_call 176;exact yE (HV.out _)));clear HV;have iZ:k<=30:=by omega
         cases k with
         | zero=>
          obtain rfl:bo=Aw:=by rw[<-cP.out];rfl
          have g0:decide ((0:Int)<0)=Aw:=by decide
          clear cP HX lP;go_wp2_with fail;go_quiet (fail);have hR:=zH (av.out.trans (bk.out (by simp) (by simp)));clear av cG bk;go_wp2_with fail
          go_roundw
          case rel=>exact⟨0+1,_,by omega,by go_num,hR,rfl⟩
          case measure=>simp[Ap];omega
         | succ j=>
          have hj:j<xc.length:=by omega
          have dt:qk (zD xc (j+1)) xc[j+1]=decide (0<=zB xc[j] xc[j+1]):=by rw[yu xc j hj];rfl
          obtain⟨b',o',Bo,tA,e',_,u0,U0⟩:=H2.out.at_ j hj
          cases e'
          have AH:=sb.out _ (Le hj);rw[HX.out] at dt;have hc:=fun (p:Nat)=>qv Bo A3 tA k3 xc[j] v (by omega) (by rw[<-HX.out];have:=sb.out _ (Le ac);omega) (W1.drewN p) U0 AJ.out
          rw[show qk (zD xc (j+1)) v=bo by have:=cP.out;rwa[HX.out] at this] at dt;obtain⟨r,hr⟩:=Kk (zB xc[j] v);rw[hr] at dt hc;have eN:=zH dt;obtain⟨nl,fN⟩:=Kk (xc[j].length);rw[fN] at u0 hc AH;rw[lP.out] at hc;have HC:=zH hc;clear dt hc hr fN U0 cP HX lP;have g1:((j:Int)+1).toNat=j+1:=by omega
          have g3:IntKind.i64.wrap ((j:Int)+1-1)=(j:Int):=by rw[Ll];omega
          have g5:IntKind.i64.wrap ((j:Int)+1)=(j:Int)+1:=by rw[Ll];omega
          have g6:decide ((0:Int)<(j:Int)+1)=Au:=Lw (by omega)
          cases bo with
          | true=>
           have g7:decide (0<=r)=Au:=eN.out.symm;have g8:0<=r:=Lx g7;clear eN;go_wp2_with fail;go_quiet ((go_at_call 175;first | exact yE (HC.out _) | exact NT (HC.out _)));clear HC g1 g3 g5 g6 u0;have hR:=zH (av.out.trans (cG.out (by simp) (by simp)));have dH:=zH (HR.out.trans hR.out);clear av cG bk HR;go_wp2_with fail;go_ret;exact⟨zr dH.out.symm,by repeat (first | exact eS.out | refine yv ?_ _)⟩
          | false=>
           have g7:decide (0<=r)=Aw:=eN.out.symm;have g8:¬0<=r:=Nt g7;clear eN;go_wp2_with fail;go_quiet ((go_at_call 175;first | exact yE (HC.out _) | exact NT (HC.out _)));clear HC g1 g3 g5 g6 u0;have hR:=zH (av.out.trans (bk.out (by simp) (by simp)));clear av cG bk;go_wp2_with fail
           go_roundw
           case rel=>exact⟨j+1+1,_,by omega,by go_num,hR,rfl⟩
           case measure=>simp[Ap];omega
       . obtain rfl:k=xc.length:=by omega
         have hR:=zH (av.out.trans qp);have dH:=zH (HR.out.trans hR.out);clear av HR hR;go_wp2_with fail;go_ret;exact⟨zr dH.out.symm,by repeat (first | exact eS.out | refine yv ?_ _)⟩
theorem Qy(t:Tk)(A:Bb)(kc:Nat)(hf:FewT t)(w:Ba)(hA:CAt w w.heap.size A t.cases) :
  An Al 134 #[Ai #[O U t.n,O U t.ins,O U t.outs,I A t.cases.length kc]] w fun e w'=>e=Ak (O U (xp t))/\Am w.heap.size w w':=by
 have AS:=zH (fun (i:Nat) (hi:i<t.cases.length) (w':Ba) (h:CAt w' w'.heap.size A t.cases)=>rone_any t A kc hf i hi w' h);obtain⟨iE,mD⟩:=hf;have HA:=zH hA;have aq:=zH (@gI t);have am:=zH (@ZQ t);have aM:=zH (@gJ t);obtain⟨E,hE⟩:=Kk (xp t);rw[hE] at aq am aM ⊢
 by_cases hr:t.n<1\/5<t.n\/t.ins<1\/8<t.ins\/t.outs<1\/8<t.outs
 . have HR:=zH (aq.out hr)
   obtain⟨cv,td⟩:=Kk (I A t.cases.length kc);rw[td];have HN:=zH hr;obtain⟨n,ins,outs,cases⟩:=t;dsimp only at HN ⊢;clear aq am aM td hA mD HA hE hr AS iE;go_enter func134,ntmps134;go_wp2_with fail
   all_goals first | (exfalso;have:=HN.out;omega) | (go_ret;exact⟨zr HR.out.symm,zU w _⟩)
 have r1:¬t.n<1:=by omega
 have r2:¬5<t.n:=by omega
 have r3:¬t.ins<1:=by omega
 have r4:¬8<t.ins:=by omega
 have r5:¬t.outs<1:=by omega
 have r6:¬8<t.outs:=by omega
 have am:=zH (am.out hr);have dR:=zH (aM.out hr);clear hr aq hE hA mD aM
 by_cases hz:t.cases.length<1
 . have HR:=zH (am.out hz)
   obtain⟨n,ins,outs,cases⟩:=t;dsimp only at iE r1 r2 r3 r4 r5 r6 hz ⊢;clear am dR HA AS;go_enter func134,ntmps134;go_wp2_with fail
   all_goals first | (exfalso;omega) | skip
   go_ret;exact⟨zr HR.out.symm,zU w _⟩
 have cY:¬((t.cases.length:Int)<1):=by omega
 have aM:=zH (dR.out (by omega) (by omega));clear am hz dR;have bh:=zH (fun k h=>@Zk t t.cases k h);have bk:=zH (fun k h=>@YH t t.cases k h);have VK:=zH (@Zj t t.cases);obtain⟨cg,hcg⟩:∃cg:Nat->Int,(fun k=>xC t t.cases k)=cg:=⟨_,rfl⟩;have Mn:∀k,xC t t.cases k=cg k:=fun k=>congrFun hcg k
 obtain⟨cE,hcE⟩:∃cE:(k:Nat)->k<t.cases.length->Int,(fun k h=>qM t (zD t.cases k) t.cases[k])=cE:=⟨_,rfl⟩;have Mo:∀k h,qM t (zD t.cases k) t.cases[k]=cE k h:=fun k h=>congrFun (congrFun hcE k) h
 simp only[Mn,Mo] at bh bk VK aM AS;clear hcg Mn hcE Mo;obtain⟨n,ins,outs,cs⟩:=t;dsimp only at iE r1 r2 r3 r4 r5 r6 cY HA aM AS cE bh bk VK ⊢;go_enter func134,ntmps134;go_wp2_with fail
 all_goals first | (exfalso;omega) | skip
 obtain⟨W0,eJ,b0,bL,dl⟩:∃W0,w.alloc (Ag #[O U n,O U ins,O U outs,I A cs.length kc] 24)=W0/\W0.heap[w.heap.size]?=J (Ag #[O U n,O U ins,O U outs,I A cs.length kc] 24 (0,0))/\w.heap.size+1<=W0.heap.size/\Am w.heap.size w W0:=
  ⟨_,rfl,zx _ _,by simp,zU w _⟩
 rw[eJ];have iN:=zH dl;have sG:=zH b0;clear eJ dl b0
 go_loopw [3] (fun i wr=>∃k:Nat,k<=cs.length/\i=O U (k:Int)/\Aq (E=cg k)/\Am W0.heap.size W0 wr) (fun i _=>cs.length-(Ap i).toNat)
 case atStart=>exact⟨0,by omega,rfl,aM,Li _ _⟩
 obtain⟨k,hk,rfl,av,cp⟩:=hrel;have ix:=zH (Lc iN.out cp);have HW:=zH cp;have d0:=Lb cp (by omega) sG.out;obtain⟨q0,q1,q2,q3,_⟩:=Ka d0
 by_cases ac:k<cs.length
 . have HC:=zH (fun (w':Ba) (h:CAt w' w'.heap.size A cs)=>AS.out k ac w' h)
   have bh:=zH (bh.out k ac);have bk:=zH (bk.out k ac);obtain⟨ev,dY⟩:=Kk (cE k ac);rw[dY] at HC bh bk;have HAr:=zH ((HA.out.keep ix.out).more ix.out.size);go_wp2_with fail;refine(HC.out _ HAr.out).mono ?_;rintro e w1 ⟨rfl,aQ⟩;have lj:=zH (Lc ix.out aQ);have Bn:=zH (Lc HW.out aQ);clear aQ HC
   by_cases he:ev=0
   . subst he
     have hR:=zH (av.out.trans (bk.out (by simp)));clear av bh bk;go_wp2_with fail
     go_roundw
     case rel=>exact⟨k+1,by omega,by go_num,hR,Bn.out⟩
     simp[Ap];omega
   have hR:=zH (av.out.trans (bh.out he));have e0:(ev != 0)=Au:=by simpa using he
   clear av bh bk he;go_wp2_with fail;go_ret;exact⟨zr hR.out.symm,lj.out⟩
 obtain rfl:k=cs.length:=by omega
 have HR:=zH (av.out.trans VK.out);clear av;go_wp2_with fail;go_ret;exact⟨zr HR.out.symm,ix.out⟩
def j6(t:Tk):Bool:=decide (t.cases.length<=30)&&t.cases.all fun c=>decide (c.inp.length<=10)&&j5 c.out 30&&j5 c.calm 30
theorem fewl_iff{l:List (List Int)}:j5 l 30=Au↔FewL l:=by
 unfold j5 FewL;simp
theorem Jk{t:Tk}:j6 t=Au↔FewT t:=by
 unfold j6 FewT FewC;simp only[Bool.and_eq_true,decide_eq_true_eq,List.all_eq_true,fewl_iff,and_assoc]
end
end Go.Proofs.YtkmbdfdaffmhjaaGreat
