/- Merged. -/
import Derived.WalkKit
import Derived.WalkSpells
import Derived.WalkLawsBesides
import Derived.Outline
import Derived.Below
import Derived.Laws.OwnMore
import Derived.Lib.Hide
import Derived.Deep.Draws
import Derived.Deep.AppendLies
import Derived.Test.YtkmbdfdaffmhjaaGreatRows
import Derived.ProofKit
import Derived.LaidMore
import Derived.OpenShut
import Derived.Carry
import Derived.Deep.Slices
import Derived.Deep.Fields
import Derived.ChangeSame
import Derived.Stop.Joined
import Derived.Test.YtkmbdfdaffmhjaaGreatProg
import Derived.Deep.QuietTactic
import Derived.BigQuiet
import Derived.Laws.StructEq
import Derived.Laws.BitsAllLaws
import Derived.Laws.BitsLemmas
import Derived.StillTactics
import Derived.Shelf.Small.Wraps
import Derived.Shelf.Bits.Mul64
import Derived.Shelf.Slices.Turned
import Derived.Shelf.Slices.Equal
import Derived.Ground.Names2Prog
import Derived.Shelf.Slices.Clone
import Derived.Shelf.Slices.SearchI
import Derived.Shelf.Slices.Empties2
open Go.Proofs.Tryz
open Go.Value renaming int->O,slice->I,bool->Ah,agg->Ai,pointer->Aj
open Go.IntKind renaming i64->U
open Option renaming none->Z,some->J
open Go.Obj renaming cells->Ag
open Go.Ending renaming returned->Ak
open Go.Proofs.Tryz renaming prog->Al
open Go.RowKit renaming Below->Am,intOf->Ar,Hid->As
open Go renaming Calls->An,Value->Au
open Bool renaming true->Av,false->Aw
open Go.World renaming drewN_drewN->Ri
open Go.Calls renaming quiet_of_same->RZ,quiet_of->N2
namespace Go.Proofs.YtkmbdfdaffmhjaaGreat
abbrev Bb:=Option Addr
abbrev Ba:=World
abbrev Ln:=@Array.getElem?_eq_some_iff
abbrev St:=@Go.heap_alloc_new
abbrev Nj:=@Go.RowKit.Below.heap_alloc
abbrev Ll:=@Go.RowKit.Below.refl
abbrev Ld:=@Nat.le_refl
abbrev LX:=@List.mem_append
abbrev PF:=@List.mem_cons_of_mem
abbrev Sa:=@List.mem_cons_self
abbrev PG:=@List.mem_append_left
abbrev Nk:=@List.append_nil
abbrev PJ:=@Nat.add_assoc
abbrev Ls:=@List.take_succ_eq_append_getElem
abbrev LE:=@Go.Proofs.Tryz.underlying3
abbrev PE:=@Go.Proofs.Tryz.underlying72
abbrev ND:=@Nat.add_sub_cancel
abbrev NT:=@Nat.mul_one
abbrev PW:=@if_true
abbrev PY:=@if_false
abbrev Ns:=@Bool.true_and
abbrev Ra:=@Go.run_equalIn_struct
abbrev L4:=@List.map_cons
abbrev Nd:=@List.map_nil
abbrev PA:=@and_true
abbrev NL:=@Bool.eq_iff_iff
abbrev PD:=@not_false_eq_true
abbrev Nf:=@List.all_eq_true
abbrev P4:=@List.range_succ
abbrev Sd:=@List.filter_append
abbrev Lj:=@if_pos
abbrev Lg:=@if_neg
abbrev Nt:=@Nat.pow_le_pow_right
abbrev Lp:=@Int.eq_ofNat_of_zero_le
abbrev Lz:=@List.drop_eq_getElem_cons
abbrev Nz:=@List.drop_length
abbrev RJ:=@List.drop_of_length_le
abbrev Nl:=@List.drop_zero
abbrev R6:=@Bool.false_or
abbrev R8:=@beq_iff_eq
abbrev PO:=@List.mem_range
abbrev NX:=@Go.World.size_alloc
abbrev Lw:=@decide_eq_true
abbrev Lv:=@decide_eq_false
abbrev Lh:=@List.getElem_mem
abbrev Lo:=@Go.IntKind.wrap_i64
abbrev LK:=@List.take_length
abbrev NH:=@decide_eq_true_eq
abbrev LA:=@of_decide_eq_true
abbrev NB:=@of_decide_eq_false
abbrev L8:=@Bool.and_eq_true
set_option maxRecDepth 100000
theorem zH{p:Prop}(h:p):Go.RowKit.Hid p:=h
set_option maxHeartbeats 16000000
section
open Go.RowKit
theorem Qv{p q:Prop}[Decidable p][Decidable q](h:p↔q):decide p=decide q:=by simp[h]
theorem zy{a b:Bool}(h:a=b):Ak (Ah a)=Ak (Ah b):=by rw[h]
theorem zm{k:IntKind}{a b:Int}(h:a=b):Ak (.int k a)=Ak (.int k b):=by rw[h]
structure Vw where
 p:Int
 r:Int
 i:Int
 h0:Int
 h1:Int
 h2:Int
 h3:Int
 h4:Int
deriving DecidableEq,Inhabited
def Vw.h(v:Vw):Nat->Int
 | 0=>v.h0
 | 1=>v.h1
 | 2=>v.h2
 | 3=>v.h3
 | _=>v.h4
def Vw.cells(v:Vw):Array Au:=#[O U v.p,O U v.r,O U v.i,O U v.h0,O U v.h1,O U v.h2,O U v.h3,O U v.h4]
theorem Vw.cells_h(v:Vw)(q:Nat)(hq:q<5):v.cells[3+q]?=J (O U (v.h q)):=by
 match q,hq with
 | 0,_=>rfl
 | 1,_=>rfl
 | 2,_=>rfl
 | 3,_=>rfl
 | 4,_=>rfl
def VAt(w:Ba)(B:Nat)(A:Bb)(vs:List Vw):Prop:=
 0<vs.length->∃b off,A=J ⟨b,off,Z⟩/\b<B/\∀(i:Nat) (hi:i<vs.length) (k:Nat) (u:Au),vs[i].cells[k]?=J u->w.cell? ⟨b,off+i*8+k,Z⟩=J u
theorem VAt.keep{w w':Ba}{B:Nat}{A:Bb}{vs:List Vw}(h:VAt w B A vs)(hb:Am B w w'):VAt w' B A vs:=fun h0=>by
 obtain⟨b,off,e,hlt,hc⟩:=h h0;exact⟨b,off,e,hlt,fun i hi k u hk=>(hb.cell (p:=⟨b,_,Z⟩) hlt).trans (hc i hi k u hk)⟩
theorem VAt.more{w:Ba}{B B':Nat}{A:Bb}{vs:List Vw}(h:VAt w B A vs)(hB:B<=B'):VAt w B' A vs:=fun h0=>by
 obtain⟨b,off,e,hlt,hc⟩:=h h0;exact⟨b,off,e,by omega,hc⟩
theorem VAt.row{w:Ba}{B:Nat}{A:Bb}{vs:List Vw}(h:VAt w B A vs)(k:Nat)(hk:k<vs.length) :
  ∃b off,A=J ⟨b,off,Z⟩/\b<B/\w.cell? ⟨b,off+k*8,Z⟩=J (O U vs[k].p)/\w.cell? ⟨b,off+k*8+1,Z⟩=J (O U vs[k].r) /\
   w.cell? ⟨b,off+k*8+2,Z⟩=J (O U vs[k].i)/\w.cell? ⟨b,off+k*8+3,Z⟩=J (O U vs[k].h0)/\w.cell? ⟨b,off+k*8+4,Z⟩=J (O U vs[k].h1) /\
   w.cell? ⟨b,off+k*8+5,Z⟩=J (O U vs[k].h2)/\w.cell? ⟨b,off+k*8+6,Z⟩=J (O U vs[k].h3)/\w.cell? ⟨b,off+k*8+7,Z⟩=J (O U vs[k].h4):=by
 obtain⟨b,off,e,hlt,hc⟩:=h (by omega);exact⟨b,off,e,hlt,hc k hk 0 _ rfl,hc k hk 1 _ rfl,hc k hk 2 _ rfl,hc k hk 3 _ rfl,hc k hk 4 _ rfl,hc k hk 5 _ rfl,hc k hk 6 _ rfl,hc k hk 7 _ rfl⟩
def IAt(w:Ba)(B:Nat)(A:Bb)(xs:List Int):Prop:=
 0<xs.length->∃b off,A=J ⟨b,off,Z⟩/\b<B/\∀(i:Nat) (hi:i<xs.length),w.cell? ⟨b,off+i,Z⟩=J (O U xs[i])
theorem IAt.keep{w w':Ba}{B:Nat}{A:Bb}{xs:List Int}(h:IAt w B A xs)(hb:Am B w w'):IAt w' B A xs:=fun h0=>by
 obtain⟨b,off,e,hlt,hc⟩:=h h0;exact⟨b,off,e,hlt,fun i hi=>(hb.cell (p:=⟨b,_,Z⟩) hlt).trans (hc i hi)⟩
theorem IAt.more{w:Ba}{B B':Nat}{A:Bb}{xs:List Int}(h:IAt w B A xs)(hB:B<=B'):IAt w B' A xs:=fun h0=>by
 obtain⟨b,off,e,hlt,hc⟩:=h h0;exact⟨b,off,e,by omega,hc⟩
theorem IAt.at_{w:Ba}{B:Nat}{A:Bb}{xs:List Int}(h:IAt w B A xs)(k:Nat)(hk:k<xs.length):∃b off,A=J ⟨b,off,Z⟩/\b<B/\w.cell? ⟨b,off+k,Z⟩=J (O U xs[k]):=by
 obtain⟨b,off,e,hlt,hc⟩:=h (by omega);exact⟨b,off,e,hlt,hc k hk⟩
theorem IAt.nil(w:Ba)(B:Nat)(A:Bb):IAt w B A []:=fun h=>absurd h (by simp)
theorem IAt.of_own{w:Ba}{base:Nat}{e:TypeId}{A:Bb}{n c:Nat}{xs:List Int}(h:w.ownsRow base e 1 (I A n c) n (xs.map (O U))):IAt w w.heap.size A xs:=fun h0=>by
 have hn:xs.length=n:=by simpa using h.1
 obtain⟨g,cap,hv,_,hlt⟩:=h.form (by omega);have hA:A=J ⟨g,0,Z⟩:=by injection hv
 subst hA;refine⟨g,0,rfl,hlt,fun i hi=>?_⟩;have:=h.cells (g:=g) rfl i (O U xs[i]) (by simp[hi]);rw[show(⟨g,0,Z⟩:Addr).add i=⟨g,0+i,Z⟩ from by unfold Addr.add;split<;>simp_all] at this;exact this
theorem zh{w:Ba}{g:Nat}{t:TypeId}{cs:Array Au}(h:w.heap[g]?=J (Ag cs t (0,0)))(i:Nat){u:Au}(hu:cs[i]?=J u):w.cell? ⟨g,i,Z⟩=J u:=by
 rw[cell_of_row w g i cs t (0,0) h];exact hu
theorem Ka{w:Ba}{b:Nat}{v0 v1 v2 v3:Au}{l:List Au}{t:TypeId}(h:w.heap[b]?=J (Ag ⟨v0::v1::v2::v3::l⟩ t (0,0))):w.cell? ⟨b,0,Z⟩=J v0/\w.cell? ⟨b,1,Z⟩=J v1/\w.cell? ⟨b,2,Z⟩=J v2/\w.cell? ⟨b,3,Z⟩=J v3/\True:=⟨zh h 0 rfl,zh h 1 rfl,zh h 2 rfl,zh h 3 rfl,trivial⟩
theorem Kb{w:Ba}{b:Nat}{v0 v1 v2:Au}{l:List Au}{t:TypeId}(h:w.heap[b]?=J (Ag ⟨v0::v1::v2::l⟩ t (0,0))):w.cell? ⟨b,0,Z⟩=J v0/\w.cell? ⟨b,1,Z⟩=J v1/\w.cell? ⟨b,2,Z⟩=J v2/\True:=⟨zh h 0 rfl,zh h 1 rfl,zh h 2 rfl,trivial⟩
theorem Ke{w:Ba}{b:Nat}{v0 v1:Au}{l:List Au}{t:TypeId}(h:w.heap[b]?=J (Ag ⟨v0::v1::l⟩ t (0,0))):w.cell? ⟨b,0,Z⟩=J v0/\w.cell? ⟨b,1,Z⟩=J v1/\True:=⟨zh h 0 rfl,zh h 1 rfl,trivial⟩
theorem Kf{w:Ba}{b:Nat}{v0 v1 v2 v3 v4 v5 v6 v7:Au}{l:List Au}{t:TypeId}(h:w.heap[b]?=J (Ag ⟨v0::v1::v2::v3::v4::v5::v6::v7::l⟩ t (0,0))):w.cell? ⟨b,0,Z⟩=J v0/\w.cell? ⟨b,1,Z⟩=J v1/\w.cell? ⟨b,2,Z⟩=J v2/\w.cell? ⟨b,3,Z⟩=J v3/\w.cell? ⟨b,4,Z⟩=J v4/\w.cell? ⟨b,5,Z⟩=J v5/\w.cell? ⟨b,6,Z⟩=J v6/\w.cell? ⟨b,7,Z⟩=J v7/\True:=⟨zh h 0 rfl,zh h 1 rfl,zh h 2 rfl,zh h 3 rfl,zh h 4 rfl,zh h 5 rfl,zh h 6 rfl,zh h 7 rfl,trivial⟩
theorem Kg{w:Ba}{b:Nat}{v0 v1 v2 v3 v4 v5 v6:Au}{l:List Au}{t:TypeId}(h:w.heap[b]?=J (Ag ⟨v0::v1::v2::v3::v4::v5::v6::l⟩ t (0,0))):w.cell? ⟨b,0,Z⟩=J v0/\w.cell? ⟨b,1,Z⟩=J v1/\w.cell? ⟨b,2,Z⟩=J v2/\w.cell? ⟨b,3,Z⟩=J v3/\w.cell? ⟨b,4,Z⟩=J v4/\w.cell? ⟨b,5,Z⟩=J v5/\w.cell? ⟨b,6,Z⟩=J v6/\True:=⟨zh h 0 rfl,zh h 1 rfl,zh h 2 rfl,zh h 3 rfl,zh h 4 rfl,zh h 5 rfl,zh h 6 rfl,trivial⟩
theorem Kh{w:Ba}{b:Nat}{v0 v1 v2 v3 v4:Au}{l:List Au}{t:TypeId}(h:w.heap[b]?=J (Ag ⟨v0::v1::v2::v3::v4::l⟩ t (0,0))):w.cell? ⟨b,0,Z⟩=J v0/\w.cell? ⟨b,1,Z⟩=J v1/\w.cell? ⟨b,2,Z⟩=J v2/\w.cell? ⟨b,3,Z⟩=J v3/\w.cell? ⟨b,4,Z⟩=J v4/\True:=⟨zh h 0 rfl,zh h 1 rfl,zh h 2 rfl,zh h 3 rfl,zh h 4 rfl,trivial⟩
theorem Ki{w:Ba}{b:Nat}{v0 v1 v2 v3 v4 v5:Au}{l:List Au}{t:TypeId}(h:w.heap[b]?=J (Ag ⟨v0::v1::v2::v3::v4::v5::l⟩ t (0,0))):w.cell? ⟨b,0,Z⟩=J v0/\w.cell? ⟨b,1,Z⟩=J v1/\w.cell? ⟨b,2,Z⟩=J v2/\w.cell? ⟨b,3,Z⟩=J v3/\w.cell? ⟨b,4,Z⟩=J v4/\w.cell? ⟨b,5,Z⟩=J v5/\True:=⟨zh h 0 rfl,zh h 1 rfl,zh h 2 rfl,zh h 3 rfl,zh h 4 rfl,zh h 5 rfl,trivial⟩
theorem Kj{α:Sort _}(a:α):∃u,a=u:=⟨_,rfl⟩
theorem zM{w:Ba}{b:Nat}{v0 v1 v2 v3 v4 v5 v6 v7 v8 v9:Au}{l:List Au}{t:TypeId}(h:w.heap[b]?=J (Ag ⟨v0::v1::v2::v3::v4::v5::v6::v7::v8::v9::l⟩ t (0,0))):w.cell? ⟨b,0,Z⟩=J v0/\w.cell? ⟨b,1,Z⟩=J v1/\w.cell? ⟨b,2,Z⟩=J v2/\w.cell? ⟨b,3,Z⟩=J v3/\w.cell? ⟨b,4,Z⟩=J v4/\w.cell? ⟨b,5,Z⟩=J v5/\w.cell? ⟨b,6,Z⟩=J v6/\w.cell? ⟨b,7,Z⟩=J v7/\w.cell? ⟨b,8,Z⟩=J v8/\w.cell? ⟨b,9,Z⟩=J v9:=
 ⟨zh h 0 rfl,zh h 1 rfl,zh h 2 rfl,zh h 3 rfl,zh h 4 rfl,zh h 5 rfl,zh h 6 rfl,zh h 7 rfl,zh h 8 rfl,zh h 9 rfl⟩
theorem zi{w:Ba}{g:Nat}{t:TypeId}{cs:Array Au}(h:w.heap[g]?=J (Ag cs t (0,0)))(i:Nat):w.frozen? ⟨g,i,Z⟩=Aw:=by
 simp[World.frozen?,h]
theorem zj{w:Ba}{g:Nat}{o:Obj}(h:w.heap[g]?=J o):g<w.heap.size:=(Ln.1 h).1
theorem La{w w':Ba}{k:Nat}{o:Obj}(h:Am w.heap.size w w')(e:w.heap[k]?=J o):w'.heap[k]?=J o:=(h.block _ (zj e)).trans e
theorem Lb{n k:Nat}{w w':Ba}{x:Option Obj}(h:Am n w w')(o:k<n)(e:w.heap[k]?=x):w'.heap[k]?=x:=(h.block _ o).trans e
theorem Lc{w w1 w2:Ba}(h:Am w.heap.size w w1)(g:Am w1.heap.size w1 w2):Am w.heap.size w w2:=h.trans (g.mono h.size)
theorem zx(w:Ba)(o:Obj):(w.alloc o).heap[w.heap.size]?=J o:=St w o
theorem yD{w:Ba}{g:Nat}{o:Obj}(h:w.heap[g]?=J o)(o':Obj):(w.alloc o').heap[g]?=J o:=(Nj w o' g (zj h)).trans h
theorem XO{w w':Ba}{g B:Nat}{o:Obj}(h:w.heap[g]?=J o)(hb:Am B w w')(hg:g<B):w'.heap[g]?=J o:=(hb.block g hg).trans h
theorem zW(w:Ba)(a:Obj):Am w.heap.size w (w.alloc a):=(Ll _ _).alloc (Ld _) _
theorem uj(w:Ba)(a b:Obj):Am w.heap.size w ((w.alloc a).alloc b):=(zW w a).alloc (by simp) _
theorem bel3(w:Ba)(a b c:Obj):Am w.heap.size w (((w.alloc a).alloc b).alloc c):=(uj w a b).alloc (by simp;omega) _
theorem JR{B:Nat}{w w':Ba}(h:Am B w.drew w'):Am B w w':=⟨h.os,h.tape,h.output,h.size,h.block⟩
theorem belD{B:Nat}{w w':Ba}{n:Nat}(h:Am B (w.drewN n) w'):Am B w w':=⟨h.os,h.tape,h.output,h.size,h.block⟩
theorem yy{B:Nat}{a w:Ba}(h:Am B a w)(n:Nat):Am B a (w.drewN n):=⟨h.os,h.tape,h.output,h.size,h.block⟩
end
section
open Go.ChangeShapes Go.WideShapes Go.ChangeAt Go.RowKit Go.Deep
section
variable {H:Type} {enc:TypeId×Au->H} {P:Program}
theorem post_below{f:Func}{s:ChangeSpec}{apart fresh CW OT:Bool}{W W':Ba}{args:Array Au}{v:Au}{ds gs:List (DataW H)}{before pa pv:List MemPlace}
  (hW:DataW.Whole enc P f.params.toList s.vars apart W args.toList ds gs before)
  (bJ:∀(b:Nat) (sp:Nat->Bool) (hd:Bool),DataW.TrodAll enc P W' b sp hd f.resultTypes.toList (v.resultList f.resultTypes.size) (s.fn H (ds++gs)).results [])
  (oU:∀sp:Nat->Bool,(∀p∈before,sp p.block=Av)->DataW.TrodAll enc P W' 0 sp Av f.params.toList args.toList (s.fn H (ds++gs)).args pa)
  (mW:∀sp:Nat->Bool,(∀p∈before,sp p.block=Av)->DataW.TrodVars enc P W' sp s.vars (s.fn H (ds++gs)).vars pv)
  (cI:before=pa++pv) (hb:Am W.heap.size W W')
  (dJ:∀(j:Nat) (t:TypeId) (r:Au),f.resultTypes[j]?=J t->(v.resultList f.resultTypes.size)[j]?=J r->Value.okWide P W' .any 0 t r) :
  s.post enc P f apart fresh CW OT W args v W':=by
 have hlt:∀p∈before,p.block<W.heap.size:=fun p hp=>hW.lt p hp
 have hold:∀p∈before,(fun b=>decide (b<W.heap.size)) p.block=Av:=fun p hp=>by simpa using hlt p hp
 refine⟨ds,gs,before,[],pa,pv,hW,bJ _ _ _,oU _ hold,mW _ hold,World.keptBut_mono (fun p hp=>⟨hp,?_⟩) (hb.frame (·∈before)),fun _=>?_⟩
 . rw[cI,LX] at hp
   exact Or.inr hp
 obtain⟨_,_,_,_,_,hz,hn⟩:=hW;refine⟨dJ,_,_,([]++pa)++pv,⟨[]++pa,pv,trodAll_append (oU _ (fun _ _=>rfl)) (bJ _ _ _),mW _ (fun _ _=>rfl),rfl,?_,?_⟩,?_⟩
 . intro b off hp
   have cx:MemPlace.cell b off∈before:=by rw[cI];simpa using hp
   rw[hb.frozen (hlt _ cx)];exact hz b off cx
 . intro ha
   have:=hn ha;rw[cI] at this;simpa using this
 intro p hp _;rw[cI];simpa using hp
theorem vJ(hl:laidOutB P=Av){W W':Ba}{sp:Nat->Bool}(hb:Am W.heap.size W W') :
  ∀ {ts:List TypeId} {vs:List Au} {ds:List (DataW H)} {ps:List MemPlace},(∀t∈ts,P.readableRec t=Av/\t<P.types.size)->DataW.TrodAll enc P W 0 (fun _=>Av) Av ts vs ds ps ->
   (∀x∈ps,x.block<W.heap.size)->(∀x∈ps,sp x.block=Av)->DataW.TrodAll enc P W' 0 sp Av ts vs ds ps
 | [],[],[],_,_,h,_,_=>h
 | _::_,_::_,_::_,_,hT,⟨p,q,h1,h2,e⟩,hlt,hs=>by
  subst e;refine⟨p,q,?_,vJ hl hb (fun t ht=>hT t (PF _ ht)) h2 (fun x hx=>hlt x (List.mem_append_right _ hx)) (fun x hx=>hs x (List.mem_append_right _ hx)),rfl⟩;have hh:=hT _ (Sa ..);exact WideElems.Trod_stays hl hh.1 hh.2 h1 (fun x hx=>hb.same (hlt x (PG _ hx))) (fun x hx=>hs x (PG _ hx))
theorem law_lifted{C:Checked}{os:Os}{f:FuncId}{fn:Func}{s:ChangeSpec}{X:Ba->Array Au->Prop}{tb:TypeId}(fI:os.Started)
  (hX:∀(w w':Ba) (args:Array Au),w.heap=w'.heap->X w args->X w' args) (own:ownKnob C.prog.godebug=Z) (EU:C.prog.inits.idxOf? f=Z) (hfn:C.prog.funcs[f]?=J fn)
  (Ch:∃(w:Ba) (tape:Tape) (i:Input),w.os=os/\(w.forCall tape i).Shaped C.prog/\i.vars=[]/\Input.okWide C.prog (w.forCall tape i) .any w.heap.size f i /\
   ((s.pre enc C.prog fn [] Aw (w.forCall tape i).memory i.args/\X (w.forCall tape i).memory i.args)/\sizedMet enc C.prog fn (OpenSpec.ofChange s) Aw (w.forCall tape i).memory i.args)/\({}:Assume).holds C.prog (lone (Frame.enter C.prog f i.args .normal) [] (w.forCall tape i)))
  (bJ:fn.resultTypes=#[tb]) (Ed:C.prog.underlying tb=J .bool) (hl:laidOutB C.prog=Av) (L5:∀t∈fn.params.toList,C.prog.readableRec t=Av/\t<C.prog.types.size) (mW:s.vars=[])
  (hs:∀ds:List (DataW H),ds.length=fn.params.size->s.fn H ds={ results:=[.lit (.bool Av)],args:=ds })
  (walk:∀(W:Ba) (base:Nat) (args:Array Au) (ds:List (DataW H)) (ps:List MemPlace),(∀(j:Nat) t v,fn.params[j]?=J t->args[j]?=J v->Value.okWide C.prog W .any base t v) ->
   DataW.TrodAll enc C.prog W 0 (fun _=>Av) Av fn.params.toList args.toList ds ps->(DataW.weightsEach C.prog fn.params.toList ds).all (·<=reachBytes)=Av->(∀x∈ps,x.block<W.heap.size)->X W args ->
   An C.prog f args W fun e W'=>e=Ak (Ah Av)/\Am W.heap.size W W') :
  ReturnsInHanded {} C os f .any (fun w args=>(s.pre enc C.prog fn [] Aw w args/\X w args)/\sizedMet enc C.prog fn (OpenSpec.ofChange s) Aw w args) (s.post enc C.prog fn Aw Av Aw Aw):=by
 refine returnsInHanded_of_change_and (C:=C) (X:=X) hX own fI EU hfn Ch ?_;intro W base args ds gs before KR hW _ aP hL _;have td:=hW;obtain⟨p,q,Gj,hV,Tz,hfz,hnd⟩:=hW;have hA:DataW.TrodAll enc C.prog W 0 (fun _=>Av) Av fn.params.toList args.toList ds p:=Gj
 have CM:gs=[]/\q=[]:=by
  rw[mW] at hV;exact trodVars_none hV
 obtain⟨rfl,rfl⟩:=CM
 have ay:∀ {ts:List TypeId} {vs:List Au} {ds:List (DataW H)} {ps:List MemPlace},DataW.TrodAll enc C.prog W 0 (fun _=>Av) Av ts vs ds ps->ds.length=ts.length:=by
  intro ts
  induction ts with
  | nil=>intro vs ds ps h;obtain⟨_,rfl,_⟩:=trodAll_nil h;rfl
  | cons t ts ih=>intro vs ds ps h;obtain⟨_,_,_,_,_,_,_,rfl,_,_,h2⟩:=trodAll_cons h;simp[ih h2]
 have WP:ds.length=fn.params.size:=by rw[ay hA];simp
 have my:before=p:=by rw[Tz,Nk]
 subst my;have hlt:∀x∈before,x.block<W.heap.size:=fun x hx=>td.lt x hx
 have tF:(DataW.weightsEach C.prog fn.params.toList ds).all (·<=reachBytes)=Av:=by
  have e:s.plain.varTypes C.prog=[]:=by simp[ChangeSpec.plain,DataSpec.varTypes,mW]
  rw[e,Nk,Nk] at aP;exact aP
 refine(walk W base args ds before KR hA tF hlt hL).mono fun e W' ⟨he,hb⟩=>?_
 subst he;refine⟨_,rfl,post_below (pa:=before) (pv:=[]) td ?_ ?_ ?_ (by rw[Nk]) hb ?_⟩
 . intro b sp hd
   rw[Nk,hs ds WP,bJ];exact trodAll_mk1 (shut_bool Ed _)
 . intro sp hsp
   rw[Nk,hs ds WP];exact vJ hl hb L5 hA hlt hsp
 . intro sp hsp
   rw[Nk,hs ds WP,mW]
   rfl
 exact ok_one bJ rfl (okWide_bool_mk Ed _)
end
theorem xe:Al.cellsOf 3=1:=by kernel_rfl
theorem cells5:Al.cellsOf 72=5:=by kernel_rfl
theorem lawLaidOut:laidOutB Al=Av:=by kernel_rfl
theorem lawOwn:ownKnob Al.godebug=Z:=by kernel_rfl
end
section
open Go.RowKit
structure Rd where
 n:Int
 h0:Int
 h1:Int
 h2:Int
 h3:Int
 h4:Int
 f:Int
deriving DecidableEq,Inhabited
def Rd.h(r:Rd):Nat->Int
 | 0=>r.h0
 | 1=>r.h1
 | 2=>r.h2
 | 3=>r.h3
 | _=>r.h4
def Rd.cells(r:Rd):Array Au:=#[O U r.n,O U r.h0,O U r.h1,O U r.h2,O U r.h3,O U r.h4,O U r.f]
structure Mv where
 r:Rd
 to:Int
deriving DecidableEq,Inhabited
def Mv.cells(m:Mv):Array Au:=#[O U m.r.n,O U m.r.h0,O U m.r.h1,O U m.r.h2,O U m.r.h3,O U m.r.h4,O U m.r.f,O U m.to]
structure Cs where
 inp:List Int
 out:List (List Int)
 calm:List (List Int)
deriving DecidableEq,Inhabited
structure Tk where
 n:Int
 ins:Int
 outs:Int
 cases:List Cs
deriving DecidableEq,Inhabited
structure Ad where
 n:Int
 sts:List (List Mv)
deriving DecidableEq,Inhabited
structure Pb where
 t:Tk
 a:Ad
 k:Int
deriving DecidableEq,Inhabited
structure Exn where
 c:Int
 word:List Rd
 views:List (List Int)
deriving DecidableEq,Inhabited
structure Sy where
 p:Pb
 n:Int
 vs:List Vw
 xs:List Exn
deriving DecidableEq,Inhabited
section
variable {w w':Ba} {B B':Nat} {A:Bb}
def LAt(w:Ba)(B:Nat)(A:Bb)(xss:List (List Int)):Prop:=
 0<xss.length->∃b off,A=J ⟨b,off,Z⟩/\b<B/\∀(i:Nat) (hi:i<xss.length),∃A' c,w.cell? ⟨b,off+i,Z⟩=J (I A' xss[i].length c)/\IAt w B A' xss[i]
theorem LAt.keep{xss:List (List Int)}(h:LAt w B A xss)(hb:Am B w w'):LAt w' B A xss:=fun h0=>by
 obtain⟨b,off,e,hlt,hc⟩:=h h0;refine⟨b,off,e,hlt,fun i hi=>?_⟩;obtain⟨A',c,h1,h2⟩:=hc i hi;exact⟨A',c,(hb.cell (p:=⟨b,_,Z⟩) hlt).trans h1,h2.keep hb⟩
theorem LAt.more{xss:List (List Int)}(h:LAt w B A xss)(hB:B<=B'):LAt w B' A xss:=fun h0=>by
 obtain⟨b,off,e,hlt,hc⟩:=h h0;refine⟨b,off,e,by omega,fun i hi=>?_⟩;obtain⟨A',c,h1,h2⟩:=hc i hi;exact⟨A',c,h1,h2.more hB⟩
theorem LAt.at_{xss:List (List Int)}(h:LAt w B A xss)(i:Nat)(hi:i<xss.length):∃b off A' c,A=J ⟨b,off,Z⟩/\b<B/\w.cell? ⟨b,off+i,Z⟩=J (I A' xss[i].length c)/\IAt w B A' xss[i]:=by
 obtain⟨b,off,e,hlt,hc⟩:=h (by omega);obtain⟨A',c,h1,h2⟩:=hc i hi;exact⟨b,off,A',c,e,hlt,h1,h2⟩
theorem LAt.nil(w:Ba)(B:Nat)(A:Bb):LAt w B A []:=fun h=>absurd h (by simp)
def RAt(w:Ba)(B:Nat)(A:Bb)(rs:List Rd):Prop:=
 0<rs.length->∃b off,A=J ⟨b,off,Z⟩/\b<B/\∀(i:Nat) (hi:i<rs.length) (k:Nat) (u:Au),rs[i].cells[k]?=J u->w.cell? ⟨b,off+i*7+k,Z⟩=J u
theorem RAt.keep{rs:List Rd}(h:RAt w B A rs)(hb:Am B w w'):RAt w' B A rs:=fun h0=>by
 obtain⟨b,off,e,hlt,hc⟩:=h h0;exact⟨b,off,e,hlt,fun i hi k u hk=>(hb.cell (p:=⟨b,_,Z⟩) hlt).trans (hc i hi k u hk)⟩
theorem RAt.more{rs:List Rd}(h:RAt w B A rs)(hB:B<=B'):RAt w B' A rs:=fun h0=>by
 obtain⟨b,off,e,hlt,hc⟩:=h h0;exact⟨b,off,e,by omega,hc⟩
theorem RAt.row{rs:List Rd}(h:RAt w B A rs)(k:Nat)(hk:k<rs.length) :
  ∃b off,A=J ⟨b,off,Z⟩/\b<B/\w.cell? ⟨b,off+k*7,Z⟩=J (O U rs[k].n)/\w.cell? ⟨b,off+k*7+1,Z⟩=J (O U rs[k].h0) /\
   w.cell? ⟨b,off+k*7+2,Z⟩=J (O U rs[k].h1)/\w.cell? ⟨b,off+k*7+3,Z⟩=J (O U rs[k].h2)/\w.cell? ⟨b,off+k*7+4,Z⟩=J (O U rs[k].h3) /\
   w.cell? ⟨b,off+k*7+5,Z⟩=J (O U rs[k].h4)/\w.cell? ⟨b,off+k*7+6,Z⟩=J (O U rs[k].f):=by
 obtain⟨b,off,e,hlt,hc⟩:=h (by omega);exact⟨b,off,e,hlt,hc k hk 0 _ rfl,hc k hk 1 _ rfl,hc k hk 2 _ rfl,hc k hk 3 _ rfl,hc k hk 4 _ rfl,hc k hk 5 _ rfl,hc k hk 6 _ rfl⟩
def MAt(w:Ba)(B:Nat)(A:Bb)(ms:List Mv):Prop:=
 0<ms.length->∃b off,A=J ⟨b,off,Z⟩/\b<B/\∀(i:Nat) (hi:i<ms.length) (k:Nat) (u:Au),ms[i].cells[k]?=J u->w.cell? ⟨b,off+i*8+k,Z⟩=J u
theorem MAt.keep{ms:List Mv}(h:MAt w B A ms)(hb:Am B w w'):MAt w' B A ms:=fun h0=>by
 obtain⟨b,off,e,hlt,hc⟩:=h h0;exact⟨b,off,e,hlt,fun i hi k u hk=>(hb.cell (p:=⟨b,_,Z⟩) hlt).trans (hc i hi k u hk)⟩
theorem MAt.more{ms:List Mv}(h:MAt w B A ms)(hB:B<=B'):MAt w B' A ms:=fun h0=>by
 obtain⟨b,off,e,hlt,hc⟩:=h h0;exact⟨b,off,e,by omega,hc⟩
theorem MAt.row{ms:List Mv}(h:MAt w B A ms)(k:Nat)(hk:k<ms.length) :
  ∃b off,A=J ⟨b,off,Z⟩/\b<B/\w.cell? ⟨b,off+k*8,Z⟩=J (O U ms[k].r.n)/\w.cell? ⟨b,off+k*8+1,Z⟩=J (O U ms[k].r.h0) /\
   w.cell? ⟨b,off+k*8+2,Z⟩=J (O U ms[k].r.h1)/\w.cell? ⟨b,off+k*8+3,Z⟩=J (O U ms[k].r.h2)/\w.cell? ⟨b,off+k*8+4,Z⟩=J (O U ms[k].r.h3) /\
   w.cell? ⟨b,off+k*8+5,Z⟩=J (O U ms[k].r.h4)/\w.cell? ⟨b,off+k*8+6,Z⟩=J (O U ms[k].r.f)/\w.cell? ⟨b,off+k*8+7,Z⟩=J (O U ms[k].to):=by
 obtain⟨b,off,e,hlt,hc⟩:=h (by omega);exact⟨b,off,e,hlt,hc k hk 0 _ rfl,hc k hk 1 _ rfl,hc k hk 2 _ rfl,hc k hk 3 _ rfl,hc k hk 4 _ rfl,hc k hk 5 _ rfl,hc k hk 6 _ rfl,hc k hk 7 _ rfl⟩
def SAt(w:Ba)(B:Nat)(A:Bb)(xss:List (List Mv)):Prop:=
 0<xss.length->∃b off,A=J ⟨b,off,Z⟩/\b<B/\∀(i:Nat) (hi:i<xss.length),∃A' c,w.cell? ⟨b,off+i,Z⟩=J (I A' xss[i].length c)/\MAt w B A' xss[i]
theorem SAt.keep{xss:List (List Mv)}(h:SAt w B A xss)(hb:Am B w w'):SAt w' B A xss:=fun h0=>by
 obtain⟨b,off,e,hlt,hc⟩:=h h0;refine⟨b,off,e,hlt,fun i hi=>?_⟩;obtain⟨A',c,h1,h2⟩:=hc i hi;exact⟨A',c,(hb.cell (p:=⟨b,_,Z⟩) hlt).trans h1,h2.keep hb⟩
theorem SAt.more{xss:List (List Mv)}(h:SAt w B A xss)(hB:B<=B'):SAt w B' A xss:=fun h0=>by
 obtain⟨b,off,e,hlt,hc⟩:=h h0;refine⟨b,off,e,by omega,fun i hi=>?_⟩;obtain⟨A',c,h1,h2⟩:=hc i hi;exact⟨A',c,h1,h2.more hB⟩
theorem SAt.at_{xss:List (List Mv)}(h:SAt w B A xss)(i:Nat)(hi:i<xss.length):∃b off A' c,A=J ⟨b,off,Z⟩/\b<B/\w.cell? ⟨b,off+i,Z⟩=J (I A' xss[i].length c)/\MAt w B A' xss[i]:=by
 obtain⟨b,off,e,hlt,hc⟩:=h (by omega);obtain⟨A',c,h1,h2⟩:=hc i hi;exact⟨b,off,A',c,e,hlt,h1,h2⟩
theorem SAt.nil(w:Ba)(B:Nat)(A:Bb):SAt w B A []:=fun h=>absurd h (by simp)
def WAt(w:Ba)(B:Nat)(A:Bb)(xss:List (List Rd)):Prop:=
 0<xss.length->∃b off,A=J ⟨b,off,Z⟩/\b<B/\∀(i:Nat) (hi:i<xss.length),∃A' c,w.cell? ⟨b,off+i,Z⟩=J (I A' xss[i].length c)/\RAt w B A' xss[i]
theorem WAt.keep{xss:List (List Rd)}(h:WAt w B A xss)(hb:Am B w w'):WAt w' B A xss:=fun h0=>by
 obtain⟨b,off,e,hlt,hc⟩:=h h0;refine⟨b,off,e,hlt,fun i hi=>?_⟩;obtain⟨A',c,h1,h2⟩:=hc i hi;exact⟨A',c,(hb.cell (p:=⟨b,_,Z⟩) hlt).trans h1,h2.keep hb⟩
theorem WAt.more{xss:List (List Rd)}(h:WAt w B A xss)(hB:B<=B'):WAt w B' A xss:=fun h0=>by
 obtain⟨b,off,e,hlt,hc⟩:=h h0;refine⟨b,off,e,by omega,fun i hi=>?_⟩;obtain⟨A',c,h1,h2⟩:=hc i hi;exact⟨A',c,h1,h2.more hB⟩
theorem WAt.at_{xss:List (List Rd)}(h:WAt w B A xss)(i:Nat)(hi:i<xss.length):∃b off A' c,A=J ⟨b,off,Z⟩/\b<B/\w.cell? ⟨b,off+i,Z⟩=J (I A' xss[i].length c)/\RAt w B A' xss[i]:=by
 obtain⟨b,off,e,hlt,hc⟩:=h (by omega);obtain⟨A',c,h1,h2⟩:=hc i hi;exact⟨b,off,A',c,e,hlt,h1,h2⟩
def CsV(w:Ba)(B:Nat)(v0 v1 v2:Au)(x:Cs):Prop:=
 (∃A c,v0=I A x.inp.length c/\IAt w B A x.inp)/\(∃A c,v1=I A x.out.length c/\LAt w B A x.out)/\(∃A c,v2=I A x.calm.length c/\LAt w B A x.calm)
theorem CsV.keep{v0 v1 v2:Au}{x:Cs}(h:CsV w B v0 v1 v2 x)(hb:Am B w w'):CsV w' B v0 v1 v2 x:=by
 obtain⟨⟨A,c,e,h1⟩,⟨A2,c2,e2,h2⟩,⟨A3,c3,e3,h3⟩⟩:=h;exact⟨⟨A,c,e,h1.keep hb⟩,⟨A2,c2,e2,h2.keep hb⟩,⟨A3,c3,e3,h3.keep hb⟩⟩
theorem CsV.more{v0 v1 v2:Au}{x:Cs}(h:CsV w B v0 v1 v2 x)(hB:B<=B'):CsV w B' v0 v1 v2 x:=by
 obtain⟨⟨A,c,e,h1⟩,⟨A2,c2,e2,h2⟩,⟨A3,c3,e3,h3⟩⟩:=h;exact⟨⟨A,c,e,h1.more hB⟩,⟨A2,c2,e2,h2.more hB⟩,⟨A3,c3,e3,h3.more hB⟩⟩
def CAt(w:Ba)(B:Nat)(A:Bb)(cs:List Cs):Prop:=
 0<cs.length->∃b off,A=J ⟨b,off,Z⟩/\b<B/\∀(i:Nat) (hi:i<cs.length),∃v0 v1 v2,w.cell? ⟨b,off+i*3,Z⟩=J v0/\w.cell? ⟨b,off+i*3+1,Z⟩=J v1/\w.cell? ⟨b,off+i*3+2,Z⟩=J v2/\CsV w B v0 v1 v2 cs[i]
theorem CAt.keep{cs:List Cs}(h:CAt w B A cs)(hb:Am B w w'):CAt w' B A cs:=fun h0=>by
 obtain⟨b,off,e,hlt,hc⟩:=h h0;refine⟨b,off,e,hlt,fun i hi=>?_⟩;obtain⟨v0,v1,v2,c0,c1,c2,hv⟩:=hc i hi;exact⟨v0,v1,v2,(hb.cell (p:=⟨b,_,Z⟩) hlt).trans c0,(hb.cell (p:=⟨b,_,Z⟩) hlt).trans c1,(hb.cell (p:=⟨b,_,Z⟩) hlt).trans c2,hv.keep hb⟩
theorem CAt.more{cs:List Cs}(h:CAt w B A cs)(hB:B<=B'):CAt w B' A cs:=fun h0=>by
 obtain⟨b,off,e,hlt,hc⟩:=h h0;refine⟨b,off,e,by omega,fun i hi=>?_⟩;obtain⟨v0,v1,v2,c0,c1,c2,hv⟩:=hc i hi;exact⟨v0,v1,v2,c0,c1,c2,hv.more hB⟩
theorem CAt.nil(w:Ba)(B:Nat)(A:Bb):CAt w B A []:=fun h=>absurd h (by simp)
theorem CAt.row{cs:List Cs}(h:CAt w B A cs)(i:Nat)(hi:i<cs.length) :
  ∃b off A0 c0 A1 c1 A2 c2,A=J ⟨b,off,Z⟩/\b<B/\w.cell? ⟨b,off+i*3,Z⟩=J (I A0 cs[i].inp.length c0)/\w.cell? ⟨b,off+i*3+1,Z⟩=J (I A1 cs[i].out.length c1)/\w.cell? ⟨b,off+i*3+2,Z⟩=J (I A2 cs[i].calm.length c2) /\
   IAt w B A0 cs[i].inp/\LAt w B A1 cs[i].out/\LAt w B A2 cs[i].calm:=by
 obtain⟨b,off,e,hlt,hc⟩:=h (by omega);obtain⟨v0,v1,v2,c0,c1,c2,⟨A0,k0,rfl,h0⟩,⟨A1,k1,rfl,h1⟩,⟨A2,k2,rfl,h2⟩⟩:=hc i hi;exact⟨b,off,A0,k0,A1,k1,A2,k2,e,hlt,c0,c1,c2,h0,h1,h2⟩
def XsV(w:Ba)(B:Nat)(v0 v1 v2:Au)(x:Exn):Prop:=
 v0=O U x.c/\(∃A c,v1=I A x.word.length c/\RAt w B A x.word)/\(∃A c,v2=I A x.views.length c/\LAt w B A x.views)
theorem XsV.keep{v0 v1 v2:Au}{x:Exn}(h:XsV w B v0 v1 v2 x)(hb:Am B w w'):XsV w' B v0 v1 v2 x:=by
 obtain⟨e,⟨A2,c2,e2,h2⟩,⟨A3,c3,e3,h3⟩⟩:=h;exact⟨e,⟨A2,c2,e2,h2.keep hb⟩,⟨A3,c3,e3,h3.keep hb⟩⟩
theorem XsV.more{v0 v1 v2:Au}{x:Exn}(h:XsV w B v0 v1 v2 x)(hB:B<=B'):XsV w B' v0 v1 v2 x:=by
 obtain⟨e,⟨A2,c2,e2,h2⟩,⟨A3,c3,e3,h3⟩⟩:=h;exact⟨e,⟨A2,c2,e2,h2.more hB⟩,⟨A3,c3,e3,h3.more hB⟩⟩
def XAt(w:Ba)(B:Nat)(A:Bb)(xs:List Exn):Prop:=
 0<xs.length->∃b off,A=J ⟨b,off,Z⟩/\b<B/\∀(i:Nat) (hi:i<xs.length),∃v0 v1 v2,w.cell? ⟨b,off+i*3,Z⟩=J v0/\w.cell? ⟨b,off+i*3+1,Z⟩=J v1/\w.cell? ⟨b,off+i*3+2,Z⟩=J v2/\XsV w B v0 v1 v2 xs[i]
theorem XAt.keep{xs:List Exn}(h:XAt w B A xs)(hb:Am B w w'):XAt w' B A xs:=fun h0=>by
 obtain⟨b,off,e,hlt,hc⟩:=h h0;refine⟨b,off,e,hlt,fun i hi=>?_⟩;obtain⟨v0,v1,v2,c0,c1,c2,hv⟩:=hc i hi;exact⟨v0,v1,v2,(hb.cell (p:=⟨b,_,Z⟩) hlt).trans c0,(hb.cell (p:=⟨b,_,Z⟩) hlt).trans c1,(hb.cell (p:=⟨b,_,Z⟩) hlt).trans c2,hv.keep hb⟩
theorem XAt.more{xs:List Exn}(h:XAt w B A xs)(hB:B<=B'):XAt w B' A xs:=fun h0=>by
 obtain⟨b,off,e,hlt,hc⟩:=h h0;refine⟨b,off,e,by omega,fun i hi=>?_⟩;obtain⟨v0,v1,v2,c0,c1,c2,hv⟩:=hc i hi;exact⟨v0,v1,v2,c0,c1,c2,hv.more hB⟩
theorem XAt.nil(w:Ba)(B:Nat)(A:Bb):XAt w B A []:=fun h=>absurd h (by simp)
theorem XAt.row{xs:List Exn}(h:XAt w B A xs)(i:Nat)(hi:i<xs.length) :
  ∃b off A1 c1 A2 c2,A=J ⟨b,off,Z⟩/\b<B/\w.cell? ⟨b,off+i*3,Z⟩=J (O U xs[i].c)/\w.cell? ⟨b,off+i*3+1,Z⟩=J (I A1 xs[i].word.length c1)/\w.cell? ⟨b,off+i*3+2,Z⟩=J (I A2 xs[i].views.length c2) /\
   RAt w B A1 xs[i].word/\LAt w B A2 xs[i].views:=by
 obtain⟨b,off,e,hlt,hc⟩:=h (by omega);obtain⟨v0,v1,v2,c0,c1,c2,rfl,⟨A1,k1,rfl,h1⟩,⟨A2,k2,rfl,h2⟩⟩:=hc i hi;exact⟨b,off,A1,k1,A2,k2,e,hlt,c0,c1,c2,h1,h2⟩
end
end
section
open Go.RowKit
attribute [local go_sem] Oper.semAt_some
theorem drewN2(w:Ba)(n m:Nat):(w.drewN n).drewN m=w.drewN (n+m):=by unfold World.drewN;simp[Nat.add_assoc]
theorem Xa{α:Type}{xs ys:List α}{k:Nat}(h:xs.take k=ys.take k)(h1:k<xs.length)(h2:k<ys.length)(he:xs[k]=ys[k]):xs.take (k+1)=ys.take (k+1):=by
 rw[Ls h1,Ls h2,h,he]
end
section
open Go.RowKit
theorem yi(xs:Array Au)(i:Nat)(x:Au)(h:xs[i]?=J x)(w:Ba):(part 3 xs i).run Al w=.ok x w:=by
 have hi:Al.underlying 3=J (.int U):=LE;unfold part isAgg;simp[go_sem,run_underlying hi,h]
def hE(v u:Vw):Bool:=v.h0==u.h0&&(v.h1==u.h1&&(v.h2==u.h2&&(v.h3==u.h3&&v.h4==u.h4)))
theorem wV(d:Nat)(v u:Vw)(w:Ba):(Op.equalIn (d+2) 72 (Ai #[O U v.h0,O U v.h1,O U v.h2,O U v.h3,O U v.h4]) (Ai #[O U u.h0,O U u.h1,O U u.h2,O U u.h3,O U u.h4])).run Al w =
  .ok (hE v u) w:=by
 have hu:Al.underlying 72=J (.array 5 3):=PE;have hi:Al.underlying 3=J (.int U):=LE;have hs:(sizeOf 3).run Al w=.ok 1 w:=by kernel_rfl
 have p0:=fun x0 x1 x2 x3 x4=>yi #[x0,x1,x2,x3,x4] 0 x0 rfl w
 have p1:=fun x0 x1 x2 x3 x4=>yi #[x0,x1,x2,x3,x4] 1 x1 rfl w
 have p2:=fun x0 x1 x2 x3 x4=>yi #[x0,x1,x2,x3,x4] 2 x2 rfl w
 have p3:=fun x0 x1 x2 x3 x4=>yi #[x0,x1,x2,x3,x4] 3 x3 rfl w
 have p4:=fun x0 x1 x2 x3 x4=>yi #[x0,x1,x2,x3,x4] 4 x4 rfl w
 unfold Op.equalIn hE
 cases h0:(v.h0==u.h0)
 . simp only[Sem.run_bind,run_underlying hu,Result.andThen_ok,hs,Std.Legacy.Range.forIn_eq_forIn_range',Std.Legacy.Range.size,Nat.sub_zero,Nat.add_sub_cancel,Nat.div_one,show List.range' 0 5 1=[0,1,2,3,4] from rfl,List.forIn_cons,List.forIn_nil,p0,Nat.mul_one,run_equalIn_int w d 3 _ _ _ _ hi,h0,Bool.not_false,if_true,Sem.run_pure,Bool.false_and]
 cases h1:(v.h1==u.h1)
 . simp only[Sem.run_bind,run_underlying hu,Result.andThen_ok,hs,Std.Legacy.Range.forIn_eq_forIn_range',Std.Legacy.Range.size,Nat.sub_zero,Nat.add_sub_cancel,Nat.div_one,show List.range' 0 5 1=[0,1,2,3,4] from rfl,List.forIn_cons,List.forIn_nil,p0,p1,Nat.mul_one,run_equalIn_int w d 3 _ _ _ _ hi,h0,h1,Bool.not_false,Bool.not_true,if_true,Bool.false_eq_true,if_false,Sem.run_pure,Bool.true_and,Bool.false_and]
 cases h2:(v.h2==u.h2)
 . simp only[Sem.run_bind,run_underlying hu,Result.andThen_ok,hs,Std.Legacy.Range.forIn_eq_forIn_range',Std.Legacy.Range.size,Nat.sub_zero,Nat.add_sub_cancel,Nat.div_one,show List.range' 0 5 1=[0,1,2,3,4] from rfl,List.forIn_cons,List.forIn_nil,p0,p1,p2,Nat.mul_one,run_equalIn_int w d 3 _ _ _ _ hi,h0,h1,h2,Bool.not_false,Bool.not_true,if_true,Bool.false_eq_true,if_false,Sem.run_pure,Bool.true_and,Bool.false_and]
 cases h3:(v.h3==u.h3)
 . simp only[Sem.run_bind,run_underlying hu,Result.andThen_ok,hs,Std.Legacy.Range.forIn_eq_forIn_range',Std.Legacy.Range.size,Nat.sub_zero,Nat.add_sub_cancel,Nat.div_one,show List.range' 0 5 1=[0,1,2,3,4] from rfl,List.forIn_cons,List.forIn_nil,p0,p1,p2,p3,Nat.mul_one,run_equalIn_int w d 3 _ _ _ _ hi,h0,h1,h2,h3,Bool.not_false,Bool.not_true,if_true,Bool.false_eq_true,if_false,Sem.run_pure,Bool.true_and,Bool.false_and]
 cases h4:(v.h4==u.h4)
 . simp only[Sem.run_bind,run_underlying hu,Result.andThen_ok,hs,Std.Legacy.Range.forIn_eq_forIn_range',Std.Legacy.Range.size,Nat.sub_zero,Nat.add_sub_cancel,Nat.div_one,show List.range' 0 5 1=[0,1,2,3,4] from rfl,List.forIn_cons,List.forIn_nil,p0,p1,p2,p3,p4,Nat.mul_one,run_equalIn_int w d 3 _ _ _ _ hi,h0,h1,h2,h3,h4,Bool.not_false,Bool.not_true,if_true,Bool.false_eq_true,if_false,Sem.run_pure,Bool.true_and]
 simp only[Sem.run_bind,run_underlying hu,Result.andThen_ok,hs,Std.Legacy.Range.forIn_eq_forIn_range',Std.Legacy.Range.size,Nat.sub_zero,Nat.add_sub_cancel,Nat.div_one,show List.range' 0 5 1=[0,1,2,3,4] from rfl,List.forIn_cons,List.forIn_nil,p0,p1,p2,p3,p4,Nat.mul_one,run_equalIn_int w d 3 _ _ _ _ hi,h0,h1,h2,h3,h4,Bool.not_true,Bool.false_eq_true,if_false,Sem.run_pure,Bool.true_and]
theorem uh(d:Nat)(v u:Vw)(w:Ba):(Op.equalIn (d+3) 133 (.agg v.cells) (.agg u.cells)).run Al w=.ok (decide (v=u)) w:=by
 have hu:Al.underlying 133=J (.struct (Al.fieldsOf 133)):=by kernel_rfl
 have hi:Al.underlying 3=J (.int U):=LE;have hf : (Al.fieldsOf 133).toList.map (fun f => (f.name, f.type, f.offset)) = [("Proc", 3, 0), ("Round", 3, 1), ("Input", 3, 2), ("Heard", 72, 3)] := by kernel_rfl
 rw[Ra w (d+2) 133 _ _ hu (by kernel_rfl)];have p0:∀x:Vw,(part 3 x.cells 0).run Al w=.ok (O U x.p) w:=fun x=>yi _ 0 _ rfl w
 have p1:∀x:Vw,(part 3 x.cells 1).run Al w=.ok (O U x.r) w:=fun x=>yi _ 1 _ rfl w
 have p2:∀x:Vw,(part 3 x.cells 2).run Al w=.ok (O U x.i) w:=fun x=>yi _ 2 _ rfl w
 have p3:∀x:Vw,(part 72 x.cells 3).run Al w=.ok (Ai #[O U x.h0,O U x.h1,O U x.h2,O U x.h3,O U x.h4]) w:=fun x=>by unfold Vw.cells;kernel_rfl
 generalize (Al.fieldsOf 133).toList=fs at hf
 obtain⟨f0,f1,f2,f3,rfl⟩:∃f0 f1 f2 f3,fs=[f0,f1,f2,f3]:=by
  have hl:fs.length=4:=by simpa using congrArg List.length hf
  rcases fs with _ | ⟨f0,_ | ⟨f1,_ | ⟨f2,_ | ⟨f3,_ | ⟨f4,r⟩⟩⟩⟩⟩<;>simp at hl
  exact⟨_,_,_,_,rfl⟩
 clear hu;simp only[List.map_cons,List.map_nil,List.cons.injEq,Prod.mk.injEq,and_true] at hf;obtain⟨⟨n0,t0,o0⟩,⟨n1,t1,o1⟩,⟨n2,t2,o2⟩,⟨n3,t3,o3⟩⟩:=hf
 have hd:decide (v=u)=(v.p==u.p&&(v.r==u.r&&(v.i==u.i&&hE v u))):=by
  unfold hE;obtain⟨a0,a1,a2,a3,a4,a5,a6,a7⟩:=v;obtain⟨b0,b1,b2,b3,b4,b5,b6,b7⟩:=u;rw[NL];simp
 rw[hd]
 cases h0:(v.p==u.p)<;>cases h1:(v.r==u.r)<;>cases h2:(v.i==u.i)<;>cases h3:hE v u <;>
  simp only[Op.eqFields,n0,n1,n2,n3,t0,t1,t2,t3,o0,o1,o2,o3,p0,p1,p2,p3,Sem.run_bind,Result.andThen_ok,run_equalIn_int w _ 3 _ _ _ _ hi,wV,h0,h1,h2,h3,ne_eq,not_false_eq_true,if_true,Bool.not_false,Bool.not_true,Bool.false_eq_true,if_false,Sem.run_pure,Bool.true_and,Bool.false_and,String.reduceEq]
theorem eql_view(v u:Vw)(w:Ba):(binOp .eql 133 (.agg v.cells) (.agg u.cells)).run Al w=.ok (Ah (decide (v=u))) w:=by
 simp only[binOp];simp[Op.equal,Op.maxDepth,uh 9997 v u w]
theorem neq_view(v u:Vw)(w:Ba):(binOp .neq 133 (.agg v.cells) (.agg u.cells)).run Al w=.ok (Ah (decide (v≠u))) w:=by
 simp only[binOp];simp[Op.equal,Op.maxDepth,uh 9997 v u w]
def uX(p:Nat->Bool):Bool:=(List.range 32).all p
theorem kr{p:Nat->Bool}(h:uX p=Av){s:Nat}(hs:s<32):p s=Av:=Nf.1 h s (by simpa using hs)
def yr(l:List Nat):List Int:=l.map fun k:Nat=>(k:Int)
theorem zK(l:List Nat):(yr l).length=l.length:=by simp[yr]
theorem Js(l m:List Nat):yr (l++m)=yr l++yr m:=by simp[yr]
def zB(s k:Nat):List Nat:=(List.range k).filter fun p=>s.testBit p
theorem kO{s k:Nat}:zB s (k+1)=if s.testBit k=Av then zB s k++[k] else zB s k:=by
 unfold zB;rw[P4,Sd]
 by_cases h:s.testBit k=Av<;>simp[h]
def wt(n:Int):Int:=if n<1\/5<n then 1 else 0
def yY(n s:Int):Int:=if n<1\/5<n then 1 else if s<0\/(2^n.toNat:Nat)<=s then 2 else 0
theorem procs_any(n:Int)(w:Ba):An Al 191 #[O U n] w fun e w'=>e=Ak (O U (wt n))/\w=w':=by
 have H:As (wt n=if n<1\/5<n then 1 else 0):=rfl;go_enter func191,ntmps191;go_wp2
 all_goals
  go_ret;refine⟨zm ?_,rfl⟩;rw[H.out]
  first | (rw[Lj (by omega)]) | (rw[Lg (by omega)])
theorem rprocs_any(n:Int)(w:Ba):An Al 195 #[O U n] w fun e w'=>e=Ak (O U (wt n))/\w=w':=by
 have H:As (wt n=if n<1\/5<n then 1 else 0):=rfl;go_enter func195,ntmps195;go_wp2
 all_goals
  go_ret;refine⟨zm ?_,rfl⟩;rw[H.out]
  first | (rw[Lj (by omega)]) | (rw[Lg (by omega)])
theorem procs_ok{n:Int}(h:¬(n<1\/5<n)):n=1\/n=2\/n=3\/n=4\/n=5:=by omega
theorem Yd{n:Int}(h:n<1\/5<n):wt n=1:=Lj h
theorem Xi{n:Int}(h:¬(n<1\/5<n)):wt n=0:=Lg h
theorem XJ(n s:Int)(w:Ba):An Al 181 #[O U n,O U s] w fun e w'=>e=Ak (O U (yY n s))/\w=w':=by
 have H:As (yY n s=if n<1\/5<n then 1 else if s<0\/(2^n.toNat:Nat)<=s then 2 else 0):=rfl;go_enter func181,ntmps181;go_wp2_with fail;refine(procs_any n w).mono ?_;rintro e w' ⟨rfl,rfl⟩
 by_cases hn:n<1\/5<n
 . rw[Yd hn]
   rw[Lj hn] at H;go_wp2;go_ret;exact⟨zm H.out.symm,rfl⟩
 rw[Xi hn];rw[Lg hn] at H;rcases procs_ok hn with rfl | rfl | rfl | rfl | rfl
 all_goals
  go_wp2
 all_goals
  try simp only[bne_iff_ne,ne_eq,bne_eq_false_iff_eq] at *
  go_ret;refine⟨zm ?_,rfl⟩;rw[H.out]
  first | (rw[Lj (by simp;omega)]) | (rw[Lg (by simp;omega)])
theorem check_ok{n s:Int}(h:yY n s=0):∃m k:Nat,n=(m:Int)/\s=(k:Int)/\1<=m/\m<=5/\k<2^m/\k<32:=by
 unfold yY at h
 split at h
 . cases h
 split at h
 . cases h
 rename_i h1 h2;refine⟨n.toNat,s.toNat,by omega,by omega,by omega,by omega,?_,?_⟩
 . omega
 have:2^n.toNat<=2^5:=Nt (by omega) (by omega);omega
theorem ww(k:Nat)(hk:k<=5)(w:Ba):An Al 180 #[O U k] w fun e w'=>e=Ak (O U ((2^k:Nat):Int))/\w=w':=by
 go_enter func180,ntmps180;go_wp2
 go_loop [3,4] (fun v i=>∃j q:Nat,j<=k/\q=2^j/\q<=32/\v=O U (q:Int)/\i=O U (j:Int)) (fun _ i=>5-(Ar i).toNat)
 case atStart=>exact⟨0,1,by omega,rfl,by omega,rfl,rfl⟩
 obtain⟨j,q,hj,hq,hq2,rfl,rfl⟩:=hrel;have H:As (q=2^j):=hq;clear hq
 by_cases hlt:j<k
 . go_wp2
   go_round
   case rel=>
    have h1:q*2=2^(j+1):=by rw[H.out,Nat.pow_succ]
    have h2:(2^(j+1):Nat)<=2^5:=Nt (by omega) (by omega);exact⟨j+1,q*2,by omega,h1,by omega,by go_num,by go_num⟩
   simp[Ar];omega
 obtain rfl:j=k:=by omega
 go_wp2;go_ret;exact⟨by have:=H.out;subst this;simp,rfl⟩
theorem rcheck_any(n s:Int)(w:Ba):An Al 189 #[O U n,O U s] w fun e w'=>e=Ak (O U (yY n s))/\w=w':=by
 have H:As (yY n s=if n<1\/5<n then 1 else if s<0\/(2^n.toNat:Nat)<=s then 2 else 0):=rfl;go_enter func189,ntmps189;go_wp2_with fail;refine(rprocs_any n w).mono ?_;rintro e w' ⟨rfl,rfl⟩
 by_cases hn:n<1\/5<n
 . rw[Yd hn]
   rw[Lj hn] at H;go_wp2;go_ret;exact⟨zm H.out.symm,rfl⟩
 rw[Xi hn];rw[Lg hn] at H;obtain⟨m,rfl⟩:=Lp (show 0<=n by omega);have hp:=ww m (by omega) w;go_wp2_with fail
 . refine hp.mono ?_
   rintro e w' ⟨rfl,rfl⟩;go_wp2_with fail
   all_goals
    go_ret;refine⟨zm ?_,rfl⟩;rw[H.out]
    first | (rw[Lj (by simp;omega)]) | (rw[Lg (by simp;omega)])
 go_ret;refine⟨zm ?_,rfl⟩;rw[H.out,Lj (by omega)]
def zD:List Int->List Int->Int
 | [],[]=>0
 | [],_::_=>-1
 | _::_,[]=>1
 | a::l,b::m=>if a<b then -1 else if b<a then 1 else zD l m
theorem qG:∀l:List Int,zD l l=0
 | []=>rfl
 | a::l=>by rw[zD,Lg (Int.lt_irrefl a),Lg (Int.lt_irrefl a),qG l]
theorem jV:∀ {l m:List Int},zD l m=0->l=m
 | [],[],_=>rfl
 | [],_::_,h=>by cases h
 | _::_,[],h=>by cases h
 | a::l,b::m,h=>by
  rw[zD] at h
  split at h
  . cases h
  . split at h
    . cases h
    . rw[jV h,show a=b by omega]
theorem Yf{l m:List Int}{k:Nat}(h1:k<l.length)(h2:k<m.length):zD (l.drop k) (m.drop k)=if l[k]<m[k] then -1 else if m[k]<l[k] then 1 else zD (l.drop (k+1)) (m.drop (k+1)):=by
 rw[Lz h1,Lz h2,zD]
theorem wF{l m:List Int}{k:Nat}(h:k=l.length\/k=m.length)(h1:k<=l.length)(h2:k<=m.length):zD (l.drop k) (m.drop k)=if l.length<m.length then -1 else if m.length<l.length then 1 else 0:=by
 rcases h with h | h
 . subst h
   rw[Nz]
   by_cases hm:l.length<m.length
   . rw[Lj hm,Lz hm];rfl
   have:m.drop l.length=[]:=RJ (by omega);rw[this,Lg hm,Lg (by omega)];rfl
 subst h;rw[Nz]
 by_cases hm:m.length<l.length
 . rw[Lg (by omega),Lj hm,Lz hm];rfl
 have:l.drop m.length=[]:=RJ (by omega);rw[this,Lg (by omega),Lg hm];rfl
def kQ(m x:Int):Bool:=decide (x<0\/m<=x)
def zN(v:List Int)(n m:Int):Int:=if (v.length:Int)≠n then 15 else if v.any (kQ m)=Av then 2 else 0
def zG{α:Type}(l:List α)(k:Nat):Option α:=if k=0 then Z else l[k-1]?
theorem gS{α:Type}(l:List α):zG l 0=Z:=rfl
theorem yz{α:Type}(l:List α)(k:Nat)(hk:k<l.length):zG l (k+1)=J l[k]:=by unfold zG;simp[hk]
def qj(p:Option (List Int))(v:List Int):Bool:=match p with | none=>Aw | some q=>decide (0<=zD q v)
def vj(f:List Int->Int):Option (List Int)->List (List Int)->Int
 | _,[]=>0
 | p,v::r=>if f v≠0 then f v else if qj p v=Av then 14 else vj f (J v) r
def ka(f:List Int->Int)(l:List (List Int)):Int:=vj f Z l
def yL(f:List Int->Int)(l:List (List Int))(k:Nat):Int:=vj f (zG l k) (l.drop k)
theorem xU{f:List Int->Int}{l:List (List Int)}:yL f l 0=ka f l:=by unfold yL ka;rw[gS,Nl]
theorem qq{f:List Int->Int}{l:List (List Int)}:yL f l l.length=0:=by unfold yL;rw[Nz];rfl
theorem qr{f:List Int->Int}{l:List (List Int)}{k:Nat}(hk:k<l.length)(h:f l[k]≠0):yL f l k=f l[k]:=by
 unfold yL;rw[Lz hk,vj,Lj h]
theorem xB{f:List Int->Int}{l:List (List Int)}{k:Nat}(hk:k<l.length)(h:f l[k]=0)(h2:qj (zG l k) l[k]=Av):yL f l k=14:=by
 unfold yL;rw[Lz hk,vj,Lg (by simpa using h),Lj h2]
theorem qT{f:List Int->Int}{l:List (List Int)}{k:Nat}(hk:k<l.length)(h:f l[k]=0)(h2:qj (zG l k) l[k]=Aw):yL f l k=yL f l (k+1):=by
 unfold yL;rw[Lz hk,vj,Lg (by simpa using h),Lg (by rw[h2];decide),yz l k hk]
def qL(l:List (List Int))(v:List Int):Int:=if v∈l then 0 else 6
def kU(n m:Int)(c:Cs):Int:=
 if c.out.length<1\/1024<c.out.length then 5 else if ka (fun v=>zN v n m) c.out≠0 then ka (fun v=>zN v n m) c.out else ka (qL c.out) c.calm
def qO(t:Tk)(p:Option Cs)(c:Cs):Int:=
 if zN c.inp t.n t.ins≠0 then zN c.inp t.n t.ins else if qj (p.map Cs.inp) c.inp=Av then 14 else kU t.n t.outs c
def jo(t:Tk):Option Cs->List Cs->Int
 | _,[]=>0
 | p,c::r=>if qO t p c≠0 then qO t p c else jo t (J c) r
def xD(t:Tk)(l:List Cs)(k:Nat):Int:=jo t (zG l k) (l.drop k)
theorem Zl{t:Tk}{l:List Cs}:xD t l l.length=0:=by unfold xD;rw[Nz];rfl
theorem Zm{t:Tk}{l:List Cs}{k:Nat}(hk:k<l.length)(h:qO t (zG l k) l[k]≠0):xD t l k=qO t (zG l k) l[k]:=by
 unfold xD;rw[Lz hk,jo,Lj h]
theorem YH{t:Tk}{l:List Cs}{k:Nat}(hk:k<l.length)(h:qO t (zG l k) l[k]=0):xD t l k=xD t l (k+1):=by
 unfold xD;rw[Lz hk,jo,Lg (by simpa using h),yz l k hk]
def xp(t:Tk):Int:=
 if t.n<1\/5<t.n\/t.ins<1\/8<t.ins\/t.outs<1\/8<t.outs then 2 else if t.cases.length<1\/1024<t.cases.length then 5 else xD t t.cases 0
def xE(n:Int)(p:Nat)(x:Int):Int:=
 if n<=p then (if x≠0 then 3 else 0) else if x<0\/(2^n.toNat-1:Nat)<x then 2 else if x.toNat.testBit p=Av then 0 else 3
def yJ(r:Rd):Nat->Nat->Int
 | 0,_=>0
 | k+1,p=>if xE r.n p (r.h p)≠0 then xE r.n p (r.h p) else yJ r k (p+1)
def yN(r:Rd):Int:=if r.n<1\/5<r.n then 2 else yJ r 5 0
def yu(r:Rd):Int:=if yN r≠0 then yN r else yY r.n r.f
def Rd.gl(r:Rd):List Int:=[r.n,r.h0,r.h1,r.h2,r.h3,r.h4]
def Rd.l(r:Rd):List Int:=[r.n,r.h0,r.h1,r.h2,r.h3,r.h4,r.f]
def YZ(p:Option Mv)(m:Mv):Bool:=match p with | none=>Aw | some q=>decide (0<=zD q.r.l m.r.l)
def xV(a:Ad)(p:Option Mv)(m:Mv):Int:=
 if yu m.r≠0 then yu m.r else if m.r.n≠a.n then 22 else if YZ p m=Av then 14 else if m.to<0\/(a.sts.length:Int)<=m.to then 2 else 0
def jh(a:Ad):Option Mv->List Mv->Int
 | _,[]=>0
 | p,m::r=>if xV a p m≠0 then xV a p m else jh a (J m) r
def xO(a:Ad)(l:List Mv)(k:Nat):Int:=jh a (zG l k) (l.drop k)
theorem gY{a:Ad}{l:List Mv}:xO a l l.length=0:=by unfold xO;rw[Nz];rfl
theorem gZ{a:Ad}{l:List Mv}{k:Nat}(hk:k<l.length)(h:xV a (zG l k) l[k]≠0):xO a l k=xV a (zG l k) l[k]:=by
 unfold xO;rw[Lz hk,jh,Lj h]
theorem Yi{a:Ad}{l:List Mv}{k:Nat}(hk:k<l.length)(h:xV a (zG l k) l[k]=0):xO a l k=xO a l (k+1):=by
 unfold xO;rw[Lz hk,jh,Lg (by simpa using h),yz l k hk]
def qt(a:Ad)(l:List Mv):Int:=if l.length=0 then 19 else xO a l 0
def zJ(a:Ad):List (List Mv)->Int
 | []=>0
 | l::r=>if qt a l≠0 then qt a l else zJ a r
theorem vK{a:Ad}{l:List (List Mv)}{k:Nat}(h:k=l.length):zJ a (l.drop k)=0:=by subst h;rw[Nz];rfl
theorem vL{a:Ad}{l:List (List Mv)}{k:Nat}(hk:k<l.length)(h:qt a l[k]≠0):zJ a (l.drop k)=qt a l[k]:=by
 rw[Lz hk,zJ,Lj h]
theorem uq{a:Ad}{l:List (List Mv)}{k:Nat}(hk:k<l.length)(h:qt a l[k]=0):zJ a (l.drop k)=zJ a (l.drop (k+1)):=by
 rw[Lz hk,zJ,Lg (by simpa using h)]
def Ad.mvs(a:Ad):List Mv:=a.sts.flatten
def Ad.at_(a:Ad)(s:Int):List Mv:=a.sts.getD s.toNat []
def kE(m k:Mv):Bool:=m.r.f.toNat &&& k.r.f.toNat==m.r.f.toNat
def xG(a:Ad):Bool:=a.mvs.all fun m=>(a.at_ m.to).all fun k=>kE m k
def ql(a:Ad):Int:=
 if a.n<1\/5<a.n then 2 else if a.sts.length<1\/256<a.sts.length\/4096<a.mvs.length then 5 else if zJ a a.sts≠0 then zJ a a.sts else if xG a=Av then 0 else 21
def zZ(p:Pb):Int:=
 if xp p.t≠0 then xp p.t else if ql p.a≠0 then ql p.a else if p.t.n≠p.a.n then 22 else if p.k<0\/6<p.k then 2 else 0
def Rd.gcells(r:Rd):Array Au:=#[O U r.n,O U r.h0,O U r.h1,O U r.h2,O U r.h3,O U r.h4]
def hR(v u:Rd):Bool:=v.h0==u.h0&&(v.h1==u.h1&&(v.h2==u.h2&&(v.h3==u.h3&&v.h4==u.h4)))
theorem eqlIn_arrR(d:Nat)(v u:Rd)(w:Ba):(Op.equalIn (d+2) 72 (Ai #[O U v.h0,O U v.h1,O U v.h2,O U v.h3,O U v.h4]) (Ai #[O U u.h0,O U u.h1,O U u.h2,O U u.h3,O U u.h4])).run Al w =
  .ok (hR v u) w:=wV d ⟨0,0,0,v.h0,v.h1,v.h2,v.h3,v.h4⟩ ⟨0,0,0,u.h0,u.h1,u.h2,u.h3,u.h4⟩ w
theorem ve(d:Nat)(v u:Rd)(w:Ba):(Op.equalIn (d+3) 74 (.agg v.gcells) (.agg u.gcells)).run Al w=.ok (decide (v.gl=u.gl)) w:=by
 have hu:Al.underlying 74=J (.struct (Al.fieldsOf 74)):=by kernel_rfl
 have hi:Al.underlying 3=J (.int U):=LE;have hf : (Al.fieldsOf 74).toList.map (fun f => (f.name, f.type, f.offset)) = [("N", 3, 0), ("Hears", 72, 1)] := by kernel_rfl
 rw[Ra w (d+2) 74 _ _ hu (by kernel_rfl)];have p0:∀x:Rd,(part 3 x.gcells 0).run Al w=.ok (O U x.n) w:=fun x=>yi _ 0 _ rfl w
 have p1:∀x:Rd,(part 72 x.gcells 1).run Al w=.ok (Ai #[O U x.h0,O U x.h1,O U x.h2,O U x.h3,O U x.h4]) w:=fun x=>by unfold Rd.gcells;kernel_rfl
 generalize (Al.fieldsOf 74).toList=fs at hf
 obtain⟨f0,f1,rfl⟩:∃f0 f1,fs=[f0,f1]:=by
  have hl:fs.length=2:=by simpa using congrArg List.length hf
  rcases fs with _ | ⟨f0,_ | ⟨f1,_ | ⟨f2,r⟩⟩⟩<;>simp at hl
  exact⟨_,_,rfl⟩
 clear hu;simp only[List.map_cons,List.map_nil,List.cons.injEq,Prod.mk.injEq,and_true] at hf;obtain⟨⟨n0,t0,o0⟩,⟨n1,t1,o1⟩⟩:=hf
 have hd:decide (v.gl=u.gl)=(v.n==u.n&&hR v u):=by
  unfold hR Rd.gl;obtain⟨a0,a1,a2,a3,a4,a5,a6⟩:=v;obtain⟨b0,b1,b2,b3,b4,b5,b6⟩:=u;rw[NL];simp
 rw[hd]
 cases h0:(v.n==u.n)<;>cases h3:hR v u <;>
  simp only[Op.eqFields,n0,n1,t0,t1,o0,o1,p0,p1,Sem.run_bind,Result.andThen_ok,run_equalIn_int w _ 3 _ _ _ _ hi,eqlIn_arrR,h0,h3,ne_eq,not_false_eq_true,if_true,Bool.not_false,Bool.not_true,Bool.false_eq_true,if_false,Sem.run_pure,Bool.true_and,Bool.false_and,String.reduceEq]
theorem Zg(d:Nat)(v u:Rd)(w:Ba):(Op.equalIn (d+4) 76 (.agg v.cells) (.agg u.cells)).run Al w=.ok (decide (v=u)) w:=by
 have hu:Al.underlying 76=J (.struct (Al.fieldsOf 76)):=by kernel_rfl
 have hi:Al.underlying 3=J (.int U):=LE;have hf : (Al.fieldsOf 76).toList.map (fun f => (f.name, f.type, f.offset)) = [("Graph", 74, 0), ("Faulty", 3, 6)] := by kernel_rfl
 rw[Ra w (d+3) 76 _ _ hu (by kernel_rfl)];have p0:∀x:Rd,(part 74 x.cells 0).run Al w=.ok (.agg x.gcells) w:=fun x=>by unfold Rd.cells;kernel_rfl
 have p1:∀x:Rd,(part 3 x.cells 6).run Al w=.ok (O U x.f) w:=fun x=>yi _ 6 _ rfl w
 generalize (Al.fieldsOf 76).toList=fs at hf
 obtain⟨f0,f1,rfl⟩:∃f0 f1,fs=[f0,f1]:=by
  have hl:fs.length=2:=by simpa using congrArg List.length hf
  rcases fs with _ | ⟨f0,_ | ⟨f1,_ | ⟨f2,r⟩⟩⟩<;>simp at hl
  exact⟨_,_,rfl⟩
 clear hu;simp only[List.map_cons,List.map_nil,List.cons.injEq,Prod.mk.injEq,and_true] at hf;obtain⟨⟨n0,t0,o0⟩,⟨n1,t1,o1⟩⟩:=hf
 have hd:decide (v=u)=(decide (v.gl=u.gl)&&v.f==u.f):=by
  unfold Rd.gl;obtain⟨a0,a1,a2,a3,a4,a5,a6⟩:=v;obtain⟨b0,b1,b2,b3,b4,b5,b6⟩:=u;rw[NL];simp;constructor
  . rintro⟨h0,h1,h2,h3,h4,h5,h6⟩;exact⟨⟨h0,h1,h2,h3,h4,h5⟩,h6⟩
  rintro⟨⟨h0,h1,h2,h3,h4,h5⟩,h6⟩;exact⟨h0,h1,h2,h3,h4,h5,h6⟩
 rw[hd]
 cases h0:decide (v.gl=u.gl)<;>cases h3:(v.f==u.f) <;>
  simp only[Op.eqFields,n0,n1,t0,t1,o0,o1,p0,p1,Sem.run_bind,Result.andThen_ok,run_equalIn_int w _ 3 _ _ _ _ hi,ve,h0,h3,ne_eq,not_false_eq_true,if_true,Bool.not_false,Bool.not_true,Bool.false_eq_true,if_false,Sem.run_pure,Bool.true_and,Bool.false_and,String.reduceEq]
theorem eql_graph(v u:Rd)(w:Ba):(binOp .eql 74 (.agg v.gcells) (.agg u.gcells)).run Al w=.ok (Ah (decide (v.gl=u.gl))) w:=by
 simp only[binOp];simp[Op.equal,Op.maxDepth,ve 9997 v u w]
theorem neq_graph(v u:Rd)(w:Ba):(binOp .neq 74 (.agg v.gcells) (.agg u.gcells)).run Al w=.ok (Ah (decide (v.gl≠u.gl))) w:=by
 simp only[binOp];simp[Op.equal,Op.maxDepth,ve 9997 v u w]
theorem eql_round(v u:Rd)(w:Ba):(binOp .eql 76 (.agg v.cells) (.agg u.cells)).run Al w=.ok (Ah (decide (v=u))) w:=by
 simp only[binOp];simp[Op.equal,Op.maxDepth,Zg 9996 v u w]
theorem neq_round(v u:Rd)(w:Ba):(binOp .neq 76 (.agg v.cells) (.agg u.cells)).run Al w=.ok (Ah (decide (v≠u))) w:=by
 simp only[binOp];simp[Op.equal,Op.maxDepth,Zg 9996 v u w]
theorem has_fact{s p:Nat}(hs:s<32)(hp:p<5):((wrap64 ((s:Int) / ((2^p:Nat):Int))).tmod 2==1)=s.testBit p:=by
 have h:=kr (p:=fun s=>uX fun p=>!decide (p<5)||(((wrap64 ((s:Int) / ((2^p:Nat):Int))).tmod 2==1)==s.testBit p)) (by decide +kernel) hs;have h:=kr h (show p<32 by omega);simpa only[hp,decide_true,Bool.not_true,Bool.false_or,beq_iff_eq] using h
theorem ZB(s p:Nat)(hs:s<32)(hp:p<5)(w:Ba):An Al 159 #[O U s,O U p] w fun e w'=>e=Ak (Ah (s.testBit p))/\w=w':=by
 have H:=zH (has_fact hs hp);have hq:(2^p:Nat)<=2^5:=Nt (by omega) (by omega);have mZ:1<=(2^p:Nat):=Nat.one_le_two_pow;have hp':=ww p (by omega) w;obtain⟨q,hqq⟩:∃q:Nat,q=2^p:=⟨_,rfl⟩;rw[<-hqq] at hp' hq mZ H;clear hqq;go_enter func159,ntmps159;go_wp2_with fail;refine hp'.mono ?_;rintro e w' ⟨rfl,rfl⟩;go_wp2_with fail;go_ret;exact⟨zy H.out,rfl⟩
theorem Jt{a b:Nat}(ha:a<32)(hb:b<32):(a &&& b==a)=Av↔(∀p,p<5->a.testBit p=Av->b.testBit p=Av):=by
 have h:=kr (p:=fun a=>uX fun b=>((List.range 5).all fun p=>!a.testBit p||b.testBit p)==(a &&& b==a)) (by decide +kernel) ha;have h:=kr h hb;simp only[beq_iff_eq] at h;rw[<-h];simp only[List.all_eq_true,List.mem_range,Bool.or_eq_true,Bool.not_eq_true'];constructor
 . intro h p hp h1
   rcases h p hp with h2 | h2
   . rw[h1] at h2;cases h2
   exact h2
 intro h p hp
 by_cases h1:a.testBit p=Av
 . exact .inr (h p hp h1)
 exact .inl (by simpa using h1)
theorem inside_any(a b:Nat)(ha:a<32)(hb:b<32)(w:Ba):An Al 179 #[O U a,O U b] w fun e w'=>e=Ak (Ah (a &&& b==a))/\w=w':=by
 have H:=zH (Jt ha hb);have HA:=zH (fun p hp w=>ZB a p ha hp w);have HB:=zH (fun p hp w=>ZB b p hb hp w);go_enter func179,ntmps179;go_wp2_with fail
 go_loop [5] (fun i=>∃k:Nat,k<=5/\i=O U (k:Int)/\As (∀p,p<k->a.testBit p=Av->b.testBit p=Av)) (fun i=>5-(Ar i).toNat)
 case atStart=>exact⟨0,by omega,rfl,fun p hp=>by omega⟩
 obtain⟨k,hk,rfl,aZ⟩:=hrel
 by_cases hlt:k<5
 . have c1:=HA.out k hlt w
   have c2:=HB.out k hlt w;go_wp2_with fail;refine c1.mono ?_;rintro e w' ⟨rfl,rfl⟩
   by_cases h1:a.testBit k=Av
   . rw[h1]
     go_wp2_with fail;refine c2.mono ?_;rintro e w' ⟨rfl,rfl⟩
     by_cases h2:b.testBit k=Av
     . rw[h2]
       go_wp2_with fail
       go_round
       case rel=>
        refine⟨k+1,by omega,by go_num,fun p hp h=>?_⟩
        by_cases e:p=k
        . subst e;exact h2
        exact aZ.out p (by omega) h
       simp[Ar];omega
     have h2':b.testBit k=Aw:=by simpa using h2
     rw[h2'];go_wp2_with fail;go_ret;refine⟨zy ?_,rfl⟩;symm;rw[Bool.eq_false_iff];exact fun e=>h2 (H.out.1 e k hlt h1)
   have h1':a.testBit k=Aw:=by simpa using h1
   rw[h1'];go_wp2_with fail
   go_round
   case rel=>
    refine⟨k+1,by omega,by go_num,fun p hp h=>?_⟩
    by_cases e:p=k
    . subst e;exact absurd h h1
    exact aZ.out p (by omega) h
   simp[Ar];omega
 obtain rfl:k=5:=by omega
 go_wp2_with fail;go_ret;refine⟨zy ?_,rfl⟩;exact(H.out.2 aZ.out).symm
theorem drew2(w:Ba)(a b:Nat):∃m,(w.drewN a).drewN b=w.drewN m:=⟨a+b,by simp[World.drewN_drewN]⟩
theorem drew3(w:Ba)(a b c:Nat):∃m,((w.drewN a).drewN b).drewN c=w.drewN m:=⟨a+b+c,by simp[World.drewN_drewN]⟩
theorem qx(A1 A2:Bb)(c1 c2:Nat)(xs ys:List Int)(hl:xs.length<=17592186044416)(mt:ys.length<=17592186044416)(w:Ba)(h1:IAt w w.heap.size A1 xs)(h2:IAt w w.heap.size A2 ys) :
  An Al 175 #[I A1 xs.length c1,I A2 ys.length c2] w fun e w'=>e=Ak (O U (zD xs ys))/\∃m,w'=w.drewN m:=by
 have HA:=zH h1;have HB:=zH h2;go_enter func175,ntmps175;go_wp2_with fail
 go_loopw [5] (fun i wr=>∃k:Nat,k<=xs.length/\k<=ys.length/\i=O U (k:Int)/\As (zD xs ys=zD (xs.drop k) (ys.drop k))/\∃m:Nat,wr=w.drewN m) (fun i _=>xs.length-(Ar i).toNat)
 case atStart=>exact⟨0,by omega,by omega,rfl,rfl,0,rfl⟩
 obtain⟨k,aM,fU,rfl,H8,m,rfl⟩:=hrel
 by_cases hlt:k<xs.length/\k<ys.length
 . obtain⟨hx,hy⟩:=hlt
   obtain⟨b1,o1,rfl,aF,c1⟩:=HA.out.at_ k hx;obtain⟨b2,o2,rfl,ae,c2⟩:=HB.out.at_ k hy;have hs:=Yf hx hy;obtain⟨x,EY⟩:=Kj (xs[k]);obtain⟨y,Vb⟩:=Kj (ys[k]);rw[EY] at c1 hs;rw[Vb] at c2 hs;have HS:=zH (H8.out.trans hs)
   by_cases l1:x<y
   . have HR:=zH (HS.out.trans (Lj l1))
     go_wp2_with fail;go_quiet (fail);go_wp2_with fail;go_ret;exact⟨zm HR.out.symm,by first | exact drew2 _ _ _ | exact drew3 _ _ _ _⟩
   by_cases l2:y<x
   . have HR:=zH (HS.out.trans ((Lg l1).trans (Lj l2)))
     go_wp2_with fail;go_quiet (fail);go_wp2_with fail;go_quiet (fail);go_wp2_with fail;go_ret;exact⟨zm HR.out.symm,by first | exact drew2 _ _ _ | exact drew3 _ _ _ _⟩
   have HR:=zH (HS.out.trans ((Lg l1).trans (Lg l2)));go_wp2_with fail;go_quiet (fail);go_wp2_with fail;go_quiet (fail);go_wp2_with fail
   go_roundw
   case rel=>exact⟨k+1,by omega,by omega,by go_num,HR,by first | exact drew2 _ _ _ | exact drew3 _ _ _ _ | exact⟨_,rfl⟩⟩
   simp[Ar];omega
 have he:=wF (l:=xs) (m:=ys) (k:=k) (by omega) aM fU;have HR:=zH (H8.out.trans he);have hd:(decide ((k:Int)<(xs.length:Int))&&decide ((k:Int)<(ys.length:Int)))=Aw:=by simp;omega
 by_cases hx:k<xs.length
 . obtain rfl:k=ys.length:=by omega
   go_wp2_with fail
   all_goals first | (exfalso;omega) | skip
   all_goals
    go_ret;exact⟨zm (by rw[HR.out];first | (rw[Lj (by omega)]) | (rw[Lg (by omega),Lj (by omega)]) | (rw[Lg (by omega),Lg (by omega)])),_,rfl⟩
 obtain rfl:k=xs.length:=by omega
 go_wp2_with fail
 all_goals first | (exfalso;omega) | skip
 all_goals
  go_ret;exact⟨zm (by rw[HR.out];first | (rw[Lj (by omega)]) | (rw[Lg (by omega),Lj (by omega)]) | (rw[Lg (by omega),Lg (by omega)])),_,rfl⟩
def jm(x y:Int):Int:=if x<y then -1 else if y<x then 1 else 0
theorem ZE(x y:Int)(w:Ba):An Al 168 #[O U x,O U y] w fun e w'=>e=Ak (O U (jm x y))/\w=w':=by
 have H:As (jm x y=if x<y then -1 else if y<x then 1 else 0):=rfl
 have hn:∀(x:Int) (w:Ba),An Al 183 #[O U x] w fun e w'=>e=Ak (Ah Aw)/\w=w':=fun x w=>by
  go_enter func183,ntmps183;go_wp2;go_ret;exact⟨by simp,rfl⟩
 have HN:=zH hn;go_enter func168,ntmps168;go_wp2_with (go_at_call 183;refine(HN.out _ _).mono ?_;rintro e w' ⟨rfl,rfl⟩)
 all_goals
  go_ret;refine⟨zm ?_,rfl⟩;rw[H.out]
  first | (rw[Lj (by omega)]) | (rw[Lg (by omega),Lj (by omega)]) | (rw[Lg (by omega),Lg (by omega)])
theorem uw(A1 A2:Bb)(c1 c2:Nat)(xs ys:List Int)(hl:xs.length<=17592186044416)(mt:ys.length<=17592186044416)(w:Ba)(h1:IAt w w.heap.size A1 xs)(h2:IAt w w.heap.size A2 ys) :
  An Al 151 #[I A1 xs.length c1,I A2 ys.length c2] w fun e w'=>e=Ak (O U (zD xs ys))/\w'=w:=by
 have HA:=zH h1;have HB:=zH h2;go_enter func151,ntmps151;go_wp2_with fail
 go_loop [11] (fun i=>∃k:Nat,k<=xs.length/\k<=ys.length/\i=O U (k:Int)/\As (zD xs ys=zD (xs.drop k) (ys.drop k))) (fun i=>xs.length-(Ar i).toNat)
 case atStart=>exact⟨0,by omega,by omega,rfl,rfl⟩
 obtain⟨k,aM,fU,rfl,H8⟩:=hrel
 by_cases hx:k<xs.length
 . obtain⟨b1,o1,rfl,aF,c1⟩:=HA.out.at_ k hx
   by_cases hy:k<ys.length
   . obtain⟨b2,o2,rfl,ae,c2⟩:=HB.out.at_ k hy
     have hs:=Yf hx hy;obtain⟨x,EY⟩:=Kj (xs[k]);obtain⟨y,Vb⟩:=Kj (ys[k]);rw[EY] at c1 hs;rw[Vb] at c2 hs;have HS:=zH (H8.out.trans hs);have iJ:As (jm x y=if x<y then -1 else if y<x then 1 else 0):=rfl;have hc:=zH (fun w=>ZE x y w);obtain⟨cv,sZ⟩:=Kj (jm x y);rw[sZ] at hc iJ;go_wp2_with fail;refine(hc.out _).mono ?_;rintro e w' ⟨rfl,rfl⟩
     by_cases l1:x<y
     . have HR:=zH (HS.out.trans (Lj l1))
       obtain rfl:cv=-1:=iJ.out.trans (Lj l1);go_wp2_with fail;go_ret;exact⟨zm HR.out.symm,rfl⟩
     by_cases l2:y<x
     . have HR:=zH (HS.out.trans ((Lg l1).trans (Lj l2)))
       obtain rfl:cv=1:=iJ.out.trans ((Lg l1).trans (Lj l2));go_wp2_with fail;go_ret;exact⟨zm HR.out.symm,rfl⟩
     have HR:=zH (HS.out.trans ((Lg l1).trans (Lg l2)));obtain rfl:cv=0:=iJ.out.trans ((Lg l1).trans (Lg l2));go_wp2_with fail
     go_round
     case rel=>exact⟨k+1,by omega,by omega,by go_num,HR⟩
     simp[Ar];omega
   obtain rfl:k=ys.length:=by omega
   have he:=wF (l:=xs) (m:=ys) (k:=ys.length) (by omega) aM fU;have HR:=zH (H8.out.trans he);go_wp2_with fail;go_ret;exact⟨zm (by rw[HR.out,Lg (by omega),Lj (by omega)]),rfl⟩
 obtain rfl:k=xs.length:=by omega
 have he:=wF (l:=xs) (m:=ys) (k:=xs.length) (by omega) aM fU;have HR:=zH (H8.out.trans he);go_wp2_with fail
 all_goals
  go_ret;exact⟨zm (by rw[HR.out];first | (rw[Lj (by omega)]) | (rw[Lg (by omega),Lg (by omega)])),rfl⟩
theorem Xy{r:Rd}{k:Nat}(hk:k<5)(h:xE r.n k (r.h k)≠0):yJ r (5-k) k=xE r.n k (r.h k):=by
 rw[show 5-k=(4-k)+1 by omega,yJ,Lj h]
theorem Jy{r:Rd}{k:Nat}(hk:k<5)(h:xE r.n k (r.h k)=0):yJ r (5-k) k=yJ r (5-(k+1)) (k+1):=by
 rw[show 5-k=(4-k)+1 by omega,yJ,Lg (by simpa using h),show 4-k=5-(k+1) by omega]
theorem Yu{n x:Int}{p:Nat}(h:n<=p)(hx:x≠0):xE n p x=3:=by unfold xE;rw[Lj h,Lj hx]
theorem Yt{n:Int}{p:Nat}(h:n<=p):xE n p 0=0:=by unfold xE;rw[Lj h];rfl
theorem XA{n x:Int}{p:Nat}(h:¬n<=p)(hx:x<0\/(2^n.toNat-1:Nat)<x):xE n p x=2:=by unfold xE;rw[Lg h,Lj hx]
theorem Xz{n x:Int}{p:Nat}(h:¬n<=p)(hx:¬(x<0\/(2^n.toNat-1:Nat)<x))(hb:x.toNat.testBit p=Av):xE n p x=0:=by unfold xE;rw[Lg h,Lg hx,Lj hb]
theorem Jz{n x:Int}{p:Nat}(h:¬n<=p)(hx:¬(x<0\/(2^n.toNat-1:Nat)<x))(hb:x.toNat.testBit p=Aw):xE n p x=3:=by unfold xE;rw[Lg h,Lg hx,Lg (by rw[hb];decide)]
theorem bit_zero{s p:Nat}(hs:s<32)(hp:p<5):(bits BinOp.and U ((s:Int) / 2^p) 1==0)=!s.testBit p:=by
 have h:=kr (p:=fun s=>uX fun p=>!decide (p<5)||((bits BinOp.and U ((s:Int) / 2^p) 1==0)==!s.testBit p)) (by decide +kernel) hs;have h:=kr h (show p<32 by omega);simpa only[hp,decide_true,Bool.not_true,Bool.false_or,beq_iff_eq] using h
theorem gfull_any(n:Int)(h1:1<=n)(h5:n<=5)(w:Ba):An Al 193 #[O U n] w fun e w'=>e=Ak (O U ((2^n.toNat-1:Nat):Int))/\w'=w:=by
 obtain rfl | rfl | rfl | rfl | rfl:n=1\/n=2\/n=3\/n=4\/n=5:=by omega
 all_goals
  go_enter func193,ntmps193;go_wp2;go_ret;exact⟨rfl,rfl⟩
theorem rfull5_any(n:Int)(h1:1<=n)(hn:n<=5)(w:Ba):An Al 194 #[O U n] w fun e w'=>e=Ak (O U ((2^n.toNat-1:Nat):Int))/\w'=w:=by
 obtain⟨m,rfl⟩:=Lp (show 0<=n by omega);have hp:=ww m (by omega) w;go_enter func194,ntmps194;go_wp2_with fail;refine hp.mono ?_;rintro e w' ⟨rfl,rfl⟩;obtain rfl | rfl | rfl | rfl | rfl:m=1\/m=2\/m=3\/m=4\/m=5:=by omega
 all_goals
  go_wp2_with fail;go_ret;exact⟨rfl,rfl⟩
theorem uO{r:Rd}(h:r.n<1\/5<r.n):yN r=2:=Lj h
theorem Yv{r:Rd}(h:¬(r.n<1\/5<r.n)):yN r=yJ r (5-0) 0:=Lg h
theorem pow_le{n:Int}(h5:n<=5):(2^n.toNat-1:Nat)<=31:=by
 have:2^n.toNat<=2^5:=Nt (by omega) (by omega);omega
theorem gcheck_any(r:Rd)(w:Ba):An Al 186 #[.agg r.gcells] w fun e w'=>e=Ak (O U (yN r))/\Am w.heap.size w w':=by
 have ai:=zH (@uO r);have aj:=zH (@Yv r);obtain⟨E,hE⟩:=Kj (yN r);rw[hE] at ai aj ⊢
 have Wr:∀k,k<5->∀w,(Instr.index 72 (Ai #[O U r.h0,O U r.h1,O U r.h2,O U r.h3,O U r.h4]) (O U (k:Nat))).run Al w=.ok (O U (r.h k)) w:=fun k hk w=>by
  obtain rfl | rfl | rfl | rfl | rfl:k=0\/k=1\/k=2\/k=3\/k=4:=by omega
  all_goals exact(by kernel_rfl)
 have IP:=zH Wr;unfold Rd.gcells
 by_cases hr:r.n<1\/5<r.n
 . have HR:=zH (ai.out hr)
   have HN:=zH hr;go_enter func186,ntmps186;go_wp2_with fail
   all_goals first | (exfalso;have:=HN.out;omega) | (go_ret;exact⟨zm HR.out.symm,zW w _⟩)
 have r1:¬r.n<1:=by omega
 have r2:¬5<r.n:=by omega
 have HE:=zH (aj.out hr);go_enter func186,ntmps186;go_wp2_with fail
 all_goals first | (exfalso;omega) | skip
 go_loop [15] (fun i=>∃k:Nat,k<=5/\i=O U (k:Int)/\As (E=yJ r (5-k) k)) (fun i=>5-(Ar i).toNat)
 case atStart=>exact⟨0,by omega,rfl,HE⟩
 obtain⟨k,hk,rfl,an⟩:=hrel
 by_cases hlt:k<5
 . have hx:=IP.out k hlt
   have aR:=zH (@Xy r k hlt);have aQ:=zH (@Jy r k hlt);have h1:=zH (@Yu r.n (r.h k) k);have h2:=zH (@Yt r.n k);have h3:=zH (@XA r.n (r.h k) k);have h4:=zH (@Xz r.n (r.h k) k);have h5:=zH (@Jz r.n (r.h k) k);obtain⟨x,EY⟩:=Kj (r.h k);rw[EY] at hx aR aQ h1 h3 h4 h5
   by_cases hp:r.n<=(k:Int)
   . by_cases hz:x=0
     . subst hz
       have hR:=zH (an.out.trans (aQ.out (h2.out hp)));go_wp2_with fail
       all_goals first | (exfalso;omega) | skip
       go_round
       case rel=>exact⟨k+1,by omega,by go_num,hR⟩
       simp[Ar];omega
     have he:=h1.out hp hz;have hR:=zH (an.out.trans ((aR.out (by rw[he];decide)).trans he));have e0:(x != 0)=Av:=by simpa using hz
     go_wp2_with fail
     all_goals first | (exfalso;omega) | skip
     go_ret;exact⟨zm hR.out.symm,zW w _⟩
   have hF:=zH (gfull_any r.n (by omega) (by omega));have rF:=pow_le (n:=r.n) (by omega);obtain⟨F,hFe⟩:∃F:Nat,(2^r.n.toNat-1:Nat)=F:=⟨_,rfl⟩;rw[hFe] at h3 h4 h5 hF rF
   by_cases ho:x<0\/(F:Int)<x
   . have he:=h3.out hp ho
     have hR:=zH (an.out.trans ((aR.out (by rw[he];decide)).trans he))
     by_cases oH:x<0
     . clear ho
       go_wp2_with fail
       all_goals first | (exfalso;omega) | skip
       go_ret;exact⟨zm hR.out.symm,zW w _⟩
     have sa:(F:Int)<x:=by omega
     go_wp2_with (go_at_call 193;refine(hF.out _).mono ?_;rintro e w' ⟨rfl,rfl⟩)
     all_goals first | (exfalso;omega) | skip
     go_ret;exact⟨zm hR.out.symm,zW w _⟩
   obtain⟨m,rfl⟩:=Lp (show 0<=x by omega);have hm:m<32:=by omega
   have hbz:=bit_zero hm hlt;have oH:¬((m:Int)<0):=by omega
   have sa:¬((F:Int)<(m:Int)):=by omega
   by_cases hb:m.testBit k=Av
   . have hR:=zH (an.out.trans (aQ.out (h4.out hp ho (by simpa using hb))))
     rw[hb] at hbz;go_wp2_with (go_at_call 193;refine(hF.out _).mono ?_;rintro e w' ⟨rfl,rfl⟩)
     all_goals first | (exfalso;omega) | skip
     go_round
     case rel=>exact⟨k+1,by omega,by go_num,hR⟩
     simp[Ar];omega
   have cN:m.testBit k=Aw:=by simpa using hb
   have he:=h5.out hp ho (by simpa using cN);have hR:=zH (an.out.trans ((aR.out (by rw[he];decide)).trans he));rw[cN] at hbz;go_wp2_with (go_at_call 193;refine(hF.out _).mono ?_;rintro e w' ⟨rfl,rfl⟩)
   all_goals first | (exfalso;omega) | skip
   go_ret;exact⟨zm hR.out.symm,zW w _⟩
 obtain rfl:k=5:=by omega
 have hR:As (E=0):=an.out;go_wp2_with fail;go_ret;exact⟨zm hR.out.symm,zW w _⟩
theorem jZ(r:Rd)(k:Nat)(hk:k<5):r.gcells[1+k]?=J (O U (r.h k)):=by
 obtain rfl | rfl | rfl | rfl | rfl:k=0\/k=1\/k=2\/k=3\/k=4:=by omega
 all_goals rfl
theorem QU(r:Rd)(w:Ba):An Al 188 #[.agg r.gcells] w fun e w'=>e=Ak (O U (yN r))/\Am w.heap.size w w':=by
 have ai:=zH (@uO r);have aj:=zH (@Yv r);obtain⟨E,hE⟩:=Kj (yN r);rw[hE] at ai aj ⊢;have i9:=zH (fun k hk=>zh (zx w (Ag r.gcells 74)) (1+k) (jZ r k hk));unfold Rd.gcells at i9 ⊢
 by_cases hr:r.n<1\/5<r.n
 . have HR:=zH (ai.out hr)
   have HN:=zH hr;go_enter func188,ntmps188;go_wp2_with fail
   all_goals first | (exfalso;have:=HN.out;omega) | (go_ret;exact⟨zm HR.out.symm,zW w _⟩)
 have r1:¬r.n<1:=by omega
 have r2:¬5<r.n:=by omega
 have HE:=zH (aj.out hr);go_enter func188,ntmps188;go_wp2_with fail
 all_goals first | (exfalso;omega) | skip
 obtain⟨W0,dT⟩:=Kj (w.alloc (Ag #[O U r.n,O U r.h0,O U r.h1,O U r.h2,O U r.h3,O U r.h4] 74));have fP:W0.heap[w.heap.size]?=J (Ag #[O U r.n,O U r.h0,O U r.h1,O U r.h2,O U r.h3,O U r.h4] 74 (0,0)):=by rw[<-dT];exact zx _ _
 have HB:=zH (show Am w.heap.size w W0 by rw[<-dT];exact zW w _);have q0:=zh fP 0 rfl;rw[dT] at i9 ⊢
 go_loop [3] (fun i=>∃k:Nat,k<=5/\i=O U (k:Int)/\As (E=yJ r (5-k) k)) (fun i=>5-(Ar i).toNat)
 case atStart=>exact⟨0,by omega,rfl,HE⟩
 obtain⟨k,hk,rfl,an⟩:=hrel
 by_cases hlt:k<5
 . have hx:=i9.out k hlt
   have aR:=zH (@Xy r k hlt);have aQ:=zH (@Jy r k hlt);have h1:=zH (@Yu r.n (r.h k) k);have h2:=zH (@Yt r.n k);have h3:=zH (@XA r.n (r.h k) k);have h4:=zH (@Xz r.n (r.h k) k);have h5:=zH (@Jz r.n (r.h k) k);obtain⟨x,EY⟩:=Kj (r.h k);rw[EY] at hx aR aQ h1 h3 h4 h5
   by_cases hp:r.n<=(k:Int)
   . by_cases hz:x=0
     . subst hz
       have hR:=zH (an.out.trans (aQ.out (h2.out hp)));go_wp2_with fail
       all_goals first | (exfalso;omega) | skip
       go_round
       case rel=>exact⟨k+1,by omega,by go_num,hR⟩
       simp[Ar];omega
     have he:=h1.out hp hz;have hR:=zH (an.out.trans ((aR.out (by rw[he];decide)).trans he));have e0:(x != 0)=Av:=by simpa using hz
     go_wp2_with fail
     all_goals first | (exfalso;omega) | skip
     go_ret;exact⟨zm hR.out.symm,HB.out⟩
   have hF:=zH (rfull5_any r.n (by omega) (by omega));have rF:=pow_le (n:=r.n) (by omega);obtain⟨F,hFe⟩:∃F:Nat,(2^r.n.toNat-1:Nat)=F:=⟨_,rfl⟩;rw[hFe] at h3 h4 h5 hF rF
   by_cases ho:x<0\/(F:Int)<x
   . have he:=h3.out hp ho
     have hR:=zH (an.out.trans ((aR.out (by rw[he];decide)).trans he))
     by_cases oH:x<0
     . clear ho
       go_wp2_with fail
       all_goals first | (exfalso;omega) | skip
       go_ret;exact⟨zm hR.out.symm,HB.out⟩
     have sa:(F:Int)<x:=by omega
     go_wp2_with (go_at_call 194;refine(hF.out _).mono ?_;rintro e w' ⟨rfl,lZ⟩;obtain rfl:=lZ.symm)
     all_goals first | (exfalso;omega) | skip
     go_ret;exact⟨zm hR.out.symm,HB.out⟩
   obtain⟨m,rfl⟩:=Lp (show 0<=x by omega);have hm:m<32:=by omega
   have oH:¬((m:Int)<0):=by omega
   have sa:¬((F:Int)<(m:Int)):=by omega
   have hH:=zH (fun w=>ZB m k hm hlt w)
   by_cases hb:m.testBit k=Av
   . have hR:=zH (an.out.trans (aQ.out (h4.out hp ho (by simpa using hb))))
     rw[hb] at hH;go_wp2_with (first | (go_at_call 194;refine(hF.out _).mono ?_;rintro e w' ⟨rfl,lZ⟩;obtain rfl:=lZ.symm) | (go_at_call 159;refine(hH.out _).mono ?_;rintro e w' ⟨rfl,rfl⟩))
     all_goals first | (exfalso;omega) | skip
     go_round
     case rel=>exact⟨k+1,by omega,by go_num,hR⟩
     simp[Ar];omega
   have cN:m.testBit k=Aw:=by simpa using hb
   have he:=h5.out hp ho (by simpa using cN);have hR:=zH (an.out.trans ((aR.out (by rw[he];decide)).trans he));rw[cN] at hH;go_wp2_with (first | (go_at_call 194;refine(hF.out _).mono ?_;rintro e w' ⟨rfl,lZ⟩;obtain rfl:=lZ.symm) | (go_at_call 159;refine(hH.out _).mono ?_;rintro e w' ⟨rfl,rfl⟩))
   all_goals first | (exfalso;omega) | skip
   go_ret;exact⟨zm hR.out.symm,HB.out⟩
 obtain rfl:k=5:=by omega
 have hR:As (E=0):=an.out;go_wp2_with fail;go_ret;exact⟨zm hR.out.symm,HB.out⟩
theorem uz{r:Rd}(h:yN r≠0):yu r=yN r:=Lj h
theorem Z8{r:Rd}(h:yN r=0):yu r=yY r.n r.f:=Lg (by simpa using h)
theorem Z7(r:Rd)(w:Ba):An Al 171 #[.agg r.cells] w fun e w'=>e=Ak (O U (yu r))/\Am w.heap.size w w':=by
 have ai:=zH (@uz r);have aj:=zH (@Z8 r);have HG:=zH (fun w=>gcheck_any r w);have HS:=zH (fun w=>XJ r.n r.f w);obtain⟨E,hE⟩:=Kj (yu r);rw[hE] at ai aj ⊢;obtain⟨g,hg⟩:=Kj (yN r);rw[hg] at ai aj HG;obtain⟨s,hs⟩:=Kj (yY r.n r.f);rw[hs] at aj HS;unfold Rd.cells;unfold Rd.gcells at HG;go_enter func171,ntmps171;go_wp2_with fail;obtain⟨W0,dT⟩:=Kj (w.alloc (Ag #[O U r.n,O U r.h0,O U r.h1,O U r.h2,O U r.h3,O U r.h4,O U r.f] 76));have fP:W0.heap[w.heap.size]?=J (Ag #[O U r.n,O U r.h0,O U r.h1,O U r.h2,O U r.h3,O U r.h4,O U r.f] 76 (0,0)):=by rw[<-dT];exact zx _ _
 have hB:Am w.heap.size w W0:=by rw[<-dT];exact zW w _
 have rB:=zj fP;rw[dT];refine(HG.out W0).mono ?_;rintro e w1 ⟨rfl,aF⟩;have HB:=zH (Lc hB aF);have d0:=Lb aF rB fP;have q0:=zh d0 0 rfl;have q6:=zh d0 6 rfl
 by_cases h0:g=0
 . subst h0
   have hR:=zH (aj.out (by simp));go_wp2_with fail;refine(HS.out _).mono ?_;rintro e w2 ⟨rfl,rfl⟩;go_wp2_with fail;go_ret;exact⟨zm hR.out.symm,HB.out⟩
 have hR:=zH (ai.out h0);have e0:(g != 0)=Av:=by simpa using h0
 go_wp2_with fail;go_ret;exact⟨zm hR.out.symm,HB.out⟩
theorem Zr(r:Rd)(w:Ba):An Al 177 #[.agg r.cells] w fun e w'=>e=Ak (O U (yu r))/\Am w.heap.size w w':=by
 have ai:=zH (@uz r);have aj:=zH (@Z8 r);have HG:=zH (fun w=>QU r w);have HS:=zH (fun w=>rcheck_any r.n r.f w);obtain⟨E,hE⟩:=Kj (yu r);rw[hE] at ai aj ⊢;obtain⟨g,hg⟩:=Kj (yN r);rw[hg] at ai aj HG;obtain⟨s,hs⟩:=Kj (yY r.n r.f);rw[hs] at aj HS;unfold Rd.cells;unfold Rd.gcells at HG;go_enter func177,ntmps177;go_wp2_with fail;obtain⟨W0,dT⟩:=Kj (w.alloc (Ag #[O U r.n,O U r.h0,O U r.h1,O U r.h2,O U r.h3,O U r.h4,O U r.f] 76));have fP:W0.heap[w.heap.size]?=J (Ag #[O U r.n,O U r.h0,O U r.h1,O U r.h2,O U r.h3,O U r.h4,O U r.f] 76 (0,0)):=by rw[<-dT];exact zx _ _
 have hB:Am w.heap.size w W0:=by rw[<-dT];exact zW w _
 have rB:=zj fP;rw[dT];refine(HG.out W0).mono ?_;rintro e w1 ⟨rfl,aF⟩;have HB:=zH (Lc hB aF);have d0:=Lb aF rB fP;have q0:=zh d0 0 rfl;have q6:=zh d0 6 rfl
 by_cases h0:g=0
 . subst h0
   have hR:=zH (aj.out (by simp));go_wp2_with fail;refine(HS.out _).mono ?_;rintro e w2 ⟨rfl,rfl⟩;go_wp2_with fail;go_ret;exact⟨zm hR.out.symm,HB.out⟩
 have hR:=zH (ai.out h0);have e0:(g != 0)=Av:=by simpa using h0
 go_wp2_with fail;go_ret;exact⟨zm hR.out.symm,HB.out⟩
theorem yI(w:Ba)(c1 c2:Array Au)(t1 t2:TypeId):∃W0,(w.alloc (Ag c1 t1)).alloc (Ag c2 t2)=W0/\W0.heap[w.heap.size]?=J (Ag c1 t1 (0,0))/\W0.heap[w.heap.size+1]?=J (Ag c2 t2 (0,0))/\w.heap.size+2<=W0.heap.size/\Am w.heap.size w W0:=
 ⟨_,rfl,yD (zx _ _) _,by have:=zx (w.alloc (Ag c1 t1)) (Ag c2 t2);rwa[NX] at this,by simp,uj w _ _⟩
theorem ua{x y:Int}{l m:List Int}:zD (x::l) (y::m)=if jm x y≠0 then jm x y else zD l m:=by
 rw[zD];unfold jm
 by_cases h1:x<y
 . simp[h1]
 by_cases h2:y<x
 . simp[h1,h2]
 simp[h1,h2]
theorem ZC{r:Rd}{k:Nat}(hk:k<5):r.gl.drop (k+1)=r.h k::r.gl.drop (k+2):=by
 obtain rfl | rfl | rfl | rfl | rfl:k=0\/k=1\/k=2\/k=3\/k=4:=by omega
 all_goals rfl
theorem gl_step{a b:Rd}{k:Nat}(hk:k<5):zD (a.gl.drop (k+1)) (b.gl.drop (k+1))=if jm (a.h k) (b.h k)≠0 then jm (a.h k) (b.h k) else zD (a.gl.drop (k+2)) (b.gl.drop (k+2)):=by
 rw[ZC hk,ZC hk,ua]
theorem gl_zero{a b:Rd}:zD a.gl b.gl=if jm a.n b.n≠0 then jm a.n b.n else zD (a.gl.drop 1) (b.gl.drop 1):=ua
theorem l_split{a b:Rd}:zD a.l b.l=if zD a.gl b.gl≠0 then zD a.gl b.gl else jm a.f b.f:=by
 unfold Rd.l Rd.gl;simp only[ua]
 repeat' split
 all_goals first | rfl | (simp_all [zD];done) | (exfalso;simp_all [zD];done)
theorem cmpI_zero{x y:Int}(h:jm x y=0):x=y:=by
 unfold jm at h
 split at h
 . cases h
 split at h
 . cases h
 omega
theorem cmpI_self(x:Int):jm x x=0:=by unfold jm;rw[Lg (by omega),Lg (by omega)]
theorem Qs(a b:Rd)(w:Ba):An Al 187 #[.agg a.gcells,.agg b.gcells] w fun e w'=>e=Ak (O U (zD a.gl b.gl))/\∃W0 n,w'=World.drewN W0 n/\W0=(w.alloc (Ag a.gcells 74)).alloc (Ag b.gcells 74):=by
 have HQ:=zH (fun w=>eql_graph a b w);have H0:=zH (@gl_zero a b);have HS:As (a.gl=b.gl->zD a.gl b.gl=0):=fun h=>by rw[h];exact qG _
 obtain⟨E,hE⟩:=Kj (zD a.gl b.gl);rw[hE] at H0 HS ⊢;have Dq:=zH (fun k hk=>zh (yD (zx w (Ag a.gcells 74)) (Ag b.gcells 74)) (1+k) (jZ a k hk));have dv:=zH (fun k hk=>zh (zx (w.alloc (Ag a.gcells 74)) (Ag b.gcells 74)) (1+k) (jZ b k hk));rw[NX] at dv;have HX:As (∃W0,W0=(w.alloc (Ag a.gcells 74)).alloc (Ag b.gcells 74)):=⟨_,rfl⟩;unfold Rd.gcells at HQ Dq dv HX ⊢
 by_cases he:a.gl=b.gl
 . have hq:∀w,_:=fun w=>HQ.out w
   rw[Lw he] at hq;have hR:=zH (HS.out he);go_enter func187,ntmps187;go_wp2_with fail;go_ret;exact⟨zm hR.out.symm,_,0,rfl,rfl⟩
 have hq:∀w,_:=fun w=>HQ.out w
 rw[Lv he] at hq;clear HQ HS he;have HN:=zH (fun w=>ZE a.n b.n w);obtain⟨cn,FP⟩:=Kj (jm a.n b.n);have WT:As (cn=0↔a.n=b.n):=by rw[<-FP];exact⟨cmpI_zero,fun h=>by rw[h];exact cmpI_self _⟩
 rw[FP] at H0 HN;clear FP
 by_cases hn:a.n=b.n
 . have FS:cn=0:=WT.out.2 hn
   subst FS;have HE:=zH (H0.out.trans (Lg (by simp)));have e0:(a.n != b.n)=Aw:=by simpa using hn
   clear H0 HN WT hn;go_enter func187,ntmps187;go_wp2_with fail;obtain⟨W0,dT⟩:=HX.out;rw[<-dT] at Dq dv ⊢;clear HX hq e0;have Ew:=zH dT;clear dT
   go_loopw [20] (fun i wr=>∃k n:Nat,k<=5/\i=O U (k:Int)/\As (E=zD (a.gl.drop (k+1)) (b.gl.drop (k+1)))/\wr=W0.drewN n) (fun i _=>5-(Ar i).toNat)
   case atStart=>exact⟨0,0,by omega,rfl,HE,rfl⟩
   obtain⟨k,n,hk,rfl,an,rfl⟩:=hrel;clear HE
   by_cases hlt:k<5
   . have c1:=Dq.out k hlt
     have c2:=dv.out k hlt;have hs:=zH (an.out.trans (gl_step hlt));have HC:=zH (fun (p:Nat)=>(ZE (a.h k) (b.h k) (W0.drewN p)));obtain⟨x,hx⟩:=Kj (a.h k);obtain⟨y,hy⟩:=Kj (b.h k);rw[hx] at c1 hs HC;rw[hy] at c2 hs HC;obtain⟨cv,sZ⟩:=Kj (jm x y);rw[sZ] at hs HC;clear hx hy sZ an
     by_cases hz:cv=0
     . subst hz
       have hR:=zH (hs.out.trans (Lg (by simp)));clear hs;go_wp2_with fail;go_quiet ((go_at_call 168;exact(HC.out _).mono fun e w' h=>⟨h.1,_,h.2.symm⟩));go_wp2_with fail
       go_roundw
       case rel=>exact⟨k+1,_,by omega,by go_num,hR,rfl⟩
       simp[Ar];omega
     have hR:=zH (hs.out.trans (Lj hz));have e0:(cv != 0)=Av:=by simpa using hz
     clear hs hz;go_wp2_with fail;go_quiet ((go_at_call 168;exact(HC.out _).mono fun e w' h=>⟨h.1,_,h.2.symm⟩));go_wp2_with fail;go_ret;exact⟨zm hR.out.symm,W0,_,by first | rfl | exact(Ri ..),Ew.out⟩
   obtain rfl:k=5:=by omega
   have hR:As (E=0):=an.out;clear an;go_wp2_with fail;go_ret;exact⟨zm hR.out.symm,W0,_,rfl,Ew.out⟩
 have FS:¬cn=0:=fun h=>hn (WT.out.1 h)
 have HE:=zH (H0.out.trans (Lj FS));have e0:(a.n != b.n)=Av:=by simpa using hn
 go_enter func187,ntmps187;go_wp2_with fail;refine(HN.out _).mono ?_;rintro e w1 ⟨rfl,rfl⟩;go_wp2_with fail;go_ret;exact⟨zm HE.out.symm,_,0,rfl,rfl⟩
theorem gcomp_any(a b:Rd)(w:Ba):An Al 187 #[.agg a.gcells,.agg b.gcells] w fun e w'=>e=Ak (O U (zD a.gl b.gl))/\Am w.heap.size w w':=
 (Qs a b w).mono fun e w' ⟨h1,W0,n,h2,h3⟩=>⟨h1,by rw[h2,h3];exact yy (uj w _ _) n⟩
theorem YT(a b:Rd)(w:Ba):An Al 172 #[.agg a.cells,.agg b.cells] w fun e w'=>e=Ak (O U (zD a.l b.l))/\Am w.heap.size w w':=by
 have HQ:=zH (fun w=>eql_round a b w);have HN:=zH (fun w=>neq_graph a b w);have HS:=zH (@l_split a b);have HZ:As (a=b->zD a.l b.l=0):=fun h=>by rw[h];exact qG _
 have HG:=zH (fun w=>gcomp_any a b w);have HF:=zH (fun w=>ZE a.f b.f w);have UM:As (a.gl=b.gl↔zD a.gl b.gl=0):=⟨fun h=>by rw[h];exact qG _,jV⟩;obtain⟨E,hE⟩:=Kj (zD a.l b.l);rw[hE] at HS HZ ⊢;obtain⟨g,hg⟩:=Kj (zD a.gl b.gl);rw[hg] at HS HG UM;obtain⟨c,hc⟩:=Kj (jm a.f b.f);rw[hc] at HS HF;unfold Rd.gcells at HN HG;unfold Rd.cells at HQ ⊢
 by_cases he:a=b
 . have hq:∀w,_:=fun w=>HQ.out w
   rw[Lw he] at hq;have hR:=zH (HZ.out he);clear HQ HN HS HZ HG HF UM he;go_enter func172,ntmps172;go_wp2_with fail;go_ret;exact⟨zm hR.out.symm,uj w _ _⟩
 have hq:∀w,_:=fun w=>HQ.out w
 rw[Lv he] at hq
 by_cases dC:a.gl=b.gl
 . have hn:∀w,_:=fun w=>HN.out w
   rw[show decide (a.gl≠b.gl)=Aw by simpa using dC] at hn;have hR:=zH (HS.out.trans (Lg (by simpa using UM.out.1 dC)));go_enter func172,ntmps172;go_wp2_with fail;refine(HF.out _).mono ?_;rintro e w1 ⟨rfl,rfl⟩;go_wp2_with fail;go_ret;exact⟨zm hR.out.symm,uj w _ _⟩
 have hn:∀w,_:=fun w=>HN.out w
 rw[show decide (a.gl≠b.gl)=Av by simpa using dC] at hn;have hR:=zH (HS.out.trans (Lj (fun h=>dC (UM.out.2 h))));go_enter func172,ntmps172;go_wp2_with fail;refine(HG.out _).mono ?_;rintro e w1 ⟨rfl,hb⟩;have HB:=zH ((uj w (Ag #[O U a.n,O U a.h0,O U a.h1,O U a.h2,O U a.h3,O U a.h4,O U a.f] 76) (Ag #[O U b.n,O U b.h0,O U b.h1,O U b.h2,O U b.h3,O U b.h4,O U b.f] 76)).trans (hb.mono (by simp;omega)));go_wp2_with fail;go_ret;exact⟨zm hR.out.symm,HB.out⟩
theorem rgcomp_any(a b:Rd)(w:Ba):An Al 190 #[.agg a.gcells,.agg b.gcells] w fun e w'=>e=Ak (O U (zD a.gl b.gl))/\Am w.heap.size w w':=by
 have H0:As (zD a.gl b.gl=if a.n<b.n then -1 else if b.n<a.n then 1 else zD (a.gl.drop 1) (b.gl.drop 1)):=rfl;obtain⟨E,hE⟩:=Kj (zD a.gl b.gl);rw[hE] at H0 ⊢;have Dq:=zH (fun k hk=>zh (yD (zx w (Ag a.gcells 74)) (Ag b.gcells 74)) (1+k) (jZ a k hk));have dv:=zH (fun k hk=>zh (zx (w.alloc (Ag a.gcells 74)) (Ag b.gcells 74)) (1+k) (jZ b k hk));rw[NX] at dv;have HX:As (∃W0,W0=(w.alloc (Ag a.gcells 74)).alloc (Ag b.gcells 74)):=⟨_,rfl⟩;unfold Rd.gcells at Dq dv HX ⊢;clear hE
 by_cases h1:a.n<b.n
 . have hR:=zH (H0.out.trans (Lj h1))
   clear H0 Dq dv HX;go_enter func190,ntmps190;go_wp2_with fail;go_ret;exact⟨zm hR.out.symm,uj w _ _⟩
 by_cases h2:b.n<a.n
 . have hR:=zH (H0.out.trans ((Lg h1).trans (Lj h2)))
   clear H0 Dq dv HX;go_enter func190,ntmps190;go_wp2_with fail
   all_goals first | (exfalso;omega) | skip
   go_ret;exact⟨zm hR.out.symm,uj w _ _⟩
 have HE:=zH (H0.out.trans ((Lg h1).trans (Lg h2)));clear H0;go_enter func190,ntmps190;go_wp2_with fail
 all_goals first | (exfalso;omega) | skip
 obtain⟨W0,dT⟩:=HX.out;rw[<-dT] at Dq dv ⊢;clear HX;have Ew:=zH (show Am w.heap.size w W0 by rw[dT];exact uj w _ _);clear dT
 go_loopw [5] (fun i wr=>∃k n:Nat,k<=5/\i=O U (k:Int)/\As (E=zD (a.gl.drop (k+1)) (b.gl.drop (k+1)))/\wr=W0.drewN n) (fun i _=>5-(Ar i).toNat)
 case atStart=>exact⟨0,0,by omega,rfl,HE,rfl⟩
 obtain⟨k,n,hk,rfl,an,rfl⟩:=hrel;clear HE
 by_cases hlt:k<5
 . have c1:=Dq.out k hlt
   have c2:=dv.out k hlt;have hs:E=if a.h k<b.h k then -1 else if b.h k<a.h k then 1 else zD (a.gl.drop (k+1+1)) (b.gl.drop (k+1+1)):=by rw[an.out,ZC hlt,ZC hlt,zD]
   obtain⟨x,hx⟩:=Kj (a.h k);obtain⟨y,hy⟩:=Kj (b.h k);rw[hx] at c1 hs;rw[hy] at c2 hs;have HS:=zH hs;clear hx hy an hs
   by_cases l1:x<y
   . have hR:=zH (HS.out.trans (Lj l1))
     clear HS;go_wp2_with fail;go_quiet (fail);go_wp2_with fail;go_ret;exact⟨zm hR.out.symm,by repeat (first | exact Ew.out | refine yy ?_ _)⟩
   by_cases l2:y<x
   . have hR:=zH (HS.out.trans ((Lg l1).trans (Lj l2)))
     clear HS;go_wp2_with fail;go_quiet (fail);go_wp2_with fail;go_quiet (fail);go_wp2_with fail;go_ret;exact⟨zm hR.out.symm,by repeat (first | exact Ew.out | refine yy ?_ _)⟩
   have hR:=zH (HS.out.trans ((Lg l1).trans (Lg l2)));clear HS;go_wp2_with fail;go_quiet (fail);go_wp2_with fail;go_quiet (fail);go_wp2_with fail
   go_roundw
   case rel=>exact⟨k+1,_,by omega,by go_num,hR,rfl⟩
   simp[Ar];omega
 obtain rfl:k=5:=by omega
 have hR:As (E=0):=an.out;clear an;go_wp2_with fail;go_ret;exact⟨zm hR.out.symm,by repeat (first | exact Ew.out | refine yy ?_ _)⟩
theorem Z3(a b:Rd)(w:Ba):An Al 178 #[.agg a.cells,.agg b.cells] w fun e w'=>e=Ak (O U (zD a.l b.l))/\Am w.heap.size w w':=by
 have HS:=zH (@l_split a b);have HG:=zH (fun w=>rgcomp_any a b w);have HF:As (jm a.f b.f=if a.f<b.f then -1 else if b.f<a.f then 1 else 0):=rfl;obtain⟨E,hE⟩:=Kj (zD a.l b.l);rw[hE] at HS ⊢;obtain⟨g,hg⟩:=Kj (zD a.gl b.gl);rw[hg] at HS HG;rw[HF.out] at HS;unfold Rd.gcells at HG;unfold Rd.cells;go_enter func178,ntmps178;go_wp2_with fail;obtain⟨W0,dT,b0,b1,aP,bG⟩:=yI w #[O U a.n,O U a.h0,O U a.h1,O U a.h2,O U a.h3,O U a.h4,O U a.f] #[O U b.n,O U b.h0,O U b.h1,O U b.h2,O U b.h3,O U b.h4,O U b.f] 76 76;rw[dT];refine(HG.out W0).mono ?_;rintro e w1 ⟨rfl,aF⟩;have HB:=zH (Lc bG aF);have d0:=Lb aF (by omega) b0;have d1:=Lb aF (by omega) b1;have q6:=zh d0 6 rfl;have p6:=zh d1 6 rfl
 by_cases h0:g=0
 . subst h0
   have hR:=zH (HS.out.trans (Lg (by simp)))
   by_cases l1:a.f<b.f
   . have hR:=zH (hR.out.trans (Lj l1))
     go_wp2_with fail;go_ret;exact⟨zm hR.out.symm,HB.out⟩
   by_cases l2:b.f<a.f
   . have hR:=zH (hR.out.trans ((Lg l1).trans (Lj l2)))
     go_wp2_with fail
     all_goals first | (exfalso;omega) | skip
     go_ret;exact⟨zm hR.out.symm,HB.out⟩
   have hR:=zH (hR.out.trans ((Lg l1).trans (Lg l2)));go_wp2_with fail
   all_goals first | (exfalso;omega) | skip
   go_ret;exact⟨zm hR.out.symm,HB.out⟩
 have hR:=zH (HS.out.trans (Lj h0));have e0:(g != 0)=Av:=by simpa using h0
 go_wp2_with fail;go_ret;exact⟨zm hR.out.symm,HB.out⟩
end
section
open Go.RowKit
attribute [local go_sem] Oper.semAt_some
def LowA(a:Ad):Prop:=a.sts.length<=17592186044416/\∀l∈a.sts,l.length<=17592186044416
end
end Go.Proofs.YtkmbdfdaffmhjaaGreat
namespace Go.Proofs
set_option maxHeartbeats 16000000
open Go.Shelf
def Tryz.lays212_ren:Go.Shelf.Ren:=⟨fun | 212=>76 | 263=>126 | 264=>127 | n=>n,fun | 46=>144 | 51=>194 | 146=>195 | 53=>197 | 148=>198 | n=>n,fun | n=>n⟩
theorem Tryz.lays212:Go.Proofs.Lays.n212 Tryz.prog Tryz.lays212_ren:={
 mixed:=by kernel_rfl
 f212:=Tryz.func76.trans (congrArg some (by kernel_rfl))
 f263:=Tryz.func126.trans (congrArg some (by kernel_rfl))
 f264:=Tryz.func127.trans (congrArg some (by kernel_rfl))
 t46:=Tryz.underlying144
 a46:=Tryz.isAgg144
 z46:=Tryz.sizeOf144
 v46:=Tryz.zeroValue144
 t51:=Tryz.underlying194
 a51:=Tryz.isAgg194
 z51:=Tryz.sizeOf194
 v51:=Tryz.zeroValue194
 t53:=Tryz.underlying197
 a53:=Tryz.isAgg197
 z53:=Tryz.sizeOf197
 v53:=Tryz.zeroValue197
 t146:=Tryz.underlying195
 a146:=Tryz.isAgg195
 z146:=Tryz.sizeOf195
 v146:=Tryz.zeroValue195
 t148:=Tryz.underlying198
 a148:=Tryz.isAgg198
 z148:=Tryz.sizeOf198
 v148:=Tryz.zeroValue198 }
open Go.RowKit Go.Lib in
/-- math/bits.Mul: "Mul returns the full-width product of x and y": on a machine of 64 bits: Mul64's. (LAID: no walk: one application.) -/
theorem Tryz.bits_Mul (x y:Nat) (hx:x<18446744073709551616) (hy:y<18446744073709551616) (w:World) :
  Calls Tryz.prog 76 #[.int .u64 x,.int .u64 y] w fun e w'=>e=.returned (.tuple #[.int .u64 ((x*y / 18446744073709551616:Nat):Int),.int .u64 ((x*y % 18446744073709551616:Nat):Int)])∧w'=w:=Any.bits_Mul Tryz.lays212 x y hx hy w
def Tryz.lays107_ren:Go.Shelf.Ren:=⟨fun | 107=>47 | 108=>82 | n=>n,fun | 28=>50 | 3=>3 | 4=>4 | 0=>0 | n=>n,fun | n=>n⟩
theorem Tryz.lays107:Go.Proofs.Lays.n107 Tryz.prog Tryz.lays107_ren:={
 mixed:=by kernel_rfl
 f107:=Tryz.func47.trans (congrArg some (by kernel_rfl))
 f108:=Tryz.func82.trans (congrArg some (by kernel_rfl))
 t0:=Tryz.underlying0
 a0:=Tryz.isAgg0
 z0:=Tryz.sizeOf0
 v0:=Tryz.zeroValue0
 t3:=Tryz.underlying3
 a3:=Tryz.isAgg3
 z3:=Tryz.sizeOf3
 v3:=Tryz.zeroValue3
 t4:=Tryz.underlying4
 a4:=Tryz.isAgg4
 z4:=Tryz.sizeOf4
 v4:=Tryz.zeroValue4
 t28:=Tryz.underlying50
 a28:=Tryz.isAgg50
 z28:=Tryz.sizeOf50
 v28:=Tryz.zeroValue50 }
open Go.Lib in
/-- slices.Contains at []int: "Contains reports whether v is present in s.": IT RETURNS 'elements.contains v'; the world is as it was. ITS CALLEE slices.Index IS MET BY ITS OWN CONTRACT OFF THE SHELF (lay that first): no loop is walked here. (LAID: no walk: one application.) -/
theorem Tryz.slices_Contains_int (b off n c:Nat) (zs:List Int) (x:Int) (w:World) (hz:n≤zs.length) (hbig:n≤9223372036854775807) (hc:∀j,j<zs.length→w.cell? ⟨b,off+j,none⟩=some (.int .i64 (zs.getD j 0))) :
  Calls Tryz.prog 47 #[.slice (some ⟨b,off,none⟩) n c,.int .i64 x] w fun e w'=>e=.returned (.bool ((zs.take n).contains x))∧w'=w:=Any.slices_Contains_int Tryz.lays107 b off n c zs x w hz hbig hc
open Go.Lib in
/-- The same at a slice of length 0, a nil one too. (LAID: no walk: one application.) -/
theorem Tryz.slices_Contains_int_empty (a:Option Addr) (c:Nat) (x:Int) (w:World) :
  Calls Tryz.prog 47 #[.slice a 0 c,.int .i64 x] w fun e w'=>e=.returned (.bool false)∧w'=w:=Any.slices_Contains_int_empty Tryz.lays107 a c x w
def Tryz.lays111_ren:Go.Shelf.Ren:=⟨fun | 111=>108 | n=>n,fun | 28=>50 | 3=>3 | 4=>4 | 0=>0 | n=>n,fun | n=>n⟩
theorem Tryz.lays111:Go.Proofs.Lays.n111 Tryz.prog Tryz.lays111_ren:={
 mixed:=by kernel_rfl
 f111:=Tryz.func108.trans (congrArg some (by kernel_rfl))
 t0:=Tryz.underlying0
 a0:=Tryz.isAgg0
 z0:=Tryz.sizeOf0
 v0:=Tryz.zeroValue0
 t3:=Tryz.underlying3
 a3:=Tryz.isAgg3
 z3:=Tryz.sizeOf3
 v3:=Tryz.zeroValue3
 t4:=Tryz.underlying4
 a4:=Tryz.isAgg4
 z4:=Tryz.sizeOf4
 v4:=Tryz.zeroValue4
 t28:=Tryz.underlying50
 a28:=Tryz.isAgg50
 z28:=Tryz.sizeOf50
 v28:=Tryz.zeroValue50 }
open Go.RowKit Go.Lib in
/-- slices.Equal at []int: "Equal reports whether two slices are equal: the same length and all elements equal. If the lengths are different, Equal returns false. Otherwise, the elements are compared in increasing index order, and the comparison stops at the first unequal pair. Empty and nil slices are considered equal.": IT RETURNS WHETHER THE TWO LISTS OF ELEMENTS ARE ONE; the world is as it was but for the count of draws (the test 's1[i] != s2[i]' has two reads, whose order the model draws, once a round). 'xs', 'ys': what the cells xf the two addresses hold (the spare capacity too, if you have it); 'xs.take n', 'ys.take m': the elements. THE TWO SLICES MAY OVERLAP. (LAID: no walk: one application.) -/
theorem Tryz.slices_Equal_int (b1 o1 n c b2 o2 m d:Nat) (xs ys:List Int) (w:World) (hx:n≤xs.length) (hy:m≤ys.length) (hbig:n≤9223372036854775807) (hbig2:m≤9223372036854775807) (hc1:∀j,j<xs.length→w.cell? ⟨b1,o1+j,none⟩=some (.int .i64 (xs.getD j 0))) (hc2:∀j,j<ys.length→w.cell? ⟨b2,o2+j,none⟩=some (.int .i64 (ys.getD j 0))) :
  Calls Tryz.prog 108 #[.slice (some ⟨b1,o1,none⟩) n c,.slice (some ⟨b2,o2,none⟩) m d] w fun e w'=>e=.returned (.bool (xs.take n==ys.take m))∧∃q,w'=w.drewN q:=Any.slices_Equal_int Tryz.lays111 b1 o1 n c b2 o2 m d xs ys w hx hy hbig hbig2 hc1 hc2
open Go.RowKit Go.Lib in
/-- The same where the first is of length 0 (a nil one too): no cell is asked for. (LAID: no walk: one application.) -/
theorem Tryz.slices_Equal_int_empty (a1 a2:Option Addr) (c m d:Nat) (w:World) (hbig2:m≤9223372036854775807) :
  Calls Tryz.prog 108 #[.slice a1 0 c,.slice a2 m d] w fun e w'=>e=.returned (.bool (decide (m=0)))∧w'=w:=Any.slices_Equal_int_empty Tryz.lays111 a1 a2 c m d w hbig2
open Go.RowKit Go.Lib in
theorem Tryz.slices_Equal_int_lens (a1 a2:Option Addr) (n c m d:Nat) (w:World) (hnm:n≠m) :
  Calls Tryz.prog 108 #[.slice a1 n c,.slice a2 m d] w fun e w'=>e=.returned (.bool false)∧w'=w:=Any.slices_Equal_int_lens Tryz.lays111 a1 a2 n c m d w hnm
end Go.Proofs
namespace Go.Proofs.YtkmbdfdaffmhjaaGreat
set_option maxRecDepth 100000
set_option maxHeartbeats 16000000
section
open Go.RowKit
def RetIdx(b:Bool)(w:Ba)(e:Ending)(w':Ba):Prop:=∃i:Int,e=Ak (O U i)/\decide (0<=i)=b/\∃n,w'=w.drewN n
theorem uY{α:Type}{p:α->Bool}{l:List α}{k:Nat}(hk:k<l.length):(l.drop k).any p=(p l[k]||(l.drop (k+1)).any p):=by
 rw[Lz hk];rfl
theorem ZF{α:Type}{p:α->Bool}{l:List α}{k:Nat}(hk:k=l.length):(l.drop k).any p=Aw:=by subst hk;rw[Nz];rfl
theorem QI(x m:Int)(bm:Nat)(w:Ba)(hb:w.heap[bm]?=J (Ag #[O U m] 3 (0,0))) :
  An Al 167 #[O U x,Aj (J ⟨bm,0,Z⟩)] w fun e w'=>e=Ak (Ah (kQ m x))/\w=w':=by
 have H:As (kQ m x=decide (x<0\/m<=x)):=rfl;have c0:=zh hb 0 rfl;go_enter func167,ntmps167;go_wp2
 all_goals
  go_ret;refine⟨zy ?_,rfl⟩;rw[H.out];simp
  try omega
theorem J7(A:Bb)(c:Nat)(xs:List Int)(m:Int)(bm:Nat)(hl:xs.length<=17592186044416)(w:Ba)(hA:IAt w w.heap.size A xs)(hb:w.heap[bm]?=J (Ag #[O U m] 3 (0,0))) :
  An Al 182 #[I A xs.length c,.func (.func 167) #[] #[Aj (J ⟨bm,0,Z⟩)]] w (RetIdx (xs.any (kQ m)) w):=by
 have HA:=zH hA;have HV:=zH (fun x=>QI x m bm w hb);obtain⟨r,hr⟩:=Kj (xs.any (kQ m));rw[hr];have HR:As (r=(xs.drop 0).any (kQ m)):=by rw[Nl];exact hr.symm
 go_enter func182,ntmps182;go_wp2_with fail
 go_loop [8] (fun i=>∃k:Nat,k<=xs.length/\i=O U (k:Int)/\As (r=(xs.drop k).any (kQ m))) (fun i=>xs.length-(Ar i).toNat)
 case atStart=>exact⟨0,by omega,rfl,HR⟩
 obtain⟨k,hk,rfl,an⟩:=hrel
 by_cases hlt:k<xs.length
 . obtain⟨b,o,rfl,iX,c1⟩:=HA.out.at_ k hlt
   have hs:=uY (p:=kQ m) hlt;obtain⟨x,hx⟩:=Kj (xs[k]);rw[hx] at c1 hs;have HS:=zH hs;have HC:=zH (HV.out x);obtain⟨bo,di⟩:=Kj (kQ m x);rw[di] at HS HC;go_wp2_with fail;refine HC.out.mono ?_;rintro e w' ⟨rfl,rfl⟩
   cases bo with
   | true=>
    have hR:r=Av:=by rw[an.out,HS.out];rfl
    subst hR;go_wp2_with fail;go_ret;exact⟨(k:Int),rfl,by simp,0,rfl⟩
   | false=>
    have dk:As (r=(xs.drop (k+1)).any (kQ m)):=by rw[an.out,HS.out];rfl
    go_wp2_with fail
    go_round
    case rel=>exact⟨k+1,by omega,by go_num,dk⟩
    case measure=>simp[Ar];omega
 obtain rfl:k=xs.length:=by omega
 have hR:r=Aw:=an.out.trans (ZF rfl);subst hR;go_wp2_with fail;go_ret;exact⟨-1,rfl,by decide,0,rfl⟩
theorem YQ(A:Bb)(c:Nat)(xs:List Int)(m:Int)(bm:Nat)(hl:xs.length<=17592186044416)(w:Ba)(hA:IAt w w.heap.size A xs)(hb:w.heap[bm]?=J (Ag #[O U m] 3 (0,0))) :
  An Al 166 #[I A xs.length c,.func (.func 167) #[] #[Aj (J ⟨bm,0,Z⟩)]] w fun e w'=>e=Ak (Ah (xs.any (kQ m)))/\∃n,w'=w.drewN n:=by
 have hc:=J7 A c xs m bm hl w hA hb;obtain⟨r,hr⟩:=Kj (xs.any (kQ m));rw[hr] at hc ⊢;have HC:=zH hc;go_enter func166,ntmps166;go_wp2_with fail;refine HC.out.mono ?_;rintro e w' ⟨i,rfl,hi,n,rfl⟩;have HI:=zH hi;clear hi HC;go_wp2_with fail;go_ret;exact⟨zy HI.out,_,rfl⟩
theorem vF{v:List Int}{n m:Int}(h:(v.length:Int)≠n):zN v n m=15:=Lj h
theorem vG{v:List Int}{n m:Int}(h:(v.length:Int)=n)(h2:v.any (kQ m)=Av):zN v n m=2:=by unfold zN;rw[Lg (by simpa using h),Lj h2]
theorem ZL{v:List Int}{n m:Int}(h:(v.length:Int)=n)(h2:v.any (kQ m)=Aw):zN v n m=0:=by unfold zN;rw[Lg (by simpa using h),Lg (by rw[h2];decide)]
theorem gC(A:Bb)(c:Nat)(xs:List Int)(n m:Int)(hl:xs.length<=17592186044416)(w:Ba)(hA:IAt w w.heap.size A xs) :
  An Al 150 #[I A xs.length c,O U n,O U m] w fun e w'=>e=Ak (O U (zN xs n m))/\Am w.heap.size w w':=by
 have ai:=zH (@vF xs n m);have aj:=zH (@vG xs n m);have ax:=zH (@ZL xs n m);have HC:=zH (YQ A c xs m w.heap.size hl (w.alloc (Ag #[O U m] 3)) ((hA.keep (zW w _)).more (by simp)) (zx _ _));obtain⟨r,hr⟩:=Kj (xs.any (kQ m));rw[hr] at aj ax HC;obtain⟨E,hE⟩:=Kj (zN xs n m);rw[hE] at ai aj ax ⊢;go_enter func150,ntmps150
 by_cases hn:(xs.length:Int)=n
 . have e0:((xs.length:Int) != n)=Aw:=by simp[hn]
   have HN:=zH hn;go_wp2_with fail;refine HC.out.mono ?_;rintro e w' ⟨rfl,q,rfl⟩
   cases r with
   | true=>
    have HR:=zH (aj.out HN.out (by rfl));go_wp2_with fail;go_ret;exact⟨zm HR.out.symm,yy (zW w _) _⟩
   | false=>
    have HR:=zH (ax.out HN.out (by rfl));go_wp2_with fail;go_ret;exact⟨zm HR.out.symm,yy (zW w _) _⟩
 have HR:=zH (ai.out hn);have e0:((xs.length:Int) != n)=Av:=by simp[hn]
 go_wp2_with fail;go_ret;exact⟨zm HR.out.symm,zW w _⟩
theorem Y8(A:Bb)(c:Nat)(xss:List (List Int))(k:Nat)(hk:k<xss.length)(hl:xss.length<=17592186044416)(aJ:∀v∈xss,v.length<=17592186044416)(w:Ba)(hA:LAt w w.heap.size A xss) :
  An Al 169 #[I A xss.length c,O U k] w fun e w'=>e=Ak (Ah (qj (zG xss k) xss[k]))/\∃n,w'=w.drewN n:=by
 cases k with
 | zero=>
  have HR:As (qj (zG xss 0) xss[0]=Aw):=by rw[gS];rfl
  go_enter func169,ntmps169;go_wp2_with fail;go_quiet (fail);go_wp2_with fail;go_ret;exact⟨zy HR.out.symm,_,rfl⟩
 | succ j=>
  have hj:j<xss.length:=by omega
  have hb:qj (zG xss (j+1)) xss[j+1]=decide (0<=zD xss[j] xss[j+1]):=by rw[yz xss j hj];rfl
  obtain⟨b,o,A1,c1,rfl,aF,q1,I1⟩:=hA.at_ (j+1) hk;obtain⟨b2,o2,A2,c2,e2,ae,q2,I2⟩:=hA.at_ j hj
  cases e2
  have l1:=aJ _ (Lh hk);have l2:=aJ _ (Lh hj);have hc:=fun n=>uw A2 A1 c2 c1 xss[j] xss[j+1] l2 l1 (w.drewN n) I2 I1
  obtain⟨r,hr⟩:=Kj (zD xss[j] xss[j+1]);rw[hr] at hb hc;have HB:=zH hb;have HC:=zH hc;obtain⟨n1,cZ⟩:=Kj (xss[j+1].length);obtain⟨n2,BH⟩:=Kj (xss[j].length);rw[cZ,BH] at HC;rw[cZ] at q1 l1;rw[BH] at q2 l2;have e1:((j:Int)+1).toNat=j+1:=by omega
  have e3:IntKind.i64.wrap ((j:Int)+1-1)=(j:Int):=by rw[Lo];omega
  have e5:IntKind.i64.wrap ((j:Int)+1)=(j:Int)+1:=by rw[Lo];omega
  go_enter func169,ntmps169;go_wp2_with fail;go_quiet ((go_at_call 151;exact RZ (HC.out _)));go_wp2_with fail;go_ret;exact⟨zy HB.out.symm,_,rfl⟩
theorem XW{xs ys:List Int}{k:Nat}(hk:k<xs.length)(hl:xs.length=ys.length)(h:xs.take k=ys.take k)(h2:xs[k]=ys[k]'(by omega)):xs.take (k+1)=ys.take (k+1):=by
 rw[Ls hk,Ls (by omega),h,h2]
theorem sequal_any(A B:Bb)(ca cb:Nat)(xs ys:List Int)(hl:xs.length<=17592186044416)(mt:ys.length<=17592186044416)(w:Ba)(hA:IAt w w.heap.size A xs)(hB:IAt w w.heap.size B ys) :
  An Al 108 #[I A xs.length ca,I B ys.length cb] w fun e w'=>e=Ak (Ah (decide (xs=ys)))/\∃n,w'=w.drewN n:=by
 have HA:=zH hA;have HB:=zH hB;go_enter func108,ntmps108
 by_cases he:xs.length=ys.length
 . have e0:((xs.length:Int) != (ys.length:Int))=Aw:=by simp[he]
   go_wp2_with fail
   go_loopw [13] (fun i wr=>∃k n:Nat,k<=xs.length/\i=O U (k:Int)/\As (xs.take k=ys.take k)/\wr=w.drewN n) (fun i _=>xs.length-(Ar i).toNat)
   case atStart=>exact⟨0,0,by omega,rfl,by simp[As],rfl⟩
   obtain⟨k,n,hk,rfl,sM,rfl⟩:=hrel
   by_cases hlt:k<xs.length
   . obtain⟨b1,o1,rfl,aF,c1⟩:=HA.out.at_ k hlt
     obtain⟨b2,o2,rfl,ae,c2⟩:=HB.out.at_ k (by omega);have pP:k<ys.length:=by omega
     obtain⟨x,hx⟩:=Kj (xs[k]);obtain⟨y,hy⟩:=Kj (ys[k]);have HX:=zH hx;have HY:=zH hy;rw[hx] at c1;rw[hy] at c2
     by_cases hxy:x=y
     . subst hxy
       go_wp2_with fail;go_quiet (fail);go_wp2_with fail
       go_roundw
       case rel=>exact⟨k+1,_,by omega,by go_num,XW hlt he sM.out (HX.out.trans HY.out.symm),rfl⟩
       simp[Ar];omega
     go_wp2_with fail;go_quiet (fail);go_wp2_with fail;go_ret;refine⟨zy (Lv ?_).symm,by first | exact⟨_,rfl⟩ | exact drew2 _ _ _⟩;rintro rfl;exact hxy (HX.out.symm.trans HY.out)
   obtain rfl:k=xs.length:=by omega
   go_wp2_with fail;go_ret;refine⟨zy (Lw ?_).symm,_,rfl⟩;have:=sM.out;rwa[LK,he,LK] at this
 have e0:((xs.length:Int) != (ys.length:Int))=Av:=by simp;omega
 go_wp2_with fail;go_ret;exact⟨zy (Lv (fun h=>he (by rw[h]))).symm,0,rfl⟩
theorem has1_any(A B:Bb)(ca cb:Nat)(xs ys:List Int)(hl:xs.length<=17592186044416)(mt:ys.length<=17592186044416)(bv:Nat)(w:Ba)(hA:IAt w w.heap.size A xs)(hB:IAt w w.heap.size B ys)(hb:w.heap[bv]?=J (Ag #[I B ys.length cb] 50 (0,0))) :
  An Al 185 #[I A xs.length ca,Aj (J ⟨bv,0,Z⟩)] w fun e w'=>e=Ak (Ah (decide (xs=ys)))/\∃n,w'=w.drewN n:=by
 have c0:=zh hb 0 rfl;have HC:=zH (sequal_any A B ca cb xs ys hl mt w hA hB);obtain⟨r,hr⟩:∃r,decide (xs=ys)=r:=⟨_,rfl⟩;rw[hr] at HC ⊢;go_enter func185,ntmps185;go_wp2_with fail;refine HC.out.mono ?_;rintro e w' ⟨rfl,n,rfl⟩;go_wp2_with fail;go_ret;exact⟨rfl,_,rfl⟩
theorem hindex_any(A:Bb)(c:Nat)(xss:List (List Int))(B:Bb)(cb:Nat)(ys:List Int)(bv:Nat)(hl:xss.length<=17592186044416)(aJ:∀v∈xss,v.length<=17592186044416)(mt:ys.length<=17592186044416)(w:Ba)(hA:LAt w w.heap.size A xss)(hB:IAt w w.heap.size B ys)
  (hb:w.heap[bv]?=J (Ag #[I B ys.length cb] 50 (0,0))) :
  An Al 192 #[I A xss.length c,.func (.func 185) #[] #[Aj (J ⟨bv,0,Z⟩)]] w (RetIdx (xss.any fun x=>decide (x=ys)) w):=by
 have HA:=zH hA;have HB:=zH hB;have HBb:=zH hb;have fY:=zH aJ;obtain⟨r,hr⟩:∃r,(xss.any fun x=>decide (x=ys))=r:=⟨_,rfl⟩;rw[hr];have HR:As (r=(xss.drop 0).any fun x=>decide (x=ys)):=by rw[Nl];exact hr.symm
 go_enter func192,ntmps192;go_wp2_with fail
 go_loopw [8] (fun i wr=>∃k n:Nat,k<=xss.length/\i=O U (k:Int)/\As (r=(xss.drop k).any fun x=>decide (x=ys))/\wr=w.drewN n) (fun i _=>xss.length-(Ar i).toNat)
 case atStart=>exact⟨0,0,by omega,rfl,HR,rfl⟩
 obtain⟨k,n,hk,rfl,an,rfl⟩:=hrel
 by_cases hlt:k<xss.length
 . obtain⟨b,o,A1,c1,rfl,iX,q1,I1⟩:=HA.out.at_ k hlt
   have l1:=fY.out _ (Lh hlt);have hs:=uY (p:=fun x=>decide (x=ys)) hlt;have HC:=zH (has1_any A1 B c1 cb xss[k] ys l1 mt bv (w.drewN n) I1 HB.out HBb.out);obtain⟨x,hx⟩:=Kj (xss[k]);rw[hx] at q1 hs HC l1;have HS:=zH hs;obtain⟨bo,di⟩:∃bo,decide (x=ys)=bo:=⟨_,rfl⟩;rw[di] at HS HC;obtain⟨xl,np⟩:=Kj x.length;rw[np] at q1 HC l1;go_wp2_with fail;refine HC.out.mono ?_;rintro e w' ⟨rfl,n2,rfl⟩
   cases bo with
   | true=>
    have hR:r=Av:=by rw[an.out,HS.out];rfl
    subst hR;go_wp2_with fail;go_ret;exact⟨(k:Int),rfl,by simp,_,rfl⟩
   | false=>
    have dk:As (r=(xss.drop (k+1)).any fun x=>decide (x=ys)):=by rw[an.out,HS.out];rfl
    go_wp2_with fail
    go_roundw
    case rel=>exact⟨k+1,_,by omega,by go_num,dk,rfl⟩
    case measure=>simp[Ar];omega
 obtain rfl:k=xss.length:=by omega
 have hR:r=Aw:=an.out.trans (ZF rfl);subst hR;go_wp2_with fail;go_ret;exact⟨-1,rfl,by decide,_,rfl⟩
theorem YX(A:Bb)(c:Nat)(xss:List (List Int))(B:Bb)(cb:Nat)(ys:List Int)(bv:Nat)(hl:xss.length<=17592186044416)(aJ:∀v∈xss,v.length<=17592186044416)(mt:ys.length<=17592186044416)(w:Ba)(hA:LAt w w.heap.size A xss)(hB:IAt w w.heap.size B ys)
  (hb:w.heap[bv]?=J (Ag #[I B ys.length cb] 50 (0,0))) :
  An Al 184 #[I A xss.length c,.func (.func 185) #[] #[Aj (J ⟨bv,0,Z⟩)]] w fun e w'=>e=Ak (Ah (xss.any fun x=>decide (x=ys)))/\∃n,w'=w.drewN n:=by
 have hc:=hindex_any A c xss B cb ys bv hl aJ mt w hA hB hb;obtain⟨r,hr⟩:∃r,(xss.any fun x=>decide (x=ys))=r:=⟨_,rfl⟩;rw[hr] at hc ⊢;have HC:=zH hc;go_enter func184,ntmps184;go_wp2_with fail;refine HC.out.mono ?_;rintro e w' ⟨i,rfl,hi,n,rfl⟩;have HI:=zH hi;clear hi HC;go_wp2_with fail;go_ret;exact⟨zy HI.out,_,rfl⟩
theorem any_mem{xss:List (List Int)}{ys:List Int}:(xss.any fun x=>decide (x=ys))=decide (ys∈xss):=by
 rw[NL,List.any_eq_true,NH];constructor
 . rintro⟨x,h,e⟩
   rw[<-LA e];exact h
 exact fun h=>⟨ys,h,Lw rfl⟩
theorem thas_any(A:Bb)(c:Nat)(xss:List (List Int))(B:Bb)(cb:Nat)(ys:List Int)(hl:xss.length<=17592186044416)(aJ:∀v∈xss,v.length<=17592186044416)(mt:ys.length<=17592186044416)(w:Ba)(hA:LAt w w.heap.size A xss)(hB:IAt w w.heap.size B ys) :
  An Al 170 #[I A xss.length c,I B ys.length cb] w fun e w'=>e=Ak (Ah (decide (ys∈xss)))/\Am w.heap.size w w':=by
 have HC:=zH (YX A c xss B cb ys w.heap.size hl aJ mt (w.alloc (Ag #[I B ys.length cb] 50)) ((hA.keep (zW w _)).more (by simp)) ((hB.keep (zW w _)).more (by simp)) (zx _ _));rw[any_mem] at HC;obtain⟨r,hr⟩:=Kj (decide (ys∈xss));rw[hr] at HC ⊢;go_enter func170,ntmps170;go_wp2_with fail;refine HC.out.mono ?_;rintro e w' ⟨rfl,n,rfl⟩;go_wp2_with fail;go_ret;exact⟨rfl,yy (zW w _) _⟩
theorem tboxes(w:Ba)(c1 c2:Array Au)(t1 t2:TypeId):∃W0,(w.alloc (Ag c1 t1)).alloc (Ag c2 t2)=W0/\W0.heap[w.heap.size]?=J (Ag c1 t1 (0,0))/\W0.heap[w.heap.size+1]?=J (Ag c2 t2 (0,0))/\w.heap.size+2<=W0.heap.size/\Am w.heap.size w W0:=
 ⟨_,rfl,yD (zx _ _) _,by have:=zx (w.alloc (Ag c1 t1)) (Ag c2 t2);rwa[NX] at this,by simp,uj w _ _⟩
def FewL(l:List (List Int)):Prop:=l.length<=30/\∀v∈l,v.length<=10
def FewC(c:Cs):Prop:=c.inp.length<=10/\FewL c.out/\FewL c.calm
def FewT(t:Tk):Prop:=t.cases.length<=30/\∀c∈t.cases,FewC c
theorem Zj{n m:Int}{c:Cs}(h:c.out.length<1):kU n m c=5:=Lj (.inl h)
theorem YG{n m:Int}{c:Cs}(h:1<=c.out.length)(h1:c.out.length<=30)(h2:ka (fun v=>zN v n m) c.out≠0):kU n m c=ka (fun v=>zN v n m) c.out:=by unfold kU;rw[Lg (by omega),Lj h2]
theorem Zk{n m:Int}{c:Cs}(h:1<=c.out.length)(h1:c.out.length<=30)(h2:ka (fun v=>zN v n m) c.out=0):kU n m c=ka (qL c.out) c.calm:=by unfold kU;rw[Lg (by omega),Lg (by simpa using h2)]
theorem XU(n ins m:Int)(cs:Au)(A0 A1 A2:Bb)(k0 k1 k2:Nat)(x:Cs)(hf:FewC x)(w:Ba)(h1:LAt w w.heap.size A1 x.out)(h2:LAt w w.heap.size A2 x.calm) :
  An Al 152 #[Ai #[O U n,O U ins,O U m,cs],Ai #[I A0 x.inp.length k0,I A1 x.out.length k1,I A2 x.calm.length k2]] w fun e w'=>e=Ak (O U (kU n m x))/\Am w.heap.size w w':=by
 obtain⟨hf0,⟨fq,lL⟩,hf3,FN⟩:=hf;have ia:=zH lL;have pC:=zH FN;have H1:=zH h1;have H2:=zH h2;have ai:=zH (@Zj n m x);have aj:=zH (@YG n m x);have ax:=zH (@Zk n m x);obtain⟨E,hE⟩:=Kj (kU n m x);rw[hE] at ai aj ax ⊢;obtain⟨xi,xo,xc⟩:=x;dsimp only at hf0 fq hf3 ia pC H1 H2 ai aj ax ⊢
 by_cases hz:xo.length<1
 . have HR:=zH (ai.out hz)
   go_enter func152,ntmps152;go_wp2_with fail
   all_goals first | (exfalso;omega) | skip
   go_ret;exact⟨zm HR.out.symm,uj w _ _⟩
 have ce:¬((xo.length:Int)<1):=by omega
 have aj:=zH (aj.out (by omega) (by omega));have ax:=zH (ax.out (by omega) (by omega));go_enter func152,ntmps152;go_wp2_with fail
 all_goals first | (exfalso;omega) | skip
 obtain⟨W0,dT,b0,b1,aP,bG⟩:=tboxes w #[O U n,O U ins,O U m,cs] #[I A0 xi.length k0,I A1 xo.length k1,I A2 xc.length k2] 24 71;rw[dT];have ir:=zH bG;have pz:=zH b0;have AP:=zH b1;clear dT bG b0 b1;obtain⟨F,hF⟩:∃F,ka (fun v=>zN v n m) xo=F:=⟨_,rfl⟩;have HF:As (F=yL (fun v=>zN v n m) xo 0):=by rw[xU];exact hF.symm
 rw[hF] at aj ax;clear hF
 go_loopw [23] (fun i wr=>∃k:Nat,k<=xo.length/\i=O U (k:Int)/\As (F=yL (fun v=>zN v n m) xo k)/\Am W0.heap.size W0 wr) (fun i _=>xo.length-(Ar i).toNat)
 case atStart=>exact⟨0,by omega,rfl,HF,Ll _ _⟩
 obtain⟨k,hk,rfl,an,aY⟩:=hrel;clear HF;have fg:=zH (Lc ir.out aY);have d0:=Lb aY (by omega) pz.out;have d1:=Lb aY (by omega) AP.out;have q0:=zh d0 0 rfl;have q2:=zh d0 2 rfl;have q3:=zh d1 1 rfl;have q4:=zh d1 2 rfl;have HW:=zH aY
 by_cases hlt:k<xo.length
 . have HL:=zH (H1.out.keep fg.out)
   obtain⟨b,o,A3,k3,rfl,hb,c3,I3⟩:=HL.out.at_ k hlt;have l3:=ia.out _ (Lh hlt);have aR:=zH (@qr (fun v=>zN v n m) xo k hlt);have bP:=zH (@xB (fun v=>zN v n m) xo k hlt);have aQ:=zH (@qT (fun v=>zN v n m) xo k hlt);have HV:=zH (fun (w':Ba) (h:IAt w' w'.heap.size A3 xo[k])=>gC A3 k3 xo[k] n m (by omega) w' h);have HU:=zH (fun (w':Ba) (h:LAt w' w'.heap.size (J ⟨b,o,Z⟩) xo)=>Y8 (J ⟨b,o,Z⟩) k1 xo k hlt (by omega) (fun v hv=>by have:=ia.out v hv;omega) w' h);obtain⟨v,hv⟩:=Kj (xo[k]);obtain⟨bo,di⟩:=Kj (qj (zG xo k) xo[k]);rw[di] at bP aQ HU;rw[hv] at c3 I3 l3 aR bP aQ HV;obtain⟨ev,dD⟩:=Kj (zN v n m);rw[dD] at aR bP aQ HV;obtain⟨vl,dr⟩:=Kj v.length;rw[dr] at c3 l3 HV;have HI:=zH I3;clear hv di dD dr I3 aY d0 d1;go_wp2_with fail;refine(HV.out _ ((HI.out.more (by have:=fg.out.size;omega)))).mono ?_;rintro e w1 ⟨rfl,aF⟩;have iq:=zH (Lc fg.out aF);have ag:=zH (Lc HW.out aF);have d0:=Lb ag.out (by omega) pz.out;have d1:=Lb ag.out (by omega) AP.out;have q0:=zh d0 0 rfl;have q2:=zh d0 2 rfl;have q3:=zh d1 1 rfl;have q4:=zh d1 2 rfl;clear aF d0 d1
   by_cases he:ev=0
   . subst he
     have Su:=zH ((H1.out.keep iq.out).more iq.out.size);clear aR;go_wp2_with fail;refine(HU.out _ Su.out).mono ?_;rintro e w2 ⟨rfl,nq,rfl⟩
     cases bo with
     | true=>
      have hR:=zH (an.out.trans (bP.out (by simp) (by simp)));have HR:=zH ((aj.out (by rw[hR.out];decide)).trans hR.out);go_wp2_with fail;go_ret;exact⟨zm HR.out.symm,yy iq.out _⟩
     | false=>
      have hR:=zH (an.out.trans (aQ.out (by simp) (by simp)));go_wp2_with fail
      go_roundw
      case rel=>exact⟨k+1,by omega,by go_num,hR,yy ag.out _⟩
      case measure=>simp[Ar];omega
   have hR:=zH (an.out.trans (aR.out he));have HR:=zH ((aj.out (by rw[hR.out];exact he)).trans hR.out);have e0:(ev != 0)=Av:=by simpa using he
   go_wp2_with fail;go_ret;exact⟨zm HR.out.symm,iq.out⟩
 obtain rfl:k=xo.length:=by omega
 have hR:=zH (an.out.trans qq);have HR:=zH (ax.out hR.out);go_wp2_with fail;obtain⟨W1,dj⟩:∃W1,W1=wr:=⟨_,rfl⟩;rw[<-dj] at fg HW q0 q2 q3 q4 ⊢;have hW1s:=HW.out.size;obtain⟨G,hG⟩:=Kj (ka (qL xo) xc);have HG:As (G=yL (qL xo) xc 0):=by rw[xU];exact hG.symm
 rw[hG] at HR;clear hG
 go_loopw [45] (fun i wr=>∃k:Nat,k<=xc.length/\i=O U (k:Int)/\As (G=yL (qL xo) xc k)/\Am W1.heap.size W1 wr) (fun i _=>xc.length-(Ar i).toNat)
 case atStart=>exact⟨0,by omega,rfl,HG,Ll _ _⟩
 obtain⟨k,hk,rfl,an,aY⟩:=hrel;clear HG;have iq:=zH (Lc fg.out aY);have ag:=zH (Lc HW.out aY);have HWl:=zH aY;have d1:=Lb ag.out (by omega) AP.out;have q3:=zh d1 1 rfl;have q4:=zh d1 2 rfl;clear aY
 by_cases hlt:k<xc.length
 . have HL:=zH (H2.out.keep iq.out)
   have Dk:=zH ((H1.out.keep iq.out).more iq.out.size);obtain⟨b,o,A3,k3,rfl,hb,c3,I3⟩:=HL.out.at_ k hlt;have l3:=pC.out _ (Lh hlt);have aR:=zH (@qr (qL xo) xc k hlt);have bP:=zH (@xB (qL xo) xc k hlt);have aQ:=zH (@qT (qL xo) xc k hlt);have HV:=zH (fun (w':Ba) (h0:LAt w' w'.heap.size A1 xo) (h:IAt w' w'.heap.size A3 xc[k])=>thas_any A1 k1 xo A3 k3 xc[k] (by omega) (fun v hv=>by have:=ia.out v hv;omega) (by omega) w' h0 h);have HU:=zH (fun (w':Ba) (h:LAt w' w'.heap.size (J ⟨b,o,Z⟩) xc)=>Y8 (J ⟨b,o,Z⟩) k2 xc k hlt (by omega) (fun v hv=>by have:=pC.out v hv;omega) w' h);have lK:As (∀v,qL xo v=if v∈xo then 0 else 6):=fun _=>rfl
   obtain⟨v,hv⟩:=Kj (xc[k]);obtain⟨bo,di⟩:=Kj (qj (zG xc k) xc[k]);rw[di] at bP aQ HU;rw[hv] at c3 I3 l3 aR bP aQ HV;have lK:=zH (lK.out v);obtain⟨ev,dD⟩:=Kj (qL xo v);rw[dD] at aR bP aQ lK;obtain⟨vl,dr⟩:=Kj v.length;rw[dr] at c3 l3 HV;have HI:=zH I3;clear hv di dD dr I3
   by_cases hm:v∈xo
   . have he:ev=0:=lK.out.trans (Lj hm)
     subst he;rw[Lw hm] at HV;clear aR hm lK;go_wp2_with fail;refine(HV.out _ Dk.out ((HI.out.more (by have:=iq.out.size;omega)))).mono ?_;rintro e w1 ⟨rfl,aF⟩;have ip:=zH (Lc iq.out aF);have oY:=zH (Lc ag.out aF);have d1:=Lb oY.out (by omega) AP.out;have q3:=zh d1 1 rfl;have q4:=zh d1 2 rfl;have Su:=zH ((H2.out.keep ip.out).more ip.out.size);have HWm:=zH (Lc HWl.out aF);clear aF d1;go_wp2_with fail;refine(HU.out _ Su.out).mono ?_;rintro e w2 ⟨rfl,nq,rfl⟩
     cases bo with
     | true=>
      have hR:=zH (an.out.trans (bP.out (by simp) (by simp)));have dk:=zH (HR.out.trans hR.out);clear an bP aQ HR HV HU;go_wp2_with fail;go_ret;exact⟨zm dk.out.symm,yy ip.out _⟩
     | false=>
      have hR:=zH (an.out.trans (aQ.out (by simp) (by simp)));clear an bP aQ HV HU;go_wp2_with fail
      go_roundw
      case rel=>exact⟨k+1,by omega,by go_num,hR,yy HWm.out _⟩
      case measure=>simp[Ar];omega
   have he:ev=6:=lK.out.trans (Lg hm);subst he;rw[Lv hm] at HV;have hR:=zH (an.out.trans (aR.out (by decide)));have dk:=zH (HR.out.trans hR.out);clear an bP aQ aR hm lK HR HU;go_wp2_with fail;refine(HV.out _ Dk.out ((HI.out.more (by have:=iq.out.size;omega)))).mono ?_;rintro e w1 ⟨rfl,aF⟩;have ip:=zH (Lc iq.out aF);go_wp2_with fail;go_ret;exact⟨zm dk.out.symm,ip.out⟩
 obtain rfl:k=xc.length:=by omega
 have hR:=zH (an.out.trans qq);have dk:=zH (HR.out.trans hR.out);go_wp2_with fail;go_ret;exact⟨zm dk.out.symm,iq.out⟩
theorem jP(A:Bb)(c:Nat)(xs:List Int)(n m:Int)(hl:xs.length<=17592186044416)(w:Ba)(hA:IAt w w.heap.size A xs) :
  An Al 174 #[I A xs.length c,O U n,O U m] w fun e w'=>e=Ak (O U (zN xs n m))/\w'=w:=by
 have HA:=zH hA;have ai:=zH (@vF xs n m);have aj:=zH (@vG xs n m);have ax:=zH (@ZL xs n m);obtain⟨E,hE⟩:=Kj (zN xs n m);rw[hE] at ai aj ax ⊢
 by_cases hn:(xs.length:Int)=n
 . subst hn
   have aj:=zH (aj.out rfl);have ax:=zH (ax.out rfl);obtain⟨r,hr⟩:=Kj (xs.any (kQ m));rw[hr] at aj ax;have HR:As (r=(xs.drop 0).any (kQ m)):=by rw[Nl];exact hr.symm
   go_enter func174,ntmps174;go_wp2_with fail
   go_loop [7] (fun i=>∃k:Nat,k<=xs.length/\i=O U (k:Int)/\As (r=(xs.drop k).any (kQ m))) (fun i=>xs.length-(Ar i).toNat)
   case atStart=>exact⟨0,by omega,rfl,HR⟩
   obtain⟨k,hk,rfl,an⟩:=hrel
   by_cases hlt:k<xs.length
   . obtain⟨b,o,rfl,iX,c1⟩:=HA.out.at_ k hlt
     have hs:=uY (p:=kQ m) hlt;have ho:As (∀x,kQ m x=decide (x<0\/m<=x)):=fun _=>rfl
     obtain⟨x,hx⟩:=Kj (xs[k]);rw[hx] at c1 hs;rw[ho.out x] at hs;have HS:=zH hs
     by_cases h1:x<0\/m<=x
     . have hR:r=Av:=by rw[an.out,HS.out,Lw h1];rfl
       subst hR;have HE:=zH (aj.out rfl)
       by_cases h2:x<0
       . clear h1
         go_wp2_with fail;go_ret;exact⟨zm HE.out.symm,rfl⟩
       have h3:m<=x:=by omega
       go_wp2_with fail;go_ret;exact⟨zm HE.out.symm,rfl⟩
     have dk:As (r=(xs.drop (k+1)).any (kQ m)):=by rw[an.out,HS.out,Lv h1];rfl
     have h2:¬x<0:=by omega
     have h3:¬m<=x:=by omega
     go_wp2_with fail
     go_round
     case rel=>exact⟨k+1,by omega,by go_num,dk⟩
     simp[Ar];omega
   obtain rfl:k=xs.length:=by omega
   have hR:r=Aw:=an.out.trans (ZF rfl);subst hR;have HE:=zH (ax.out rfl);go_wp2_with fail;go_ret;exact⟨zm HE.out.symm,rfl⟩
 have HR:=zH (ai.out hn);have e0:((xs.length:Int) != n)=Av:=by simp[hn]
 go_enter func174,ntmps174;go_wp2_with fail;go_ret;exact⟨zm HR.out.symm,rfl⟩
theorem QT(A:Bb)(c:Nat)(xss:List (List Int))(B:Bb)(cb:Nat)(ys:List Int)(hl:xss.length<=17592186044416)(aJ:∀v∈xss,v.length<=17592186044416)(mt:ys.length<=17592186044416)(w:Ba)(hA:LAt w w.heap.size A xss)(hB:IAt w w.heap.size B ys) :
  An Al 176 #[I A xss.length c,I B ys.length cb] w fun e w'=>e=Ak (Ah (decide (ys∈xss)))/\∃n,w'=w.drewN n:=by
 have HA:=zH hA;have HB:=zH hB;have fY:=zH aJ;rw[<-any_mem];obtain⟨r,hr⟩:∃r,(xss.any fun x=>decide (x=ys))=r:=⟨_,rfl⟩;rw[hr];have HR:As (r=(xss.drop 0).any fun x=>decide (x=ys)):=by rw[Nl];exact hr.symm
 go_enter func176,ntmps176;go_wp2_with fail
 go_loopw [5] (fun i wr=>∃k n:Nat,k<=xss.length/\i=O U (k:Int)/\As (r=(xss.drop k).any fun x=>decide (x=ys))/\wr=w.drewN n) (fun i _=>xss.length-(Ar i).toNat)
 case atStart=>exact⟨0,0,by omega,rfl,HR,rfl⟩
 obtain⟨k,n,hk,rfl,an,rfl⟩:=hrel
 by_cases hlt:k<xss.length
 . obtain⟨b,o,A1,c1,rfl,iX,q1,I1⟩:=HA.out.at_ k hlt
   have l1:=fY.out _ (Lh hlt);have hs:=uY (p:=fun x=>decide (x=ys)) hlt;have HC:=zH (qx A1 B c1 cb xss[k] ys l1 mt (w.drewN n) I1 HB.out);obtain⟨x,hx⟩:=Kj (xss[k]);rw[hx] at q1 hs HC l1;have HS:=zH hs;have hz:As (zD x ys=0->x=ys):=jV;have dI:As (x=ys->zD x ys=0):=fun h=>by rw[h];exact qG _
   obtain⟨bo,di⟩:=Kj (zD x ys);rw[di] at hz HC dI;obtain⟨xl,np⟩:=Kj x.length;rw[np] at q1 HC l1;go_wp2_with fail;refine HC.out.mono ?_;rintro e w' ⟨rfl,n2,rfl⟩
   by_cases hb:bo=0
   . have hR:r=Av:=by rw[an.out,HS.out,Lw (hz.out hb)];rfl
     subst hR;subst hb;go_wp2_with fail;go_ret;exact⟨rfl,_,rfl⟩
   have dk:As (r=(xss.drop (k+1)).any fun x=>decide (x=ys)):=by rw[an.out,HS.out,Lv (fun h=>hb (dI.out h))];rfl
   have e0:(bo==0)=Aw:=by simpa using hb
   go_wp2_with fail
   go_roundw
   case rel=>exact⟨k+1,_,by omega,by go_num,dk,rfl⟩
   simp[Ar];omega
 obtain rfl:k=xss.length:=by omega
 have hR:r=Aw:=an.out.trans (ZF rfl);subst hR;go_wp2_with fail;go_ret;exact⟨rfl,_,rfl⟩
def vb(l:List (List Int))(m:Nat):Bool:=decide (l.length<=m)&&l.all fun v=>decide (v.length<=10)
theorem JW{α:Type}{p:α->Bool}{l:List α}{k:Nat}(hk:k<l.length):(l.drop k).all p=(p l[k]&&(l.drop (k+1)).all p):=by
 rw[Lz hk];rfl
theorem all_end{α:Type}{p:α->Bool}{l:List α}{k:Nat}(hk:k=l.length):(l.drop k).all p=Av:=by subst hk;rw[Nz];rfl
theorem JG(A:Bb)(c:Nat)(xss:List (List Int))(hl:xss.length<=17592186044416)(aJ:∀v∈xss,v.length<=17592186044416)(w:Ba)(hA:LAt w w.heap.size A xss) :
  An Al 132 #[I A xss.length c,O U 30] w fun e w'=>e=Ak (Ah (vb xss 30))/\w'=w:=by
 have HA:=zH hA;have fY:=zH aJ;have H:As (vb xss 30=(decide (xss.length<=30)&&xss.all fun v=>decide (v.length<=10))):=rfl;obtain⟨r,hr⟩:=Kj (vb xss 30);rw[hr] at H ⊢
 by_cases hz:xss.length<=30
 . have HR:As (r=(xss.drop 0).all fun v=>decide (v.length<=10)):=by rw[Nl,H.out,Lw hz,Ns];rfl
   have ce:¬(30<(xss.length:Int)):=by omega
   go_enter func132,ntmps132;go_wp2_with fail
   all_goals first | (exfalso;omega) | skip
   go_loop [5] (fun i=>∃k:Nat,k<=xss.length/\i=O U (k:Int)/\As (r=(xss.drop k).all fun v=>decide (v.length<=10))) (fun i=>xss.length-(Ar i).toNat)
   case atStart=>exact⟨0,by omega,rfl,HR⟩
   obtain⟨k,hk,rfl,an⟩:=hrel
   by_cases hlt:k<xss.length
   . obtain⟨b,o,A1,c1,rfl,iX,q1,_⟩:=HA.out.at_ k hlt
     have l1:=fY.out _ (Lh hlt);have HS:=zH (JW (p:=fun v=>decide (v.length<=10)) hlt);obtain⟨xl,np⟩:=Kj (xss[k].length);rw[np] at q1 HS l1
     by_cases hx:xl<=10
     . have dk:As (r=(xss.drop (k+1)).all fun v=>decide (v.length<=10)):=by rw[an.out,HS.out,Lw hx];rfl
       go_wp2_with fail
       all_goals first | (exfalso;omega) | skip
       go_round
       case rel=>exact⟨k+1,by omega,by go_num,dk⟩
       simp[Ar];omega
     have hR:r=Aw:=by rw[an.out,HS.out,Lv hx];rfl
     subst hR;go_wp2_with fail
     all_goals first | (exfalso;omega) | skip
     go_ret;exact⟨rfl,rfl⟩
   obtain rfl:k=xss.length:=by omega
   have hR:r=Av:=an.out.trans (all_end rfl);subst hR;go_wp2_with fail;go_ret;exact⟨rfl,rfl⟩
 have hR:r=Aw:=by rw[H.out,Lv hz];rfl
 subst hR;go_enter func132,ntmps132;go_wp2_with fail
 all_goals first | (exfalso;omega) | skip
 go_ret;exact⟨rfl,rfl⟩
theorem gF{t:Tk}(h:t.n<1\/5<t.n\/t.ins<1\/8<t.ins\/t.outs<1\/8<t.outs):xp t=2:=Lj h
theorem ZR{t:Tk}(h:¬(t.n<1\/5<t.n\/t.ins<1\/8<t.ins\/t.outs<1\/8<t.outs))(h2:t.cases.length<1):xp t=5:=by unfold xp;rw[Lg h,Lj (.inl h2)]
theorem gG{t:Tk}(h:¬(t.n<1\/5<t.n\/t.ins<1\/8<t.ins\/t.outs<1\/8<t.outs))(h2:1<=t.cases.length)(h3:t.cases.length<=30):xp t=xD t t.cases 0:=by unfold xp;rw[Lg h,Lg (by omega)]
theorem XK{t:Tk}{p:Option Cs}{c:Cs}(h:zN c.inp t.n t.ins≠0):qO t p c=zN c.inp t.n t.ins:=Lj h
theorem Zn{t:Tk}{p:Option Cs}{c:Cs}(h:zN c.inp t.n t.ins=0)(h2:qj (p.map Cs.inp) c.inp=Av):qO t p c=14:=by unfold qO;rw[Lg (by simpa using h),Lj h2]
theorem XL{t:Tk}{p:Option Cs}{c:Cs}(h:zN c.inp t.n t.ins=0)(h2:qj (p.map Cs.inp) c.inp=Aw):qO t p c=kU t.n t.outs c:=by unfold qO;rw[Lg (by simpa using h),Lg (by rw[h2];decide)]
theorem tcheck_any(t:Tk)(A:Bb)(kc:Nat)(hf:FewT t)(w:Ba)(hA:CAt w w.heap.size A t.cases) :
  An Al 129 #[Ai #[O U t.n,O U t.ins,O U t.outs,I A t.cases.length kc]] w fun e w'=>e=Ak (O U (xp t))/\Am w.heap.size w w':=by
 obtain⟨fq,lL⟩:=hf;have ia:=zH lL;have HA:=zH hA;have ai:=zH (@gF t);have aj:=zH (@ZR t);have ax:=zH (@gG t);obtain⟨E,hE⟩:=Kj (xp t);rw[hE] at ai aj ax ⊢;obtain⟨cv,sZ⟩:=Kj (I A t.cases.length kc)
 by_cases hr:t.n<1\/5<t.n\/t.ins<1\/8<t.ins\/t.outs<1\/8<t.outs
 . have HR:=zH (ai.out hr)
   obtain⟨n,ins,outs,cases⟩:=t;dsimp only at hr sZ ⊢;rw[sZ];have HN:=zH hr;clear ai aj ax sZ hA lL ia HA hE hr;go_enter func129,ntmps129;go_wp2_with fail
   all_goals first | (exfalso;have:=HN.out;omega) | (go_ret;exact⟨zm HR.out.symm,zW w _⟩)
 have r1:¬t.n<1:=by omega
 have r2:¬5<t.n:=by omega
 have r3:¬t.ins<1:=by omega
 have r4:¬8<t.ins:=by omega
 have r5:¬t.outs<1:=by omega
 have r6:¬8<t.outs:=by omega
 have aj:=zH (aj.out hr);have ax:=zH (ax.out hr);clear hr ai sZ hE hA lL
 by_cases hz:t.cases.length<1
 . have HR:=zH (aj.out hz)
   obtain⟨n,ins,outs,cases⟩:=t;dsimp only at fq r1 r2 r3 r4 r5 r6 hz ⊢;clear aj ax ia HA;go_enter func129,ntmps129;go_wp2_with fail
   all_goals first | (exfalso;omega) | skip
   go_ret;exact⟨zm HR.out.symm,zW w _⟩
 have ce:¬((t.cases.length:Int)<1):=by omega
 have ax:=zH (ax.out (by omega) (by omega));obtain⟨n,hn⟩:=Kj t.n;obtain⟨ins,MN⟩:=Kj t.ins;obtain⟨outs,DP⟩:=Kj t.outs;obtain⟨cs,bN⟩:=Kj t.cases;have HT:As (t.n=n/\t.ins=ins/\t.outs=outs):=⟨hn,MN,DP⟩;rw[hn] at r1 r2 ⊢;rw[MN] at r3 r4 ⊢;rw[DP] at r5 r6 ⊢;rw[bN] at fq ia HA ce ax ⊢;go_enter func129,ntmps129;go_wp2_with fail
 all_goals first | (exfalso;omega) | skip
 obtain⟨W0,dT,b0,aP,bG⟩:∃W0,w.alloc (Ag #[O U n,O U ins,O U outs,I A cs.length kc] 24)=W0/\W0.heap[w.heap.size]?=J (Ag #[O U n,O U ins,O U outs,I A cs.length kc] 24 (0,0))/\w.heap.size+1<=W0.heap.size/\Am w.heap.size w W0:=
  ⟨_,rfl,zx _ _,by simp,zW w _⟩
 rw[dT];have ir:=zH bG;have pz:=zH b0
 go_loopw [46] (fun i wr=>∃k:Nat,k<=cs.length/\i=O U (k:Int)/\As (E=xD t cs k)/\Am W0.heap.size W0 wr) (fun i _=>cs.length-(Ar i).toNat)
 case atStart=>exact⟨0,by omega,rfl,ax,Ll _ _⟩
 obtain⟨k,hk,rfl,an,aY⟩:=hrel;have fg:=zH (Lc ir.out aY);have HW:=zH aY;have d0:=Lb aY (by omega) pz.out;obtain⟨q0,q1,q2,q3,_⟩:=Ka d0
 by_cases hlt:k<cs.length
 . obtain⟨b,o,A0,k0,A1,k1,A2,k2,rfl,iX,c0,c1,c2,I0,I1,I2⟩:=(HA.out.keep fg.out).row k hlt
   obtain⟨f0,f1,f2⟩:=ia.out _ (Lh hlt);have aR:=zH (@Zm t cs k hlt);have aQ:=zH (@YH t cs k hlt);obtain⟨e1,e2,e3⟩:=HT.out;have oK:=zH (@XK t (zG cs k) cs[k]);have bP:=zH (@Zn t (zG cs k) cs[k]);have eN:=zH (@XL t (zG cs k) cs[k]);rw[e1,e2] at oK bP eN;rw[e3] at eN;have HV:=zH (fun (w':Ba) (h:IAt w' w'.heap.size A0 cs[k].inp)=>gC A0 k0 cs[k].inp n ins (by omega) w' h);have HG:=zH (fun (w':Ba) (h1:LAt w' w'.heap.size A1 cs[k].out) (h2:LAt w' w'.heap.size A2 cs[k].calm)=>XU n ins outs (I (J ⟨b,o,Z⟩) cs.length kc) A0 A1 A2 k0 k1 k2 cs[k] (ia.out _ (Lh hlt)) w' h1 h2);obtain⟨bo,di⟩:=Kj (qj ((zG cs k).map Cs.inp) cs[k].inp);have bU:=zH di;rw[di] at bP eN;obtain⟨ev,dD⟩:=Kj (zN cs[k].inp n ins);rw[dD] at oK bP eN HV;obtain⟨gv,si⟩:=Kj (kU n outs cs[k]);rw[si] at eN HG;obtain⟨x,hx⟩:=Kj (cs[k]);have HX:=zH hx;rw[hx] at c0 c1 c2 I0 I1 I2 f0 aR aQ oK bP eN HV HG;obtain⟨xi,xo,xc⟩:=x;dsimp only at c0 c1 c2 I0 I1 I2 f0 HV HG;have US:=fg.out.size;have Tp:w.heap.size<wr.heap.size:=by have:=HW.out.size;omega
   have J0:=I0.more US;have J1:=I1.more US;have J2:=I2.more US;go_wp2_with fail
   obtain⟨W1,dj,b1,av,aV⟩:∃W1,wr.alloc (Ag #[I A0 xi.length k0,I A1 xo.length k1,I A2 xc.length k2] 71)=W1/\W1.heap[wr.heap.size]?=J (Ag #[I A0 xi.length k0,I A1 xo.length k1,I A2 xc.length k2] 71 (0,0))/\wr.heap.size+1<=W1.heap.size/\Am wr.heap.size wr W1:=
    ⟨_,rfl,zx _ _,by simp,zW wr _⟩
   rw[dj];have K0:=(J0.keep aV).more aV.size;have K1:=zH ((J1.keep aV).more aV.size);have K2:=zH ((J2.keep aV).more aV.size);have BL:=zH (fg.out.trans (aV.mono US));have BW:=zH (Lc HW.out aV);have AP:=zH b1;refine(HV.out _ K0).mono ?_;rintro e w1 ⟨rfl,aF⟩;have M1:=zH ((K1.out.keep aF).more aF.size);have M2:=zH ((K2.out.keep aF).more aF.size);have iQ:=zH (Lc BL.out aF);have BA:=zH (Lc BW.out aF);have M0:=zH ((K0.keep aF).more aF.size);have d0:=Lb BA.out (by omega) pz.out;have d1:=Lb aF (by omega) AP.out;obtain⟨q0,q1,q2,q3,_⟩:=Ka d0;obtain⟨p0,p1,p2,_⟩:=Kb d1
   by_cases dD:ev=0
   case neg=>
    have hd:=oK.out dD;have hR:=zH (an.out.trans ((aR.out (by rw[hd];exact dD)).trans hd));have e0:(ev != 0)=Av:=by simpa using dD
    go_wp2_with fail;go_ret;exact⟨zm hR.out.symm,iQ.out⟩
   case pos=>
   subst dD
   cases k with
   | zero=>
    obtain rfl:bo=Aw:=by rw[<-bU.out];rfl
    go_wp2_with fail;go_quiet (fail);have eN:=zH (eN.out (by simp) (by simp));go_wp2_with fail;refine(HG.out _ (by exact M1.out.keep (yy (Ll _ _) _)) (by exact M2.out.keep (yy (Ll _ _) _))).mono ?_;rintro e w2 ⟨rfl,ae⟩;have Ho:=zH (iQ.out.trans ((belD ae).mono iQ.out.size));have Td:=zH (BA.out.trans ((belD ae).mono BA.out.size))
    by_cases hg:gv=0
    . subst hg
      have hR:=zH (an.out.trans (aQ.out eN.out));go_wp2_with fail
      go_roundw
      case rel=>exact⟨_,hlt,by go_num,hR,Td.out⟩
      case measure=>simp[Ar];omega
    . have hR:=zH (an.out.trans ((aR.out (by rw[eN.out];exact hg)).trans eN.out))
      have e0:(gv != 0)=Av:=by simpa using hg
      go_wp2_with fail;go_ret;exact⟨zm hR.out.symm,Ho.out⟩
   | succ j=>
    have hj:j<cs.length:=by omega
    have cu:qj ((zG cs (j+1)).map Cs.inp) cs[j+1].inp=decide (0<=zD cs[j].inp cs[j+1].inp):=by rw[yz cs j hj];rfl
    obtain⟨b',o',BC,tA,_,_,_,_,e',_,u0,_,_,U0,_,_⟩:=((HA.out.keep iQ.out).row j hj)
    cases e'
    obtain⟨AK,_,_⟩:=ia.out _ (Lh hj);rw[HX.out] at cu;have hc:=fun n=>uw BC A0 tA k0 cs[j].inp xi (by omega) (by omega) (w1.drewN n) (U0.more iQ.out.size) M0.out
    rw[show qj ((zG cs (j+1)).map Cs.inp) xi=bo by have:=bU.out;rwa[HX.out] at this] at cu;obtain⟨r,hr⟩:=Kj (zD cs[j].inp xi);rw[hr] at cu hc;have dH:=zH cu;obtain⟨nl,fj⟩:=Kj (cs[j].inp.length);rw[fj] at u0 hc AK;have HC:=zH hc;have g1:((j:Int)+1).toNat=j+1:=by omega
    have g3:IntKind.i64.wrap ((j:Int)+1-1)=(j:Int):=by rw[Lo];omega
    have g5:IntKind.i64.wrap ((j:Int)+1)=(j:Int)+1:=by rw[Lo];omega
    clear cu hc hr fj U0 bU HX
    cases bo with
    | true=>
     have g7:decide (0<=r)=Av:=dH.out.symm;have g8:0<=r:=LA g7;have hd:=bP.out (by simp) (by simp);have hR:=zH (an.out.trans ((aR.out (by rw[hd];decide)).trans hd));clear an aR aQ bP eN HV HG hd dH;go_wp2_with fail;go_quiet ((go_at_call 151;exact RZ (HC.out _)));clear HC g1 g3 g5 u0;go_wp2_with fail;go_ret;exact⟨zm hR.out.symm,yy iQ.out _⟩
    | false=>
     have g7:decide (0<=r)=Aw:=dH.out.symm;have g8:¬0<=r:=NB g7;clear dH;go_wp2_with fail;go_quiet ((go_at_call 151;exact RZ (HC.out _)));have eN:=zH (eN.out (by simp) (by simp));go_wp2_with fail;refine(HG.out _ (by exact M1.out.keep (yy (Ll _ _) _)) (by exact M2.out.keep (yy (Ll _ _) _))).mono ?_;rintro e w2 ⟨rfl,ae⟩;have Ho:=zH (iQ.out.trans ((belD ae).mono iQ.out.size));have Td:=zH (BA.out.trans ((belD ae).mono BA.out.size))
     by_cases hg:gv=0
     . subst hg
       have hR:=zH (an.out.trans (aQ.out eN.out));go_wp2_with fail
       go_roundw
       case rel=>exact⟨j+1+1,hlt,by go_num,hR,Td.out⟩
       case measure=>simp[Ar];omega
     . have hR:=zH (an.out.trans ((aR.out (by rw[eN.out];exact hg)).trans eN.out))
       have e0:(gv != 0)=Av:=by simpa using hg
       go_wp2_with fail;go_ret;exact⟨zm hR.out.symm,Ho.out⟩
 obtain rfl:k=cs.length:=by omega
 have HR:=zH (an.out.trans Zl);go_wp2_with fail;go_ret;exact⟨zm HR.out.symm,fg.out⟩
theorem vr{P:Program}{f:FuncId}{args:Array Au}{W:Ba}{q a:Nat}{v:Au}(h:An P f args (W.drewN (q+a)) fun e w'=>e=Ak v/\w'=W.drewN (q+a)):An P f args (W.drewN (q+a)) fun e w'=>e=Ak v/\∃n,w'=W.drewN (q+n):=
 h.mono fun _ _ ⟨h1,h2⟩=>⟨h1,a,h2⟩
theorem yG{P:Program}{f:FuncId}{args:Array Au}{W:Ba}{q a:Nat}{v:Au}(h:An P f args (W.drewN (q+a)) fun e w'=>e=Ak v/\∃n,w'=(W.drewN (q+a)).drewN n):An P f args (W.drewN (q+a)) fun e w'=>e=Ak v/\∃n,w'=W.drewN (q+n):=
 h.mono fun _ _ ⟨h1,n,h2⟩=>⟨h1,a+n,by rw[h2,Ri,PJ]⟩
theorem rone_any(t:Tk)(A:Bb)(kc:Nat)(hf:FewT t)(i:Nat)(hi:i<t.cases.length)(w:Ba)(hA:CAt w w.heap.size A t.cases) :
  An Al 156 #[Ai #[O U t.n,O U t.ins,O U t.outs,I A t.cases.length kc],O U i] w fun e w'=>e=Ak (O U (qO t (zG t.cases i) t.cases[i]))/\Am w.heap.size w w':=by
 obtain⟨fq,lL⟩:=hf;have pB:=zH lL;have oK:=zH (@XK t (zG t.cases i) t.cases[i]);have bP:=zH (@Zn t (zG t.cases i) t.cases[i]);have eN:=zH (@XL t (zG t.cases i) t.cases[i]);obtain⟨E,hE⟩:=Kj (qO t (zG t.cases i) t.cases[i]);rw[hE] at oK bP eN ⊢;obtain⟨n,ins,m,cs⟩:=t;dsimp only at fq pB oK bP eN hA hi ⊢;obtain⟨b,o,A0,k0,A1,k1,A2,k2,e,iX,c0,c1,c2,I0,I1,I2⟩:=hA.row i hi;obtain⟨f0,⟨f1,f2⟩,f3,f4⟩:=lL _ (Lh hi);obtain⟨bo,di⟩:=Kj (qj ((zG cs i).map Cs.inp) cs[i].inp);have bU:=zH di;rw[di] at bP eN;have ai:=zH (@Zj n m cs[i]);have aj:=zH (@YG n m cs[i]);have ax:=zH (@Zk n m cs[i]);obtain⟨x,hx⟩:=Kj (cs[i]);have HX:=zH hx;rw[hx] at c0 c1 c2 I0 I1 I2 f0 f1 f2 f3 f4 oK bP eN ai aj ax;obtain⟨xi,xo,xc⟩:=x;dsimp only at c0 c1 c2 I0 I1 I2 f0 f1 f2 f3 f4 oK bP eN ai aj ax;obtain⟨ev,dD⟩:=Kj (zN xi n ins);rw[dD] at oK bP eN;have ia:=zH f2;have pC:=zH f4;obtain⟨W1,dj,b0,b1,aP,aV⟩:=tboxes w #[O U n,O U ins,O U m,I A cs.length kc] #[I A0 xi.length k0,I A1 xo.length k1,I A2 xc.length k2] 24 71;have ec:=zH aV;have H0:=zH ((I0.keep aV).more (show w.heap.size<=W1.heap.size by omega));have H1:=zH ((I1.keep aV).more (show w.heap.size<=W1.heap.size by omega));have H2:=zH ((I2.keep aV).more (show w.heap.size<=W1.heap.size by omega));have IR:=zH ((hA.keep aV).more (show w.heap.size<=W1.heap.size by omega));have O6:=zH (jP A0 k0 xi n ins (by omega) W1 H0.out);rw[dD] at O6;subst e
 have pz:=zH b0;have AP:=zH b1;have oX:=zH dj;clear hE di hx dD f2 f4 hA lL I0 I1 I2 dj aV b0 b1 aP;go_enter func156,ntmps156;go_wp2_with fail;rw[oX.out];obtain⟨q0,q1,q2,q3,_⟩:=Ka pz.out;obtain⟨p0,p1,p2,_⟩:=Kb AP.out;have Tv:=ec.out.size;clear oX c0 c1 c2;refine O6.out.mono ?_;rintro e w' ⟨rfl,lZ⟩;obtain rfl:W1=w':=lZ.symm;clear O6
 by_cases dD:ev=0
 case neg=>
  have hd:=zH (oK.out dD);have e0:(ev != 0)=Av:=by simpa using dD
  clear oK bP eN ai aj ax dD bU HX;go_wp2_with fail;go_ret;exact⟨zm hd.out.symm,ec.out⟩
 case pos=>
 subst dD;clear oK
 cases i with
 | zero=>
  obtain rfl:bo=Aw:=by rw[<-bU.out];rfl
  have g0:decide ((0:Int)<0)=Aw:=by decide
  clear bU HX;go_wp2_with fail;go_quiet (fail);have be:=zH (eN.out (by simp) (by simp));clear bP eN
  by_cases hz:xo.length<1
  . have hR:=zH (be.out.trans (ai.out hz))
    clear be ai aj ax;go_wp2_with fail
    all_goals first | (exfalso;omega) | skip
    go_ret;exact⟨zm hR.out.symm,by repeat (first | exact ec.out | refine yy ?_ _)⟩
  have ce:¬((xo.length:Int)<1):=by omega
  have aj:=zH (fun h=>be.out.trans (aj.out (by omega) (by omega) h));have ax:=zH (fun h=>be.out.trans (ax.out (by omega) (by omega) h));clear ai be;obtain⟨F,hF⟩:∃F,ka (fun v=>zN v n m) xo=F:=⟨_,rfl⟩;have HF:As (F=yL (fun v=>zN v n m) xo 0):=by rw[xU];exact hF.symm
  rw[hF] at aj ax;clear hF;go_wp2_with fail
  all_goals first | (exfalso;omega) | skip
  go_loopw [7] (fun i wr=>∃k q:Nat,k<=xo.length/\i=O U (k:Int)/\As (F=yL (fun v=>zN v n m) xo k)/\wr=W1.drewN q) (fun i _=>xo.length-(Ar i).toNat)
  case atStart=>exact⟨0,_,by omega,rfl,HF,rfl⟩
  case round=>
   obtain⟨k,q,hk,rfl,an,rfl⟩:=hrel;clear HF
   by_cases hlt:k<xo.length
   . obtain⟨b,o,A3,k3,rfl,hb,c3,I3⟩:=H1.out.at_ k hlt
     have l3:=ia.out _ (Lh hlt);have AM:=zH I3;have aR:=zH (@qr (fun v=>zN v n m) xo k hlt);have bP:=zH (@xB (fun v=>zN v n m) xo k hlt);have aQ:=zH (@qT (fun v=>zN v n m) xo k hlt);have HV:=zH (fun (p:Nat)=>jP A3 k3 xo[k] n m (by omega) (W1.drewN p) I3);obtain⟨bo,di⟩:=Kj (qj (zG xo k) xo[k]);have bU:=zH di;rw[di] at bP aQ;obtain⟨v,hv⟩:=Kj (xo[k]);have HX:=zH hv;rw[hv] at c3 AM l3 aR bP aQ HV;obtain⟨ev,dD⟩:=Kj (zN v n m);rw[dD] at aR bP aQ HV;obtain⟨vl,dr⟩:=Kj v.length;have lk:=zH dr;rw[dr] at c3 l3 HV;clear hv di dD dr I3
     by_cases he:ev=0
     case neg=>
      have hR:=zH (an.out.trans (aR.out he));have HR:=zH ((aj.out (by rw[hR.out];exact he)).trans hR.out);clear an bP aQ aR aj ax bU HX lk;have e0:(ev != 0)=Av:=by simpa using he
      clear he;go_wp2_with fail;go_quiet ((go_at_call 174;exact vr (HV.out _)));go_wp2_with fail;go_ret;exact⟨zm HR.out.symm,by repeat (first | exact ec.out | refine yy ?_ _)⟩
     case pos=>
     subst he;clear aR;go_wp2_with fail;go_quiet ((go_at_call 174;exact vr (HV.out _)));clear HV;have fU:k<=30:=by omega
     cases k with
     | zero=>
      obtain rfl:bo=Aw:=by rw[<-bU.out];rfl
      have g0:decide ((0:Int)<0)=Aw:=by decide
      clear bU HX lk;go_wp2_with fail;go_quiet (fail);have hR:=zH (an.out.trans (aQ.out (by simp) (by simp)));clear an bP aQ;go_wp2_with fail
      go_roundw
      case rel=>exact⟨0+1,_,by omega,by go_num,hR,rfl⟩
      case measure=>simp[Ar];omega
     | succ j=>
      have hj:j<xo.length:=by omega
      have cu:qj (zG xo (j+1)) xo[j+1]=decide (0<=zD xo[j] xo[j+1]):=by rw[yz xo j hj];rfl
      obtain⟨b',o',BC,tA,e',_,u0,U0⟩:=H1.out.at_ j hj
      cases e'
      have AK:=ia.out _ (Lh hj);rw[HX.out] at cu;have hc:=fun (p:Nat)=>qx BC A3 tA k3 xo[j] v (by omega) (by rw[<-HX.out];have:=ia.out _ (Lh hlt);omega) (W1.drewN p) U0 AM.out
      rw[show qj (zG xo (j+1)) v=bo by have:=bU.out;rwa[HX.out] at this] at cu;obtain⟨r,hr⟩:=Kj (zD xo[j] v);rw[hr] at cu hc;have dH:=zH cu;obtain⟨nl,fj⟩:=Kj (xo[j].length);rw[fj] at u0 hc AK;rw[lk.out] at hc;have HC:=zH hc;clear cu hc hr fj U0 bU HX lk;have g1:((j:Int)+1).toNat=j+1:=by omega
      have g3:IntKind.i64.wrap ((j:Int)+1-1)=(j:Int):=by rw[Lo];omega
      have g5:IntKind.i64.wrap ((j:Int)+1)=(j:Int)+1:=by rw[Lo];omega
      have g6:decide ((0:Int)<(j:Int)+1)=Av:=Lw (by omega)
      cases bo with
      | true=>
       have g7:decide (0<=r)=Av:=dH.out.symm;have g8:0<=r:=LA g7;clear dH;go_wp2_with fail;go_quiet ((go_at_call 175;first | exact yG (HC.out _) | exact N2 (HC.out _)));clear HC g1 g3 g5 g6 u0;have hR:=zH (an.out.trans (bP.out (by simp) (by simp)));have dk:=zH ((aj.out (by rw[hR.out];decide)).trans hR.out);clear an bP aQ aj ax;go_wp2_with fail;go_ret;exact⟨zm dk.out.symm,by repeat (first | exact ec.out | refine yy ?_ _)⟩
      | false=>
       have g7:decide (0<=r)=Aw:=dH.out.symm;have g8:¬0<=r:=NB g7;clear dH;go_wp2_with fail;go_quiet ((go_at_call 175;first | exact yG (HC.out _) | exact N2 (HC.out _)));clear HC g1 g3 g5 g6 u0;have hR:=zH (an.out.trans (aQ.out (by simp) (by simp)));clear an bP aQ;go_wp2_with fail
       go_roundw
       case rel=>exact⟨j+1+1,_,by omega,by go_num,hR,rfl⟩
       case measure=>simp[Ar];omega
   . obtain rfl:k=xo.length:=by omega
     have hR:=zH (an.out.trans qq);have HR:=zH (ax.out hR.out);clear an aj ax hR;go_wp2_with fail;obtain⟨G,hG⟩:=Kj (ka (qL xo) xc);have HG:As (G=yL (qL xo) xc 0):=by rw[xU];exact hG.symm
     rw[hG] at HR;clear hG
     go_loopw [9] (fun i wr=>∃k q:Nat,k<=xc.length/\i=O U (k:Int)/\As (G=yL (qL xo) xc k)/\wr=W1.drewN q) (fun i _=>xc.length-(Ar i).toNat)
     case atStart=>exact⟨0,_,by omega,rfl,HG,rfl⟩
     case round=>
      obtain⟨k,q,hk,rfl,an,rfl⟩:=hrel;clear HG
      by_cases hlt:k<xc.length
      . obtain⟨b,o,A3,k3,rfl,hb,c3,I3⟩:=H2.out.at_ k hlt
        have l3:=pC.out _ (Lh hlt);have AM:=zH I3;have aR:=zH (@qr (qL xo) xc k hlt);have bP:=zH (@xB (qL xo) xc k hlt);have aQ:=zH (@qT (qL xo) xc k hlt);have HV:=zH (fun (p:Nat)=>QT A1 k1 xo A3 k3 xc[k] (by omega) (fun v hv=>by have:=ia.out v hv;omega) (by omega) (W1.drewN p) H1.out I3);have lK:As (∀v,qL xo v=if v∈xo then 0 else 6):=fun _=>rfl
        obtain⟨bo,di⟩:=Kj (qj (zG xc k) xc[k]);have bU:=zH di;rw[di] at bP aQ;obtain⟨v,hv⟩:=Kj (xc[k]);have HX:=zH hv;rw[hv] at c3 AM l3 aR bP aQ HV;have lK:=zH (lK.out v);obtain⟨ev,dD⟩:=Kj (qL xo v);rw[dD] at aR bP aQ lK;obtain⟨vl,dr⟩:=Kj v.length;have lk:=zH dr;rw[dr] at c3 l3 HV;clear hv di dD dr I3
        by_cases hm:v∈xo
        case neg=>
         have he:ev=6:=lK.out.trans (Lg hm);subst he;rw[Lv hm] at HV;have hR:=zH (an.out.trans (aR.out (by decide)));have dk:=zH (HR.out.trans hR.out);clear an bP aQ aR hm lK HR bU HX lk;go_wp2_with fail;go_quiet ((go_at_call 176;exact yG (HV.out _)));go_wp2_with fail;go_ret;exact⟨zm dk.out.symm,by repeat (first | exact ec.out | refine yy ?_ _)⟩
        case pos=>
        have he:ev=0:=lK.out.trans (Lj hm);subst he;rw[Lw hm] at HV;clear aR hm lK;go_wp2_with fail;go_quiet ((go_at_call 176;exact yG (HV.out _)));clear HV;have fU:k<=30:=by omega
        cases k with
        | zero=>
         obtain rfl:bo=Aw:=by rw[<-bU.out];rfl
         have g0:decide ((0:Int)<0)=Aw:=by decide
         clear bU HX lk;go_wp2_with fail;go_quiet (fail);have hR:=zH (an.out.trans (aQ.out (by simp) (by simp)));clear an bP aQ;go_wp2_with fail
         go_roundw
         case rel=>exact⟨0+1,_,by omega,by go_num,hR,rfl⟩
         case measure=>simp[Ar];omega
        | succ j=>
         have hj:j<xc.length:=by omega
         have cu:qj (zG xc (j+1)) xc[j+1]=decide (0<=zD xc[j] xc[j+1]):=by rw[yz xc j hj];rfl
         obtain⟨b',o',BC,tA,e',_,u0,U0⟩:=H2.out.at_ j hj
         cases e'
         have AK:=pC.out _ (Lh hj);rw[HX.out] at cu;have hc:=fun (p:Nat)=>qx BC A3 tA k3 xc[j] v (by omega) (by rw[<-HX.out];have:=pC.out _ (Lh hlt);omega) (W1.drewN p) U0 AM.out
         rw[show qj (zG xc (j+1)) v=bo by have:=bU.out;rwa[HX.out] at this] at cu;obtain⟨r,hr⟩:=Kj (zD xc[j] v);rw[hr] at cu hc;have dH:=zH cu;obtain⟨nl,fj⟩:=Kj (xc[j].length);rw[fj] at u0 hc AK;rw[lk.out] at hc;have HC:=zH hc;clear cu hc hr fj U0 bU HX lk;have g1:((j:Int)+1).toNat=j+1:=by omega
         have g3:IntKind.i64.wrap ((j:Int)+1-1)=(j:Int):=by rw[Lo];omega
         have g5:IntKind.i64.wrap ((j:Int)+1)=(j:Int)+1:=by rw[Lo];omega
         have g6:decide ((0:Int)<(j:Int)+1)=Av:=Lw (by omega)
         cases bo with
         | true=>
          have g7:decide (0<=r)=Av:=dH.out.symm;have g8:0<=r:=LA g7;clear dH;go_wp2_with fail;go_quiet ((go_at_call 175;first | exact yG (HC.out _) | exact N2 (HC.out _)));clear HC g1 g3 g5 g6 u0;have hR:=zH (an.out.trans (bP.out (by simp) (by simp)));have dk:=zH (HR.out.trans hR.out);clear an bP aQ HR;go_wp2_with fail;go_ret;exact⟨zm dk.out.symm,by repeat (first | exact ec.out | refine yy ?_ _)⟩
         | false=>
          have g7:decide (0<=r)=Aw:=dH.out.symm;have g8:¬0<=r:=NB g7;clear dH;go_wp2_with fail;go_quiet ((go_at_call 175;first | exact yG (HC.out _) | exact N2 (HC.out _)));clear HC g1 g3 g5 g6 u0;have hR:=zH (an.out.trans (aQ.out (by simp) (by simp)));clear an bP aQ;go_wp2_with fail
          go_roundw
          case rel=>exact⟨j+1+1,_,by omega,by go_num,hR,rfl⟩
          case measure=>simp[Ar];omega
      . obtain rfl:k=xc.length:=by omega
        have hR:=zH (an.out.trans qq);have dk:=zH (HR.out.trans hR.out);clear an HR hR;go_wp2_with fail;go_ret;exact⟨zm dk.out.symm,by repeat (first | exact ec.out | refine yy ?_ _)⟩
 | succ j=>
  have hj:j<cs.length:=by omega
  have cu:qj ((zG cs (j+1)).map Cs.inp) cs[j+1].inp=decide (0<=zD cs[j].inp cs[j+1].inp):=by rw[yz cs j hj];rfl
  obtain⟨b',o',BC,tA,_,_,_,_,e',_,u0,_,_,U0,_,_⟩:=IR.out.row j hj
  cases e'
  obtain⟨AK,_,_⟩:=pB.out _ (Lh hj);rw[HX.out] at cu;have hc:=fun (p:Nat)=>qx BC A0 tA k0 cs[j].inp xi (by omega) (by omega) (W1.drewN p) U0 H0.out
  rw[show qj ((zG cs (j+1)).map Cs.inp) xi=bo by have:=bU.out;rwa[HX.out] at this] at cu;obtain⟨r,hr⟩:=Kj (zD cs[j].inp xi);rw[hr] at cu hc;have dH:=zH cu;obtain⟨nl,fj⟩:=Kj (cs[j].inp.length);rw[fj] at u0 hc AK;have HC:=zH hc;clear cu hc hr fj U0 bU HX;have g1:((j:Int)+1).toNat=j+1:=by omega
  have g3:IntKind.i64.wrap ((j:Int)+1-1)=(j:Int):=by rw[Lo];omega
  have g5:IntKind.i64.wrap ((j:Int)+1)=(j:Int)+1:=by rw[Lo];omega
  have g6:decide ((0:Int)<(j:Int)+1)=Av:=Lw (by omega)
  cases bo with
  | true=>
   have g7:decide (0<=r)=Av:=dH.out.symm;have g8:0<=r:=LA g7;clear dH;go_wp2_with fail;go_quiet ((go_at_call 175;first | exact yG (HC.out _) | exact N2 (HC.out _)));clear HC g1 g3 g5 g6 u0;have hd:=zH (bP.out (by simp) (by simp));clear bP eN ai aj ax;go_wp2_with fail;go_ret;exact⟨zm hd.out.symm,by repeat (first | exact ec.out | refine yy ?_ _)⟩
  | false=>
   have g7:decide (0<=r)=Aw:=dH.out.symm;have g8:¬0<=r:=NB g7;clear dH;go_wp2_with fail;go_quiet ((go_at_call 175;first | exact yG (HC.out _) | exact N2 (HC.out _)));clear HC g1 g3 g5 g6 u0;have be:=zH (eN.out (by simp) (by simp));clear bP eN
   by_cases hz:xo.length<1
   . have hR:=zH (be.out.trans (ai.out hz))
     clear be ai aj ax;go_wp2_with fail
     all_goals first | (exfalso;omega) | skip
     go_ret;exact⟨zm hR.out.symm,by repeat (first | exact ec.out | refine yy ?_ _)⟩
   have ce:¬((xo.length:Int)<1):=by omega
   have aj:=zH (fun h=>be.out.trans (aj.out (by omega) (by omega) h));have ax:=zH (fun h=>be.out.trans (ax.out (by omega) (by omega) h));clear ai be;obtain⟨F,hF⟩:∃F,ka (fun v=>zN v n m) xo=F:=⟨_,rfl⟩;have HF:As (F=yL (fun v=>zN v n m) xo 0):=by rw[xU];exact hF.symm
   rw[hF] at aj ax;clear hF;go_wp2_with fail
   all_goals first | (exfalso;omega) | skip
   go_loopw [7] (fun i wr=>∃k q:Nat,k<=xo.length/\i=O U (k:Int)/\As (F=yL (fun v=>zN v n m) xo k)/\wr=W1.drewN q) (fun i _=>xo.length-(Ar i).toNat)
   case atStart=>exact⟨0,_,by omega,rfl,HF,rfl⟩
   case round=>
    obtain⟨k,q,hk,rfl,an,rfl⟩:=hrel;clear HF
    by_cases hlt:k<xo.length
    . obtain⟨b,o,A3,k3,rfl,hb,c3,I3⟩:=H1.out.at_ k hlt
      have l3:=ia.out _ (Lh hlt);have AM:=zH I3;have aR:=zH (@qr (fun v=>zN v n m) xo k hlt);have bP:=zH (@xB (fun v=>zN v n m) xo k hlt);have aQ:=zH (@qT (fun v=>zN v n m) xo k hlt);have HV:=zH (fun (p:Nat)=>jP A3 k3 xo[k] n m (by omega) (W1.drewN p) I3);obtain⟨bo,di⟩:=Kj (qj (zG xo k) xo[k]);have bU:=zH di;rw[di] at bP aQ;obtain⟨v,hv⟩:=Kj (xo[k]);have HX:=zH hv;rw[hv] at c3 AM l3 aR bP aQ HV;obtain⟨ev,dD⟩:=Kj (zN v n m);rw[dD] at aR bP aQ HV;obtain⟨vl,dr⟩:=Kj v.length;have lk:=zH dr;rw[dr] at c3 l3 HV;clear hv di dD dr I3
      by_cases he:ev=0
      case neg=>
       have hR:=zH (an.out.trans (aR.out he));have HR:=zH ((aj.out (by rw[hR.out];exact he)).trans hR.out);clear an bP aQ aR aj ax bU HX lk;have e0:(ev != 0)=Av:=by simpa using he
       clear he;go_wp2_with fail;go_quiet ((go_at_call 174;exact vr (HV.out _)));go_wp2_with fail;go_ret;exact⟨zm HR.out.symm,by repeat (first | exact ec.out | refine yy ?_ _)⟩
      case pos=>
      subst he;clear aR;go_wp2_with fail;go_quiet ((go_at_call 174;exact vr (HV.out _)));clear HV;have fU:k<=30:=by omega
      cases k with
      | zero=>
       obtain rfl:bo=Aw:=by rw[<-bU.out];rfl
       have g0:decide ((0:Int)<0)=Aw:=by decide
       clear bU HX lk;go_wp2_with fail;go_quiet (fail);have hR:=zH (an.out.trans (aQ.out (by simp) (by simp)));clear an bP aQ;go_wp2_with fail
       go_roundw
       case rel=>exact⟨0+1,_,by omega,by go_num,hR,rfl⟩
       case measure=>simp[Ar];omega
      | succ j=>
       have hj:j<xo.length:=by omega
       have cu:qj (zG xo (j+1)) xo[j+1]=decide (0<=zD xo[j] xo[j+1]):=by rw[yz xo j hj];rfl
       obtain⟨b',o',BC,tA,e',_,u0,U0⟩:=H1.out.at_ j hj
       cases e'
       have AK:=ia.out _ (Lh hj);rw[HX.out] at cu;have hc:=fun (p:Nat)=>qx BC A3 tA k3 xo[j] v (by omega) (by rw[<-HX.out];have:=ia.out _ (Lh hlt);omega) (W1.drewN p) U0 AM.out
       rw[show qj (zG xo (j+1)) v=bo by have:=bU.out;rwa[HX.out] at this] at cu;obtain⟨r,hr⟩:=Kj (zD xo[j] v);rw[hr] at cu hc;have dH:=zH cu;obtain⟨nl,fj⟩:=Kj (xo[j].length);rw[fj] at u0 hc AK;rw[lk.out] at hc;have HC:=zH hc;clear cu hc hr fj U0 bU HX lk;have g1:((j:Int)+1).toNat=j+1:=by omega
       have g3:IntKind.i64.wrap ((j:Int)+1-1)=(j:Int):=by rw[Lo];omega
       have g5:IntKind.i64.wrap ((j:Int)+1)=(j:Int)+1:=by rw[Lo];omega
       have g6:decide ((0:Int)<(j:Int)+1)=Av:=Lw (by omega)
       cases bo with
       | true=>
        have g7:decide (0<=r)=Av:=dH.out.symm;have g8:0<=r:=LA g7;clear dH;go_wp2_with fail;go_quiet ((go_at_call 175;first | exact yG (HC.out _) | exact N2 (HC.out _)));clear HC g1 g3 g5 g6 u0;have hR:=zH (an.out.trans (bP.out (by simp) (by simp)));have dk:=zH ((aj.out (by rw[hR.out];decide)).trans hR.out);clear an bP aQ aj ax;go_wp2_with fail;go_ret;exact⟨zm dk.out.symm,by repeat (first | exact ec.out | refine yy ?_ _)⟩
       | false=>
        have g7:decide (0<=r)=Aw:=dH.out.symm;have g8:¬0<=r:=NB g7;clear dH;go_wp2_with fail;go_quiet ((go_at_call 175;first | exact yG (HC.out _) | exact N2 (HC.out _)));clear HC g1 g3 g5 g6 u0;have hR:=zH (an.out.trans (aQ.out (by simp) (by simp)));clear an bP aQ;go_wp2_with fail
        go_roundw
        case rel=>exact⟨j+1+1,_,by omega,by go_num,hR,rfl⟩
        case measure=>simp[Ar];omega
    . obtain rfl:k=xo.length:=by omega
      have hR:=zH (an.out.trans qq);have HR:=zH (ax.out hR.out);clear an aj ax hR;go_wp2_with fail;obtain⟨G,hG⟩:=Kj (ka (qL xo) xc);have HG:As (G=yL (qL xo) xc 0):=by rw[xU];exact hG.symm
      rw[hG] at HR;clear hG
      go_loopw [9] (fun i wr=>∃k q:Nat,k<=xc.length/\i=O U (k:Int)/\As (G=yL (qL xo) xc k)/\wr=W1.drewN q) (fun i _=>xc.length-(Ar i).toNat)
      case atStart=>exact⟨0,_,by omega,rfl,HG,rfl⟩
      case round=>
       obtain⟨k,q,hk,rfl,an,rfl⟩:=hrel;clear HG
       by_cases hlt:k<xc.length
       . obtain⟨b,o,A3,k3,rfl,hb,c3,I3⟩:=H2.out.at_ k hlt
         have l3:=pC.out _ (Lh hlt);have AM:=zH I3;have aR:=zH (@qr (qL xo) xc k hlt);have bP:=zH (@xB (qL xo) xc k hlt);have aQ:=zH (@qT (qL xo) xc k hlt);have HV:=zH (fun (p:Nat)=>QT A1 k1 xo A3 k3 xc[k] (by omega) (fun v hv=>by have:=ia.out v hv;omega) (by omega) (W1.drewN p) H1.out I3);have lK:As (∀v,qL xo v=if v∈xo then 0 else 6):=fun _=>rfl
         obtain⟨bo,di⟩:=Kj (qj (zG xc k) xc[k]);have bU:=zH di;rw[di] at bP aQ;obtain⟨v,hv⟩:=Kj (xc[k]);have HX:=zH hv;rw[hv] at c3 AM l3 aR bP aQ HV;have lK:=zH (lK.out v);obtain⟨ev,dD⟩:=Kj (qL xo v);rw[dD] at aR bP aQ lK;obtain⟨vl,dr⟩:=Kj v.length;have lk:=zH dr;rw[dr] at c3 l3 HV;clear hv di dD dr I3
         by_cases hm:v∈xo
         case neg=>
          have he:ev=6:=lK.out.trans (Lg hm);subst he;rw[Lv hm] at HV;have hR:=zH (an.out.trans (aR.out (by decide)));have dk:=zH (HR.out.trans hR.out);clear an bP aQ aR hm lK HR bU HX lk;go_wp2_with fail;go_quiet ((go_at_call 176;exact yG (HV.out _)));go_wp2_with fail;go_ret;exact⟨zm dk.out.symm,by repeat (first | exact ec.out | refine yy ?_ _)⟩
         case pos=>
         have he:ev=0:=lK.out.trans (Lj hm);subst he;rw[Lw hm] at HV;clear aR hm lK;go_wp2_with fail;go_quiet ((go_at_call 176;exact yG (HV.out _)));clear HV;have fU:k<=30:=by omega
         cases k with
         | zero=>
          obtain rfl:bo=Aw:=by rw[<-bU.out];rfl
          have g0:decide ((0:Int)<0)=Aw:=by decide
          clear bU HX lk;go_wp2_with fail;go_quiet (fail);have hR:=zH (an.out.trans (aQ.out (by simp) (by simp)));clear an bP aQ;go_wp2_with fail
          go_roundw
          case rel=>exact⟨0+1,_,by omega,by go_num,hR,rfl⟩
          case measure=>simp[Ar];omega
         | succ j=>
          have hj:j<xc.length:=by omega
          have cu:qj (zG xc (j+1)) xc[j+1]=decide (0<=zD xc[j] xc[j+1]):=by rw[yz xc j hj];rfl
          obtain⟨b',o',BC,tA,e',_,u0,U0⟩:=H2.out.at_ j hj
          cases e'
          have AK:=pC.out _ (Lh hj);rw[HX.out] at cu;have hc:=fun (p:Nat)=>qx BC A3 tA k3 xc[j] v (by omega) (by rw[<-HX.out];have:=pC.out _ (Lh hlt);omega) (W1.drewN p) U0 AM.out
          rw[show qj (zG xc (j+1)) v=bo by have:=bU.out;rwa[HX.out] at this] at cu;obtain⟨r,hr⟩:=Kj (zD xc[j] v);rw[hr] at cu hc;have dH:=zH cu;obtain⟨nl,fj⟩:=Kj (xc[j].length);rw[fj] at u0 hc AK;rw[lk.out] at hc;have HC:=zH hc;clear cu hc hr fj U0 bU HX lk;have g1:((j:Int)+1).toNat=j+1:=by omega
          have g3:IntKind.i64.wrap ((j:Int)+1-1)=(j:Int):=by rw[Lo];omega
          have g5:IntKind.i64.wrap ((j:Int)+1)=(j:Int)+1:=by rw[Lo];omega
          have g6:decide ((0:Int)<(j:Int)+1)=Av:=Lw (by omega)
          cases bo with
          | true=>
           have g7:decide (0<=r)=Av:=dH.out.symm;have g8:0<=r:=LA g7;clear dH;go_wp2_with fail;go_quiet ((go_at_call 175;first | exact yG (HC.out _) | exact N2 (HC.out _)));clear HC g1 g3 g5 g6 u0;have hR:=zH (an.out.trans (bP.out (by simp) (by simp)));have dk:=zH (HR.out.trans hR.out);clear an bP aQ HR;go_wp2_with fail;go_ret;exact⟨zm dk.out.symm,by repeat (first | exact ec.out | refine yy ?_ _)⟩
          | false=>
           have g7:decide (0<=r)=Aw:=dH.out.symm;have g8:¬0<=r:=NB g7;clear dH;go_wp2_with fail;go_quiet ((go_at_call 175;first | exact yG (HC.out _) | exact N2 (HC.out _)));clear HC g1 g3 g5 g6 u0;have hR:=zH (an.out.trans (aQ.out (by simp) (by simp)));clear an bP aQ;go_wp2_with fail
           go_roundw
           case rel=>exact⟨j+1+1,_,by omega,by go_num,hR,rfl⟩
           case measure=>simp[Ar];omega
       . obtain rfl:k=xc.length:=by omega
         have hR:=zH (an.out.trans qq);have dk:=zH (HR.out.trans hR.out);clear an HR hR;go_wp2_with fail;go_ret;exact⟨zm dk.out.symm,by repeat (first | exact ec.out | refine yy ?_ _)⟩
theorem QQ(t:Tk)(A:Bb)(kc:Nat)(hf:FewT t)(w:Ba)(hA:CAt w w.heap.size A t.cases) :
  An Al 134 #[Ai #[O U t.n,O U t.ins,O U t.outs,I A t.cases.length kc]] w fun e w'=>e=Ak (O U (xp t))/\Am w.heap.size w w':=by
 have Bh:=zH (fun (i:Nat) (hi:i<t.cases.length) (w':Ba) (h:CAt w' w'.heap.size A t.cases)=>rone_any t A kc hf i hi w' h);obtain⟨fq,lL⟩:=hf;have HA:=zH hA;have ai:=zH (@gF t);have aj:=zH (@ZR t);have ax:=zH (@gG t);obtain⟨E,hE⟩:=Kj (xp t);rw[hE] at ai aj ax ⊢
 by_cases hr:t.n<1\/5<t.n\/t.ins<1\/8<t.ins\/t.outs<1\/8<t.outs
 . have HR:=zH (ai.out hr)
   obtain⟨cv,sZ⟩:=Kj (I A t.cases.length kc);rw[sZ];have HN:=zH hr;obtain⟨n,ins,outs,cases⟩:=t;dsimp only at HN ⊢;clear ai aj ax sZ hA lL HA hE hr Bh fq;go_enter func134,ntmps134;go_wp2_with fail
   all_goals first | (exfalso;have:=HN.out;omega) | (go_ret;exact⟨zm HR.out.symm,zW w _⟩)
 have r1:¬t.n<1:=by omega
 have r2:¬5<t.n:=by omega
 have r3:¬t.ins<1:=by omega
 have r4:¬8<t.ins:=by omega
 have r5:¬t.outs<1:=by omega
 have r6:¬8<t.outs:=by omega
 have aj:=zH (aj.out hr);have cK:=zH (ax.out hr);clear hr ai hE hA lL ax
 by_cases hz:t.cases.length<1
 . have HR:=zH (aj.out hz)
   obtain⟨n,ins,outs,cases⟩:=t;dsimp only at fq r1 r2 r3 r4 r5 r6 hz ⊢;clear aj cK HA Bh;go_enter func134,ntmps134;go_wp2_with fail
   all_goals first | (exfalso;omega) | skip
   go_ret;exact⟨zm HR.out.symm,zW w _⟩
 have ce:¬((t.cases.length:Int)<1):=by omega
 have ax:=zH (cK.out (by omega) (by omega));clear aj hz cK;have aR:=zH (fun k h=>@Zm t t.cases k h);have aQ:=zH (fun k h=>@YH t t.cases k h);have WO:=zH (@Zl t t.cases);obtain⟨cg,hcg⟩:∃cg:Nat->Int,(fun k=>xD t t.cases k)=cg:=⟨_,rfl⟩;have M8:∀k,xD t t.cases k=cg k:=fun k=>congrFun hcg k
 obtain⟨cE,hcE⟩:∃cE:(k:Nat)->k<t.cases.length->Int,(fun k h=>qO t (zG t.cases k) t.cases[k])=cE:=⟨_,rfl⟩;have M9:∀k h,qO t (zG t.cases k) t.cases[k]=cE k h:=fun k h=>congrFun (congrFun hcE k) h
 simp only[M8,M9] at aR aQ WO ax Bh;clear hcg M8 hcE M9;obtain⟨n,ins,outs,cs⟩:=t;dsimp only at fq r1 r2 r3 r4 r5 r6 ce HA ax Bh cE aR aQ WO ⊢;go_enter func134,ntmps134;go_wp2_with fail
 all_goals first | (exfalso;omega) | skip
 obtain⟨W0,dT,b0,aP,bG⟩:∃W0,w.alloc (Ag #[O U n,O U ins,O U outs,I A cs.length kc] 24)=W0/\W0.heap[w.heap.size]?=J (Ag #[O U n,O U ins,O U outs,I A cs.length kc] 24 (0,0))/\w.heap.size+1<=W0.heap.size/\Am w.heap.size w W0:=
  ⟨_,rfl,zx _ _,by simp,zW w _⟩
 rw[dT];have ir:=zH bG;have pz:=zH b0;clear dT bG b0
 go_loopw [3] (fun i wr=>∃k:Nat,k<=cs.length/\i=O U (k:Int)/\As (E=cg k)/\Am W0.heap.size W0 wr) (fun i _=>cs.length-(Ar i).toNat)
 case atStart=>exact⟨0,by omega,rfl,ax,Ll _ _⟩
 obtain⟨k,hk,rfl,an,aY⟩:=hrel;have fg:=zH (Lc ir.out aY);have HW:=zH aY;have d0:=Lb aY (by omega) pz.out;obtain⟨q0,q1,q2,q3,_⟩:=Ka d0
 by_cases hlt:k<cs.length
 . have HC:=zH (fun (w':Ba) (h:CAt w' w'.heap.size A cs)=>Bh.out k hlt w' h)
   have aR:=zH (aR.out k hlt);have aQ:=zH (aQ.out k hlt);obtain⟨ev,dD⟩:=Kj (cE k hlt);rw[dD] at HC aR aQ;have HAr:=zH ((HA.out.keep fg.out).more fg.out.size);go_wp2_with fail;refine(HC.out _ HAr.out).mono ?_;rintro e w1 ⟨rfl,aF⟩;have iQ:=zH (Lc fg.out aF);have BA:=zH (Lc HW.out aF);clear aF HC
   by_cases he:ev=0
   . subst he
     have hR:=zH (an.out.trans (aQ.out (by simp)));clear an aR aQ;go_wp2_with fail
     go_roundw
     case rel=>exact⟨k+1,by omega,by go_num,hR,BA.out⟩
     simp[Ar];omega
   have hR:=zH (an.out.trans (aR.out he));have e0:(ev != 0)=Av:=by simpa using he
   clear an aR aQ he;go_wp2_with fail;go_ret;exact⟨zm hR.out.symm,iQ.out⟩
 obtain rfl:k=cs.length:=by omega
 have HR:=zH (an.out.trans WO.out);clear an;go_wp2_with fail;go_ret;exact⟨zm HR.out.symm,fg.out⟩
def vc(t:Tk):Bool:=decide (t.cases.length<=30)&&t.cases.all fun c=>decide (c.inp.length<=10)&&vb c.out 30&&vb c.calm 30
theorem fewl_iff{l:List (List Int)}:vb l 30=Av↔FewL l:=by
 unfold vb FewL;simp
theorem JH{t:Tk}:vc t=Av↔FewT t:=by
 unfold vc FewT FewC;simp only[Bool.and_eq_true,decide_eq_true_eq,List.all_eq_true,fewl_iff,and_assoc]
end
end Go.Proofs.YtkmbdfdaffmhjaaGreat
