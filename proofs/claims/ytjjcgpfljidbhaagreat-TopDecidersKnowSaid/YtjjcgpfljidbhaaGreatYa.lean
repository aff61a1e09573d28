/- Merged. -/
import Derived.WalkKit
import Derived.WalkSpells
import Derived.WalkLawsBesides
import Derived.Outline
import Derived.Below
import Derived.Laws.OwnMore
import Derived.Lib.Hide
import Derived.Deep.Draws
import Derived.Deep.AppendLies
import Derived.Test.YtjjcgpfljidbhaaGreatRows
import Derived.ProofKit
import Derived.LaidMore
import Derived.OpenShut
import Derived.Carry
import Derived.Deep.Slices
import Derived.Deep.Fields
import Derived.ChangeSame
import Derived.Stop.Joined
import Derived.Test.YtjjcgpfljidbhaaGreatProg
import Derived.Deep.QuietTactic
import Derived.BigQuiet
import Derived.Laws.StructEq
import Derived.Laws.BitsAllLaws
import Derived.Laws.BitsLemmas
import Derived.StillTactics
import Derived.Shelf.Small.Wraps
import Derived.Shelf.Sort.Plain
import Derived.Shelf.Bits.Mul64
import Derived.Shelf.Slices.Turned
import Derived.Shelf.Slices.Equal
import Derived.Ground.Names2Prog
import Derived.Shelf.Slices.Clone
import Derived.Shelf.Slices.CompactI
import Derived.Shelf.Slices.SearchI
import Derived.Shelf.Slices.Cells
import Derived.Shelf.Slices.In.SortNone
import Derived.Shelf.Slices.Empties2
open Go.Proofs.Tryz
open Go.Value renaming int->O,slice->I,bool->Ah,agg->Ai,pointer->Aj
open Go.IntKind renaming i64->U
open Option renaming none->Z,some->J
open Go.Obj renaming cells->Ag
open Go.Ending renaming returned->Ak
open Go.Proofs.Tryz renaming prog->Al
open Go.RowKit renaming Below->Am,intOf->Ao,Hid->Ap
open Go renaming Calls->An,Value->Aq,run_equalIn_struct->PF
open Bool renaming true->Ar,false->As
open Go.Calls renaming quiet_of_same->Ri
namespace Go.Proofs.YtjjcgpfljidbhaaGreat
abbrev Bb:=Option Addr
abbrev Ba:=World
abbrev Lq:=@Array.getElem?_eq_some_iff
abbrev N1:=@Go.RowKit.Below.heap_alloc
abbrev Ll:=@Go.RowKit.Below.refl
abbrev Lh:=@Nat.le_refl
abbrev L8:=@List.mem_append
abbrev Rf:=@List.mem_cons_of_mem
abbrev Ro:=@List.mem_cons_self
abbrev Rg:=@List.mem_append_left
abbrev L5:=@List.append_nil
abbrev Pu:=@Nat.add_assoc
abbrev Ls:=@List.take_succ_eq_append_getElem
abbrev LC:=@List.take_length
abbrev LI:=@List.take_zero
abbrev LB:=@Go.Proofs.Tryz.underlying3
abbrev Rt:=@Go.Proofs.Tryz.underlying64
abbrev Nu:=@Nat.add_sub_cancel
abbrev NR:=@Nat.mul_one
abbrev PC:=@if_true
abbrev Pv:=@if_false
abbrev Nl:=@Bool.true_and
abbrev L1:=@List.map_cons
abbrev NE:=@List.map_nil
abbrev PG:=@and_true
abbrev NG:=@Bool.eq_iff_iff
abbrev Pi:=@not_false_eq_true
abbrev LP:=@List.all_eq_true
abbrev Lo:=@if_pos
abbrev Li:=@if_neg
abbrev LZ:=@Nat.pow_le_pow_right
abbrev Lr:=@Int.eq_ofNat_of_zero_le
abbrev Lz:=@List.drop_eq_getElem_cons
abbrev Nz:=@List.drop_length
abbrev LT:=@List.drop_zero
abbrev Ln:=@decide_eq_false
abbrev Lm:=@decide_eq_true
abbrev Rk:=@Bool.false_or
abbrev Rm:=@beq_iff_eq
abbrev Pm:=@List.mem_range
abbrev PM:=@Go.World.drewN_drewN
abbrev Nm:=@Go.World.size_alloc
abbrev Ld:=@List.getElem_mem
abbrev Lx:=@Nat.lt_of_lt_of_le
abbrev Lv:=@Go.IntKind.wrap_i64
abbrev Ps:=@List.any_eq_true
abbrev NN:=@decide_eq_true_eq
abbrev Lw:=@of_decide_eq_true
abbrev NH:=@of_decide_eq_false
set_option maxRecDepth 100000
theorem zH{p:Prop}(h:p):Go.RowKit.Hid p:=h
set_option maxHeartbeats 4000000
section
open Go.RowKit
theorem Z3{p q:Prop}[Decidable p][Decidable q](h:p↔q):decide p=decide q:=by simp[h]
theorem ze{a b:Bool}(h:a=b):Ak (Ah a)=Ak (Ah b):=by rw[h]
theorem zd{k:IntKind}{a b:Int}(h:a=b):Ak (.int k a)=Ak (.int k b):=by rw[h]
structure Vw where
 p:Int
 r:Int
 i:Int
 h0:Int
 h1:Int
 h2:Int
 h3:Int
 h4:Int
deriving DecidableEq,Inhabited
def Vw.h(v:Vw):Nat->Int
 | 0=>v.h0
 | 1=>v.h1
 | 2=>v.h2
 | 3=>v.h3
 | _=>v.h4
def Vw.cells(v:Vw):Array Aq:=#[O U v.p,O U v.r,O U v.i,O U v.h0,O U v.h1,O U v.h2,O U v.h3,O U v.h4]
theorem Vw.cells_h(v:Vw)(q:Nat)(hq:q<5):v.cells[3+q]?=J (O U (v.h q)):=by
 match q,hq with
 | 0,_=>rfl
 | 1,_=>rfl
 | 2,_=>rfl
 | 3,_=>rfl
 | 4,_=>rfl
def VAt(w:Ba)(B:Nat)(A:Bb)(vs:List Vw):Prop:=
 0<vs.length->∃b off,A=J ⟨b,off,Z⟩/\b<B/\∀(i:Nat) (hi:i<vs.length) (k:Nat) (u:Aq),vs[i].cells[k]?=J u->w.cell? ⟨b,off+i*8+k,Z⟩=J u
theorem VAt.keep{w w':Ba}{B:Nat}{A:Bb}{vs:List Vw}(h:VAt w B A vs)(hb:Am B w w'):VAt w' B A vs:=fun h0=>by
 obtain⟨b,off,e,aa,hc⟩:=h h0;exact⟨b,off,e,aa,fun i hi k u hk=>(hb.cell (p:=⟨b,_,Z⟩) aa).trans (hc i hi k u hk)⟩
theorem VAt.more{w:Ba}{B B':Nat}{A:Bb}{vs:List Vw}(h:VAt w B A vs)(hB:B<=B'):VAt w B' A vs:=fun h0=>by
 obtain⟨b,off,e,aa,hc⟩:=h h0;exact⟨b,off,e,by omega,hc⟩
theorem VAt.row{w:Ba}{B:Nat}{A:Bb}{vs:List Vw}(h:VAt w B A vs)(k:Nat)(hk:k<vs.length) :
  ∃b off,A=J ⟨b,off,Z⟩/\b<B/\w.cell? ⟨b,off+k*8,Z⟩=J (O U vs[k].p)/\w.cell? ⟨b,off+k*8+1,Z⟩=J (O U vs[k].r) /\
   w.cell? ⟨b,off+k*8+2,Z⟩=J (O U vs[k].i)/\w.cell? ⟨b,off+k*8+3,Z⟩=J (O U vs[k].h0)/\w.cell? ⟨b,off+k*8+4,Z⟩=J (O U vs[k].h1) /\
   w.cell? ⟨b,off+k*8+5,Z⟩=J (O U vs[k].h2)/\w.cell? ⟨b,off+k*8+6,Z⟩=J (O U vs[k].h3)/\w.cell? ⟨b,off+k*8+7,Z⟩=J (O U vs[k].h4):=by
 obtain⟨b,off,e,aa,hc⟩:=h (by omega);exact⟨b,off,e,aa,hc k hk 0 _ rfl,hc k hk 1 _ rfl,hc k hk 2 _ rfl,hc k hk 3 _ rfl,hc k hk 4 _ rfl,hc k hk 5 _ rfl,hc k hk 6 _ rfl,hc k hk 7 _ rfl⟩
def IAt(w:Ba)(B:Nat)(A:Bb)(xs:List Int):Prop:=
 0<xs.length->∃b off,A=J ⟨b,off,Z⟩/\b<B/\∀(i:Nat) (hi:i<xs.length),w.cell? ⟨b,off+i,Z⟩=J (O U xs[i])
theorem IAt.keep{w w':Ba}{B:Nat}{A:Bb}{xs:List Int}(h:IAt w B A xs)(hb:Am B w w'):IAt w' B A xs:=fun h0=>by
 obtain⟨b,off,e,aa,hc⟩:=h h0;exact⟨b,off,e,aa,fun i hi=>(hb.cell (p:=⟨b,_,Z⟩) aa).trans (hc i hi)⟩
theorem IAt.more{w:Ba}{B B':Nat}{A:Bb}{xs:List Int}(h:IAt w B A xs)(hB:B<=B'):IAt w B' A xs:=fun h0=>by
 obtain⟨b,off,e,aa,hc⟩:=h h0;exact⟨b,off,e,by omega,hc⟩
theorem IAt.at_{w:Ba}{B:Nat}{A:Bb}{xs:List Int}(h:IAt w B A xs)(k:Nat)(hk:k<xs.length):∃b off,A=J ⟨b,off,Z⟩/\b<B/\w.cell? ⟨b,off+k,Z⟩=J (O U xs[k]):=by
 obtain⟨b,off,e,aa,hc⟩:=h (by omega);exact⟨b,off,e,aa,hc k hk⟩
theorem IAt.nil(w:Ba)(B:Nat)(A:Bb):IAt w B A []:=fun h=>absurd h (by simp)
theorem IAt.of_own{w:Ba}{base:Nat}{e:TypeId}{A:Bb}{n c:Nat}{xs:List Int}(h:w.ownsRow base e 1 (I A n c) n (xs.map (O U))):IAt w w.heap.size A xs:=fun h0=>by
 have hn:xs.length=n:=by simpa using h.1
 obtain⟨g,cap,hv,_,aa⟩:=h.form (by omega);have hA:A=J ⟨g,0,Z⟩:=by injection hv
 subst hA;refine⟨g,0,rfl,aa,fun i hi=>?_⟩;have:=h.cells (g:=g) rfl i (O U xs[i]) (by simp[hi]);rw[show(⟨g,0,Z⟩:Addr).add i=⟨g,0+i,Z⟩ from by unfold Addr.add;split<;>simp_all] at this;exact this
theorem za{w:Ba}{g:Nat}{t:TypeId}{cs:Array Aq}(h:w.heap[g]?=J (Ag cs t (0,0)))(i:Nat){u:Aq}(hu:cs[i]?=J u):w.cell? ⟨g,i,Z⟩=J u:=by
 rw[cell_of_row w g i cs t (0,0) h];exact hu
theorem Ka{w:Ba}{b:Nat}{v0 v1:Aq}{l:List Aq}{t:TypeId}(h:w.heap[b]?=J (Ag ⟨v0::v1::l⟩ t (0,0))):w.cell? ⟨b,0,Z⟩=J v0/\w.cell? ⟨b,1,Z⟩=J v1/\True:=⟨za h 0 rfl,za h 1 rfl,trivial⟩
theorem Kb{w:Ba}{b:Nat}{v0 v1 v2 v3:Aq}{l:List Aq}{t:TypeId}(h:w.heap[b]?=J (Ag ⟨v0::v1::v2::v3::l⟩ t (0,0))):w.cell? ⟨b,0,Z⟩=J v0/\w.cell? ⟨b,1,Z⟩=J v1/\w.cell? ⟨b,2,Z⟩=J v2/\w.cell? ⟨b,3,Z⟩=J v3/\True:=⟨za h 0 rfl,za h 1 rfl,za h 2 rfl,za h 3 rfl,trivial⟩
theorem Kc{w:Ba}{b:Nat}{v0 v1 v2:Aq}{l:List Aq}{t:TypeId}(h:w.heap[b]?=J (Ag ⟨v0::v1::v2::l⟩ t (0,0))):w.cell? ⟨b,0,Z⟩=J v0/\w.cell? ⟨b,1,Z⟩=J v1/\w.cell? ⟨b,2,Z⟩=J v2/\True:=⟨za h 0 rfl,za h 1 rfl,za h 2 rfl,trivial⟩
theorem Ke{w:Ba}{b:Nat}{v0 v1 v2 v3 v4 v5 v6 v7:Aq}{l:List Aq}{t:TypeId}(h:w.heap[b]?=J (Ag ⟨v0::v1::v2::v3::v4::v5::v6::v7::l⟩ t (0,0))):w.cell? ⟨b,0,Z⟩=J v0/\w.cell? ⟨b,1,Z⟩=J v1/\w.cell? ⟨b,2,Z⟩=J v2/\w.cell? ⟨b,3,Z⟩=J v3/\w.cell? ⟨b,4,Z⟩=J v4/\w.cell? ⟨b,5,Z⟩=J v5/\w.cell? ⟨b,6,Z⟩=J v6/\w.cell? ⟨b,7,Z⟩=J v7/\True:=⟨za h 0 rfl,za h 1 rfl,za h 2 rfl,za h 3 rfl,za h 4 rfl,za h 5 rfl,za h 6 rfl,za h 7 rfl,trivial⟩
theorem Kf{w:Ba}{b:Nat}{v0 v1 v2 v3 v4 v5 v6:Aq}{l:List Aq}{t:TypeId}(h:w.heap[b]?=J (Ag ⟨v0::v1::v2::v3::v4::v5::v6::l⟩ t (0,0))):w.cell? ⟨b,0,Z⟩=J v0/\w.cell? ⟨b,1,Z⟩=J v1/\w.cell? ⟨b,2,Z⟩=J v2/\w.cell? ⟨b,3,Z⟩=J v3/\w.cell? ⟨b,4,Z⟩=J v4/\w.cell? ⟨b,5,Z⟩=J v5/\w.cell? ⟨b,6,Z⟩=J v6/\True:=⟨za h 0 rfl,za h 1 rfl,za h 2 rfl,za h 3 rfl,za h 4 rfl,za h 5 rfl,za h 6 rfl,trivial⟩
theorem Kg{w:Ba}{b:Nat}{v0 v1 v2 v3 v4 v5:Aq}{l:List Aq}{t:TypeId}(h:w.heap[b]?=J (Ag ⟨v0::v1::v2::v3::v4::v5::l⟩ t (0,0))):w.cell? ⟨b,0,Z⟩=J v0/\w.cell? ⟨b,1,Z⟩=J v1/\w.cell? ⟨b,2,Z⟩=J v2/\w.cell? ⟨b,3,Z⟩=J v3/\w.cell? ⟨b,4,Z⟩=J v4/\w.cell? ⟨b,5,Z⟩=J v5/\True:=⟨za h 0 rfl,za h 1 rfl,za h 2 rfl,za h 3 rfl,za h 4 rfl,za h 5 rfl,trivial⟩
theorem Kh{α:Sort _}(a:α):∃u,a=u:=⟨_,rfl⟩
theorem zK{w:Ba}{b:Nat}{v0 v1 v2 v3 v4 v5 v6 v7 v8 v9:Aq}{l:List Aq}{t:TypeId}(h:w.heap[b]?=J (Ag ⟨v0::v1::v2::v3::v4::v5::v6::v7::v8::v9::l⟩ t (0,0))):w.cell? ⟨b,0,Z⟩=J v0/\w.cell? ⟨b,1,Z⟩=J v1/\w.cell? ⟨b,2,Z⟩=J v2/\w.cell? ⟨b,3,Z⟩=J v3/\w.cell? ⟨b,4,Z⟩=J v4/\w.cell? ⟨b,5,Z⟩=J v5/\w.cell? ⟨b,6,Z⟩=J v6/\w.cell? ⟨b,7,Z⟩=J v7/\w.cell? ⟨b,8,Z⟩=J v8/\w.cell? ⟨b,9,Z⟩=J v9:=
 ⟨za h 0 rfl,za h 1 rfl,za h 2 rfl,za h 3 rfl,za h 4 rfl,za h 5 rfl,za h 6 rfl,za h 7 rfl,za h 8 rfl,za h 9 rfl⟩
theorem zb{w:Ba}{g:Nat}{t:TypeId}{cs:Array Aq}(h:w.heap[g]?=J (Ag cs t (0,0)))(i:Nat):w.frozen? ⟨g,i,Z⟩=As:=by
 simp[World.frozen?,h]
theorem zc{w:Ba}{g:Nat}{o:Obj}(h:w.heap[g]?=J o):g<w.heap.size:=(Lq.1 h).1
theorem La{w w':Ba}{k:Nat}{o:Obj}(h:Am w.heap.size w w')(e:w.heap[k]?=J o):w'.heap[k]?=J o:=(h.block _ (zc e)).trans e
theorem Lb{n k:Nat}{w w':Ba}{x:Option Obj}(h:Am n w w')(o:k<n)(e:w.heap[k]?=x):w'.heap[k]?=x:=(h.block _ o).trans e
theorem Lc{w w1 w2:Ba}(h:Am w.heap.size w w1)(g:Am w1.heap.size w1 w2):Am w.heap.size w w2:=h.trans (g.mono h.size)
theorem zj(w:Ba)(o:Obj):(w.alloc o).heap[w.heap.size]?=J o:=heap_alloc_new w o
theorem yo{w:Ba}{g:Nat}{o:Obj}(h:w.heap[g]?=J o)(o':Obj):(w.alloc o').heap[g]?=J o:=(N1 w o' g (zc h)).trans h
theorem Zx{w w':Ba}{g B:Nat}{o:Obj}(h:w.heap[g]?=J o)(hb:Am B w w')(hg:g<B):w'.heap[g]?=J o:=(hb.block g hg).trans h
theorem zN(w:Ba)(a:Obj):Am w.heap.size w (w.alloc a):=(Ll _ _).alloc (Lh _) _
theorem qt(w:Ba)(a b:Obj):Am w.heap.size w ((w.alloc a).alloc b):=(zN w a).alloc (by simp) _
theorem bel3(w:Ba)(a b c:Obj):Am w.heap.size w (((w.alloc a).alloc b).alloc c):=(qt w a b).alloc (by simp;omega) _
theorem Xm{B:Nat}{w w':Ba}(h:Am B w.drew w'):Am B w w':=⟨h.os,h.tape,h.output,h.size,h.block⟩
theorem QB{B:Nat}{w w':Ba}{n:Nat}(h:Am B (w.drewN n) w'):Am B w w':=⟨h.os,h.tape,h.output,h.size,h.block⟩
theorem zO{B:Nat}{a w:Ba}(h:Am B a w)(n:Nat):Am B a (w.drewN n):=⟨h.os,h.tape,h.output,h.size,h.block⟩
end
section
open Go.ChangeShapes Go.WideShapes Go.ChangeAt Go.RowKit Go.Deep
section
variable {H:Type} {enc:TypeId×Aq->H} {P:Program}
theorem XR{f:Func}{s:ChangeSpec}{apart fresh sd Fy:Bool}{W W':Ba}{args:Array Aq}{v:Aq}{ds gs:List (DataW H)}{before pa pv:List MemPlace}
  (hW:DataW.Whole enc P f.params.toList s.vars apart W args.toList ds gs before)
  (aY:∀(b:Nat) (sp:Nat->Bool) (hd:Bool),DataW.TrodAll enc P W' b sp hd f.resultTypes.toList (v.resultList f.resultTypes.size) (s.fn H (ds++gs)).results [])
  (i8:∀sp:Nat->Bool,(∀p∈before,sp p.block=Ar)->DataW.TrodAll enc P W' 0 sp Ar f.params.toList args.toList (s.fn H (ds++gs)).args pa)
  (fO:∀sp:Nat->Bool,(∀p∈before,sp p.block=Ar)->DataW.TrodVars enc P W' sp s.vars (s.fn H (ds++gs)).vars pv)
  (oH:before=pa++pv) (hb:Am W.heap.size W W')
  (fR:∀(j:Nat) (t:TypeId) (r:Aq),f.resultTypes[j]?=J t->(v.resultList f.resultTypes.size)[j]?=J r->Value.okWide P W' .any 0 t r) :
  s.post enc P f apart fresh sd Fy W args v W':=by
 have aa:∀p∈before,p.block<W.heap.size:=fun p hp=>hW.lt p hp
 have hold:∀p∈before,(fun b=>decide (b<W.heap.size)) p.block=Ar:=fun p hp=>by simpa using aa p hp
 refine⟨ds,gs,before,[],pa,pv,hW,aY _ _ _,i8 _ hold,fO _ hold,World.keptBut_mono (fun p hp=>⟨hp,?_⟩) (hb.frame (·∈before)),fun _=>?_⟩
 . rw[oH,L8] at hp
   exact Or.inr hp
 obtain⟨_,_,_,_,_,hz,hn⟩:=hW;refine⟨fR,_,_,([]++pa)++pv,⟨[]++pa,pv,trodAll_append (i8 _ (fun _ _=>rfl)) (aY _ _ _),fO _ (fun _ _=>rfl),rfl,?_,?_⟩,?_⟩
 . intro b off hp
   have dK:MemPlace.cell b off∈before:=by rw[oH];simpa using hp
   rw[hb.frozen (aa _ dK)];exact hz b off dK
 . intro ha
   have:=hn ha;rw[oH] at this;simpa using this
 intro p hp _;rw[oH];simpa using hp
theorem jm(hl:laidOutB P=Ar){W W':Ba}{sp:Nat->Bool}(hb:Am W.heap.size W W') :
  ∀ {ts:List TypeId} {vs:List Aq} {ds:List (DataW H)} {ps:List MemPlace},(∀t∈ts,P.readableRec t=Ar/\t<P.types.size)->DataW.TrodAll enc P W 0 (fun _=>Ar) Ar ts vs ds ps ->
   (∀x∈ps,x.block<W.heap.size)->(∀x∈ps,sp x.block=Ar)->DataW.TrodAll enc P W' 0 sp Ar ts vs ds ps
 | [],[],[],_,_,h,_,_=>h
 | _::_,_::_,_::_,_,hT,⟨p,q,h1,h2,e⟩,aa,hs=>by
  subst e;refine⟨p,q,?_,jm hl hb (fun t ht=>hT t (Rf _ ht)) h2 (fun x hx=>aa x (List.mem_append_right _ hx)) (fun x hx=>hs x (List.mem_append_right _ hx)),rfl⟩;have hh:=hT _ (Ro ..);exact WideElems.Trod_stays hl hh.1 hh.2 h1 (fun x hx=>hb.same (aa x (Rg _ hx))) (fun x hx=>hs x (Rg _ hx))
theorem X8{C:Checked}{os:Os}{f:FuncId}{fn:Func}{s:ChangeSpec}{X:Ba->Array Aq->Prop}{tb:TypeId}(dA:os.Started)
  (hX:∀(w w':Ba) (args:Array Aq),w.heap=w'.heap->X w args->X w' args) (own:ownKnob C.prog.godebug=Z) (tO:C.prog.inits.idxOf? f=Z) (VT:C.prog.funcs[f]?=J fn)
  (rD:∃(w:Ba) (tape:Tape) (i:Input),w.os=os/\(w.forCall tape i).Shaped C.prog/\i.vars=[]/\Input.okWide C.prog (w.forCall tape i) .any w.heap.size f i /\
   ((s.pre enc C.prog fn [] As (w.forCall tape i).memory i.args/\X (w.forCall tape i).memory i.args)/\sizedMet enc C.prog fn (OpenSpec.ofChange s) As (w.forCall tape i).memory i.args)/\({}:Assume).holds C.prog (lone (Frame.enter C.prog f i.args .normal) [] (w.forCall tape i)))
  (aY:fn.resultTypes=#[tb]) (tg:C.prog.underlying tb=J .bool) (hl:laidOutB C.prog=Ar) (Eb:∀t∈fn.params.toList,C.prog.readableRec t=Ar/\t<C.prog.types.size) (fO:s.vars=[])
  (hs:∀ds:List (DataW H),ds.length=fn.params.size->s.fn H ds={ results:=[.lit (.bool Ar)],args:=ds })
  (walk:∀(W:Ba) (base:Nat) (args:Array Aq) (ds:List (DataW H)) (ps:List MemPlace),(∀(j:Nat) t v,fn.params[j]?=J t->args[j]?=J v->Value.okWide C.prog W .any base t v) ->
   DataW.TrodAll enc C.prog W 0 (fun _=>Ar) Ar fn.params.toList args.toList ds ps->(DataW.weightsEach C.prog fn.params.toList ds).all (·<=reachBytes)=Ar->(∀x∈ps,x.block<W.heap.size)->X W args ->
   An C.prog f args W fun e W'=>e=Ak (Ah Ar)/\Am W.heap.size W W') :
  ReturnsInHanded {} C os f .any (fun w args=>(s.pre enc C.prog fn [] As w args/\X w args)/\sizedMet enc C.prog fn (OpenSpec.ofChange s) As w args) (s.post enc C.prog fn As Ar As As):=by
 refine returnsInHanded_of_change_and (C:=C) (X:=X) hX own dA tO VT rD ?_;intro W base args ds gs before DO hW _ hsz hL _;have nJ:=hW;obtain⟨p,q,sm,hV,Gz,VR,hnd⟩:=hW;have hA:DataW.TrodAll enc C.prog W 0 (fun _=>Ar) Ar fn.params.toList args.toList ds p:=sm
 have CW:gs=[]/\q=[]:=by
  rw[fO] at hV;exact trodVars_none hV
 obtain⟨rfl,rfl⟩:=CW
 have an:∀ {ts:List TypeId} {vs:List Aq} {ds:List (DataW H)} {ps:List MemPlace},DataW.TrodAll enc C.prog W 0 (fun _=>Ar) Ar ts vs ds ps->ds.length=ts.length:=by
  intro ts
  induction ts with
  | nil=>intro vs ds ps h;obtain⟨_,rfl,_⟩:=trodAll_nil h;rfl
  | cons t ts ih=>intro vs ds ps h;obtain⟨_,_,_,_,_,_,_,rfl,_,_,h2⟩:=trodAll_cons h;simp[ih h2]
 have KV:ds.length=fn.params.size:=by rw[an hA];simp
 have Be:before=p:=by rw[Gz,L5]
 subst Be;have aa:∀x∈before,x.block<W.heap.size:=fun x hx=>nJ.lt x hx
 have oz:(DataW.weightsEach C.prog fn.params.toList ds).all (·<=reachBytes)=Ar:=by
  have e:s.plain.varTypes C.prog=[]:=by simp[ChangeSpec.plain,DataSpec.varTypes,fO]
  rw[e,L5,L5] at hsz;exact hsz
 refine(walk W base args ds before DO hA oz aa hL).mono fun e W' ⟨he,hb⟩=>?_
 subst he;refine⟨_,rfl,XR (pa:=before) (pv:=[]) nJ ?_ ?_ ?_ (by rw[L5]) hb ?_⟩
 . intro b sp hd
   rw[L5,hs ds KV,aY];exact trodAll_mk1 (shut_bool tg _)
 . intro sp Px
   rw[L5,hs ds KV];exact jm hl hb Eb hA aa Px
 . intro sp Px
   rw[L5,hs ds KV,fO]
   rfl
 exact ok_one aY rfl (okWide_bool_mk tg _)
end
theorem xt:Al.cellsOf 3=1:=by kernel_rfl
theorem cells5:Al.cellsOf 64=5:=by kernel_rfl
theorem X9:laidOutB Al=Ar:=by kernel_rfl
theorem lawOwn:ownKnob Al.godebug=Z:=by kernel_rfl
end
section
open Go.RowKit
structure Rd where
 n:Int
 h0:Int
 h1:Int
 h2:Int
 h3:Int
 h4:Int
 f:Int
deriving DecidableEq,Inhabited
def Rd.h(r:Rd):Nat->Int
 | 0=>r.h0
 | 1=>r.h1
 | 2=>r.h2
 | 3=>r.h3
 | _=>r.h4
def Rd.cells(r:Rd):Array Aq:=#[O U r.n,O U r.h0,O U r.h1,O U r.h2,O U r.h3,O U r.h4,O U r.f]
structure Mv where
 r:Rd
 to:Int
deriving DecidableEq,Inhabited
def Mv.cells(m:Mv):Array Aq:=#[O U m.r.n,O U m.r.h0,O U m.r.h1,O U m.r.h2,O U m.r.h3,O U m.r.h4,O U m.r.f,O U m.to]
structure Cs where
 inp:List Int
 out:List (List Int)
 calm:List (List Int)
deriving DecidableEq,Inhabited
structure Tk where
 n:Int
 ins:Int
 outs:Int
 cases:List Cs
deriving DecidableEq,Inhabited
structure Ad where
 n:Int
 sts:List (List Mv)
deriving DecidableEq,Inhabited
structure Pb where
 t:Tk
 a:Ad
 k:Int
deriving DecidableEq,Inhabited
structure Exn where
 c:Int
 word:List Rd
 views:List (List Int)
deriving DecidableEq,Inhabited
structure Sy where
 p:Pb
 n:Int
 vs:List Vw
 xs:List Exn
deriving DecidableEq,Inhabited
section
variable {w w':Ba} {B B':Nat} {A:Bb}
def LAt(w:Ba)(B:Nat)(A:Bb)(xss:List (List Int)):Prop:=
 0<xss.length->∃b off,A=J ⟨b,off,Z⟩/\b<B/\∀(i:Nat) (hi:i<xss.length),∃A' c,w.cell? ⟨b,off+i,Z⟩=J (I A' xss[i].length c)/\IAt w B A' xss[i]
theorem LAt.keep{xss:List (List Int)}(h:LAt w B A xss)(hb:Am B w w'):LAt w' B A xss:=fun h0=>by
 obtain⟨b,off,e,aa,hc⟩:=h h0;refine⟨b,off,e,aa,fun i hi=>?_⟩;obtain⟨A',c,h1,h2⟩:=hc i hi;exact⟨A',c,(hb.cell (p:=⟨b,_,Z⟩) aa).trans h1,h2.keep hb⟩
theorem LAt.more{xss:List (List Int)}(h:LAt w B A xss)(hB:B<=B'):LAt w B' A xss:=fun h0=>by
 obtain⟨b,off,e,aa,hc⟩:=h h0;refine⟨b,off,e,by omega,fun i hi=>?_⟩;obtain⟨A',c,h1,h2⟩:=hc i hi;exact⟨A',c,h1,h2.more hB⟩
theorem LAt.at_{xss:List (List Int)}(h:LAt w B A xss)(i:Nat)(hi:i<xss.length):∃b off A' c,A=J ⟨b,off,Z⟩/\b<B/\w.cell? ⟨b,off+i,Z⟩=J (I A' xss[i].length c)/\IAt w B A' xss[i]:=by
 obtain⟨b,off,e,aa,hc⟩:=h (by omega);obtain⟨A',c,h1,h2⟩:=hc i hi;exact⟨b,off,A',c,e,aa,h1,h2⟩
theorem LAt.nil(w:Ba)(B:Nat)(A:Bb):LAt w B A []:=fun h=>absurd h (by simp)
def RAt(w:Ba)(B:Nat)(A:Bb)(rs:List Rd):Prop:=
 0<rs.length->∃b off,A=J ⟨b,off,Z⟩/\b<B/\∀(i:Nat) (hi:i<rs.length) (k:Nat) (u:Aq),rs[i].cells[k]?=J u->w.cell? ⟨b,off+i*7+k,Z⟩=J u
theorem RAt.keep{rs:List Rd}(h:RAt w B A rs)(hb:Am B w w'):RAt w' B A rs:=fun h0=>by
 obtain⟨b,off,e,aa,hc⟩:=h h0;exact⟨b,off,e,aa,fun i hi k u hk=>(hb.cell (p:=⟨b,_,Z⟩) aa).trans (hc i hi k u hk)⟩
theorem RAt.more{rs:List Rd}(h:RAt w B A rs)(hB:B<=B'):RAt w B' A rs:=fun h0=>by
 obtain⟨b,off,e,aa,hc⟩:=h h0;exact⟨b,off,e,by omega,hc⟩
theorem RAt.row{rs:List Rd}(h:RAt w B A rs)(k:Nat)(hk:k<rs.length) :
  ∃b off,A=J ⟨b,off,Z⟩/\b<B/\w.cell? ⟨b,off+k*7,Z⟩=J (O U rs[k].n)/\w.cell? ⟨b,off+k*7+1,Z⟩=J (O U rs[k].h0) /\
   w.cell? ⟨b,off+k*7+2,Z⟩=J (O U rs[k].h1)/\w.cell? ⟨b,off+k*7+3,Z⟩=J (O U rs[k].h2)/\w.cell? ⟨b,off+k*7+4,Z⟩=J (O U rs[k].h3) /\
   w.cell? ⟨b,off+k*7+5,Z⟩=J (O U rs[k].h4)/\w.cell? ⟨b,off+k*7+6,Z⟩=J (O U rs[k].f):=by
 obtain⟨b,off,e,aa,hc⟩:=h (by omega);exact⟨b,off,e,aa,hc k hk 0 _ rfl,hc k hk 1 _ rfl,hc k hk 2 _ rfl,hc k hk 3 _ rfl,hc k hk 4 _ rfl,hc k hk 5 _ rfl,hc k hk 6 _ rfl⟩
def MAt(w:Ba)(B:Nat)(A:Bb)(ms:List Mv):Prop:=
 0<ms.length->∃b off,A=J ⟨b,off,Z⟩/\b<B/\∀(i:Nat) (hi:i<ms.length) (k:Nat) (u:Aq),ms[i].cells[k]?=J u->w.cell? ⟨b,off+i*8+k,Z⟩=J u
theorem MAt.keep{ms:List Mv}(h:MAt w B A ms)(hb:Am B w w'):MAt w' B A ms:=fun h0=>by
 obtain⟨b,off,e,aa,hc⟩:=h h0;exact⟨b,off,e,aa,fun i hi k u hk=>(hb.cell (p:=⟨b,_,Z⟩) aa).trans (hc i hi k u hk)⟩
theorem MAt.more{ms:List Mv}(h:MAt w B A ms)(hB:B<=B'):MAt w B' A ms:=fun h0=>by
 obtain⟨b,off,e,aa,hc⟩:=h h0;exact⟨b,off,e,by omega,hc⟩
theorem MAt.row{ms:List Mv}(h:MAt w B A ms)(k:Nat)(hk:k<ms.length) :
  ∃b off,A=J ⟨b,off,Z⟩/\b<B/\w.cell? ⟨b,off+k*8,Z⟩=J (O U ms[k].r.n)/\w.cell? ⟨b,off+k*8+1,Z⟩=J (O U ms[k].r.h0) /\
   w.cell? ⟨b,off+k*8+2,Z⟩=J (O U ms[k].r.h1)/\w.cell? ⟨b,off+k*8+3,Z⟩=J (O U ms[k].r.h2)/\w.cell? ⟨b,off+k*8+4,Z⟩=J (O U ms[k].r.h3) /\
   w.cell? ⟨b,off+k*8+5,Z⟩=J (O U ms[k].r.h4)/\w.cell? ⟨b,off+k*8+6,Z⟩=J (O U ms[k].r.f)/\w.cell? ⟨b,off+k*8+7,Z⟩=J (O U ms[k].to):=by
 obtain⟨b,off,e,aa,hc⟩:=h (by omega);exact⟨b,off,e,aa,hc k hk 0 _ rfl,hc k hk 1 _ rfl,hc k hk 2 _ rfl,hc k hk 3 _ rfl,hc k hk 4 _ rfl,hc k hk 5 _ rfl,hc k hk 6 _ rfl,hc k hk 7 _ rfl⟩
def SAt(w:Ba)(B:Nat)(A:Bb)(xss:List (List Mv)):Prop:=
 0<xss.length->∃b off,A=J ⟨b,off,Z⟩/\b<B/\∀(i:Nat) (hi:i<xss.length),∃A' c,w.cell? ⟨b,off+i,Z⟩=J (I A' xss[i].length c)/\MAt w B A' xss[i]
theorem SAt.keep{xss:List (List Mv)}(h:SAt w B A xss)(hb:Am B w w'):SAt w' B A xss:=fun h0=>by
 obtain⟨b,off,e,aa,hc⟩:=h h0;refine⟨b,off,e,aa,fun i hi=>?_⟩;obtain⟨A',c,h1,h2⟩:=hc i hi;exact⟨A',c,(hb.cell (p:=⟨b,_,Z⟩) aa).trans h1,h2.keep hb⟩
theorem SAt.more{xss:List (List Mv)}(h:SAt w B A xss)(hB:B<=B'):SAt w B' A xss:=fun h0=>by
 obtain⟨b,off,e,aa,hc⟩:=h h0;refine⟨b,off,e,by omega,fun i hi=>?_⟩;obtain⟨A',c,h1,h2⟩:=hc i hi;exact⟨A',c,h1,h2.more hB⟩
theorem SAt.at_{xss:List (List Mv)}(h:SAt w B A xss)(i:Nat)(hi:i<xss.length):∃b off A' c,A=J ⟨b,off,Z⟩/\b<B/\w.cell? ⟨b,off+i,Z⟩=J (I A' xss[i].length c)/\MAt w B A' xss[i]:=by
 obtain⟨b,off,e,aa,hc⟩:=h (by omega);obtain⟨A',c,h1,h2⟩:=hc i hi;exact⟨b,off,A',c,e,aa,h1,h2⟩
theorem SAt.nil(w:Ba)(B:Nat)(A:Bb):SAt w B A []:=fun h=>absurd h (by simp)
def WAt(w:Ba)(B:Nat)(A:Bb)(xss:List (List Rd)):Prop:=
 0<xss.length->∃b off,A=J ⟨b,off,Z⟩/\b<B/\∀(i:Nat) (hi:i<xss.length),∃A' c,w.cell? ⟨b,off+i,Z⟩=J (I A' xss[i].length c)/\RAt w B A' xss[i]
theorem WAt.keep{xss:List (List Rd)}(h:WAt w B A xss)(hb:Am B w w'):WAt w' B A xss:=fun h0=>by
 obtain⟨b,off,e,aa,hc⟩:=h h0;refine⟨b,off,e,aa,fun i hi=>?_⟩;obtain⟨A',c,h1,h2⟩:=hc i hi;exact⟨A',c,(hb.cell (p:=⟨b,_,Z⟩) aa).trans h1,h2.keep hb⟩
theorem WAt.more{xss:List (List Rd)}(h:WAt w B A xss)(hB:B<=B'):WAt w B' A xss:=fun h0=>by
 obtain⟨b,off,e,aa,hc⟩:=h h0;refine⟨b,off,e,by omega,fun i hi=>?_⟩;obtain⟨A',c,h1,h2⟩:=hc i hi;exact⟨A',c,h1,h2.more hB⟩
theorem WAt.at_{xss:List (List Rd)}(h:WAt w B A xss)(i:Nat)(hi:i<xss.length):∃b off A' c,A=J ⟨b,off,Z⟩/\b<B/\w.cell? ⟨b,off+i,Z⟩=J (I A' xss[i].length c)/\RAt w B A' xss[i]:=by
 obtain⟨b,off,e,aa,hc⟩:=h (by omega);obtain⟨A',c,h1,h2⟩:=hc i hi;exact⟨b,off,A',c,e,aa,h1,h2⟩
def CsV(w:Ba)(B:Nat)(v0 v1 v2:Aq)(x:Cs):Prop:=
 (∃A c,v0=I A x.inp.length c/\IAt w B A x.inp)/\(∃A c,v1=I A x.out.length c/\LAt w B A x.out)/\(∃A c,v2=I A x.calm.length c/\LAt w B A x.calm)
theorem CsV.keep{v0 v1 v2:Aq}{x:Cs}(h:CsV w B v0 v1 v2 x)(hb:Am B w w'):CsV w' B v0 v1 v2 x:=by
 obtain⟨⟨A,c,e,h1⟩,⟨A2,c2,e2,h2⟩,⟨A3,c3,e3,h3⟩⟩:=h;exact⟨⟨A,c,e,h1.keep hb⟩,⟨A2,c2,e2,h2.keep hb⟩,⟨A3,c3,e3,h3.keep hb⟩⟩
theorem CsV.more{v0 v1 v2:Aq}{x:Cs}(h:CsV w B v0 v1 v2 x)(hB:B<=B'):CsV w B' v0 v1 v2 x:=by
 obtain⟨⟨A,c,e,h1⟩,⟨A2,c2,e2,h2⟩,⟨A3,c3,e3,h3⟩⟩:=h;exact⟨⟨A,c,e,h1.more hB⟩,⟨A2,c2,e2,h2.more hB⟩,⟨A3,c3,e3,h3.more hB⟩⟩
def CAt(w:Ba)(B:Nat)(A:Bb)(cs:List Cs):Prop:=
 0<cs.length->∃b off,A=J ⟨b,off,Z⟩/\b<B/\∀(i:Nat) (hi:i<cs.length),∃v0 v1 v2,w.cell? ⟨b,off+i*3,Z⟩=J v0/\w.cell? ⟨b,off+i*3+1,Z⟩=J v1/\w.cell? ⟨b,off+i*3+2,Z⟩=J v2/\CsV w B v0 v1 v2 cs[i]
theorem CAt.keep{cs:List Cs}(h:CAt w B A cs)(hb:Am B w w'):CAt w' B A cs:=fun h0=>by
 obtain⟨b,off,e,aa,hc⟩:=h h0;refine⟨b,off,e,aa,fun i hi=>?_⟩;obtain⟨v0,v1,v2,c0,c1,c2,hv⟩:=hc i hi;exact⟨v0,v1,v2,(hb.cell (p:=⟨b,_,Z⟩) aa).trans c0,(hb.cell (p:=⟨b,_,Z⟩) aa).trans c1,(hb.cell (p:=⟨b,_,Z⟩) aa).trans c2,hv.keep hb⟩
theorem CAt.more{cs:List Cs}(h:CAt w B A cs)(hB:B<=B'):CAt w B' A cs:=fun h0=>by
 obtain⟨b,off,e,aa,hc⟩:=h h0;refine⟨b,off,e,by omega,fun i hi=>?_⟩;obtain⟨v0,v1,v2,c0,c1,c2,hv⟩:=hc i hi;exact⟨v0,v1,v2,c0,c1,c2,hv.more hB⟩
theorem CAt.nil(w:Ba)(B:Nat)(A:Bb):CAt w B A []:=fun h=>absurd h (by simp)
theorem CAt.row{cs:List Cs}(h:CAt w B A cs)(i:Nat)(hi:i<cs.length) :
  ∃b off A0 c0 A1 c1 A2 c2,A=J ⟨b,off,Z⟩/\b<B/\w.cell? ⟨b,off+i*3,Z⟩=J (I A0 cs[i].inp.length c0)/\w.cell? ⟨b,off+i*3+1,Z⟩=J (I A1 cs[i].out.length c1)/\w.cell? ⟨b,off+i*3+2,Z⟩=J (I A2 cs[i].calm.length c2) /\
   IAt w B A0 cs[i].inp/\LAt w B A1 cs[i].out/\LAt w B A2 cs[i].calm:=by
 obtain⟨b,off,e,aa,hc⟩:=h (by omega);obtain⟨v0,v1,v2,c0,c1,c2,⟨A0,k0,rfl,h0⟩,⟨A1,k1,rfl,h1⟩,⟨A2,k2,rfl,h2⟩⟩:=hc i hi;exact⟨b,off,A0,k0,A1,k1,A2,k2,e,aa,c0,c1,c2,h0,h1,h2⟩
def XsV(w:Ba)(B:Nat)(v0 v1 v2:Aq)(x:Exn):Prop:=
 v0=O U x.c/\(∃A c,v1=I A x.word.length c/\RAt w B A x.word)/\(∃A c,v2=I A x.views.length c/\LAt w B A x.views)
theorem XsV.keep{v0 v1 v2:Aq}{x:Exn}(h:XsV w B v0 v1 v2 x)(hb:Am B w w'):XsV w' B v0 v1 v2 x:=by
 obtain⟨e,⟨A2,c2,e2,h2⟩,⟨A3,c3,e3,h3⟩⟩:=h;exact⟨e,⟨A2,c2,e2,h2.keep hb⟩,⟨A3,c3,e3,h3.keep hb⟩⟩
theorem XsV.more{v0 v1 v2:Aq}{x:Exn}(h:XsV w B v0 v1 v2 x)(hB:B<=B'):XsV w B' v0 v1 v2 x:=by
 obtain⟨e,⟨A2,c2,e2,h2⟩,⟨A3,c3,e3,h3⟩⟩:=h;exact⟨e,⟨A2,c2,e2,h2.more hB⟩,⟨A3,c3,e3,h3.more hB⟩⟩
def XAt(w:Ba)(B:Nat)(A:Bb)(xs:List Exn):Prop:=
 0<xs.length->∃b off,A=J ⟨b,off,Z⟩/\b<B/\∀(i:Nat) (hi:i<xs.length),∃v0 v1 v2,w.cell? ⟨b,off+i*3,Z⟩=J v0/\w.cell? ⟨b,off+i*3+1,Z⟩=J v1/\w.cell? ⟨b,off+i*3+2,Z⟩=J v2/\XsV w B v0 v1 v2 xs[i]
theorem XAt.keep{xs:List Exn}(h:XAt w B A xs)(hb:Am B w w'):XAt w' B A xs:=fun h0=>by
 obtain⟨b,off,e,aa,hc⟩:=h h0;refine⟨b,off,e,aa,fun i hi=>?_⟩;obtain⟨v0,v1,v2,c0,c1,c2,hv⟩:=hc i hi;exact⟨v0,v1,v2,(hb.cell (p:=⟨b,_,Z⟩) aa).trans c0,(hb.cell (p:=⟨b,_,Z⟩) aa).trans c1,(hb.cell (p:=⟨b,_,Z⟩) aa).trans c2,hv.keep hb⟩
theorem XAt.more{xs:List Exn}(h:XAt w B A xs)(hB:B<=B'):XAt w B' A xs:=fun h0=>by
 obtain⟨b,off,e,aa,hc⟩:=h h0;refine⟨b,off,e,by omega,fun i hi=>?_⟩;obtain⟨v0,v1,v2,c0,c1,c2,hv⟩:=hc i hi;exact⟨v0,v1,v2,c0,c1,c2,hv.more hB⟩
theorem XAt.nil(w:Ba)(B:Nat)(A:Bb):XAt w B A []:=fun h=>absurd h (by simp)
theorem XAt.row{xs:List Exn}(h:XAt w B A xs)(i:Nat)(hi:i<xs.length) :
  ∃b off A1 c1 A2 c2,A=J ⟨b,off,Z⟩/\b<B/\w.cell? ⟨b,off+i*3,Z⟩=J (O U xs[i].c)/\w.cell? ⟨b,off+i*3+1,Z⟩=J (I A1 xs[i].word.length c1)/\w.cell? ⟨b,off+i*3+2,Z⟩=J (I A2 xs[i].views.length c2) /\
   RAt w B A1 xs[i].word/\LAt w B A2 xs[i].views:=by
 obtain⟨b,off,e,aa,hc⟩:=h (by omega);obtain⟨v0,v1,v2,c0,c1,c2,rfl,⟨A1,k1,rfl,h1⟩,⟨A2,k2,rfl,h2⟩⟩:=hc i hi;exact⟨b,off,A1,k1,A2,k2,e,aa,c0,c1,c2,h1,h2⟩
end
end
section
open Go.RowKit
attribute [local go_sem] Oper.semAt_some
theorem kP(w:Ba)(n m:Nat):(w.drewN n).drewN m=w.drewN (n+m):=by unfold World.drewN;simp[Nat.add_assoc]
theorem yH{α:Type}{xs ys:List α}{k:Nat}(h:xs.take k=ys.take k)(h1:k<xs.length)(h2:k<ys.length)(he:xs[k]=ys[k]):xs.take (k+1)=ys.take (k+1):=by
 rw[Ls h1,Ls h2,h,he]
theorem xQ{α:Type}{xs ys:List α}(hl:xs.length=ys.length)(h:xs.take xs.length=ys.take xs.length):xs=ys:=by
 rw[LC] at h
 conv at h=>rhs;rw[hl,LC]
 exact h
theorem gB(A B:Bb)(ca cb:Nat)(xs ys:List Int)(hx:xs.length<=17592186044416)(_hy:ys.length<=17592186044416)(w:Ba)(hA:IAt w w.heap.size A xs)(hB:IAt w w.heap.size B ys) :
  An Al 163 #[I A xs.length ca,I B ys.length cb] w fun e w'=>e=Ak (Ah (decide (xs=ys)))/\∃n,w'=w.drewN n:=by
 have HA:=zH hA;have HB:=zH hB;have HT:Ap (∀b,(xs=ys↔b=Ar)->decide (xs=ys)=b):=fun b h=>by cases b<;>simp_all
 obtain⟨r,hr⟩:∃r,decide (xs=ys)=r:=⟨_,rfl⟩;rw[hr] at HT ⊢;go_enter func163,ntmps163
 by_cases hl:xs.length=ys.length
 case neg=>
  have hR:Ap (r=As):=HT.out As ⟨fun h=>absurd (congrArg List.length h) hl,fun h=>by cases h⟩;have e0:((xs.length:Int) != (ys.length:Int))=Ar:=by simp;omega
  go_wp2_with fail;go_ret;exact⟨ze hR.out.symm,0,rfl⟩
 case pos=>
 have HL:=zH hl;rw[<-hl] at _hy ⊢;go_wp2_with fail
 go_loopw [5] (fun i wr=>∃k n:Nat,k<=xs.length/\i=O U (k:Int)/\Ap (xs.take k=ys.take k)/\Ap (wr=w.drewN n)) (fun i _=>xs.length-(Ao i).toNat)
 case atStart=>exact⟨0,0,by omega,rfl,by rw[Ap,LI,LI],rfl⟩
 obtain⟨k,n,hk,rfl,hp,hw⟩:=hrel
 by_cases aa:k<xs.length
 case neg=>
  obtain rfl:k=xs.length:=by omega
  have hR:Ap (r=Ar):=HT.out Ar ⟨fun _=>rfl,fun _=>xQ HL.out hp.out⟩;go_wp2_with fail;go_ret;exact⟨ze hR.out.symm,n,hw.out⟩
 case pos=>
 have eq:k<ys.length:=by have:=HL.out;omega
 obtain⟨ba,oa,ea,_,c1⟩:=HA.out.at_ k aa;obtain⟨bb,ob,eb,_,c2⟩:=HB.out.at_ k eq;subst ea;subst eb;have c1:wr.cell? ⟨ba,oa+k,Z⟩=J (O U xs[k]):=by rw[hw.out];exact c1
 have c2:wr.cell? ⟨bb,ob+k,Z⟩=J (O U ys[k]):=by rw[hw.out];exact c2
 by_cases he:xs[k]=ys[k]
 . have hR:=zH (yH hp.out aa eq he)
   rw[<-he] at c2;obtain⟨u,hu⟩:=Kh (xs[k]);rw[hu] at c1 c2;go_wp2_with fail;go_quiet (fail);go_wp2_with fail
   go_roundw
   case rel=>exact⟨k+1,n+nq,by omega,by go_num,hR,by rw[Ap,hw.out,kP]⟩
   simp[Ao];omega
 have hR:Ap (r=As):=HT.out As ⟨fun h=>absurd (by subst h;rfl) he,fun h=>by cases h⟩;obtain⟨u,hu⟩:=Kh (xs[k]);obtain⟨v,hv⟩:=Kh (ys[k]);rw[hu,hv] at he;rw[hu] at c1;rw[hv] at c2;have e0:(u != v)=Ar:=by simpa using he
 go_wp2_with fail;go_quiet (fail);go_wp2_with fail;go_ret;exact⟨ze hR.out.symm,n+nq,by rw[hw.out,kP]⟩
end
section
open Go.RowKit
theorem zZ(xs:Array Aq)(i:Nat)(x:Aq)(h:xs[i]?=J x)(w:Ba):(part 3 xs i).run Al w=.ok x w:=by
 have hi:Al.underlying 3=J (.int U):=LB;unfold part isAgg;simp[go_sem,run_underlying hi,h]
def hE(v u:Vw):Bool:=v.h0==u.h0&&(v.h1==u.h1&&(v.h2==u.h2&&(v.h3==u.h3&&v.h4==u.h4)))
theorem Zp(d:Nat)(v u:Vw)(w:Ba):(Op.equalIn (d+2) 64 (Ai #[O U v.h0,O U v.h1,O U v.h2,O U v.h3,O U v.h4]) (Ai #[O U u.h0,O U u.h1,O U u.h2,O U u.h3,O U u.h4])).run Al w =
  .ok (hE v u) w:=by
 have hu:Al.underlying 64=J (.array 5 3):=Rt;have hi:Al.underlying 3=J (.int U):=LB;have hs:(sizeOf 3).run Al w=.ok 1 w:=by kernel_rfl
 have p0:=fun x0 x1 x2 x3 x4=>zZ #[x0,x1,x2,x3,x4] 0 x0 rfl w
 have p1:=fun x0 x1 x2 x3 x4=>zZ #[x0,x1,x2,x3,x4] 1 x1 rfl w
 have p2:=fun x0 x1 x2 x3 x4=>zZ #[x0,x1,x2,x3,x4] 2 x2 rfl w
 have p3:=fun x0 x1 x2 x3 x4=>zZ #[x0,x1,x2,x3,x4] 3 x3 rfl w
 have p4:=fun x0 x1 x2 x3 x4=>zZ #[x0,x1,x2,x3,x4] 4 x4 rfl w
 unfold Op.equalIn hE
 cases h0:(v.h0==u.h0)
 . simp only[Sem.run_bind,run_underlying hu,Result.andThen_ok,hs,Std.Legacy.Range.forIn_eq_forIn_range',Std.Legacy.Range.size,Nat.sub_zero,Nat.add_sub_cancel,Nat.div_one,show List.range' 0 5 1=[0,1,2,3,4] from rfl,List.forIn_cons,List.forIn_nil,p0,Nat.mul_one,run_equalIn_int w d 3 _ _ _ _ hi,h0,Bool.not_false,if_true,Sem.run_pure,Bool.false_and]
 cases h1:(v.h1==u.h1)
 . simp only[Sem.run_bind,run_underlying hu,Result.andThen_ok,hs,Std.Legacy.Range.forIn_eq_forIn_range',Std.Legacy.Range.size,Nat.sub_zero,Nat.add_sub_cancel,Nat.div_one,show List.range' 0 5 1=[0,1,2,3,4] from rfl,List.forIn_cons,List.forIn_nil,p0,p1,Nat.mul_one,run_equalIn_int w d 3 _ _ _ _ hi,h0,h1,Bool.not_false,Bool.not_true,if_true,Bool.false_eq_true,if_false,Sem.run_pure,Bool.true_and,Bool.false_and]
 cases h2:(v.h2==u.h2)
 . simp only[Sem.run_bind,run_underlying hu,Result.andThen_ok,hs,Std.Legacy.Range.forIn_eq_forIn_range',Std.Legacy.Range.size,Nat.sub_zero,Nat.add_sub_cancel,Nat.div_one,show List.range' 0 5 1=[0,1,2,3,4] from rfl,List.forIn_cons,List.forIn_nil,p0,p1,p2,Nat.mul_one,run_equalIn_int w d 3 _ _ _ _ hi,h0,h1,h2,Bool.not_false,Bool.not_true,if_true,Bool.false_eq_true,if_false,Sem.run_pure,Bool.true_and,Bool.false_and]
 cases h3:(v.h3==u.h3)
 . simp only[Sem.run_bind,run_underlying hu,Result.andThen_ok,hs,Std.Legacy.Range.forIn_eq_forIn_range',Std.Legacy.Range.size,Nat.sub_zero,Nat.add_sub_cancel,Nat.div_one,show List.range' 0 5 1=[0,1,2,3,4] from rfl,List.forIn_cons,List.forIn_nil,p0,p1,p2,p3,Nat.mul_one,run_equalIn_int w d 3 _ _ _ _ hi,h0,h1,h2,h3,Bool.not_false,Bool.not_true,if_true,Bool.false_eq_true,if_false,Sem.run_pure,Bool.true_and,Bool.false_and]
 cases h4:(v.h4==u.h4)
 . simp only[Sem.run_bind,run_underlying hu,Result.andThen_ok,hs,Std.Legacy.Range.forIn_eq_forIn_range',Std.Legacy.Range.size,Nat.sub_zero,Nat.add_sub_cancel,Nat.div_one,show List.range' 0 5 1=[0,1,2,3,4] from rfl,List.forIn_cons,List.forIn_nil,p0,p1,p2,p3,p4,Nat.mul_one,run_equalIn_int w d 3 _ _ _ _ hi,h0,h1,h2,h3,h4,Bool.not_false,Bool.not_true,if_true,Bool.false_eq_true,if_false,Sem.run_pure,Bool.true_and]
 simp only[Sem.run_bind,run_underlying hu,Result.andThen_ok,hs,Std.Legacy.Range.forIn_eq_forIn_range',Std.Legacy.Range.size,Nat.sub_zero,Nat.add_sub_cancel,Nat.div_one,show List.range' 0 5 1=[0,1,2,3,4] from rfl,List.forIn_cons,List.forIn_nil,p0,p1,p2,p3,p4,Nat.mul_one,run_equalIn_int w d 3 _ _ _ _ hi,h0,h1,h2,h3,h4,Bool.not_true,Bool.false_eq_true,if_false,Sem.run_pure,Bool.true_and]
theorem jI(d:Nat)(v u:Vw)(w:Ba):(Op.equalIn (d+3) 144 (.agg v.cells) (.agg u.cells)).run Al w=.ok (decide (v=u)) w:=by
 have hu:Al.underlying 144=J (.struct (Al.fieldsOf 144)):=by kernel_rfl
 have hi:Al.underlying 3=J (.int U):=LB;have hf : (Al.fieldsOf 144).toList.map (fun f => (f.name, f.type, f.offset)) = [("Proc", 3, 0), ("Round", 3, 1), ("Input", 3, 2), ("Heard", 64, 3)] := by kernel_rfl
 rw[PF w (d+2) 144 _ _ hu (by kernel_rfl)];have p0:∀x:Vw,(part 3 x.cells 0).run Al w=.ok (O U x.p) w:=fun x=>zZ _ 0 _ rfl w
 have p1:∀x:Vw,(part 3 x.cells 1).run Al w=.ok (O U x.r) w:=fun x=>zZ _ 1 _ rfl w
 have p2:∀x:Vw,(part 3 x.cells 2).run Al w=.ok (O U x.i) w:=fun x=>zZ _ 2 _ rfl w
 have p3:∀x:Vw,(part 64 x.cells 3).run Al w=.ok (Ai #[O U x.h0,O U x.h1,O U x.h2,O U x.h3,O U x.h4]) w:=fun x=>by unfold Vw.cells;kernel_rfl
 generalize (Al.fieldsOf 144).toList=fs at hf
 obtain⟨f0,f1,f2,f3,rfl⟩:∃f0 f1 f2 f3,fs=[f0,f1,f2,f3]:=by
  have hl:fs.length=4:=by simpa using congrArg List.length hf
  rcases fs with _ | ⟨f0,_ | ⟨f1,_ | ⟨f2,_ | ⟨f3,_ | ⟨f4,r⟩⟩⟩⟩⟩<;>simp at hl
  exact⟨_,_,_,_,rfl⟩
 clear hu;simp only[List.map_cons,List.map_nil,List.cons.injEq,Prod.mk.injEq,and_true] at hf;obtain⟨⟨n0,t0,o0⟩,⟨n1,t1,o1⟩,⟨n2,t2,o2⟩,⟨n3,t3,o3⟩⟩:=hf
 have hd:decide (v=u)=(v.p==u.p&&(v.r==u.r&&(v.i==u.i&&hE v u))):=by
  unfold hE;obtain⟨a0,a1,a2,a3,a4,a5,a6,a7⟩:=v;obtain⟨b0,b1,b2,b3,b4,b5,b6,b7⟩:=u;rw[NG];simp
 rw[hd]
 cases h0:(v.p==u.p)<;>cases h1:(v.r==u.r)<;>cases h2:(v.i==u.i)<;>cases h3:hE v u <;>
  simp only[Op.eqFields,n0,n1,n2,n3,t0,t1,t2,t3,o0,o1,o2,o3,p0,p1,p2,p3,Sem.run_bind,Result.andThen_ok,run_equalIn_int w _ 3 _ _ _ _ hi,Zp,h0,h1,h2,h3,ne_eq,not_false_eq_true,if_true,Bool.not_false,Bool.not_true,Bool.false_eq_true,if_false,Sem.run_pure,Bool.true_and,Bool.false_and,String.reduceEq]
theorem eql_view(v u:Vw)(w:Ba):(binOp .eql 144 (.agg v.cells) (.agg u.cells)).run Al w=.ok (Ah (decide (v=u))) w:=by
 simp only[binOp];simp[Op.equal,Op.maxDepth,jI 9997 v u w]
theorem YS(v u:Vw)(w:Ba):(binOp .neq 144 (.agg v.cells) (.agg u.cells)).run Al w=.ok (Ah (decide (v≠u))) w:=by
 simp only[binOp];simp[Op.equal,Op.maxDepth,jI 9997 v u w]
def ja(p:Nat->Bool):Bool:=(List.range 32).all p
theorem xp{p:Nat->Bool}(h:ja p=Ar){s:Nat}(hs:s<32):p s=Ar:=LP.1 h s (by simpa using hs)
def vj(n:Int):Int:=if n<1\/5<n then 1 else 0
def yS(n s:Int):Int:=if n<1\/5<n then 1 else if s<0\/(2^n.toNat:Nat)<=s then 2 else 0
theorem JH(n:Int)(w:Ba):An Al 184 #[O U n] w fun e w'=>e=Ak (O U (vj n))/\w=w':=by
 have H:Ap (vj n=if n<1\/5<n then 1 else 0):=rfl;go_enter func184,ntmps184;go_wp2
 all_goals
  go_ret;refine⟨zd ?_,rfl⟩;rw[H.out]
  first | (rw[Lo (by omega)]) | (rw[Li (by omega)])
theorem XL(n:Int)(w:Ba):An Al 185 #[O U n] w fun e w'=>e=Ak (O U (vj n))/\w=w':=by
 have H:Ap (vj n=if n<1\/5<n then 1 else 0):=rfl;go_enter func185,ntmps185;go_wp2
 all_goals
  go_ret;refine⟨zd ?_,rfl⟩;rw[H.out]
  first | (rw[Lo (by omega)]) | (rw[Li (by omega)])
theorem procs_ok{n:Int}(h:¬(n<1\/5<n)):n=1\/n=2\/n=3\/n=4\/n=5:=by omega
theorem wn{n:Int}(h:n<1\/5<n):vj n=1:=Lo h
theorem hU{n:Int}(h:¬(n<1\/5<n)):vj n=0:=Li h
theorem check_any(n s:Int)(w:Ba):An Al 178 #[O U n,O U s] w fun e w'=>e=Ak (O U (yS n s))/\w=w':=by
 have H:Ap (yS n s=if n<1\/5<n then 1 else if s<0\/(2^n.toNat:Nat)<=s then 2 else 0):=rfl;go_enter func178,ntmps178;go_wp2_with fail;refine(JH n w).mono ?_;rintro e w' ⟨rfl,rfl⟩
 by_cases hn:n<1\/5<n
 . rw[wn hn]
   rw[Lo hn] at H;go_wp2;go_ret;exact⟨zd H.out.symm,rfl⟩
 rw[hU hn];rw[Li hn] at H;rcases procs_ok hn with rfl | rfl | rfl | rfl | rfl
 all_goals
  go_wp2
 all_goals
  try simp only[bne_iff_ne,ne_eq,bne_eq_false_iff_eq] at *
  go_ret;refine⟨zd ?_,rfl⟩;rw[H.out]
  first | (rw[Lo (by simp;omega)]) | (rw[Li (by simp;omega)])
theorem check_ok{n s:Int}(h:yS n s=0):∃m k:Nat,n=(m:Int)/\s=(k:Int)/\1<=m/\m<=5/\k<2^m/\k<32:=by
 unfold yS at h
 split at h
 . cases h
 split at h
 . cases h
 rename_i h1 h2;refine⟨n.toNat,s.toNat,by omega,by omega,by omega,by omega,?_,?_⟩
 . omega
 have:2^n.toNat<=2^5:=LZ (by omega) (by omega);omega
theorem vn(k:Nat)(hk:k<=5)(w:Ba):An Al 96 #[O U k] w fun e w'=>e=Ak (O U ((2^k:Nat):Int))/\w=w':=by
 go_enter func96,ntmps96;go_wp2
 go_loop [3,4] (fun v i=>∃j q:Nat,j<=k/\q=2^j/\q<=32/\v=O U (q:Int)/\i=O U (j:Int)) (fun _ i=>5-(Ao i).toNat)
 case atStart=>exact⟨0,1,by omega,rfl,by omega,rfl,rfl⟩
 obtain⟨j,q,hj,hq,U7,rfl,rfl⟩:=hrel;have H:Ap (q=2^j):=hq;clear hq
 by_cases aa:j<k
 . go_wp2
   go_round
   case rel=>
    have h1:q*2=2^(j+1):=by rw[H.out,Nat.pow_succ]
    have h2:(2^(j+1):Nat)<=2^5:=LZ (by omega) (by omega);exact⟨j+1,q*2,by omega,h1,by omega,by go_num,by go_num⟩
   simp[Ao];omega
 obtain rfl:j=k:=by omega
 go_wp2;go_ret;exact⟨by have:=H.out;subst this;simp,rfl⟩
theorem XP(n s:Int)(w:Ba):An Al 181 #[O U n,O U s] w fun e w'=>e=Ak (O U (yS n s))/\w=w':=by
 have H:Ap (yS n s=if n<1\/5<n then 1 else if s<0\/(2^n.toNat:Nat)<=s then 2 else 0):=rfl;go_enter func181,ntmps181;go_wp2_with fail;refine(XL n w).mono ?_;rintro e w' ⟨rfl,rfl⟩
 by_cases hn:n<1\/5<n
 . rw[wn hn]
   rw[Lo hn] at H;go_wp2;go_ret;exact⟨zd H.out.symm,rfl⟩
 rw[hU hn];rw[Li hn] at H;obtain⟨m,rfl⟩:=Lr (show 0<=n by omega);have hp:=vn m (by omega) w;go_wp2_with fail
 . refine hp.mono ?_
   rintro e w' ⟨rfl,rfl⟩;go_wp2_with fail
   all_goals
    go_ret;refine⟨zd ?_,rfl⟩;rw[H.out]
    first | (rw[Lo (by simp;omega)]) | (rw[Li (by simp;omega)])
 go_ret;refine⟨zd ?_,rfl⟩;rw[H.out,Lo (by omega)]
def zm:List Int->List Int->Int
 | [],[]=>0
 | [],_::_=>-1
 | _::_,[]=>1
 | a::l,b::m=>if a<b then -1 else if b<a then 1 else zm l m
theorem yM:∀l:List Int,zm l l=0
 | []=>rfl
 | a::l=>by rw[zm,Li (Int.lt_irrefl a),Li (Int.lt_irrefl a),yM l]
theorem xR:∀ {l m:List Int},zm l m=0->l=m
 | [],[],_=>rfl
 | [],_::_,h=>by cases h
 | _::_,[],h=>by cases h
 | a::l,b::m,h=>by
  rw[zm] at h
  split at h
  . cases h
  . split at h
    . cases h
    . rw[xR h,show a=b by omega]
theorem ww{l m:List Int}{k:Nat}(h1:k<l.length)(h2:k<m.length):zm (l.drop k) (m.drop k)=if l[k]<m[k] then -1 else if m[k]<l[k] then 1 else zm (l.drop (k+1)) (m.drop (k+1)):=by
 rw[Lz h1,Lz h2,zm]
theorem vp{l m:List Int}{k:Nat}(h:k=l.length\/k=m.length)(h1:k<=l.length)(h2:k<=m.length):zm (l.drop k) (m.drop k)=if l.length<m.length then -1 else if m.length<l.length then 1 else 0:=by
 rcases h with h | h
 . subst h
   rw[Nz]
   by_cases hm:l.length<m.length
   . rw[Lo hm,Lz hm];rfl
   have:m.drop l.length=[]:=List.drop_of_length_le (by omega);rw[this,Li hm,Li (by omega)];rfl
 subst h;rw[Nz]
 by_cases hm:m.length<l.length
 . rw[Li (by omega),Lo hm,Lz hm];rfl
 have:l.drop m.length=[]:=List.drop_of_length_le (by omega);rw[this,Li (by omega),Li hm];rfl
def qE(m x:Int):Bool:=decide (x<0\/m<=x)
def zA(v:List Int)(n m:Int):Int:=if (v.length:Int)≠n then 15 else if v.any (qE m)=Ar then 2 else 0
def zw{α:Type}(l:List α)(k:Nat):Option α:=if k=0 then Z else l[k-1]?
theorem vY{α:Type}(l:List α):zw l 0=Z:=rfl
theorem ya{α:Type}(l:List α)(k:Nat)(hk:k<l.length):zw l (k+1)=J l[k]:=by unfold zw;simp[hk]
def xv(p:Option (List Int))(v:List Int):Bool:=match p with | none=>As | some q=>decide (0<=zm q v)
def qv(f:List Int->Int):Option (List Int)->List (List Int)->Int
 | _,[]=>0
 | p,v::r=>if f v≠0 then f v else if xv p v=Ar then 14 else qv f (J v) r
def qa(f:List Int->Int)(l:List (List Int)):Int:=qv f Z l
def yl(f:List Int->Int)(l:List (List Int))(k:Nat):Int:=qv f (zw l k) (l.drop k)
theorem xb{f:List Int->Int}{l:List (List Int)}:yl f l 0=qa f l:=by unfold yl qa;rw[vY,LT]
theorem xD{f:List Int->Int}{l:List (List Int)}:yl f l l.length=0:=by unfold yl;rw[Nz];rfl
theorem xE{f:List Int->Int}{l:List (List Int)}{k:Nat}(hk:k<l.length)(h:f l[k]≠0):yl f l k=f l[k]:=by
 unfold yl;rw[Lz hk,qv,Lo h]
theorem yQ{f:List Int->Int}{l:List (List Int)}{k:Nat}(hk:k<l.length)(h:f l[k]=0)(h2:xv (zw l k) l[k]=Ar):yl f l k=14:=by
 unfold yl;rw[Lz hk,qv,Li (by simpa using h),Lo h2]
theorem qd{f:List Int->Int}{l:List (List Int)}{k:Nat}(hk:k<l.length)(h:f l[k]=0)(h2:xv (zw l k) l[k]=As):yl f l k=yl f l (k+1):=by
 unfold yl;rw[Lz hk,qv,Li (by simpa using h),Li (by rw[h2];decide),ya l k hk]
def xJ(l:List (List Int))(v:List Int):Int:=if v∈l then 0 else 6
def xK(n m:Int)(c:Cs):Int:=
 if c.out.length<1\/1024<c.out.length then 5 else if qa (fun v=>zA v n m) c.out≠0 then qa (fun v=>zA v n m) c.out else qa (xJ c.out) c.calm
def xB(t:Tk)(p:Option Cs)(c:Cs):Int:=
 if zA c.inp t.n t.ins≠0 then zA c.inp t.n t.ins else if xv (p.map Cs.inp) c.inp=Ar then 14 else xK t.n t.outs c
def xV(t:Tk):Option Cs->List Cs->Int
 | _,[]=>0
 | p,c::r=>if xB t p c≠0 then xB t p c else xV t (J c) r
def yE(t:Tk)(l:List Cs)(k:Nat):Int:=xV t (zw l k) (l.drop k)
theorem um{t:Tk}{l:List Cs}:yE t l l.length=0:=by unfold yE;rw[Nz];rfl
theorem un{t:Tk}{l:List Cs}{k:Nat}(hk:k<l.length)(h:xB t (zw l k) l[k]≠0):yE t l k=xB t (zw l k) l[k]:=by
 unfold yE;rw[Lz hk,xV,Lo h]
theorem gc{t:Tk}{l:List Cs}{k:Nat}(hk:k<l.length)(h:xB t (zw l k) l[k]=0):yE t l k=yE t l (k+1):=by
 unfold yE;rw[Lz hk,xV,Li (by simpa using h),ya l k hk]
def zX(t:Tk):Int:=
 if t.n<1\/5<t.n\/t.ins<1\/8<t.ins\/t.outs<1\/8<t.outs then 2 else if t.cases.length<1\/1024<t.cases.length then 5 else yE t t.cases 0
def yT(n:Int)(p:Nat)(x:Int):Int:=
 if n<=p then (if x≠0 then 3 else 0) else if x<0\/(2^n.toNat-1:Nat)<x then 2 else if x.toNat.testBit p=Ar then 0 else 3
def yh(r:Rd):Nat->Nat->Int
 | 0,_=>0
 | k+1,p=>if yT r.n p (r.h p)≠0 then yT r.n p (r.h p) else yh r k (p+1)
def yn(r:Rd):Int:=if r.n<1\/5<r.n then 2 else yh r 5 0
def zS(r:Rd):Int:=if yn r≠0 then yn r else yS r.n r.f
def Rd.gl(r:Rd):List Int:=[r.n,r.h0,r.h1,r.h2,r.h3,r.h4]
def Rd.l(r:Rd):List Int:=[r.n,r.h0,r.h1,r.h2,r.h3,r.h4,r.f]
def gM(p:Option Mv)(m:Mv):Bool:=match p with | none=>As | some q=>decide (0<=zm q.r.l m.r.l)
def xd(a:Ad)(p:Option Mv)(m:Mv):Int:=
 if zS m.r≠0 then zS m.r else if m.r.n≠a.n then 22 else if gM p m=Ar then 14 else if m.to<0\/(a.sts.length:Int)<=m.to then 2 else 0
def qP(a:Ad):Option Mv->List Mv->Int
 | _,[]=>0
 | p,m::r=>if xd a p m≠0 then xd a p m else qP a (J m) r
def yZ(a:Ad)(l:List Mv)(k:Nat):Int:=qP a (zw l k) (l.drop k)
theorem ub{a:Ad}{l:List Mv}:yZ a l l.length=0:=by unfold yZ;rw[Nz];rfl
theorem uc{a:Ad}{l:List Mv}{k:Nat}(hk:k<l.length)(h:xd a (zw l k) l[k]≠0):yZ a l k=xd a (zw l k) l[k]:=by
 unfold yZ;rw[Lz hk,qP,Lo h]
theorem wC{a:Ad}{l:List Mv}{k:Nat}(hk:k<l.length)(h:xd a (zw l k) l[k]=0):yZ a l k=yZ a l (k+1):=by
 unfold yZ;rw[Lz hk,qP,Li (by simpa using h),ya l k hk]
def xF(a:Ad)(l:List Mv):Int:=if l.length=0 then 19 else yZ a l 0
def zB(a:Ad):List (List Mv)->Int
 | []=>0
 | l::r=>if xF a l≠0 then xF a l else zB a r
theorem jn{a:Ad}{l:List (List Mv)}{k:Nat}(h:k=l.length):zB a (l.drop k)=0:=by subst h;rw[Nz];rfl
theorem jo{a:Ad}{l:List (List Mv)}{k:Nat}(hk:k<l.length)(h:xF a l[k]≠0):zB a (l.drop k)=xF a l[k]:=by
 rw[Lz hk,zB,Lo h]
theorem jS{a:Ad}{l:List (List Mv)}{k:Nat}(hk:k<l.length)(h:xF a l[k]=0):zB a (l.drop k)=zB a (l.drop (k+1)):=by
 rw[Lz hk,zB,Li (by simpa using h)]
def Ad.mvs(a:Ad):List Mv:=a.sts.flatten
def Ad.at_(a:Ad)(s:Int):List Mv:=a.sts.getD s.toNat []
def qj(m k:Mv):Bool:=m.r.f.toNat &&& k.r.f.toNat==m.r.f.toNat
def yU(a:Ad):Bool:=a.mvs.all fun m=>(a.at_ m.to).all fun k=>qj m k
def xy(a:Ad):Int:=
 if a.n<1\/5<a.n then 2 else if a.sts.length<1\/256<a.sts.length\/4096<a.mvs.length then 5 else if zB a a.sts≠0 then zB a a.sts else if yU a=Ar then 0 else 21
def zL(p:Pb):Int:=
 if zX p.t≠0 then zX p.t else if xy p.a≠0 then xy p.a else if p.t.n≠p.a.n then 22 else if p.k<0\/6<p.k then 2 else 0
def Rd.gcells(r:Rd):Array Aq:=#[O U r.n,O U r.h0,O U r.h1,O U r.h2,O U r.h3,O U r.h4]
def hR(v u:Rd):Bool:=v.h0==u.h0&&(v.h1==u.h1&&(v.h2==u.h2&&(v.h3==u.h3&&v.h4==u.h4)))
theorem Qw(d:Nat)(v u:Rd)(w:Ba):(Op.equalIn (d+2) 64 (Ai #[O U v.h0,O U v.h1,O U v.h2,O U v.h3,O U v.h4]) (Ai #[O U u.h0,O U u.h1,O U u.h2,O U u.h3,O U u.h4])).run Al w =
  .ok (hR v u) w:=Zp d ⟨0,0,0,v.h0,v.h1,v.h2,v.h3,v.h4⟩ ⟨0,0,0,u.h0,u.h1,u.h2,u.h3,u.h4⟩ w
theorem kO(d:Nat)(v u:Rd)(w:Ba):(Op.equalIn (d+3) 66 (.agg v.gcells) (.agg u.gcells)).run Al w=.ok (decide (v.gl=u.gl)) w:=by
 have hu:Al.underlying 66=J (.struct (Al.fieldsOf 66)):=by kernel_rfl
 have hi:Al.underlying 3=J (.int U):=LB;have hf : (Al.fieldsOf 66).toList.map (fun f => (f.name, f.type, f.offset)) = [("N", 3, 0), ("Hears", 64, 1)] := by kernel_rfl
 rw[PF w (d+2) 66 _ _ hu (by kernel_rfl)];have p0:∀x:Rd,(part 3 x.gcells 0).run Al w=.ok (O U x.n) w:=fun x=>zZ _ 0 _ rfl w
 have p1:∀x:Rd,(part 64 x.gcells 1).run Al w=.ok (Ai #[O U x.h0,O U x.h1,O U x.h2,O U x.h3,O U x.h4]) w:=fun x=>by unfold Rd.gcells;kernel_rfl
 generalize (Al.fieldsOf 66).toList=fs at hf
 obtain⟨f0,f1,rfl⟩:∃f0 f1,fs=[f0,f1]:=by
  have hl:fs.length=2:=by simpa using congrArg List.length hf
  rcases fs with _ | ⟨f0,_ | ⟨f1,_ | ⟨f2,r⟩⟩⟩<;>simp at hl
  exact⟨_,_,rfl⟩
 clear hu;simp only[List.map_cons,List.map_nil,List.cons.injEq,Prod.mk.injEq,and_true] at hf;obtain⟨⟨n0,t0,o0⟩,⟨n1,t1,o1⟩⟩:=hf
 have hd:decide (v.gl=u.gl)=(v.n==u.n&&hR v u):=by
  unfold hR Rd.gl;obtain⟨a0,a1,a2,a3,a4,a5,a6⟩:=v;obtain⟨b0,b1,b2,b3,b4,b5,b6⟩:=u;rw[NG];simp
 rw[hd]
 cases h0:(v.n==u.n)<;>cases h3:hR v u <;>
  simp only[Op.eqFields,n0,n1,t0,t1,o0,o1,p0,p1,Sem.run_bind,Result.andThen_ok,run_equalIn_int w _ 3 _ _ _ _ hi,Qw,h0,h3,ne_eq,not_false_eq_true,if_true,Bool.not_false,Bool.not_true,Bool.false_eq_true,if_false,Sem.run_pure,Bool.true_and,Bool.false_and,String.reduceEq]
theorem kN(d:Nat)(v u:Rd)(w:Ba):(Op.equalIn (d+4) 68 (.agg v.cells) (.agg u.cells)).run Al w=.ok (decide (v=u)) w:=by
 have hu:Al.underlying 68=J (.struct (Al.fieldsOf 68)):=by kernel_rfl
 have hi:Al.underlying 3=J (.int U):=LB;have hf : (Al.fieldsOf 68).toList.map (fun f => (f.name, f.type, f.offset)) = [("Graph", 66, 0), ("Faulty", 3, 6)] := by kernel_rfl
 rw[PF w (d+3) 68 _ _ hu (by kernel_rfl)];have p0:∀x:Rd,(part 66 x.cells 0).run Al w=.ok (.agg x.gcells) w:=fun x=>by unfold Rd.cells;kernel_rfl
 have p1:∀x:Rd,(part 3 x.cells 6).run Al w=.ok (O U x.f) w:=fun x=>zZ _ 6 _ rfl w
 generalize (Al.fieldsOf 68).toList=fs at hf
 obtain⟨f0,f1,rfl⟩:∃f0 f1,fs=[f0,f1]:=by
  have hl:fs.length=2:=by simpa using congrArg List.length hf
  rcases fs with _ | ⟨f0,_ | ⟨f1,_ | ⟨f2,r⟩⟩⟩<;>simp at hl
  exact⟨_,_,rfl⟩
 clear hu;simp only[List.map_cons,List.map_nil,List.cons.injEq,Prod.mk.injEq,and_true] at hf;obtain⟨⟨n0,t0,o0⟩,⟨n1,t1,o1⟩⟩:=hf
 have hd:decide (v=u)=(decide (v.gl=u.gl)&&v.f==u.f):=by
  unfold Rd.gl;obtain⟨a0,a1,a2,a3,a4,a5,a6⟩:=v;obtain⟨b0,b1,b2,b3,b4,b5,b6⟩:=u;rw[NG];simp;constructor
  . rintro⟨h0,h1,h2,h3,h4,h5,h6⟩;exact⟨⟨h0,h1,h2,h3,h4,h5⟩,h6⟩
  rintro⟨⟨h0,h1,h2,h3,h4,h5⟩,h6⟩;exact⟨h0,h1,h2,h3,h4,h5,h6⟩
 rw[hd]
 cases h0:decide (v.gl=u.gl)<;>cases h3:(v.f==u.f) <;>
  simp only[Op.eqFields,n0,n1,t0,t1,o0,o1,p0,p1,Sem.run_bind,Result.andThen_ok,run_equalIn_int w _ 3 _ _ _ _ hi,kO,h0,h3,ne_eq,not_false_eq_true,if_true,Bool.not_false,Bool.not_true,Bool.false_eq_true,if_false,Sem.run_pure,Bool.true_and,Bool.false_and,String.reduceEq]
theorem Qv(d:Nat)(v u:Mv)(w:Ba):(Op.equalIn (d+5) 70 (.agg v.cells) (.agg u.cells)).run Al w=.ok (decide (v=u)) w:=by
 have hu:Al.underlying 70=J (.struct (Al.fieldsOf 70)):=by kernel_rfl
 have hi:Al.underlying 3=J (.int U):=LB;have hf : (Al.fieldsOf 70).toList.map (fun f => (f.name, f.type, f.offset)) = [("Round", 68, 0), ("To", 3, 7)] := by kernel_rfl
 rw[PF w (d+4) 70 _ _ hu (by kernel_rfl)];have p0:∀x:Mv,(part 68 x.cells 0).run Al w=.ok (.agg x.r.cells) w:=fun x=>by unfold Mv.cells;kernel_rfl
 have p1:∀x:Mv,(part 3 x.cells 7).run Al w=.ok (O U x.to) w:=fun x=>zZ _ 7 _ rfl w
 generalize (Al.fieldsOf 70).toList=fs at hf
 obtain⟨f0,f1,rfl⟩:∃f0 f1,fs=[f0,f1]:=by
  have hl:fs.length=2:=by simpa using congrArg List.length hf
  rcases fs with _ | ⟨f0,_ | ⟨f1,_ | ⟨f2,r⟩⟩⟩<;>simp at hl
  exact⟨_,_,rfl⟩
 clear hu;simp only[List.map_cons,List.map_nil,List.cons.injEq,Prod.mk.injEq,and_true] at hf;obtain⟨⟨n0,t0,o0⟩,⟨n1,t1,o1⟩⟩:=hf
 have hd:decide (v=u)=(decide (v.r=u.r)&&v.to==u.to):=by
  obtain⟨a0,a1⟩:=v;obtain⟨b0,b1⟩:=u;rw[NG];simp
 rw[hd]
 cases h0:decide (v.r=u.r)<;>cases h3:(v.to==u.to) <;>
  simp only[Op.eqFields,n0,n1,t0,t1,o0,o1,p0,p1,Sem.run_bind,Result.andThen_ok,run_equalIn_int w _ 3 _ _ _ _ hi,kN,h0,h3,ne_eq,not_false_eq_true,if_true,Bool.not_false,Bool.not_true,Bool.false_eq_true,if_false,Sem.run_pure,Bool.true_and,Bool.false_and,String.reduceEq]
theorem eql_graph(v u:Rd)(w:Ba):(binOp .eql 66 (.agg v.gcells) (.agg u.gcells)).run Al w=.ok (Ah (decide (v.gl=u.gl))) w:=by
 simp only[binOp];simp[Op.equal,Op.maxDepth,kO 9997 v u w]
theorem JO(v u:Rd)(w:Ba):(binOp .neq 66 (.agg v.gcells) (.agg u.gcells)).run Al w=.ok (Ah (decide (v.gl≠u.gl))) w:=by
 simp only[binOp];simp[Op.equal,Op.maxDepth,kO 9997 v u w]
theorem eql_round(v u:Rd)(w:Ba):(binOp .eql 68 (.agg v.cells) (.agg u.cells)).run Al w=.ok (Ah (decide (v=u))) w:=by
 simp only[binOp];simp[Op.equal,Op.maxDepth,kN 9996 v u w]
theorem Zd(v u:Rd)(w:Ba):(binOp .neq 68 (.agg v.cells) (.agg u.cells)).run Al w=.ok (Ah (decide (v≠u))) w:=by
 simp only[binOp];simp[Op.equal,Op.maxDepth,kN 9996 v u w]
theorem neq_move(v u:Mv)(w:Ba):(binOp .neq 70 (.agg v.cells) (.agg u.cells)).run Al w=.ok (Ah (decide (v≠u))) w:=by
 simp only[binOp];simp[Op.equal,Op.maxDepth,Qv 9995 v u w]
end
section
open Go.RowKit
attribute [local go_sem] Oper.semAt_some
theorem ur(A B:Bb)(ca cb:Nat)(xs ys:List Rd)(hx:xs.length<=17592186044416)(_hy:ys.length<=17592186044416)(w:Ba)(hA:RAt w w.heap.size A xs)(hB:RAt w w.heap.size B ys) :
  An Al 162 #[I A xs.length ca,I B ys.length cb] w fun e w'=>e=Ak (Ah (decide (xs=ys)))/\∃n,w'=w.drewN n:=by
 have HA:=zH hA;have HB:=zH hB;have HT:Ap (∀b,(xs=ys↔b=Ar)->decide (xs=ys)=b):=fun b h=>by cases b<;>simp_all
 obtain⟨r,hr⟩:∃r,decide (xs=ys)=r:=⟨_,rfl⟩;rw[hr] at HT ⊢;go_enter func162,ntmps162
 by_cases hl:xs.length=ys.length
 case neg=>
  have hR:Ap (r=As):=HT.out As ⟨fun h=>absurd (congrArg List.length h) hl,fun h=>by cases h⟩;have e0:((xs.length:Int) != (ys.length:Int))=Ar:=by simp;omega
  go_wp2_with fail;go_ret;exact⟨ze hR.out.symm,0,rfl⟩
 case pos=>
 have HL:=zH hl;rw[<-hl] at _hy ⊢;go_wp2_with fail
 go_loopw [5] (fun i wr=>∃k n:Nat,k<=xs.length/\i=O U (k:Int)/\Ap (xs.take k=ys.take k)/\Ap (wr=w.drewN n)) (fun i _=>xs.length-(Ao i).toNat)
 case atStart=>exact⟨0,0,by omega,rfl,by rw[Ap,LI,LI],rfl⟩
 obtain⟨k,n,hk,rfl,hp,hw⟩:=hrel
 by_cases aa:k<xs.length
 case neg=>
  obtain rfl:k=xs.length:=by omega
  have hR:Ap (r=Ar):=HT.out Ar ⟨fun _=>rfl,fun _=>xQ HL.out hp.out⟩;go_wp2_with fail;go_ret;exact⟨ze hR.out.symm,n,hw.out⟩
 case pos=>
 have eq:k<ys.length:=by have:=HL.out;omega
 obtain⟨ba,oa,ea,_,a0,a1,a2,a3,a4,a5,a6⟩:=(HA.out).row k aa;obtain⟨bb,ob,eb,_,b0,b1,b2,b3,b4,b5,b6⟩:=(HB.out).row k eq;subst ea;subst eb;have pU:Ap (∀p,wr.cell? p=w.cell? p):=fun p=>by rw[hw.out];rfl
 rw[<-pU.out] at a0 a1 a2 a3 a4 a5 a6 b0 b1 b2 b3 b4 b5 b6;have hq:=fun W=>Zd xs[k] ys[k] W
 by_cases he:xs[k]=ys[k]
 . have hR:=zH (yH hp.out aa eq he)
   rw[Ln (by simpa using he)] at hq;rw[<-he] at b0 b1 b2 b3 b4 b5 b6 hq;obtain⟨u,hu⟩:=Kh (xs[k]);rw[hu] at a0 a1 a2 a3 a4 a5 a6 b0 b1 b2 b3 b4 b5 b6 hq;unfold Rd.cells at hq;go_wp2_with fail;go_quiet (fail);go_wp2_with fail
   go_roundw
   case rel=>exact⟨k+1,n+nq,by omega,by go_num,hR,by rw[Ap,hw.out,kP]⟩
   simp[Ao];omega
 have hR:Ap (r=As):=HT.out As ⟨fun h=>absurd (by subst h;rfl) he,fun h=>by cases h⟩;rw[Lm (by simpa using he)] at hq;obtain⟨u,hu⟩:=Kh (xs[k]);obtain⟨v,hv⟩:=Kh (ys[k]);rw[hu] at a0 a1 a2 a3 a4 a5 a6 hq;rw[hv] at b0 b1 b2 b3 b4 b5 b6 hq;unfold Rd.cells at hq;go_wp2_with fail;go_quiet (fail);go_wp2_with fail;go_ret;exact⟨ze hR.out.symm,n+nq,by rw[hw.out,kP]⟩
end
section
open Go.RowKit
theorem has_fact{s p:Nat}(hs:s<32)(hp:p<5):((wrap64 ((s:Int) / ((2^p:Nat):Int))).tmod 2==1)=s.testBit p:=by
 have h:=xp (p:=fun s=>ja fun p=>!decide (p<5)||(((wrap64 ((s:Int) / ((2^p:Nat):Int))).tmod 2==1)==s.testBit p)) (by decide +kernel) hs;have h:=xp h (show p<32 by omega);simpa only[hp,decide_true,Bool.not_true,Bool.false_or,beq_iff_eq] using h
theorem kX(s p:Nat)(hs:s<32)(hp:p<5)(w:Ba):An Al 53 #[O U s,O U p] w fun e w'=>e=Ak (Ah (s.testBit p))/\w=w':=by
 have H:=zH (has_fact hs hp);have hq:(2^p:Nat)<=2^5:=LZ (by omega) (by omega);have mW:1<=(2^p:Nat):=Nat.one_le_two_pow;have RP:=vn p (by omega) w;obtain⟨q,Rb⟩:∃q:Nat,q=2^p:=⟨_,rfl⟩;rw[<-Rb] at RP hq mW H;clear Rb;go_enter func53,ntmps53;go_wp2_with fail;refine RP.mono ?_;rintro e w' ⟨rfl,rfl⟩;go_wp2_with fail;go_ret;exact⟨ze H.out,rfl⟩
theorem Y0{a b:Nat}(ha:a<32)(hb:b<32):(a &&& b==a)=Ar↔(∀p,p<5->a.testBit p=Ar->b.testBit p=Ar):=by
 have h:=xp (p:=fun a=>ja fun b=>((List.range 5).all fun p=>!a.testBit p||b.testBit p)==(a &&& b==a)) (by decide +kernel) ha;have h:=xp h hb;simp only[beq_iff_eq] at h;rw[<-h];simp only[List.all_eq_true,List.mem_range,Bool.or_eq_true,Bool.not_eq_true'];constructor
 . intro h p hp h1
   rcases h p hp with h2 | h2
   . rw[h1] at h2;cases h2
   exact h2
 intro h p hp
 by_cases h1:a.testBit p=Ar
 . exact .inr (h p hp h1)
 exact .inl (by simpa using h1)
theorem Qh(a b:Nat)(ha:a<32)(hb:b<32)(w:Ba):An Al 175 #[O U a,O U b] w fun e w'=>e=Ak (Ah (a &&& b==a))/\w=w':=by
 have H:=zH (Y0 ha hb);have HA:=zH (fun p hp w=>kX a p ha hp w);have HB:=zH (fun p hp w=>kX b p hb hp w);go_enter func175,ntmps175;go_wp2_with fail
 go_loop [5] (fun i=>∃k:Nat,k<=5/\i=O U (k:Int)/\Ap (∀p,p<k->a.testBit p=Ar->b.testBit p=Ar)) (fun i=>5-(Ao i).toNat)
 case atStart=>exact⟨0,by omega,rfl,fun p hp=>by omega⟩
 obtain⟨k,hk,rfl,aT⟩:=hrel
 by_cases aa:k<5
 . have c1:=HA.out k aa w
   have c2:=HB.out k aa w;go_wp2_with fail;refine c1.mono ?_;rintro e w' ⟨rfl,rfl⟩
   by_cases h1:a.testBit k=Ar
   . rw[h1]
     go_wp2_with fail;refine c2.mono ?_;rintro e w' ⟨rfl,rfl⟩
     by_cases h2:b.testBit k=Ar
     . rw[h2]
       go_wp2_with fail
       go_round
       case rel=>
        refine⟨k+1,by omega,by go_num,fun p hp h=>?_⟩
        by_cases e:p=k
        . subst e;exact h2
        exact aT.out p (by omega) h
       simp[Ao];omega
     have WZ:b.testBit k=As:=by simpa using h2
     rw[WZ];go_wp2_with fail;go_ret;refine⟨ze ?_,rfl⟩;symm;rw[Bool.eq_false_iff];exact fun e=>h2 (H.out.1 e k aa h1)
   have Z':a.testBit k=As:=by simpa using h1
   rw[Z'];go_wp2_with fail
   go_round
   case rel=>
    refine⟨k+1,by omega,by go_num,fun p hp h=>?_⟩
    by_cases e:p=k
    . subst e;exact absurd h h1
    exact aT.out p (by omega) h
   simp[Ao];omega
 obtain rfl:k=5:=by omega
 go_wp2_with fail;go_ret;refine⟨ze ?_,rfl⟩;exact(H.out.2 aT.out).symm
theorem Q2(w:Ba)(a b:Nat):∃m,(w.drewN a).drewN b=w.drewN m:=⟨a+b,by simp[World.drewN_drewN]⟩
theorem drew3(w:Ba)(a b c:Nat):∃m,((w.drewN a).drewN b).drewN c=w.drewN m:=⟨a+b+c,by simp[World.drewN_drewN]⟩
theorem yL(A1 A2:Bb)(c1 c2:Nat)(xs ys:List Int)(hl:xs.length<=17592186044416)(fC:ys.length<=17592186044416)(w:Ba)(h1:IAt w w.heap.size A1 xs)(h2:IAt w w.heap.size A2 ys) :
  An Al 171 #[I A1 xs.length c1,I A2 ys.length c2] w fun e w'=>e=Ak (O U (zm xs ys))/\∃m,w'=w.drewN m:=by
 have HA:=zH h1;have HB:=zH h2;go_enter func171,ntmps171;go_wp2_with fail
 go_loopw [5] (fun i wr=>∃k:Nat,k<=xs.length/\k<=ys.length/\i=O U (k:Int)/\Ap (zm xs ys=zm (xs.drop k) (ys.drop k))/\∃m:Nat,wr=w.drewN m) (fun i _=>xs.length-(Ao i).toNat)
 case atStart=>exact⟨0,by omega,by omega,rfl,rfl,0,rfl⟩
 obtain⟨k,bC,eG,rfl,CO,m,rfl⟩:=hrel
 by_cases aa:k<xs.length/\k<ys.length
 . obtain⟨hx,hy⟩:=aa
   obtain⟨b1,o1,rfl,aH,c1⟩:=HA.out.at_ k hx;obtain⟨b2,o2,rfl,af,c2⟩:=HB.out.at_ k hy;have hs:=ww hx hy;obtain⟨x,tR⟩:=Kh (xs[k]);obtain⟨y,Iz⟩:=Kh (ys[k]);rw[tR] at c1 hs;rw[Iz] at c2 hs;have HS:=zH (CO.out.trans hs)
   by_cases l1:x<y
   . have HR:=zH (HS.out.trans (Lo l1))
     go_wp2_with fail;go_quiet (fail);go_wp2_with fail;go_ret;exact⟨zd HR.out.symm,by first | exact Q2 _ _ _ | exact drew3 _ _ _ _⟩
   by_cases l2:y<x
   . have HR:=zH (HS.out.trans ((Li l1).trans (Lo l2)))
     go_wp2_with fail;go_quiet (fail);go_wp2_with fail;go_quiet (fail);go_wp2_with fail;go_ret;exact⟨zd HR.out.symm,by first | exact Q2 _ _ _ | exact drew3 _ _ _ _⟩
   have HR:=zH (HS.out.trans ((Li l1).trans (Li l2)));go_wp2_with fail;go_quiet (fail);go_wp2_with fail;go_quiet (fail);go_wp2_with fail
   go_roundw
   case rel=>exact⟨k+1,by omega,by omega,by go_num,HR,by first | exact Q2 _ _ _ | exact drew3 _ _ _ _ | exact⟨_,rfl⟩⟩
   simp[Ao];omega
 have he:=vp (l:=xs) (m:=ys) (k:=k) (by omega) bC eG;have HR:=zH (CO.out.trans he);have hd:(decide ((k:Int)<(xs.length:Int))&&decide ((k:Int)<(ys.length:Int)))=As:=by simp;omega
 by_cases hx:k<xs.length
 . obtain rfl:k=ys.length:=by omega
   go_wp2_with fail
   all_goals first | (exfalso;omega) | skip
   all_goals
    go_ret;exact⟨zd (by rw[HR.out];first | (rw[Lo (by omega)]) | (rw[Li (by omega),Lo (by omega)]) | (rw[Li (by omega),Li (by omega)])),_,rfl⟩
 obtain rfl:k=xs.length:=by omega
 go_wp2_with fail
 all_goals first | (exfalso;omega) | skip
 all_goals
  go_ret;exact⟨zd (by rw[HR.out];first | (rw[Lo (by omega)]) | (rw[Li (by omega),Lo (by omega)]) | (rw[Li (by omega),Li (by omega)])),_,rfl⟩
def qT(x y:Int):Int:=if x<y then -1 else if y<x then 1 else 0
theorem uD(x y:Int)(w:Ba):An Al 142 #[O U x,O U y] w fun e w'=>e=Ak (O U (qT x y))/\w=w':=by
 have H:Ap (qT x y=if x<y then -1 else if y<x then 1 else 0):=rfl
 have hn:∀(x:Int) (w:Ba),An Al 150 #[O U x] w fun e w'=>e=Ak (Ah As)/\w=w':=fun x w=>by
  go_enter func150,ntmps150;go_wp2;go_ret;exact⟨by simp,rfl⟩
 have HN:=zH hn;go_enter func142,ntmps142;go_wp2_with (go_at_call 150;refine(HN.out _ _).mono ?_;rintro e w' ⟨rfl,rfl⟩)
 all_goals
  go_ret;refine⟨zd ?_,rfl⟩;rw[H.out]
  first | (rw[Lo (by omega)]) | (rw[Li (by omega),Lo (by omega)]) | (rw[Li (by omega),Li (by omega)])
theorem jU(A1 A2:Bb)(c1 c2:Nat)(xs ys:List Int)(hl:xs.length<=17592186044416)(fC:ys.length<=17592186044416)(w:Ba)(h1:IAt w w.heap.size A1 xs)(h2:IAt w w.heap.size A2 ys) :
  An Al 104 #[I A1 xs.length c1,I A2 ys.length c2] w fun e w'=>e=Ak (O U (zm xs ys))/\w'=w:=by
 have HA:=zH h1;have HB:=zH h2;go_enter func104,ntmps104;go_wp2_with fail
 go_loop [11] (fun i=>∃k:Nat,k<=xs.length/\k<=ys.length/\i=O U (k:Int)/\Ap (zm xs ys=zm (xs.drop k) (ys.drop k))) (fun i=>xs.length-(Ao i).toNat)
 case atStart=>exact⟨0,by omega,by omega,rfl,rfl⟩
 obtain⟨k,bC,eG,rfl,CO⟩:=hrel
 by_cases hx:k<xs.length
 . obtain⟨b1,o1,rfl,aH,c1⟩:=HA.out.at_ k hx
   by_cases hy:k<ys.length
   . obtain⟨b2,o2,rfl,af,c2⟩:=HB.out.at_ k hy
     have hs:=ww hx hy;obtain⟨x,tR⟩:=Kh (xs[k]);obtain⟨y,Iz⟩:=Kh (ys[k]);rw[tR] at c1 hs;rw[Iz] at c2 hs;have HS:=zH (CO.out.trans hs);have mL:Ap (qT x y=if x<y then -1 else if y<x then 1 else 0):=rfl;have hc:=zH (fun w=>uD x y w);obtain⟨cv,nH⟩:=Kh (qT x y);rw[nH] at hc mL;go_wp2_with fail;refine(hc.out _).mono ?_;rintro e w' ⟨rfl,rfl⟩
     by_cases l1:x<y
     . have HR:=zH (HS.out.trans (Lo l1))
       obtain rfl:cv=-1:=mL.out.trans (Lo l1);go_wp2_with fail;go_ret;exact⟨zd HR.out.symm,rfl⟩
     by_cases l2:y<x
     . have HR:=zH (HS.out.trans ((Li l1).trans (Lo l2)))
       obtain rfl:cv=1:=mL.out.trans ((Li l1).trans (Lo l2));go_wp2_with fail;go_ret;exact⟨zd HR.out.symm,rfl⟩
     have HR:=zH (HS.out.trans ((Li l1).trans (Li l2)));obtain rfl:cv=0:=mL.out.trans ((Li l1).trans (Li l2));go_wp2_with fail
     go_round
     case rel=>exact⟨k+1,by omega,by omega,by go_num,HR⟩
     simp[Ao];omega
   obtain rfl:k=ys.length:=by omega
   have he:=vp (l:=xs) (m:=ys) (k:=ys.length) (by omega) bC eG;have HR:=zH (CO.out.trans he);go_wp2_with fail;go_ret;exact⟨zd (by rw[HR.out,Li (by omega),Lo (by omega)]),rfl⟩
 obtain rfl:k=xs.length:=by omega
 have he:=vp (l:=xs) (m:=ys) (k:=xs.length) (by omega) bC eG;have HR:=zH (CO.out.trans he);go_wp2_with fail
 all_goals
  go_ret;exact⟨zd (by rw[HR.out];first | (rw[Lo (by omega)]) | (rw[Li (by omega),Li (by omega)])),rfl⟩
theorem Zi{r:Rd}{k:Nat}(hk:k<5)(h:yT r.n k (r.h k)≠0):yh r (5-k) k=yT r.n k (r.h k):=by
 rw[show 5-k=(4-k)+1 by omega,yh,Lo h]
theorem Y4{r:Rd}{k:Nat}(hk:k<5)(h:yT r.n k (r.h k)=0):yh r (5-k) k=yh r (5-(k+1)) (k+1):=by
 rw[show 5-k=(4-k)+1 by omega,yh,Li (by simpa using h),show 4-k=5-(k+1) by omega]
theorem wO{n x:Int}{p:Nat}(h:n<=p)(hx:x≠0):yT n p x=3:=by unfold yT;rw[Lo h,Lo hx]
theorem wN{n:Int}{p:Nat}(h:n<=p):yT n p 0=0:=by unfold yT;rw[Lo h];rfl
theorem Zk{n x:Int}{p:Nat}(h:¬n<=p)(hx:x<0\/(2^n.toNat-1:Nat)<x):yT n p x=2:=by unfold yT;rw[Li h,Lo hx]
theorem Zj{n x:Int}{p:Nat}(h:¬n<=p)(hx:¬(x<0\/(2^n.toNat-1:Nat)<x))(hb:x.toNat.testBit p=Ar):yT n p x=0:=by unfold yT;rw[Li h,Li hx,Lo hb]
theorem Y5{n x:Int}{p:Nat}(h:¬n<=p)(hx:¬(x<0\/(2^n.toNat-1:Nat)<x))(hb:x.toNat.testBit p=As):yT n p x=3:=by unfold yT;rw[Li h,Li hx,Li (by rw[hb];decide)]
theorem bit_zero{s p:Nat}(hs:s<32)(hp:p<5):(bits BinOp.and U ((s:Int) / 2^p) 1==0)=!s.testBit p:=by
 have h:=xp (p:=fun s=>ja fun p=>!decide (p<5)||((bits BinOp.and U ((s:Int) / 2^p) 1==0)==!s.testBit p)) (by decide +kernel) hs;have h:=xp h (show p<32 by omega);simpa only[hp,decide_true,Bool.not_true,Bool.false_or,beq_iff_eq] using h
theorem J6(n:Int)(h1:1<=n)(h5:n<=5)(w:Ba):An Al 183 #[O U n] w fun e w'=>e=Ak (O U ((2^n.toNat-1:Nat):Int))/\w'=w:=by
 obtain rfl | rfl | rfl | rfl | rfl:n=1\/n=2\/n=3\/n=4\/n=5:=by omega
 all_goals
  go_enter func183,ntmps183;go_wp2;go_ret;exact⟨rfl,rfl⟩
theorem wj(n:Int)(h1:1<=n)(hn:n<=5)(w:Ba):An Al 97 #[O U n] w fun e w'=>e=Ak (O U ((2^n.toNat-1:Nat):Int))/\w'=w:=by
 obtain⟨m,rfl⟩:=Lr (show 0<=n by omega);have hp:=vn m (by omega) w;go_enter func97,ntmps97;go_wp2_with fail;refine hp.mono ?_;rintro e w' ⟨rfl,rfl⟩;obtain rfl | rfl | rfl | rfl | rfl:m=1\/m=2\/m=3\/m=4\/m=5:=by omega
 all_goals
  go_wp2_with fail;go_ret;exact⟨rfl,rfl⟩
theorem j7{r:Rd}(h:r.n<1\/5<r.n):yn r=2:=Lo h
theorem wP{r:Rd}(h:¬(r.n<1\/5<r.n)):yn r=yh r (5-0) 0:=Li h
theorem pow_le{n:Int}(h5:n<=5):(2^n.toNat-1:Nat)<=31:=by
 have:2^n.toNat<=2^5:=LZ (by omega) (by omega);omega
theorem Qo(r:Rd)(w:Ba):An Al 177 #[.agg r.gcells] w fun e w'=>e=Ak (O U (yn r))/\Am w.heap.size w w':=by
 have aq:=zH (@j7 r);have ai:=zH (@wP r);obtain⟨E,hE⟩:=Kh (yn r);rw[hE] at aq ai ⊢
 have KB:∀k,k<5->∀w,(Instr.index 64 (Ai #[O U r.h0,O U r.h1,O U r.h2,O U r.h3,O U r.h4]) (O U (k:Nat))).run Al w=.ok (O U (r.h k)) w:=fun k hk w=>by
  obtain rfl | rfl | rfl | rfl | rfl:k=0\/k=1\/k=2\/k=3\/k=4:=by omega
  all_goals exact(by kernel_rfl)
 have HIX:=zH KB;unfold Rd.gcells
 by_cases hr:r.n<1\/5<r.n
 . have HR:=zH (aq.out hr)
   have HN:=zH hr;go_enter func177,ntmps177;go_wp2_with fail
   all_goals first | (exfalso;have:=HN.out;omega) | (go_ret;exact⟨zd HR.out.symm,zN w _⟩)
 have r1:¬r.n<1:=by omega
 have r2:¬5<r.n:=by omega
 have HE:=zH (ai.out hr);go_enter func177,ntmps177;go_wp2_with fail
 all_goals first | (exfalso;omega) | skip
 go_loop [15] (fun i=>∃k:Nat,k<=5/\i=O U (k:Int)/\Ap (E=yh r (5-k) k)) (fun i=>5-(Ao i).toNat)
 case atStart=>exact⟨0,by omega,rfl,HE⟩
 obtain⟨k,hk,rfl,aj⟩:=hrel
 by_cases aa:k<5
 . have hx:=HIX.out k aa
   have aF:=zH (@Zi r k aa);have aB:=zH (@Y4 r k aa);have h1:=zH (@wO r.n (r.h k) k);have h2:=zH (@wN r.n k);have h3:=zH (@Zk r.n (r.h k) k);have h4:=zH (@Zj r.n (r.h k) k);have h5:=zH (@Y5 r.n (r.h k) k);obtain⟨x,tR⟩:=Kh (r.h k);rw[tR] at hx aF aB h1 h3 h4 h5
   by_cases hp:r.n<=(k:Int)
   . by_cases hz:x=0
     . subst hz
       have hR:=zH (aj.out.trans (aB.out (h2.out hp)));go_wp2_with fail
       all_goals first | (exfalso;omega) | skip
       go_round
       case rel=>exact⟨k+1,by omega,by go_num,hR⟩
       simp[Ao];omega
     have he:=h1.out hp hz;have hR:=zH (aj.out.trans ((aF.out (by rw[he];decide)).trans he));have e0:(x != 0)=Ar:=by simpa using hz
     go_wp2_with fail
     all_goals first | (exfalso;omega) | skip
     go_ret;exact⟨zd hR.out.symm,zN w _⟩
   have hF:=zH (J6 r.n (by omega) (by omega));have Ax:=pow_le (n:=r.n) (by omega);obtain⟨F,MA⟩:∃F:Nat,(2^r.n.toNat-1:Nat)=F:=⟨_,rfl⟩;rw[MA] at h3 h4 h5 hF Ax
   by_cases ho:x<0\/(F:Int)<x
   . have he:=h3.out hp ho
     have hR:=zH (aj.out.trans ((aF.out (by rw[he];decide)).trans he))
     by_cases ot:x<0
     . clear ho
       go_wp2_with fail
       all_goals first | (exfalso;omega) | skip
       go_ret;exact⟨zd hR.out.symm,zN w _⟩
     have oo:(F:Int)<x:=by omega
     go_wp2_with (go_at_call 183;refine(hF.out _).mono ?_;rintro e w' ⟨rfl,rfl⟩)
     all_goals first | (exfalso;omega) | skip
     go_ret;exact⟨zd hR.out.symm,zN w _⟩
   obtain⟨m,rfl⟩:=Lr (show 0<=x by omega);have hm:m<32:=by omega
   have Sx:=bit_zero hm aa;have ot:¬((m:Int)<0):=by omega
   have oo:¬((F:Int)<(m:Int)):=by omega
   by_cases hb:m.testBit k=Ar
   . have hR:=zH (aj.out.trans (aB.out (h4.out hp ho (by simpa using hb))))
     rw[hb] at Sx;go_wp2_with (go_at_call 183;refine(hF.out _).mono ?_;rintro e w' ⟨rfl,rfl⟩)
     all_goals first | (exfalso;omega) | skip
     go_round
     case rel=>exact⟨k+1,by omega,by go_num,hR⟩
     simp[Ao];omega
   have dn:m.testBit k=As:=by simpa using hb
   have he:=h5.out hp ho (by simpa using dn);have hR:=zH (aj.out.trans ((aF.out (by rw[he];decide)).trans he));rw[dn] at Sx;go_wp2_with (go_at_call 183;refine(hF.out _).mono ?_;rintro e w' ⟨rfl,rfl⟩)
   all_goals first | (exfalso;omega) | skip
   go_ret;exact⟨zd hR.out.symm,zN w _⟩
 obtain rfl:k=5:=by omega
 have hR:Ap (E=0):=aj.out;go_wp2_with fail;go_ret;exact⟨zd hR.out.symm,zN w _⟩
theorem kI(r:Rd)(k:Nat)(hk:k<5):r.gcells[1+k]?=J (O U (r.h k)):=by
 obtain rfl | rfl | rfl | rfl | rfl:k=0\/k=1\/k=2\/k=3\/k=4:=by omega
 all_goals rfl
theorem Yy(r:Rd)(w:Ba):An Al 180 #[.agg r.gcells] w fun e w'=>e=Ak (O U (yn r))/\Am w.heap.size w w':=by
 have aq:=zH (@j7 r);have ai:=zH (@wP r);obtain⟨E,hE⟩:=Kh (yn r);rw[hE] at aq ai ⊢;have du:=zH (fun k hk=>za (zj w (Ag r.gcells 66)) (1+k) (kI r k hk));unfold Rd.gcells at du ⊢
 by_cases hr:r.n<1\/5<r.n
 . have HR:=zH (aq.out hr)
   have HN:=zH hr;go_enter func180,ntmps180;go_wp2_with fail
   all_goals first | (exfalso;have:=HN.out;omega) | (go_ret;exact⟨zd HR.out.symm,zN w _⟩)
 have r1:¬r.n<1:=by omega
 have r2:¬5<r.n:=by omega
 have HE:=zH (ai.out hr);go_enter func180,ntmps180;go_wp2_with fail
 all_goals first | (exfalso;omega) | skip
 obtain⟨W0,ch⟩:=Kh (w.alloc (Ag #[O U r.n,O U r.h0,O U r.h1,O U r.h2,O U r.h3,O U r.h4] 66));have ly:W0.heap[w.heap.size]?=J (Ag #[O U r.n,O U r.h0,O U r.h1,O U r.h2,O U r.h3,O U r.h4] 66 (0,0)):=by rw[<-ch];exact zj _ _
 have HB:=zH (show Am w.heap.size w W0 by rw[<-ch];exact zN w _);have q0:=za ly 0 rfl;rw[ch] at du ⊢
 go_loop [3] (fun i=>∃k:Nat,k<=5/\i=O U (k:Int)/\Ap (E=yh r (5-k) k)) (fun i=>5-(Ao i).toNat)
 case atStart=>exact⟨0,by omega,rfl,HE⟩
 obtain⟨k,hk,rfl,aj⟩:=hrel
 by_cases aa:k<5
 . have hx:=du.out k aa
   have aF:=zH (@Zi r k aa);have aB:=zH (@Y4 r k aa);have h1:=zH (@wO r.n (r.h k) k);have h2:=zH (@wN r.n k);have h3:=zH (@Zk r.n (r.h k) k);have h4:=zH (@Zj r.n (r.h k) k);have h5:=zH (@Y5 r.n (r.h k) k);obtain⟨x,tR⟩:=Kh (r.h k);rw[tR] at hx aF aB h1 h3 h4 h5
   by_cases hp:r.n<=(k:Int)
   . by_cases hz:x=0
     . subst hz
       have hR:=zH (aj.out.trans (aB.out (h2.out hp)));go_wp2_with fail
       all_goals first | (exfalso;omega) | skip
       go_round
       case rel=>exact⟨k+1,by omega,by go_num,hR⟩
       simp[Ao];omega
     have he:=h1.out hp hz;have hR:=zH (aj.out.trans ((aF.out (by rw[he];decide)).trans he));have e0:(x != 0)=Ar:=by simpa using hz
     go_wp2_with fail
     all_goals first | (exfalso;omega) | skip
     go_ret;exact⟨zd hR.out.symm,HB.out⟩
   have hF:=zH (wj r.n (by omega) (by omega));have Ax:=pow_le (n:=r.n) (by omega);obtain⟨F,MA⟩:∃F:Nat,(2^r.n.toNat-1:Nat)=F:=⟨_,rfl⟩;rw[MA] at h3 h4 h5 hF Ax
   by_cases ho:x<0\/(F:Int)<x
   . have he:=h3.out hp ho
     have hR:=zH (aj.out.trans ((aF.out (by rw[he];decide)).trans he))
     by_cases ot:x<0
     . clear ho
       go_wp2_with fail
       all_goals first | (exfalso;omega) | skip
       go_ret;exact⟨zd hR.out.symm,HB.out⟩
     have oo:(F:Int)<x:=by omega
     go_wp2_with (go_at_call 97;refine(hF.out _).mono ?_;rintro e w' ⟨rfl,fi⟩;obtain rfl:=fi.symm)
     all_goals first | (exfalso;omega) | skip
     go_ret;exact⟨zd hR.out.symm,HB.out⟩
   obtain⟨m,rfl⟩:=Lr (show 0<=x by omega);have hm:m<32:=by omega
   have ot:¬((m:Int)<0):=by omega
   have oo:¬((F:Int)<(m:Int)):=by omega
   have hH:=zH (fun w=>kX m k hm aa w)
   by_cases hb:m.testBit k=Ar
   . have hR:=zH (aj.out.trans (aB.out (h4.out hp ho (by simpa using hb))))
     rw[hb] at hH;go_wp2_with (first | (go_at_call 97;refine(hF.out _).mono ?_;rintro e w' ⟨rfl,fi⟩;obtain rfl:=fi.symm) | (go_at_call 53;refine(hH.out _).mono ?_;rintro e w' ⟨rfl,rfl⟩))
     all_goals first | (exfalso;omega) | skip
     go_round
     case rel=>exact⟨k+1,by omega,by go_num,hR⟩
     simp[Ao];omega
   have dn:m.testBit k=As:=by simpa using hb
   have he:=h5.out hp ho (by simpa using dn);have hR:=zH (aj.out.trans ((aF.out (by rw[he];decide)).trans he));rw[dn] at hH;go_wp2_with (first | (go_at_call 97;refine(hF.out _).mono ?_;rintro e w' ⟨rfl,fi⟩;obtain rfl:=fi.symm) | (go_at_call 53;refine(hH.out _).mono ?_;rintro e w' ⟨rfl,rfl⟩))
   all_goals first | (exfalso;omega) | skip
   go_ret;exact⟨zd hR.out.symm,HB.out⟩
 obtain rfl:k=5:=by omega
 have hR:Ap (E=0):=aj.out;go_wp2_with fail;go_ret;exact⟨zd hR.out.symm,HB.out⟩
theorem jX{r:Rd}(h:yn r≠0):zS r=yn r:=Lo h
theorem wg{r:Rd}(h:yn r=0):zS r=yS r.n r.f:=Li (by simpa using h)
theorem we(r:Rd)(w:Ba):An Al 167 #[.agg r.cells] w fun e w'=>e=Ak (O U (zS r))/\Am w.heap.size w w':=by
 have aq:=zH (@jX r);have ai:=zH (@wg r);have HG:=zH (fun w=>Qo r w);have HS:=zH (fun w=>check_any r.n r.f w);obtain⟨E,hE⟩:=Kh (zS r);rw[hE] at aq ai ⊢;obtain⟨g,hg⟩:=Kh (yn r);rw[hg] at aq ai HG;obtain⟨s,hs⟩:=Kh (yS r.n r.f);rw[hs] at ai HS;unfold Rd.cells;unfold Rd.gcells at HG;go_enter func167,ntmps167;go_wp2_with fail;obtain⟨W0,ch⟩:=Kh (w.alloc (Ag #[O U r.n,O U r.h0,O U r.h1,O U r.h2,O U r.h3,O U r.h4,O U r.f] 68));have ly:W0.heap[w.heap.size]?=J (Ag #[O U r.n,O U r.h0,O U r.h1,O U r.h2,O U r.h3,O U r.h4,O U r.f] 68 (0,0)):=by rw[<-ch];exact zj _ _
 have hB:Am w.heap.size w W0:=by rw[<-ch];exact zN w _
 have oD:=zc ly;rw[ch];refine(HG.out W0).mono ?_;rintro e w1 ⟨rfl,aH⟩;have HB:=zH (Lc hB aH);have d0:=Lb aH oD ly;have q0:=za d0 0 rfl;have q6:=za d0 6 rfl
 by_cases h0:g=0
 . subst h0
   have hR:=zH (ai.out (by simp));go_wp2_with fail;refine(HS.out _).mono ?_;rintro e w2 ⟨rfl,rfl⟩;go_wp2_with fail;go_ret;exact⟨zd hR.out.symm,HB.out⟩
 have hR:=zH (aq.out h0);have e0:(g != 0)=Ar:=by simpa using h0
 go_wp2_with fail;go_ret;exact⟨zd hR.out.symm,HB.out⟩
theorem ut(r:Rd)(w:Ba):An Al 173 #[.agg r.cells] w fun e w'=>e=Ak (O U (zS r))/\Am w.heap.size w w':=by
 have aq:=zH (@jX r);have ai:=zH (@wg r);have HG:=zH (fun w=>Yy r w);have HS:=zH (fun w=>XP r.n r.f w);obtain⟨E,hE⟩:=Kh (zS r);rw[hE] at aq ai ⊢;obtain⟨g,hg⟩:=Kh (yn r);rw[hg] at aq ai HG;obtain⟨s,hs⟩:=Kh (yS r.n r.f);rw[hs] at ai HS;unfold Rd.cells;unfold Rd.gcells at HG;go_enter func173,ntmps173;go_wp2_with fail;obtain⟨W0,ch⟩:=Kh (w.alloc (Ag #[O U r.n,O U r.h0,O U r.h1,O U r.h2,O U r.h3,O U r.h4,O U r.f] 68));have ly:W0.heap[w.heap.size]?=J (Ag #[O U r.n,O U r.h0,O U r.h1,O U r.h2,O U r.h3,O U r.h4,O U r.f] 68 (0,0)):=by rw[<-ch];exact zj _ _
 have hB:Am w.heap.size w W0:=by rw[<-ch];exact zN w _
 have oD:=zc ly;rw[ch];refine(HG.out W0).mono ?_;rintro e w1 ⟨rfl,aH⟩;have HB:=zH (Lc hB aH);have d0:=Lb aH oD ly;have q0:=za d0 0 rfl;have q6:=za d0 6 rfl
 by_cases h0:g=0
 . subst h0
   have hR:=zH (ai.out (by simp));go_wp2_with fail;refine(HS.out _).mono ?_;rintro e w2 ⟨rfl,rfl⟩;go_wp2_with fail;go_ret;exact⟨zd hR.out.symm,HB.out⟩
 have hR:=zH (aq.out h0);have e0:(g != 0)=Ar:=by simpa using h0
 go_wp2_with fail;go_ret;exact⟨zd hR.out.symm,HB.out⟩
theorem yr(w:Ba)(c1 c2:Array Aq)(t1 t2:TypeId):∃W0,(w.alloc (Ag c1 t1)).alloc (Ag c2 t2)=W0/\W0.heap[w.heap.size]?=J (Ag c1 t1 (0,0))/\W0.heap[w.heap.size+1]?=J (Ag c2 t2 (0,0))/\w.heap.size+2<=W0.heap.size/\Am w.heap.size w W0:=
 ⟨_,rfl,yo (zj _ _) _,by have:=zj (w.alloc (Ag c1 t1)) (Ag c2 t2);rwa[Nm] at this,by simp,qt w _ _⟩
theorem jD{x y:Int}{l m:List Int}:zm (x::l) (y::m)=if qT x y≠0 then qT x y else zm l m:=by
 rw[zm];unfold qT
 by_cases h1:x<y
 . simp[h1]
 by_cases h2:y<x
 . simp[h1,h2]
 simp[h1,h2]
theorem uA{r:Rd}{k:Nat}(hk:k<5):r.gl.drop (k+1)=r.h k::r.gl.drop (k+2):=by
 obtain rfl | rfl | rfl | rfl | rfl:k=0\/k=1\/k=2\/k=3\/k=4:=by omega
 all_goals rfl
theorem gl_step{a b:Rd}{k:Nat}(hk:k<5):zm (a.gl.drop (k+1)) (b.gl.drop (k+1))=if qT (a.h k) (b.h k)≠0 then qT (a.h k) (b.h k) else zm (a.gl.drop (k+2)) (b.gl.drop (k+2)):=by
 rw[uA hk,uA hk,jD]
theorem gl_zero{a b:Rd}:zm a.gl b.gl=if qT a.n b.n≠0 then qT a.n b.n else zm (a.gl.drop 1) (b.gl.drop 1):=jD
theorem QY{a b:Rd}:zm a.l b.l=if zm a.gl b.gl≠0 then zm a.gl b.gl else qT a.f b.f:=by
 unfold Rd.l Rd.gl;simp only[jD]
 repeat' split
 all_goals first | rfl | (simp_all [zm];done) | (exfalso;simp_all [zm];done)
theorem cmpI_zero{x y:Int}(h:qT x y=0):x=y:=by
 unfold qT at h
 split at h
 . cases h
 split at h
 . cases h
 omega
theorem cmpI_self(x:Int):qT x x=0:=by unfold qT;rw[Li (by omega),Li (by omega)]
theorem Z2(a b:Rd)(w:Ba):An Al 179 #[.agg a.gcells,.agg b.gcells] w fun e w'=>e=Ak (O U (zm a.gl b.gl))/\∃W0 n,w'=World.drewN W0 n/\W0=(w.alloc (Ag a.gcells 66)).alloc (Ag b.gcells 66):=by
 have HQ:=zH (fun w=>eql_graph a b w);have H0:=zH (@gl_zero a b);have HS:Ap (a.gl=b.gl->zm a.gl b.gl=0):=fun h=>by rw[h];exact yM _
 obtain⟨E,hE⟩:=Kh (zm a.gl b.gl);rw[hE] at H0 HS ⊢;have mR:=zH (fun k hk=>za (yo (zj w (Ag a.gcells 66)) (Ag b.gcells 66)) (1+k) (kI a k hk));have eF:=zH (fun k hk=>za (zj (w.alloc (Ag a.gcells 66)) (Ag b.gcells 66)) (1+k) (kI b k hk));rw[Nm] at eF;have HX:Ap (∃W0,W0=(w.alloc (Ag a.gcells 66)).alloc (Ag b.gcells 66)):=⟨_,rfl⟩;unfold Rd.gcells at HQ mR eF HX ⊢
 by_cases he:a.gl=b.gl
 . have hq:∀w,_:=fun w=>HQ.out w
   rw[Lm he] at hq;have hR:=zH (HS.out he);go_enter func179,ntmps179;go_wp2_with fail;go_ret;exact⟨zd hR.out.symm,_,0,rfl,rfl⟩
 have hq:∀w,_:=fun w=>HQ.out w
 rw[Ln he] at hq;clear HQ HS he;have HN:=zH (fun w=>uD a.n b.n w);obtain⟨cn,fl⟩:=Kh (qT a.n b.n);have KW:Ap (cn=0↔a.n=b.n):=by rw[<-fl];exact⟨cmpI_zero,fun h=>by rw[h];exact cmpI_self _⟩
 rw[fl] at H0 HN;clear fl
 by_cases hn:a.n=b.n
 . have EV:cn=0:=KW.out.2 hn
   subst EV;have HE:=zH (H0.out.trans (Li (by simp)));have e0:(a.n != b.n)=As:=by simpa using hn
   clear H0 HN KW hn;go_enter func179,ntmps179;go_wp2_with fail;obtain⟨W0,ch⟩:=HX.out;rw[<-ch] at mR eF ⊢;clear HX hq e0;have fq:=zH ch;clear ch
   go_loopw [20] (fun i wr=>∃k n:Nat,k<=5/\i=O U (k:Int)/\Ap (E=zm (a.gl.drop (k+1)) (b.gl.drop (k+1)))/\wr=W0.drewN n) (fun i _=>5-(Ao i).toNat)
   case atStart=>exact⟨0,0,by omega,rfl,HE,rfl⟩
   obtain⟨k,n,hk,rfl,aj,rfl⟩:=hrel;clear HE
   by_cases aa:k<5
   . have c1:=mR.out k aa
     have c2:=eF.out k aa;have hs:=zH (aj.out.trans (gl_step aa));have HC:=zH (fun (p:Nat)=>(uD (a.h k) (b.h k) (W0.drewN p)));obtain⟨x,hx⟩:=Kh (a.h k);obtain⟨y,hy⟩:=Kh (b.h k);rw[hx] at c1 hs HC;rw[hy] at c2 hs HC;obtain⟨cv,nH⟩:=Kh (qT x y);rw[nH] at hs HC;clear hx hy nH aj
     by_cases hz:cv=0
     . subst hz
       have hR:=zH (hs.out.trans (Li (by simp)));clear hs;go_wp2_with fail;go_quiet ((go_at_call 142;exact(HC.out _).mono fun e w' h=>⟨h.1,_,h.2.symm⟩));go_wp2_with fail
       go_roundw
       case rel=>exact⟨k+1,_,by omega,by go_num,hR,rfl⟩
       simp[Ao];omega
     have hR:=zH (hs.out.trans (Lo hz));have e0:(cv != 0)=Ar:=by simpa using hz
     clear hs hz;go_wp2_with fail;go_quiet ((go_at_call 142;exact(HC.out _).mono fun e w' h=>⟨h.1,_,h.2.symm⟩));go_wp2_with fail;go_ret;exact⟨zd hR.out.symm,W0,_,by first | rfl | exact(PM ..),fq.out⟩
   obtain rfl:k=5:=by omega
   have hR:Ap (E=0):=aj.out;clear aj;go_wp2_with fail;go_ret;exact⟨zd hR.out.symm,W0,_,rfl,fq.out⟩
 have EV:¬cn=0:=fun h=>hn (KW.out.1 h)
 have HE:=zH (H0.out.trans (Lo EV));have e0:(a.n != b.n)=Ar:=by simpa using hn
 go_enter func179,ntmps179;go_wp2_with fail;refine(HN.out _).mono ?_;rintro e w1 ⟨rfl,rfl⟩;go_wp2_with fail;go_ret;exact⟨zd HE.out.symm,_,0,rfl,rfl⟩
theorem J7(a b:Rd)(w:Ba):An Al 179 #[.agg a.gcells,.agg b.gcells] w fun e w'=>e=Ak (O U (zm a.gl b.gl))/\Am w.heap.size w w':=
 (Z2 a b w).mono fun e w' ⟨h1,W0,n,h2,h3⟩=>⟨h1,by rw[h2,h3];exact zO (qt w _ _) n⟩
theorem gC(a b:Rd)(w:Ba):An Al 168 #[.agg a.cells,.agg b.cells] w fun e w'=>e=Ak (O U (zm a.l b.l))/\Am w.heap.size w w':=by
 have HQ:=zH (fun w=>eql_round a b w);have HN:=zH (fun w=>JO a b w);have HS:=zH (@QY a b);have HZ:Ap (a=b->zm a.l b.l=0):=fun h=>by rw[h];exact yM _
 have HG:=zH (fun w=>J7 a b w);have HF:=zH (fun w=>uD a.f b.f w);have H7:Ap (a.gl=b.gl↔zm a.gl b.gl=0):=⟨fun h=>by rw[h];exact yM _,xR⟩;obtain⟨E,hE⟩:=Kh (zm a.l b.l);rw[hE] at HS HZ ⊢;obtain⟨g,hg⟩:=Kh (zm a.gl b.gl);rw[hg] at HS HG H7;obtain⟨c,hc⟩:=Kh (qT a.f b.f);rw[hc] at HS HF;unfold Rd.gcells at HN HG;unfold Rd.cells at HQ ⊢
 by_cases he:a=b
 . have hq:∀w,_:=fun w=>HQ.out w
   rw[Lm he] at hq;have hR:=zH (HZ.out he);clear HQ HN HS HZ HG HF H7 he;go_enter func168,ntmps168;go_wp2_with fail;go_ret;exact⟨zd hR.out.symm,qt w _ _⟩
 have hq:∀w,_:=fun w=>HQ.out w
 rw[Ln he] at hq
 by_cases dx:a.gl=b.gl
 . have hn:∀w,_:=fun w=>HN.out w
   rw[show decide (a.gl≠b.gl)=As by simpa using dx] at hn;have hR:=zH (HS.out.trans (Li (by simpa using H7.out.1 dx)));go_enter func168,ntmps168;go_wp2_with fail;refine(HF.out _).mono ?_;rintro e w1 ⟨rfl,rfl⟩;go_wp2_with fail;go_ret;exact⟨zd hR.out.symm,qt w _ _⟩
 have hn:∀w,_:=fun w=>HN.out w
 rw[show decide (a.gl≠b.gl)=Ar by simpa using dx] at hn;have hR:=zH (HS.out.trans (Lo (fun h=>dx (H7.out.2 h))));go_enter func168,ntmps168;go_wp2_with fail;refine(HG.out _).mono ?_;rintro e w1 ⟨rfl,hb⟩;have HB:=zH ((qt w (Ag #[O U a.n,O U a.h0,O U a.h1,O U a.h2,O U a.h3,O U a.h4,O U a.f] 68) (Ag #[O U b.n,O U b.h0,O U b.h1,O U b.h2,O U b.h3,O U b.h4,O U b.f] 68)).trans (hb.mono (by simp;omega)));go_wp2_with fail;go_ret;exact⟨zd hR.out.symm,HB.out⟩
theorem XN(a b:Rd)(w:Ba):An Al 182 #[.agg a.gcells,.agg b.gcells] w fun e w'=>e=Ak (O U (zm a.gl b.gl))/\Am w.heap.size w w':=by
 have H0:Ap (zm a.gl b.gl=if a.n<b.n then -1 else if b.n<a.n then 1 else zm (a.gl.drop 1) (b.gl.drop 1)):=rfl;obtain⟨E,hE⟩:=Kh (zm a.gl b.gl);rw[hE] at H0 ⊢;have mR:=zH (fun k hk=>za (yo (zj w (Ag a.gcells 66)) (Ag b.gcells 66)) (1+k) (kI a k hk));have eF:=zH (fun k hk=>za (zj (w.alloc (Ag a.gcells 66)) (Ag b.gcells 66)) (1+k) (kI b k hk));rw[Nm] at eF;have HX:Ap (∃W0,W0=(w.alloc (Ag a.gcells 66)).alloc (Ag b.gcells 66)):=⟨_,rfl⟩;unfold Rd.gcells at mR eF HX ⊢;clear hE
 by_cases h1:a.n<b.n
 . have hR:=zH (H0.out.trans (Lo h1))
   clear H0 mR eF HX;go_enter func182,ntmps182;go_wp2_with fail;go_ret;exact⟨zd hR.out.symm,qt w _ _⟩
 by_cases h2:b.n<a.n
 . have hR:=zH (H0.out.trans ((Li h1).trans (Lo h2)))
   clear H0 mR eF HX;go_enter func182,ntmps182;go_wp2_with fail
   all_goals first | (exfalso;omega) | skip
   go_ret;exact⟨zd hR.out.symm,qt w _ _⟩
 have HE:=zH (H0.out.trans ((Li h1).trans (Li h2)));clear H0;go_enter func182,ntmps182;go_wp2_with fail
 all_goals first | (exfalso;omega) | skip
 obtain⟨W0,ch⟩:=HX.out;rw[<-ch] at mR eF ⊢;clear HX;have fq:=zH (show Am w.heap.size w W0 by rw[ch];exact qt w _ _);clear ch
 go_loopw [5] (fun i wr=>∃k n:Nat,k<=5/\i=O U (k:Int)/\Ap (E=zm (a.gl.drop (k+1)) (b.gl.drop (k+1)))/\wr=W0.drewN n) (fun i _=>5-(Ao i).toNat)
 case atStart=>exact⟨0,0,by omega,rfl,HE,rfl⟩
 obtain⟨k,n,hk,rfl,aj,rfl⟩:=hrel;clear HE
 by_cases aa:k<5
 . have c1:=mR.out k aa
   have c2:=eF.out k aa;have hs:E=if a.h k<b.h k then -1 else if b.h k<a.h k then 1 else zm (a.gl.drop (k+1+1)) (b.gl.drop (k+1+1)):=by rw[aj.out,uA aa,uA aa,zm]
   obtain⟨x,hx⟩:=Kh (a.h k);obtain⟨y,hy⟩:=Kh (b.h k);rw[hx] at c1 hs;rw[hy] at c2 hs;have HS:=zH hs;clear hx hy aj hs
   by_cases l1:x<y
   . have hR:=zH (HS.out.trans (Lo l1))
     clear HS;go_wp2_with fail;go_quiet (fail);go_wp2_with fail;go_ret;exact⟨zd hR.out.symm,by repeat (first | exact fq.out | refine zO ?_ _)⟩
   by_cases l2:y<x
   . have hR:=zH (HS.out.trans ((Li l1).trans (Lo l2)))
     clear HS;go_wp2_with fail;go_quiet (fail);go_wp2_with fail;go_quiet (fail);go_wp2_with fail;go_ret;exact⟨zd hR.out.symm,by repeat (first | exact fq.out | refine zO ?_ _)⟩
   have hR:=zH (HS.out.trans ((Li l1).trans (Li l2)));clear HS;go_wp2_with fail;go_quiet (fail);go_wp2_with fail;go_quiet (fail);go_wp2_with fail
   go_roundw
   case rel=>exact⟨k+1,_,by omega,by go_num,hR,rfl⟩
   simp[Ao];omega
 obtain rfl:k=5:=by omega
 have hR:Ap (E=0):=aj.out;clear aj;go_wp2_with fail;go_ret;exact⟨zd hR.out.symm,by repeat (first | exact fq.out | refine zO ?_ _)⟩
theorem uW(a b:Rd)(w:Ba):An Al 174 #[.agg a.cells,.agg b.cells] w fun e w'=>e=Ak (O U (zm a.l b.l))/\Am w.heap.size w w':=by
 have HS:=zH (@QY a b);have HG:=zH (fun w=>XN a b w);have HF:Ap (qT a.f b.f=if a.f<b.f then -1 else if b.f<a.f then 1 else 0):=rfl;obtain⟨E,hE⟩:=Kh (zm a.l b.l);rw[hE] at HS ⊢;obtain⟨g,hg⟩:=Kh (zm a.gl b.gl);rw[hg] at HS HG;rw[HF.out] at HS;unfold Rd.gcells at HG;unfold Rd.cells;go_enter func174,ntmps174;go_wp2_with fail;obtain⟨W0,ch,b0,b1,hsz,bX⟩:=yr w #[O U a.n,O U a.h0,O U a.h1,O U a.h2,O U a.h3,O U a.h4,O U a.f] #[O U b.n,O U b.h0,O U b.h1,O U b.h2,O U b.h3,O U b.h4,O U b.f] 68 68;rw[ch];refine(HG.out W0).mono ?_;rintro e w1 ⟨rfl,aH⟩;have HB:=zH (Lc bX aH);have d0:=Lb aH (by omega) b0;have d1:=Lb aH (by omega) b1;have q6:=za d0 6 rfl;have p6:=za d1 6 rfl
 by_cases h0:g=0
 . subst h0
   have hR:=zH (HS.out.trans (Li (by simp)))
   by_cases l1:a.f<b.f
   . have hR:=zH (hR.out.trans (Lo l1))
     go_wp2_with fail;go_ret;exact⟨zd hR.out.symm,HB.out⟩
   by_cases l2:b.f<a.f
   . have hR:=zH (hR.out.trans ((Li l1).trans (Lo l2)))
     go_wp2_with fail
     all_goals first | (exfalso;omega) | skip
     go_ret;exact⟨zd hR.out.symm,HB.out⟩
   have hR:=zH (hR.out.trans ((Li l1).trans (Li l2)));go_wp2_with fail
   all_goals first | (exfalso;omega) | skip
   go_ret;exact⟨zd hR.out.symm,HB.out⟩
 have hR:=zH (HS.out.trans (Lo h0));have e0:(g != 0)=Ar:=by simpa using h0
 go_wp2_with fail;go_ret;exact⟨zd hR.out.symm,HB.out⟩
end
section
open Go.RowKit
attribute [local go_sem] Oper.semAt_some
def LowA(a:Ad):Prop:=a.sts.length<=17592186044416/\∀l∈a.sts,l.length<=17592186044416
theorem ad_eq{a b:Ad}(h1:a.n=b.n)(h2:a.sts=b.sts):a=b:=by cases a;cases b;simp_all
theorem XK(a b:Ad)(ha:LowA a)(hb:LowA b)(A B:Bb)(ca cb:Nat)(w:Ba)(hA:SAt w w.heap.size A a.sts)(hB:SAt w w.heap.size B b.sts) :
  An Al 161 #[Ai #[O U a.n,I A a.sts.length ca],Ai #[O U b.n,I B b.sts.length cb]] w fun e w'=>e=Ak (Ah (decide (a=b)))/\Am w.heap.size w w':=by
 obtain⟨dL,iN⟩:=ha;obtain⟨aH,af⟩:=hb;have tw:=zH iN;have sr:=zH af;obtain⟨w1,ac,d0,d1,aA,bZ⟩:=yr w #[O U a.n,I A a.sts.length ca] #[O U b.n,I B b.sts.length cb] 27 27;have HA:=zH ((hA.keep bZ).more bZ.size);have HB:=zH ((hB.keep bZ).more bZ.size);have bg:=zH bZ;have bD:=zH d0;have cH:=zH d1;have ah:=zH ac;obtain⟨p0,p1,_⟩:=Ka d0;obtain⟨q0,q1,_⟩:=Ka d1;clear ac d0 d1 bZ hA hB iN af;have HT:Ap (a≠b->decide (a=b)=As):=fun h=>Ln h
 have HU:Ap (a=b->decide (a=b)=Ar):=fun h=>Lm h
 obtain⟨r,hr⟩:∃r,decide (a=b)=r:=⟨_,rfl⟩;rw[hr] at HT HU ⊢;clear hr;go_enter func161,ntmps161
 by_cases h1:a.n=b.n
 case neg=>
  have hR:=zH (HT.out (fun h=>h1 (congrArg Ad.n h)));have e0:(a.n != b.n)=Ar:=by simpa using h1
  clear HT HU;go_wp2_with fail;rw[ah.out];go_wp2_with fail
  all_goals
   go_ret;exact⟨ze hR.out.symm,bg.out⟩
 case pos=>
 have H3:Ap (a.sts=b.sts->r=Ar):=fun h=>HU.out (ad_eq h1 h)
 have H4:Ap (a.sts≠b.sts->r=As):=fun h=>HT.out (fun e=>h (congrArg Ad.sts e))
 rw[h1] at p0 ah bD ⊢;clear h1 HT HU
 by_cases h3:a.sts.length=b.sts.length
 case neg=>
  have hR:=zH (H4.out (fun h=>h3 (by rw[h])));have e0:((a.sts.length:Int) != (b.sts.length:Int))=Ar:=by simp;omega
  have e1:¬((a.sts.length:Int)=(b.sts.length:Int)):=by omega
  clear H3 H4 h3;go_wp2_with fail;rw[ah.out];go_wp2_with fail;go_ret;exact⟨ze hR.out.symm,bg.out⟩
 case pos=>
 have HL:=zH h3;rw[<-h3] at q1 aH ah cH ⊢;clear h3;go_wp2_with fail;rw[ah.out];go_wp2_with fail;clear p0 p1 q0 q1 ah
 go_loopw [5] (fun i wr=>∃k:Nat,k<=a.sts.length/\i=O U (k:Int)/\Ap (a.sts.take k=b.sts.take k)/\Ap (Am w1.heap.size w1 wr)) (fun i _=>a.sts.length-(Ao i).toNat)
 case atStart=>exact⟨0,by omega,rfl,by rw[Ap,LI,LI],Ll _ _⟩
 obtain⟨k,hk,rfl,hp,az⟩:=hrel;have p1:=za (La az.out bD.out) 1 rfl;have q1:=za (La az.out cH.out) 1 rfl;have Og:=HL.out
 by_cases aa:k<a.sts.length
 case neg=>
  obtain rfl:k=a.sts.length:=by omega
  have hR:=zH (H3.out (xQ HL.out hp.out));clear H3 H4 hp;go_wp2_with fail;go_ret;exact⟨ze hR.out.symm,Lc bg.out az.out⟩
 case pos=>
 have eq:k<b.sts.length:=by omega
 obtain⟨ba,oa,A',k1,ea,GP,a0,IA⟩:=(HA.out.keep az.out).at_ k aa;obtain⟨bb,ob,B',k2,eb,aM,b0,IB⟩:=(HB.out.keep az.out).at_ k eq;subst ea;subst eb;have lj:=tw.out _ (Ld aa);have fh:=sr.out _ (Ld eq);have h0:Ap (a.sts[k]=b.sts[k]->a.sts.take (k+1)=b.sts.take (k+1)):=fun he=>yH hp.out aa eq he
 have hN:Ap (a.sts[k]≠b.sts[k]->r=As):=fun he=>H4.out (fun h=>he (by simp only[h]))
 obtain⟨X,hX⟩:=Kh (a.sts[k]);obtain⟨Y,hY⟩:=Kh (b.sts[k]);rw[hX] at a0 IA lj h0 hN;rw[hY] at b0 IB fh h0 hN
 by_cases hl:X.length=Y.length
 case neg=>
  have hR:=zH (hN.out (fun h=>hl (by rw[h])));have e0:((X.length:Int) != (Y.length:Int))=Ar:=by simp;omega
  go_wp2_with fail;go_quiet (fail);go_wp2_with fail;go_ret;exact⟨ze hR.out.symm,zO (Lc bg.out az.out) _⟩
 case pos=>
 have eD:=zH hl;rw[<-hl] at b0 fh;have Sv:Ap (∀W,Am wr.heap.size wr W->W.cell? ⟨ba,oa+k,Z⟩=J (I A' X.length k1)):=fun W hW=>(hW.cell (p:=⟨ba,_,Z⟩) (Lx GP az.out.size)).trans a0
 have l6:Ap (∀W,Am wr.heap.size wr W->W.cell? ⟨bb,ob+k,Z⟩=J (I B' X.length k2)):=fun W hW=>(hW.cell (p:=⟨bb,_,Z⟩) (Lx aM az.out.size)).trans b0
 have Un:=zH (IA.more az.out.size);have Um:=zH (IB.more az.out.size);obtain⟨W0,ch⟩:=Kh wr;rw[ch] at az Sv l6 Un Um p1 q1 a0 b0 ⊢;have ft:=zH az.out.size;go_wp2_with fail;go_quiet (fail);go_wp2_with fail
 go_loopw [6] (fun i wx=>∃j:Nat,j<=X.length/\i=O U (j:Int)/\Ap (X.take j=Y.take j)/\Ap (Am W0.heap.size W0 wx)) (fun i _=>X.length-(Ao i).toNat)
 case atStart=>exact⟨0,by omega,rfl,by rw[Ap,LI,LI],zO (Ll _ _) _⟩
 obtain⟨j,hj,rfl,hq,aV⟩:=hrel;have di:=az.out.trans (aV.out.mono ft.out);have Cx:=zH di;have p1:=za (La di bD.out) 1 rfl;have q1:=za (La di cH.out) 1 rfl;have a0:=Sv.out _ aV.out;have b0:=l6.out _ aV.out;clear di
 by_cases bQ:j<X.length
 case neg=>
  obtain rfl:j=X.length:=by omega
  have hR:=zH (h0.out (xQ eD.out hq.out));clear h0 hN hq H3 H4;go_wp2_with fail
  go_roundw
  case rel=>exact⟨k+1,by omega,by go_num,hR,Cx⟩
  simp[Ao];omega
 case pos=>
 have Sa:j<Y.length:=by have:=eD.out;omega
 obtain⟨b3,o3,e3,_,x0,x1,x2,x3,x4,x5,x6,x7⟩:=(Un.out.keep aV.out).row j bQ;obtain⟨b4,o4,e4,_,y0,y1,y2,y3,y4,y5,y6,y7⟩:=(Um.out.keep aV.out).row j Sa;subst e3;subst e4;have hm:=fun W=>neq_move X[j] Y[j] W
 have g0:Ap (X[j]=Y[j]->X.take (j+1)=Y.take (j+1)):=fun he=>yH hq.out bQ Sa he
 have gN:Ap (X[j]≠Y[j]->r=As):=fun he=>hN.out (fun h=>he (by simp only[h]))
 obtain⟨m,CR⟩:=Kh (X[j]);obtain⟨m',RR⟩:=Kh (Y[j]);rw[CR] at x0 x1 x2 x3 x4 x5 x6 x7 hm g0 gN;rw[RR] at y0 y1 y2 y3 y4 y5 y6 y7 hm g0 gN;clear CR RR hq
 by_cases he:m=m'
 . have hR:=zH (g0.out he)
   rw[Ln (by simpa using he)] at hm;unfold Mv.cells at hm;subst he;clear g0 gN h0 hN H3 H4;go_wp2_with fail;go_quiet (fail);go_wp2_with fail
   go_roundw
   case rel=>exact⟨j+1,by omega,by go_num,hR,zO aV.out _⟩
   simp[Ao];omega
 have hR:=zH (gN.out he);rw[Lm (by simpa using he)] at hm;unfold Mv.cells at hm;clear g0 gN h0 hN H3 H4 he;go_wp2_with fail;go_quiet (fail);go_wp2_with fail;go_ret;exact⟨ze hR.out.symm,zO (Lc bg.out Cx.out) _⟩
end
end Go.Proofs.YtjjcgpfljidbhaaGreat
namespace Go.Proofs
set_option maxHeartbeats 4000000
open Go.Shelf
def Tryz.lays189_ren:Go.Shelf.Ren:=⟨fun | 189=>23 | 125=>65 | 257=>64 | 128=>115 | 129=>116 | 294=>106 | 295=>107 | 296=>108 | 297=>109 | 298=>110 | 299=>111 | 216=>112 | 300=>113 | 301=>114 | 328=>145 | 329=>146 | 330=>147 | 331=>148 | 332=>149 | 215=>150 | 343=>165 | n=>n,fun | 28=>30 | 3=>3 | 46=>84 | 0=>0 | 51=>136 | 53=>139 | 4=>4 | 183=>178 | 182=>177 | 131=>182 | 5=>5 | 9=>9 | 218=>209 | 222=>213 | 228=>230 | 229=>191 | n=>n,fun | n=>n⟩
theorem Tryz.lays189:Go.Proofs.Lays.n189 Tryz.prog Tryz.lays189_ren:={
 mixed:=by kernel_rfl
 f125:=Tryz.func65.trans (congrArg some (by kernel_rfl))
 f128:=Tryz.func115.trans (congrArg some (by kernel_rfl))
 f129:=Tryz.func116.trans (congrArg some (by kernel_rfl))
 f189:=Tryz.func23.trans (congrArg some (by kernel_rfl))
 f215:=Tryz.func150.trans (congrArg some (by kernel_rfl))
 f216:=Tryz.func112.trans (congrArg some (by kernel_rfl))
 f257:=Tryz.func64.trans (congrArg some (by kernel_rfl))
 f294:=Tryz.func106.trans (congrArg some (by kernel_rfl))
 f295:=Tryz.func107.trans (congrArg some (by kernel_rfl))
 f296:=Tryz.func108.trans (congrArg some (by kernel_rfl))
 f297:=Tryz.func109.trans (congrArg some (by kernel_rfl))
 f298:=Tryz.func110.trans (congrArg some (by kernel_rfl))
 f299:=Tryz.func111.trans (congrArg some (by kernel_rfl))
 f300:=Tryz.func113.trans (congrArg some (by kernel_rfl))
 f301:=Tryz.func114.trans (congrArg some (by kernel_rfl))
 f328:=Tryz.func145.trans (congrArg some (by kernel_rfl))
 f329:=Tryz.func146.trans (congrArg some (by kernel_rfl))
 f330:=Tryz.func147.trans (congrArg some (by kernel_rfl))
 f331:=Tryz.func148.trans (congrArg some (by kernel_rfl))
 f332:=Tryz.func149.trans (congrArg some (by kernel_rfl))
 f343:=Tryz.func165.trans (congrArg some (by kernel_rfl))
 t0:=Tryz.underlying0
 a0:=Tryz.isAgg0
 z0:=Tryz.sizeOf0
 v0:=Tryz.zeroValue0
 t3:=Tryz.underlying3
 a3:=Tryz.isAgg3
 z3:=Tryz.sizeOf3
 v3:=Tryz.zeroValue3
 t4:=Tryz.underlying4
 a4:=Tryz.isAgg4
 z4:=Tryz.sizeOf4
 v4:=Tryz.zeroValue4
 t5:=Tryz.underlying5
 a5:=Tryz.isAgg5
 z5:=Tryz.sizeOf5
 v5:=Tryz.zeroValue5
 t9:=Tryz.underlying9
 a9:=Tryz.isAgg9
 z9:=Tryz.sizeOf9
 v9:=Tryz.zeroValue9
 t28:=Tryz.underlying30
 a28:=Tryz.isAgg30
 z28:=Tryz.sizeOf30
 v28:=Tryz.zeroValue30
 t46:=Tryz.underlying84
 a46:=Tryz.isAgg84
 z46:=Tryz.sizeOf84
 v46:=Tryz.zeroValue84
 t51:=Tryz.underlying136
 a51:=Tryz.isAgg136
 z51:=Tryz.sizeOf136
 v51:=Tryz.zeroValue136
 t53:=Tryz.underlying139
 a53:=Tryz.isAgg139
 z53:=Tryz.sizeOf139
 v53:=Tryz.zeroValue139
 t131:=Tryz.underlying182
 a131:=Tryz.isAgg182
 z131:=Tryz.sizeOf182
 v131:=Tryz.zeroValue182
 t182:=Tryz.underlying177
 a182:=Tryz.isAgg177
 z182:=Tryz.sizeOf177
 v182:=Tryz.zeroValue177
 t183:=Tryz.underlying178
 a183:=Tryz.isAgg178
 z183:=Tryz.sizeOf178
 v183:=Tryz.zeroValue178
 t218:=Tryz.underlying209
 a218:=Tryz.isAgg209
 z218:=Tryz.sizeOf209
 v218:=Tryz.zeroValue209
 t222:=Tryz.underlying213
 a222:=Tryz.isAgg213
 z222:=Tryz.sizeOf213
 v222:=Tryz.zeroValue213
 t228:=Tryz.underlying230
 a228:=Tryz.isAgg230
 z228:=Tryz.sizeOf230
 v228:=Tryz.zeroValue230
 t229:=Tryz.underlying191
 a229:=Tryz.isAgg191
 z229:=Tryz.sizeOf191
 v229:=Tryz.zeroValue191 }
open Go.Sort Go.RowKit in
theorem Tryz.slices_Sort_int (blk off cap:Nat) (zs:List Int) (w:World) (hH:Holds (Value.int .i64) w blk off zs.toArray) (hblk:blk<w.heap.size) (hsz:zs.length<4611686018427387904) :
  Calls Tryz.prog 23 #[.slice (some ⟨blk,off,none⟩) zs.length cap] w fun e w'=>
   e=.returned (.tuple #[])∧∃n os,w'=grow (putRow (Value.int .i64) (Sort.ahead w n) blk off (zs.mergeSort fun x y=>decide (x≤y)).toArray) os:=Any.slices_Sort_int Tryz.lays189 blk off cap zs w hH hblk hsz
def Tryz.lays212_ren:Go.Shelf.Ren:=⟨fun | 212=>25 | 263=>66 | 264=>67 | n=>n,fun | 46=>84 | 51=>136 | 146=>137 | 53=>139 | 148=>140 | n=>n,fun | n=>n⟩
theorem Tryz.lays212:Go.Proofs.Lays.n212 Tryz.prog Tryz.lays212_ren:={
 mixed:=by kernel_rfl
 f212:=Tryz.func25.trans (congrArg some (by kernel_rfl))
 f263:=Tryz.func66.trans (congrArg some (by kernel_rfl))
 f264:=Tryz.func67.trans (congrArg some (by kernel_rfl))
 t46:=Tryz.underlying84
 a46:=Tryz.isAgg84
 z46:=Tryz.sizeOf84
 v46:=Tryz.zeroValue84
 t51:=Tryz.underlying136
 a51:=Tryz.isAgg136
 z51:=Tryz.sizeOf136
 v51:=Tryz.zeroValue136
 t53:=Tryz.underlying139
 a53:=Tryz.isAgg139
 z53:=Tryz.sizeOf139
 v53:=Tryz.zeroValue139
 t146:=Tryz.underlying137
 a146:=Tryz.isAgg137
 z146:=Tryz.sizeOf137
 v146:=Tryz.zeroValue137
 t148:=Tryz.underlying140
 a148:=Tryz.isAgg140
 z148:=Tryz.sizeOf140
 v148:=Tryz.zeroValue140 }
open Go.RowKit Go.Lib in
/-- math/bits.Mul: "Mul returns the full-width product of x and y": on a machine of 64 bits: Mul64's. (LAID: no walk: one application.) -/
theorem Tryz.bits_Mul (x y:Nat) (hx:x<18446744073709551616) (hy:y<18446744073709551616) (w:World) :
  Calls Tryz.prog 25 #[.int .u64 x,.int .u64 y] w fun e w'=>e=.returned (.tuple #[.int .u64 ((x*y / 18446744073709551616:Nat):Int),.int .u64 ((x*y % 18446744073709551616:Nat):Int)])∧w'=w:=Any.bits_Mul Tryz.lays212 x y hx hy w
def Tryz.lays107_ren:Go.Shelf.Ren:=⟨fun | 107=>10 | 108=>26 | n=>n,fun | 28=>30 | 3=>3 | 4=>4 | 0=>0 | n=>n,fun | n=>n⟩
theorem Tryz.lays107:Go.Proofs.Lays.n107 Tryz.prog Tryz.lays107_ren:={
 mixed:=by kernel_rfl
 f107:=Tryz.func10.trans (congrArg some (by kernel_rfl))
 f108:=Tryz.func26.trans (congrArg some (by kernel_rfl))
 t0:=Tryz.underlying0
 a0:=Tryz.isAgg0
 z0:=Tryz.sizeOf0
 v0:=Tryz.zeroValue0
 t3:=Tryz.underlying3
 a3:=Tryz.isAgg3
 z3:=Tryz.sizeOf3
 v3:=Tryz.zeroValue3
 t4:=Tryz.underlying4
 a4:=Tryz.isAgg4
 z4:=Tryz.sizeOf4
 v4:=Tryz.zeroValue4
 t28:=Tryz.underlying30
 a28:=Tryz.isAgg30
 z28:=Tryz.sizeOf30
 v28:=Tryz.zeroValue30 }
open Go.Lib in
/-- slices.Contains at []int: "Contains reports whether v is present in s.": IT RETURNS 'elements.contains v'; the world is as it was. ITS CALLEE slices.Index IS MET BY ITS OWN CONTRACT OFF THE SHELF (lay that first): no loop is walked here. (LAID: no walk: one application.) -/
theorem Tryz.slices_Contains_int (b off n c:Nat) (zs:List Int) (x:Int) (w:World) (hz:n≤zs.length) (hbig:n≤9223372036854775807) (hc:∀j,j<zs.length→w.cell? ⟨b,off+j,none⟩=some (.int .i64 (zs.getD j 0))) :
  Calls Tryz.prog 10 #[.slice (some ⟨b,off,none⟩) n c,.int .i64 x] w fun e w'=>e=.returned (.bool ((zs.take n).contains x))∧w'=w:=Any.slices_Contains_int Tryz.lays107 b off n c zs x w hz hbig hc
open Go.Lib in
/-- The same at a slice of length 0, a nil one too. (LAID: no walk: one application.) -/
theorem Tryz.slices_Contains_int_empty (a:Option Addr) (c:Nat) (x:Int) (w:World) :
  Calls Tryz.prog 10 #[.slice a 0 c,.int .i64 x] w fun e w'=>e=.returned (.bool false)∧w'=w:=Any.slices_Contains_int_empty Tryz.lays107 a c x w
def Tryz.lays111_ren:Go.Shelf.Ren:=⟨fun | 111=>119 | n=>n,fun | 28=>30 | 3=>3 | 4=>4 | 0=>0 | n=>n,fun | n=>n⟩
theorem Tryz.lays111:Go.Proofs.Lays.n111 Tryz.prog Tryz.lays111_ren:={
 mixed:=by kernel_rfl
 f111:=Tryz.func119.trans (congrArg some (by kernel_rfl))
 t0:=Tryz.underlying0
 a0:=Tryz.isAgg0
 z0:=Tryz.sizeOf0
 v0:=Tryz.zeroValue0
 t3:=Tryz.underlying3
 a3:=Tryz.isAgg3
 z3:=Tryz.sizeOf3
 v3:=Tryz.zeroValue3
 t4:=Tryz.underlying4
 a4:=Tryz.isAgg4
 z4:=Tryz.sizeOf4
 v4:=Tryz.zeroValue4
 t28:=Tryz.underlying30
 a28:=Tryz.isAgg30
 z28:=Tryz.sizeOf30
 v28:=Tryz.zeroValue30 }
open Go.RowKit Go.Lib in
/-- slices.Equal at []int: "Equal reports whether two slices are equal: the same length and all elements equal. If the lengths are different, Equal returns false. Otherwise, the elements are compared in increasing index order, and the comparison stops at the first unequal pair. Empty and nil slices are considered equal.": IT RETURNS WHETHER THE TWO LISTS OF ELEMENTS ARE ONE; the world is as it was but for the count of draws (the test 's1[i] != s2[i]' has two reads, whose order the model draws, once a round). 'xs', 'ys': what the cells yB the two addresses hold (the spare capacity too, if you have it); 'xs.take n', 'ys.take m': the elements. THE TWO SLICES MAY OVERLAP. (LAID: no walk: one application.) -/
theorem Tryz.slices_Equal_int (b1 o1 n c b2 o2 m d:Nat) (xs ys:List Int) (w:World) (hx:n≤xs.length) (hy:m≤ys.length) (hbig:n≤9223372036854775807) (hbig2:m≤9223372036854775807) (hc1:∀j,j<xs.length→w.cell? ⟨b1,o1+j,none⟩=some (.int .i64 (xs.getD j 0))) (hc2:∀j,j<ys.length→w.cell? ⟨b2,o2+j,none⟩=some (.int .i64 (ys.getD j 0))) :
  Calls Tryz.prog 119 #[.slice (some ⟨b1,o1,none⟩) n c,.slice (some ⟨b2,o2,none⟩) m d] w fun e w'=>e=.returned (.bool (xs.take n==ys.take m))∧∃q,w'=w.drewN q:=Any.slices_Equal_int Tryz.lays111 b1 o1 n c b2 o2 m d xs ys w hx hy hbig hbig2 hc1 hc2
open Go.RowKit Go.Lib in
/-- The same where the first is of length 0 (a nil one too): no cell is asked for. (LAID: no walk: one application.) -/
theorem Tryz.slices_Equal_int_empty (a1 a2:Option Addr) (c m d:Nat) (w:World) (hbig2:m≤9223372036854775807) :
  Calls Tryz.prog 119 #[.slice a1 0 c,.slice a2 m d] w fun e w'=>e=.returned (.bool (decide (m=0)))∧w'=w:=Any.slices_Equal_int_empty Tryz.lays111 a1 a2 c m d w hbig2
def Tryz.laysNm220_ren:Go.Shelf.Ren:=⟨fun | 20=>24 | n=>n,fun | 22=>30 | 3=>3 | 4=>4 | 0=>0 | n=>n,fun | n=>n⟩
theorem Tryz.laysNm220:Go.Proofs.Lays2.n20 Tryz.prog Tryz.laysNm220_ren:={
 mixed:=by kernel_rfl
 f20:=Tryz.func24.trans (congrArg some (by kernel_rfl))
 t0:=Tryz.underlying0
 a0:=Tryz.isAgg0
 z0:=Tryz.sizeOf0
 v0:=Tryz.zeroValue0
 t3:=Tryz.underlying3
 a3:=Tryz.isAgg3
 z3:=Tryz.sizeOf3
 v3:=Tryz.zeroValue3
 t4:=Tryz.underlying4
 a4:=Tryz.isAgg4
 z4:=Tryz.sizeOf4
 v4:=Tryz.zeroValue4
 t22:=Tryz.underlying30
 a22:=Tryz.isAgg30
 z22:=Tryz.sizeOf30
 v22:=Tryz.zeroValue30
 i3:=by kernel_rfl }
open Go.RowKit Go.Lib Go.Sort in
/-- slices.Compact at []int: "Compact replaces consecutive runs of equal elements with a single copy. This is like the uniq command found on Unix. Compact modifies the contents of the slice s and returns the modified slice, which may have a smaller length. Compact zeroes the elements between the new length and the original length. The result preserves the nilness of s.": IT RETURNS THE SLICE CUT TO 'Lib.compact zs'; ITS CELLS HOLD 'Lib.compact zs', THEN ZERO VALUES up to the old length; all else is as it was, but for the count of draws. IN THE WORDS OF slices.Sort's CONTRACT ('Holds', 'putRow'): so the everyday 'slices.Sort(xs); xs = slices.Compact(xs)' goes from the one contract to the other. It asks 'zs.length ≤ cap' (every slice's: the reslicing 's[:k]' looks at it). Length 0, nil: '.._empty'. (LAID: no walk: one application.) -/
theorem Tryz.slices_Compact_int (blk off cap:Nat) (zs:List Int) (w:World) (hH:Holds (Value.int .i64) w blk off zs.toArray) (hsz:zs.length≤9223372036854775807) (hcap:zs.length≤cap) :
  Calls Tryz.prog 24 #[.slice (some ⟨blk,off,none⟩) zs.length cap] w fun e w'=>e=.returned (.slice (some ⟨blk,off,none⟩) (Lib.compact zs).length cap)∧∃q,w'=putRow (Value.int .i64) (Sort.ahead w q) blk off (Lib.compact zs++List.replicate (zs.length-(Lib.compact zs).length) 0).toArray:=Any.slices_Compact_int Tryz.laysNm220 blk off cap zs w hH hsz hcap
open Go.RowKit Go.Lib in
theorem Tryz.slices_Equal_int_lens (a1 a2:Option Addr) (n c m d:Nat) (w:World) (hnm:n≠m) :
  Calls Tryz.prog 119 #[.slice a1 n c,.slice a2 m d] w fun e w'=>e=.returned (.bool false)∧w'=w:=Any.slices_Equal_int_lens Tryz.lays111 a1 a2 n c m d w hnm
end Go.Proofs
namespace Go.Proofs.YtjjcgpfljidbhaaGreat
set_option maxRecDepth 100000
set_option maxHeartbeats 4000000
section
open Go.RowKit
def Z8(b:Bool)(w:Ba)(e:Ending)(w':Ba):Prop:=∃i:Int,e=Ak (O U i)/\decide (0<=i)=b/\∃n,w'=w.drewN n
theorem qV{α:Type}{p:α->Bool}{l:List α}{k:Nat}(hk:k<l.length):(l.drop k).any p=(p l[k]||(l.drop (k+1)).any p):=by
 rw[Lz hk];rfl
theorem jb{α:Type}{p:α->Bool}{l:List α}{k:Nat}(hk:k=l.length):(l.drop k).any p=As:=by subst hk;rw[Nz];rfl
theorem Yh(x m:Int)(bm:Nat)(w:Ba)(hb:w.heap[bm]?=J (Ag #[O U m] 3 (0,0))) :
  An Al 141 #[O U x,Aj (J ⟨bm,0,Z⟩)] w fun e w'=>e=Ak (Ah (qE m x))/\w=w':=by
 have H:Ap (qE m x=decide (x<0\/m<=x)):=rfl;have c0:=za hb 0 rfl;go_enter func141,ntmps141;go_wp2
 all_goals
  go_ret;refine⟨ze ?_,rfl⟩;rw[H.out];simp
  try omega
theorem Xx(A:Bb)(c:Nat)(xs:List Int)(m:Int)(bm:Nat)(hl:xs.length<=17592186044416)(w:Ba)(hA:IAt w w.heap.size A xs)(hb:w.heap[bm]?=J (Ag #[O U m] 3 (0,0))) :
  An Al 101 #[I A xs.length c,.func (.func 141) #[] #[Aj (J ⟨bm,0,Z⟩)]] w (Z8 (xs.any (qE m)) w):=by
 have HA:=zH hA;have HV:=zH (fun x=>Yh x m bm w hb);obtain⟨r,hr⟩:=Kh (xs.any (qE m));rw[hr];have HR:Ap (r=(xs.drop 0).any (qE m)):=by rw[LT];exact hr.symm
 go_enter func101,ntmps101;go_wp2_with fail
 go_loop [8] (fun i=>∃k:Nat,k<=xs.length/\i=O U (k:Int)/\Ap (r=(xs.drop k).any (qE m))) (fun i=>xs.length-(Ao i).toNat)
 case atStart=>exact⟨0,by omega,rfl,HR⟩
 obtain⟨k,hk,rfl,aj⟩:=hrel
 by_cases aa:k<xs.length
 . obtain⟨b,o,rfl,dS,c1⟩:=HA.out.at_ k aa
   have hs:=qV (p:=qE m) aa;obtain⟨x,hx⟩:=Kh (xs[k]);rw[hx] at c1 hs;have HS:=zH hs;have HC:=zH (HV.out x);obtain⟨bo,ck⟩:=Kh (qE m x);rw[ck] at HS HC;go_wp2_with fail;refine HC.out.mono ?_;rintro e w' ⟨rfl,rfl⟩
   cases bo with
   | true=>
    have hR:r=Ar:=by rw[aj.out,HS.out];rfl
    subst hR;go_wp2_with fail;go_ret;exact⟨(k:Int),rfl,by simp,0,rfl⟩
   | false=>
    have cF:Ap (r=(xs.drop (k+1)).any (qE m)):=by rw[aj.out,HS.out];rfl
    go_wp2_with fail
    go_round
    case rel=>exact⟨k+1,by omega,by go_num,cF⟩
    case measure=>simp[Ao];omega
 obtain rfl:k=xs.length:=by omega
 have hR:r=As:=aj.out.trans (jb rfl);subst hR;go_wp2_with fail;go_ret;exact⟨-1,rfl,by decide,0,rfl⟩
theorem gx(A:Bb)(c:Nat)(xs:List Int)(m:Int)(bm:Nat)(hl:xs.length<=17592186044416)(w:Ba)(hA:IAt w w.heap.size A xs)(hb:w.heap[bm]?=J (Ag #[O U m] 3 (0,0))) :
  An Al 58 #[I A xs.length c,.func (.func 141) #[] #[Aj (J ⟨bm,0,Z⟩)]] w fun e w'=>e=Ak (Ah (xs.any (qE m)))/\∃n,w'=w.drewN n:=by
 have hc:=Xx A c xs m bm hl w hA hb;obtain⟨r,hr⟩:=Kh (xs.any (qE m));rw[hr] at hc ⊢;have HC:=zH hc;go_enter func58,ntmps58;go_wp2_with fail;refine HC.out.mono ?_;rintro e w' ⟨i,rfl,hi,n,rfl⟩;have HI:=zH hi;clear hi HC;go_wp2_with fail;go_ret;exact⟨ze HI.out,_,rfl⟩
theorem ji{v:List Int}{n m:Int}(h:(v.length:Int)≠n):zA v n m=15:=Lo h
theorem jj{v:List Int}{n m:Int}(h:(v.length:Int)=n)(h2:v.any (qE m)=Ar):zA v n m=2:=by unfold zA;rw[Li (by simpa using h),Lo h2]
theorem uG{v:List Int}{n m:Int}(h:(v.length:Int)=n)(h2:v.any (qE m)=As):zA v n m=0:=by unfold zA;rw[Li (by simpa using h),Li (by rw[h2];decide)]
theorem vR(A:Bb)(c:Nat)(xs:List Int)(n m:Int)(hl:xs.length<=17592186044416)(w:Ba)(hA:IAt w w.heap.size A xs) :
  An Al 103 #[I A xs.length c,O U n,O U m] w fun e w'=>e=Ak (O U (zA xs n m))/\Am w.heap.size w w':=by
 have aq:=zH (@ji xs n m);have ai:=zH (@jj xs n m);have au:=zH (@uG xs n m);have HC:=zH (gx A c xs m w.heap.size hl (w.alloc (Ag #[O U m] 3)) ((hA.keep (zN w _)).more (by simp)) (zj _ _));obtain⟨r,hr⟩:=Kh (xs.any (qE m));rw[hr] at ai au HC;obtain⟨E,hE⟩:=Kh (zA xs n m);rw[hE] at aq ai au ⊢;go_enter func103,ntmps103
 by_cases hn:(xs.length:Int)=n
 . have e0:((xs.length:Int) != n)=As:=by simp[hn]
   have HN:=zH hn;go_wp2_with fail;refine HC.out.mono ?_;rintro e w' ⟨rfl,q,rfl⟩
   cases r with
   | true=>
    have HR:=zH (ai.out HN.out (by rfl));go_wp2_with fail;go_ret;exact⟨zd HR.out.symm,zO (zN w _) _⟩
   | false=>
    have HR:=zH (au.out HN.out (by rfl));go_wp2_with fail;go_ret;exact⟨zd HR.out.symm,zO (zN w _) _⟩
 have HR:=zH (aq.out hn);have e0:((xs.length:Int) != n)=Ar:=by simp[hn]
 go_wp2_with fail;go_ret;exact⟨zd HR.out.symm,zN w _⟩
theorem gQ(A:Bb)(c:Nat)(xss:List (List Int))(k:Nat)(hk:k<xss.length)(hl:xss.length<=17592186044416)(aD:∀v∈xss,v.length<=17592186044416)(w:Ba)(hA:LAt w w.heap.size A xss) :
  An Al 143 #[I A xss.length c,O U k] w fun e w'=>e=Ak (Ah (xv (zw xss k) xss[k]))/\∃n,w'=w.drewN n:=by
 cases k with
 | zero=>
  have HR:Ap (xv (zw xss 0) xss[0]=As):=by rw[vY];rfl
  go_enter func143,ntmps143;go_wp2_with fail;go_quiet (fail);go_wp2_with fail;go_ret;exact⟨ze HR.out.symm,_,rfl⟩
 | succ j=>
  have hj:j<xss.length:=by omega
  have hb:xv (zw xss (j+1)) xss[j+1]=decide (0<=zm xss[j] xss[j+1]):=by rw[ya xss j hj];rfl
  obtain⟨b,o,A1,c1,rfl,aH,q1,I1⟩:=hA.at_ (j+1) hk;obtain⟨b2,o2,A2,c2,e2,af,q2,I2⟩:=hA.at_ j hj
  cases e2
  have l1:=aD _ (Ld hk);have l2:=aD _ (Ld hj);have hc:=fun n=>jU A2 A1 c2 c1 xss[j] xss[j+1] l2 l1 (w.drewN n) I2 I1
  obtain⟨r,hr⟩:=Kh (zm xss[j] xss[j+1]);rw[hr] at hb hc;have HB:=zH hb;have HC:=zH hc;obtain⟨n1,en⟩:=Kh (xss[j+1].length);obtain⟨n2,sZ⟩:=Kh (xss[j].length);rw[en,sZ] at HC;rw[en] at q1 l1;rw[sZ] at q2 l2;have e1:((j:Int)+1).toNat=j+1:=by omega
  have e3:IntKind.i64.wrap ((j:Int)+1-1)=(j:Int):=by rw[Lv];omega
  have e5:IntKind.i64.wrap ((j:Int)+1)=(j:Int)+1:=by rw[Lv];omega
  go_enter func143,ntmps143;go_wp2_with fail;go_quiet ((go_at_call 104;exact Ri (HC.out _)));go_wp2_with fail;go_ret;exact⟨ze HB.out.symm,_,rfl⟩
theorem ZC{xs ys:List Int}{k:Nat}(hk:k<xs.length)(hl:xs.length=ys.length)(h:xs.take k=ys.take k)(h2:xs[k]=ys[k]'(by omega)):xs.take (k+1)=ys.take (k+1):=by
 rw[Ls hk,Ls (by omega),h,h2]
theorem XE(A B:Bb)(ca cb:Nat)(xs ys:List Int)(hl:xs.length<=17592186044416)(fC:ys.length<=17592186044416)(w:Ba)(hA:IAt w w.heap.size A xs)(hB:IAt w w.heap.size B ys) :
  An Al 119 #[I A xs.length ca,I B ys.length cb] w fun e w'=>e=Ak (Ah (decide (xs=ys)))/\∃n,w'=w.drewN n:=by
 have HA:=zH hA;have HB:=zH hB;go_enter func119,ntmps119
 by_cases he:xs.length=ys.length
 . have e0:((xs.length:Int) != (ys.length:Int))=As:=by simp[he]
   go_wp2_with fail
   go_loopw [13] (fun i wr=>∃k n:Nat,k<=xs.length/\i=O U (k:Int)/\Ap (xs.take k=ys.take k)/\wr=w.drewN n) (fun i _=>xs.length-(Ao i).toNat)
   case atStart=>exact⟨0,0,by omega,rfl,by simp[Ap],rfl⟩
   obtain⟨k,n,hk,rfl,lL,rfl⟩:=hrel
   by_cases aa:k<xs.length
   . obtain⟨b1,o1,rfl,aH,c1⟩:=HA.out.at_ k aa
     obtain⟨b2,o2,rfl,af,c2⟩:=HB.out.at_ k (by omega);have Vu:k<ys.length:=by omega
     obtain⟨x,hx⟩:=Kh (xs[k]);obtain⟨y,hy⟩:=Kh (ys[k]);have HX:=zH hx;have HY:=zH hy;rw[hx] at c1;rw[hy] at c2
     by_cases O7:x=y
     . subst O7
       go_wp2_with fail;go_quiet (fail);go_wp2_with fail
       go_roundw
       case rel=>exact⟨k+1,_,by omega,by go_num,ZC aa he lL.out (HX.out.trans HY.out.symm),rfl⟩
       simp[Ao];omega
     go_wp2_with fail;go_quiet (fail);go_wp2_with fail;go_ret;refine⟨ze (Ln ?_).symm,by first | exact⟨_,rfl⟩ | exact Q2 _ _ _⟩;rintro rfl;exact O7 (HX.out.symm.trans HY.out)
   obtain rfl:k=xs.length:=by omega
   go_wp2_with fail;go_ret;refine⟨ze (Lm ?_).symm,_,rfl⟩;have:=lL.out;rwa[LC,he,LC] at this
 have e0:((xs.length:Int) != (ys.length:Int))=Ar:=by simp;omega
 go_wp2_with fail;go_ret;exact⟨ze (Ln (fun h=>he (by rw[h]))).symm,0,rfl⟩
theorem has1_any(A B:Bb)(ca cb:Nat)(xs ys:List Int)(hl:xs.length<=17592186044416)(fC:ys.length<=17592186044416)(bv:Nat)(w:Ba)(hA:IAt w w.heap.size A xs)(hB:IAt w w.heap.size B ys)(hb:w.heap[bv]?=J (Ag #[I B ys.length cb] 30 (0,0))) :
  An Al 164 #[I A xs.length ca,Aj (J ⟨bv,0,Z⟩)] w fun e w'=>e=Ak (Ah (decide (xs=ys)))/\∃n,w'=w.drewN n:=by
 have c0:=za hb 0 rfl;have HC:=zH (XE A B ca cb xs ys hl fC w hA hB);obtain⟨r,hr⟩:∃r,decide (xs=ys)=r:=⟨_,rfl⟩;rw[hr] at HC ⊢;go_enter func164,ntmps164;go_wp2_with fail;refine HC.out.mono ?_;rintro e w' ⟨rfl,n,rfl⟩;go_wp2_with fail;go_ret;exact⟨rfl,_,rfl⟩
theorem Qi(A:Bb)(c:Nat)(xss:List (List Int))(B:Bb)(cb:Nat)(ys:List Int)(bv:Nat)(hl:xss.length<=17592186044416)(aD:∀v∈xss,v.length<=17592186044416)(fC:ys.length<=17592186044416)(w:Ba)(hA:LAt w w.heap.size A xss)(hB:IAt w w.heap.size B ys)
  (hb:w.heap[bv]?=J (Ag #[I B ys.length cb] 30 (0,0))) :
  An Al 102 #[I A xss.length c,.func (.func 164) #[] #[Aj (J ⟨bv,0,Z⟩)]] w (Z8 (xss.any fun x=>decide (x=ys)) w):=by
 have HA:=zH hA;have HB:=zH hB;have HBb:=zH hb;have eD:=zH aD;obtain⟨r,hr⟩:∃r,(xss.any fun x=>decide (x=ys))=r:=⟨_,rfl⟩;rw[hr];have HR:Ap (r=(xss.drop 0).any fun x=>decide (x=ys)):=by rw[LT];exact hr.symm
 go_enter func102,ntmps102;go_wp2_with fail
 go_loopw [8] (fun i wr=>∃k n:Nat,k<=xss.length/\i=O U (k:Int)/\Ap (r=(xss.drop k).any fun x=>decide (x=ys))/\wr=w.drewN n) (fun i _=>xss.length-(Ao i).toNat)
 case atStart=>exact⟨0,0,by omega,rfl,HR,rfl⟩
 obtain⟨k,n,hk,rfl,aj,rfl⟩:=hrel
 by_cases aa:k<xss.length
 . obtain⟨b,o,A1,c1,rfl,dS,q1,I1⟩:=HA.out.at_ k aa
   have l1:=eD.out _ (Ld aa);have hs:=qV (p:=fun x=>decide (x=ys)) aa;have HC:=zH (has1_any A1 B c1 cb xss[k] ys l1 fC bv (w.drewN n) I1 HB.out HBb.out);obtain⟨x,hx⟩:=Kh (xss[k]);rw[hx] at q1 hs HC l1;have HS:=zH hs;obtain⟨bo,ck⟩:∃bo,decide (x=ys)=bo:=⟨_,rfl⟩;rw[ck] at HS HC;obtain⟨xl,dG⟩:=Kh x.length;rw[dG] at q1 HC l1;go_wp2_with fail;refine HC.out.mono ?_;rintro e w' ⟨rfl,n2,rfl⟩
   cases bo with
   | true=>
    have hR:r=Ar:=by rw[aj.out,HS.out];rfl
    subst hR;go_wp2_with fail;go_ret;exact⟨(k:Int),rfl,by simp,_,rfl⟩
   | false=>
    have cF:Ap (r=(xss.drop (k+1)).any fun x=>decide (x=ys)):=by rw[aj.out,HS.out];rfl
    go_wp2_with fail
    go_roundw
    case rel=>exact⟨k+1,_,by omega,by go_num,cF,rfl⟩
    case measure=>simp[Ao];omega
 obtain rfl:k=xss.length:=by omega
 have hR:r=As:=aj.out.trans (jb rfl);subst hR;go_wp2_with fail;go_ret;exact⟨-1,rfl,by decide,_,rfl⟩
theorem gI(A:Bb)(c:Nat)(xss:List (List Int))(B:Bb)(cb:Nat)(ys:List Int)(bv:Nat)(hl:xss.length<=17592186044416)(aD:∀v∈xss,v.length<=17592186044416)(fC:ys.length<=17592186044416)(w:Ba)(hA:LAt w w.heap.size A xss)(hB:IAt w w.heap.size B ys)
  (hb:w.heap[bv]?=J (Ag #[I B ys.length cb] 30 (0,0))) :
  An Al 60 #[I A xss.length c,.func (.func 164) #[] #[Aj (J ⟨bv,0,Z⟩)]] w fun e w'=>e=Ak (Ah (xss.any fun x=>decide (x=ys)))/\∃n,w'=w.drewN n:=by
 have hc:=Qi A c xss B cb ys bv hl aD fC w hA hB hb;obtain⟨r,hr⟩:∃r,(xss.any fun x=>decide (x=ys))=r:=⟨_,rfl⟩;rw[hr] at hc ⊢;have HC:=zH hc;go_enter func60,ntmps60;go_wp2_with fail;refine HC.out.mono ?_;rintro e w' ⟨i,rfl,hi,n,rfl⟩;have HI:=zH hi;clear hi HC;go_wp2_with fail;go_ret;exact⟨ze HI.out,_,rfl⟩
theorem Jf{xss:List (List Int)}{ys:List Int}:(xss.any fun x=>decide (x=ys))=decide (ys∈xss):=by
 rw[NG,Ps,NN];constructor
 . rintro⟨x,h,e⟩
   rw[<-Lw e];exact h
 exact fun h=>⟨ys,h,Lm rfl⟩
theorem thas_any(A:Bb)(c:Nat)(xss:List (List Int))(B:Bb)(cb:Nat)(ys:List Int)(hl:xss.length<=17592186044416)(aD:∀v∈xss,v.length<=17592186044416)(fC:ys.length<=17592186044416)(w:Ba)(hA:LAt w w.heap.size A xss)(hB:IAt w w.heap.size B ys) :
  An Al 144 #[I A xss.length c,I B ys.length cb] w fun e w'=>e=Ak (Ah (decide (ys∈xss)))/\Am w.heap.size w w':=by
 have HC:=zH (gI A c xss B cb ys w.heap.size hl aD fC (w.alloc (Ag #[I B ys.length cb] 30)) ((hA.keep (zN w _)).more (by simp)) ((hB.keep (zN w _)).more (by simp)) (zj _ _));rw[Jf] at HC;obtain⟨r,hr⟩:=Kh (decide (ys∈xss));rw[hr] at HC ⊢;go_enter func144,ntmps144;go_wp2_with fail;refine HC.out.mono ?_;rintro e w' ⟨rfl,n,rfl⟩;go_wp2_with fail;go_ret;exact⟨rfl,zO (zN w _) _⟩
theorem tboxes(w:Ba)(c1 c2:Array Aq)(t1 t2:TypeId):∃W0,(w.alloc (Ag c1 t1)).alloc (Ag c2 t2)=W0/\W0.heap[w.heap.size]?=J (Ag c1 t1 (0,0))/\W0.heap[w.heap.size+1]?=J (Ag c2 t2 (0,0))/\w.heap.size+2<=W0.heap.size/\Am w.heap.size w W0:=
 ⟨_,rfl,yo (zj _ _) _,by have:=zj (w.alloc (Ag c1 t1)) (Ag c2 t2);rwa[Nm] at this,by simp,qt w _ _⟩
def FewL(l:List (List Int)):Prop:=l.length<=30/\∀v∈l,v.length<=10
def FewC(c:Cs):Prop:=c.inp.length<=10/\FewL c.out/\FewL c.calm
def Z9(t:Tk):Prop:=t.cases.length<=30/\∀c∈t.cases,FewC c
theorem uk{n m:Int}{c:Cs}(h:c.out.length<1):xK n m c=5:=Lo (.inl h)
theorem wZ{n m:Int}{c:Cs}(h:1<=c.out.length)(h1:c.out.length<=30)(h2:qa (fun v=>zA v n m) c.out≠0):xK n m c=qa (fun v=>zA v n m) c.out:=by unfold xK;rw[Li (by omega),Lo h2]
theorem ul{n m:Int}{c:Cs}(h:1<=c.out.length)(h1:c.out.length<=30)(h2:qa (fun v=>zA v n m) c.out=0):xK n m c=qa (xJ c.out) c.calm:=by unfold xK;rw[Li (by omega),Li (by simpa using h2)]
theorem ZB(n ins m:Int)(cs:Aq)(A0 A1 A2:Bb)(k0 k1 k2:Nat)(x:Cs)(hf:FewC x)(w:Ba)(h1:LAt w w.heap.size A1 x.out)(h2:LAt w w.heap.size A2 x.calm) :
  An Al 105 #[Ai #[O U n,O U ins,O U m,cs],Ai #[I A0 x.inp.length k0,I A1 x.out.length k1,I A2 x.calm.length k2]] w fun e w'=>e=Ak (O U (xK n m x))/\Am w.heap.size w w':=by
 obtain⟨EQ,⟨dZ,dr⟩,VY,VX⟩:=hf;have cG:=zH dr;have rA:=zH VX;have H1:=zH h1;have H2:=zH h2;have aq:=zH (@uk n m x);have ai:=zH (@wZ n m x);have au:=zH (@ul n m x);obtain⟨E,hE⟩:=Kh (xK n m x);rw[hE] at aq ai au ⊢;obtain⟨xi,xo,xc⟩:=x;dsimp only at EQ dZ VY cG rA H1 H2 aq ai au ⊢
 by_cases hz:xo.length<1
 . have HR:=zH (aq.out hz)
   go_enter func105,ntmps105;go_wp2_with fail
   all_goals first | (exfalso;omega) | skip
   go_ret;exact⟨zd HR.out.symm,qt w _ _⟩
 have bN:¬((xo.length:Int)<1):=by omega
 have ai:=zH (ai.out (by omega) (by omega));have au:=zH (au.out (by omega) (by omega));go_enter func105,ntmps105;go_wp2_with fail
 all_goals first | (exfalso;omega) | skip
 obtain⟨W0,ch,b0,b1,hsz,bX⟩:=tboxes w #[O U n,O U ins,O U m,cs] #[I A0 xi.length k0,I A1 xo.length k1,I A2 xc.length k2] 24 63;rw[ch];have dF:=zH bX;have np:=zH b0;have tx:=zH b1;clear ch bX b0 b1;obtain⟨F,hF⟩:∃F,qa (fun v=>zA v n m) xo=F:=⟨_,rfl⟩;have HF:Ap (F=yl (fun v=>zA v n m) xo 0):=by rw[xb];exact hF.symm
 rw[hF] at ai au;clear hF
 go_loopw [23] (fun i wr=>∃k:Nat,k<=xo.length/\i=O U (k:Int)/\Ap (F=yl (fun v=>zA v n m) xo k)/\Am W0.heap.size W0 wr) (fun i _=>xo.length-(Ao i).toNat)
 case atStart=>exact⟨0,by omega,rfl,HF,Ll _ _⟩
 obtain⟨k,hk,rfl,aj,az⟩:=hrel;clear HF;have dv:=zH (Lc dF.out az);have d0:=Lb az (by omega) np.out;have d1:=Lb az (by omega) tx.out;have q0:=za d0 0 rfl;have q2:=za d0 2 rfl;have q3:=za d1 1 rfl;have q4:=za d1 2 rfl;have HW:=zH az
 by_cases aa:k<xo.length
 . have HL:=zH (H1.out.keep dv.out)
   obtain⟨b,o,A3,k3,rfl,hb,c3,I3⟩:=HL.out.at_ k aa;have l3:=cG.out _ (Ld aa);have aF:=zH (@xE (fun v=>zA v n m) xo k aa);have bf:=zH (@yQ (fun v=>zA v n m) xo k aa);have aB:=zH (@qd (fun v=>zA v n m) xo k aa);have HV:=zH (fun (w':Ba) (h:IAt w' w'.heap.size A3 xo[k])=>vR A3 k3 xo[k] n m (by omega) w' h);have HU:=zH (fun (w':Ba) (h:LAt w' w'.heap.size (J ⟨b,o,Z⟩) xo)=>gQ (J ⟨b,o,Z⟩) k1 xo k aa (by omega) (fun v hv=>by have:=cG.out v hv;omega) w' h);obtain⟨v,hv⟩:=Kh (xo[k]);obtain⟨bo,ck⟩:=Kh (xv (zw xo k) xo[k]);rw[ck] at bf aB HU;rw[hv] at c3 I3 l3 aF bf aB HV;obtain⟨ev,cP⟩:=Kh (zA v n m);rw[cP] at aF bf aB HV;obtain⟨vl,co⟩:=Kh v.length;rw[co] at c3 l3 HV;have HI:=zH I3;clear hv ck cP co I3 az d0 d1;go_wp2_with fail;refine(HV.out _ ((HI.out.more (by have:=dv.out.size;omega)))).mono ?_;rintro e w1 ⟨rfl,aH⟩;have dV:=zH (Lc dv.out aH);have ah:=zH (Lc HW.out aH);have d0:=Lb ah.out (by omega) np.out;have d1:=Lb ah.out (by omega) tx.out;have q0:=za d0 0 rfl;have q2:=za d0 2 rfl;have q3:=za d1 1 rfl;have q4:=za d1 2 rfl;clear aH d0 d1
   by_cases he:ev=0
   . subst he
     have F6:=zH ((H1.out.keep dV.out).more dV.out.size);clear aF;go_wp2_with fail;refine(HU.out _ F6.out).mono ?_;rintro e w2 ⟨rfl,nq,rfl⟩
     cases bo with
     | true=>
      have hR:=zH (aj.out.trans (bf.out (by simp) (by simp)));have HR:=zH ((ai.out (by rw[hR.out];decide)).trans hR.out);go_wp2_with fail;go_ret;exact⟨zd HR.out.symm,zO dV.out _⟩
     | false=>
      have hR:=zH (aj.out.trans (aB.out (by simp) (by simp)));go_wp2_with fail
      go_roundw
      case rel=>exact⟨k+1,by omega,by go_num,hR,zO ah.out _⟩
      case measure=>simp[Ao];omega
   have hR:=zH (aj.out.trans (aF.out he));have HR:=zH ((ai.out (by rw[hR.out];exact he)).trans hR.out);have e0:(ev != 0)=Ar:=by simpa using he
   go_wp2_with fail;go_ret;exact⟨zd HR.out.symm,dV.out⟩
 obtain rfl:k=xo.length:=by omega
 have hR:=zH (aj.out.trans xD);have HR:=zH (au.out hR.out);go_wp2_with fail;obtain⟨W1,cV⟩:∃W1,W1=wr:=⟨_,rfl⟩;rw[<-cV] at dv HW q0 q2 q3 q4 ⊢;have Wv:=HW.out.size;obtain⟨G,hG⟩:=Kh (qa (xJ xo) xc);have HG:Ap (G=yl (xJ xo) xc 0):=by rw[xb];exact hG.symm
 rw[hG] at HR;clear hG
 go_loopw [45] (fun i wr=>∃k:Nat,k<=xc.length/\i=O U (k:Int)/\Ap (G=yl (xJ xo) xc k)/\Am W1.heap.size W1 wr) (fun i _=>xc.length-(Ao i).toNat)
 case atStart=>exact⟨0,by omega,rfl,HG,Ll _ _⟩
 obtain⟨k,hk,rfl,aj,az⟩:=hrel;clear HG;have dV:=zH (Lc dv.out az);have ah:=zH (Lc HW.out az);have HWl:=zH az;have d1:=Lb ah.out (by omega) tx.out;have q3:=za d1 1 rfl;have q4:=za d1 2 rfl;clear az
 by_cases aa:k<xc.length
 . have HL:=zH (H2.out.keep dV.out)
   have Ug:=zH ((H1.out.keep dV.out).more dV.out.size);obtain⟨b,o,A3,k3,rfl,hb,c3,I3⟩:=HL.out.at_ k aa;have l3:=rA.out _ (Ld aa);have aF:=zH (@xE (xJ xo) xc k aa);have bf:=zH (@yQ (xJ xo) xc k aa);have aB:=zH (@qd (xJ xo) xc k aa);have HV:=zH (fun (w':Ba) (h0:LAt w' w'.heap.size A1 xo) (h:IAt w' w'.heap.size A3 xc[k])=>thas_any A1 k1 xo A3 k3 xc[k] (by omega) (fun v hv=>by have:=cG.out v hv;omega) (by omega) w' h0 h);have HU:=zH (fun (w':Ba) (h:LAt w' w'.heap.size (J ⟨b,o,Z⟩) xc)=>gQ (J ⟨b,o,Z⟩) k2 xc k aa (by omega) (fun v hv=>by have:=rA.out v hv;omega) w' h);have eP:Ap (∀v,xJ xo v=if v∈xo then 0 else 6):=fun _=>rfl
   obtain⟨v,hv⟩:=Kh (xc[k]);obtain⟨bo,ck⟩:=Kh (xv (zw xc k) xc[k]);rw[ck] at bf aB HU;rw[hv] at c3 I3 l3 aF bf aB HV;have eP:=zH (eP.out v);obtain⟨ev,cP⟩:=Kh (xJ xo v);rw[cP] at aF bf aB eP;obtain⟨vl,co⟩:=Kh v.length;rw[co] at c3 l3 HV;have HI:=zH I3;clear hv ck cP co I3
   by_cases hm:v∈xo
   . have he:ev=0:=eP.out.trans (Lo hm)
     subst he;rw[Lm hm] at HV;clear aF hm eP;go_wp2_with fail;refine(HV.out _ Ug.out ((HI.out.more (by have:=dV.out.size;omega)))).mono ?_;rintro e w1 ⟨rfl,aH⟩;have iH:=zH (Lc dV.out aH);have FK:=zH (Lc ah.out aH);have d1:=Lb FK.out (by omega) tx.out;have q3:=za d1 1 rfl;have q4:=za d1 2 rfl;have F6:=zH ((H2.out.keep iH.out).more iH.out.size);have HWm:=zH (Lc HWl.out aH);clear aH d1;go_wp2_with fail;refine(HU.out _ F6.out).mono ?_;rintro e w2 ⟨rfl,nq,rfl⟩
     cases bo with
     | true=>
      have hR:=zH (aj.out.trans (bf.out (by simp) (by simp)));have cF:=zH (HR.out.trans hR.out);clear aj bf aB HR HV HU;go_wp2_with fail;go_ret;exact⟨zd cF.out.symm,zO iH.out _⟩
     | false=>
      have hR:=zH (aj.out.trans (aB.out (by simp) (by simp)));clear aj bf aB HV HU;go_wp2_with fail
      go_roundw
      case rel=>exact⟨k+1,by omega,by go_num,hR,zO HWm.out _⟩
      case measure=>simp[Ao];omega
   have he:ev=6:=eP.out.trans (Li hm);subst he;rw[Ln hm] at HV;have hR:=zH (aj.out.trans (aF.out (by decide)));have cF:=zH (HR.out.trans hR.out);clear aj bf aB aF hm eP HR HU;go_wp2_with fail;refine(HV.out _ Ug.out ((HI.out.more (by have:=dV.out.size;omega)))).mono ?_;rintro e w1 ⟨rfl,aH⟩;have iH:=zH (Lc dV.out aH);go_wp2_with fail;go_ret;exact⟨zd cF.out.symm,iH.out⟩
 obtain rfl:k=xc.length:=by omega
 have hR:=zH (aj.out.trans xD);have cF:=zH (HR.out.trans hR.out);go_wp2_with fail;go_ret;exact⟨zd cF.out.symm,dV.out⟩
theorem kB(A:Bb)(c:Nat)(xs:List Int)(n m:Int)(hl:xs.length<=17592186044416)(w:Ba)(hA:IAt w w.heap.size A xs) :
  An Al 170 #[I A xs.length c,O U n,O U m] w fun e w'=>e=Ak (O U (zA xs n m))/\w'=w:=by
 have HA:=zH hA;have aq:=zH (@ji xs n m);have ai:=zH (@jj xs n m);have au:=zH (@uG xs n m);obtain⟨E,hE⟩:=Kh (zA xs n m);rw[hE] at aq ai au ⊢
 by_cases hn:(xs.length:Int)=n
 . subst hn
   have ai:=zH (ai.out rfl);have au:=zH (au.out rfl);obtain⟨r,hr⟩:=Kh (xs.any (qE m));rw[hr] at ai au;have HR:Ap (r=(xs.drop 0).any (qE m)):=by rw[LT];exact hr.symm
   go_enter func170,ntmps170;go_wp2_with fail
   go_loop [7] (fun i=>∃k:Nat,k<=xs.length/\i=O U (k:Int)/\Ap (r=(xs.drop k).any (qE m))) (fun i=>xs.length-(Ao i).toNat)
   case atStart=>exact⟨0,by omega,rfl,HR⟩
   obtain⟨k,hk,rfl,aj⟩:=hrel
   by_cases aa:k<xs.length
   . obtain⟨b,o,rfl,dS,c1⟩:=HA.out.at_ k aa
     have hs:=qV (p:=qE m) aa;have ho:Ap (∀x,qE m x=decide (x<0\/m<=x)):=fun _=>rfl
     obtain⟨x,hx⟩:=Kh (xs[k]);rw[hx] at c1 hs;rw[ho.out x] at hs;have HS:=zH hs
     by_cases h1:x<0\/m<=x
     . have hR:r=Ar:=by rw[aj.out,HS.out,Lm h1];rfl
       subst hR;have HE:=zH (ai.out rfl)
       by_cases h2:x<0
       . clear h1
         go_wp2_with fail;go_ret;exact⟨zd HE.out.symm,rfl⟩
       have h3:m<=x:=by omega
       go_wp2_with fail;go_ret;exact⟨zd HE.out.symm,rfl⟩
     have cF:Ap (r=(xs.drop (k+1)).any (qE m)):=by rw[aj.out,HS.out,Ln h1];rfl
     have h2:¬x<0:=by omega
     have h3:¬m<=x:=by omega
     go_wp2_with fail
     go_round
     case rel=>exact⟨k+1,by omega,by go_num,cF⟩
     simp[Ao];omega
   obtain rfl:k=xs.length:=by omega
   have hR:r=As:=aj.out.trans (jb rfl);subst hR;have HE:=zH (au.out rfl);go_wp2_with fail;go_ret;exact⟨zd HE.out.symm,rfl⟩
 have HR:=zH (aq.out hn);have e0:((xs.length:Int) != n)=Ar:=by simp[hn]
 go_enter func170,ntmps170;go_wp2_with fail;go_ret;exact⟨zd HR.out.symm,rfl⟩
theorem Yx(A:Bb)(c:Nat)(xss:List (List Int))(B:Bb)(cb:Nat)(ys:List Int)(hl:xss.length<=17592186044416)(aD:∀v∈xss,v.length<=17592186044416)(fC:ys.length<=17592186044416)(w:Ba)(hA:LAt w w.heap.size A xss)(hB:IAt w w.heap.size B ys) :
  An Al 172 #[I A xss.length c,I B ys.length cb] w fun e w'=>e=Ak (Ah (decide (ys∈xss)))/\∃n,w'=w.drewN n:=by
 have HA:=zH hA;have HB:=zH hB;have eD:=zH aD;rw[<-Jf];obtain⟨r,hr⟩:∃r,(xss.any fun x=>decide (x=ys))=r:=⟨_,rfl⟩;rw[hr];have HR:Ap (r=(xss.drop 0).any fun x=>decide (x=ys)):=by rw[LT];exact hr.symm
 go_enter func172,ntmps172;go_wp2_with fail
 go_loopw [5] (fun i wr=>∃k n:Nat,k<=xss.length/\i=O U (k:Int)/\Ap (r=(xss.drop k).any fun x=>decide (x=ys))/\wr=w.drewN n) (fun i _=>xss.length-(Ao i).toNat)
 case atStart=>exact⟨0,0,by omega,rfl,HR,rfl⟩
 obtain⟨k,n,hk,rfl,aj,rfl⟩:=hrel
 by_cases aa:k<xss.length
 . obtain⟨b,o,A1,c1,rfl,dS,q1,I1⟩:=HA.out.at_ k aa
   have l1:=eD.out _ (Ld aa);have hs:=qV (p:=fun x=>decide (x=ys)) aa;have HC:=zH (yL A1 B c1 cb xss[k] ys l1 fC (w.drewN n) I1 HB.out);obtain⟨x,hx⟩:=Kh (xss[k]);rw[hx] at q1 hs HC l1;have HS:=zH hs;have hz:Ap (zm x ys=0->x=ys):=xR;have cK:Ap (x=ys->zm x ys=0):=fun h=>by rw[h];exact yM _
   obtain⟨bo,ck⟩:=Kh (zm x ys);rw[ck] at hz HC cK;obtain⟨xl,dG⟩:=Kh x.length;rw[dG] at q1 HC l1;go_wp2_with fail;refine HC.out.mono ?_;rintro e w' ⟨rfl,n2,rfl⟩
   by_cases hb:bo=0
   . have hR:r=Ar:=by rw[aj.out,HS.out,Lm (hz.out hb)];rfl
     subst hR;subst hb;go_wp2_with fail;go_ret;exact⟨rfl,_,rfl⟩
   have cF:Ap (r=(xss.drop (k+1)).any fun x=>decide (x=ys)):=by rw[aj.out,HS.out,Ln (fun h=>hb (cK.out h))];rfl
   have e0:(bo==0)=As:=by simpa using hb
   go_wp2_with fail
   go_roundw
   case rel=>exact⟨k+1,_,by omega,by go_num,cF,rfl⟩
   simp[Ao];omega
 obtain rfl:k=xss.length:=by omega
 have hR:r=As:=aj.out.trans (jb rfl);subst hR;go_wp2_with fail;go_ret;exact⟨rfl,_,rfl⟩
def kK(l:List (List Int))(m:Nat):Bool:=decide (l.length<=m)&&l.all fun v=>decide (v.length<=10)
theorem Xs{α:Type}{p:α->Bool}{l:List α}{k:Nat}(hk:k<l.length):(l.drop k).all p=(p l[k]&&(l.drop (k+1)).all p):=by
 rw[Lz hk];rfl
theorem Jg{α:Type}{p:α->Bool}{l:List α}{k:Nat}(hk:k=l.length):(l.drop k).all p=Ar:=by subst hk;rw[Nz];rfl
theorem Xc(A:Bb)(c:Nat)(xss:List (List Int))(hl:xss.length<=17592186044416)(aD:∀v∈xss,v.length<=17592186044416)(w:Ba)(hA:LAt w w.heap.size A xss) :
  An Al 129 #[I A xss.length c,O U 30] w fun e w'=>e=Ak (Ah (kK xss 30))/\w'=w:=by
 have HA:=zH hA;have eD:=zH aD;have H:Ap (kK xss 30=(decide (xss.length<=30)&&xss.all fun v=>decide (v.length<=10))):=rfl;obtain⟨r,hr⟩:=Kh (kK xss 30);rw[hr] at H ⊢
 by_cases hz:xss.length<=30
 . have HR:Ap (r=(xss.drop 0).all fun v=>decide (v.length<=10)):=by rw[LT,H.out,Lm hz,Nl];rfl
   have bN:¬(30<(xss.length:Int)):=by omega
   go_enter func129,ntmps129;go_wp2_with fail
   all_goals first | (exfalso;omega) | skip
   go_loop [5] (fun i=>∃k:Nat,k<=xss.length/\i=O U (k:Int)/\Ap (r=(xss.drop k).all fun v=>decide (v.length<=10))) (fun i=>xss.length-(Ao i).toNat)
   case atStart=>exact⟨0,by omega,rfl,HR⟩
   obtain⟨k,hk,rfl,aj⟩:=hrel
   by_cases aa:k<xss.length
   . obtain⟨b,o,A1,c1,rfl,dS,q1,_⟩:=HA.out.at_ k aa
     have l1:=eD.out _ (Ld aa);have HS:=zH (Xs (p:=fun v=>decide (v.length<=10)) aa);obtain⟨xl,dG⟩:=Kh (xss[k].length);rw[dG] at q1 HS l1
     by_cases hx:xl<=10
     . have cF:Ap (r=(xss.drop (k+1)).all fun v=>decide (v.length<=10)):=by rw[aj.out,HS.out,Lm hx];rfl
       go_wp2_with fail
       all_goals first | (exfalso;omega) | skip
       go_round
       case rel=>exact⟨k+1,by omega,by go_num,cF⟩
       simp[Ao];omega
     have hR:r=As:=by rw[aj.out,HS.out,Ln hx];rfl
     subst hR;go_wp2_with fail
     all_goals first | (exfalso;omega) | skip
     go_ret;exact⟨rfl,rfl⟩
   obtain rfl:k=xss.length:=by omega
   have hR:r=Ar:=aj.out.trans (Jg rfl);subst hR;go_wp2_with fail;go_ret;exact⟨rfl,rfl⟩
 have hR:r=As:=by rw[H.out,Ln hz];rfl
 subst hR;go_enter func129,ntmps129;go_wp2_with fail
 all_goals first | (exfalso;omega) | skip
 go_ret;exact⟨rfl,rfl⟩
theorem vS{t:Tk}(h:t.n<1\/5<t.n\/t.ins<1\/8<t.ins\/t.outs<1\/8<t.outs):zX t=2:=Lo h
theorem uM{t:Tk}(h:¬(t.n<1\/5<t.n\/t.ins<1\/8<t.ins\/t.outs<1\/8<t.outs))(h2:t.cases.length<1):zX t=5:=by unfold zX;rw[Li h,Lo (.inl h2)]
theorem vT{t:Tk}(h:¬(t.n<1\/5<t.n\/t.ins<1\/8<t.ins\/t.outs<1\/8<t.outs))(h2:1<=t.cases.length)(h3:t.cases.length<=30):zX t=yE t t.cases 0:=by unfold zX;rw[Li h,Li (by omega)]
theorem Zt{t:Tk}{p:Option Cs}{c:Cs}(h:zA c.inp t.n t.ins≠0):xB t p c=zA c.inp t.n t.ins:=Lo h
theorem uo{t:Tk}{p:Option Cs}{c:Cs}(h:zA c.inp t.n t.ins=0)(h2:xv (p.map Cs.inp) c.inp=Ar):xB t p c=14:=by unfold xB;rw[Li (by simpa using h),Lo h2]
theorem Zu{t:Tk}{p:Option Cs}{c:Cs}(h:zA c.inp t.n t.ins=0)(h2:xv (p.map Cs.inp) c.inp=As):xB t p c=xK t.n t.outs c:=by unfold xB;rw[Li (by simpa using h),Li (by rw[h2];decide)]
theorem jx(t:Tk)(A:Bb)(kc:Nat)(hf:Z9 t)(w:Ba)(hA:CAt w w.heap.size A t.cases) :
  An Al 63 #[Ai #[O U t.n,O U t.ins,O U t.outs,I A t.cases.length kc]] w fun e w'=>e=Ak (O U (zX t))/\Am w.heap.size w w':=by
 obtain⟨dZ,dr⟩:=hf;have cG:=zH dr;have HA:=zH hA;have aq:=zH (@vS t);have ai:=zH (@uM t);have au:=zH (@vT t);obtain⟨E,hE⟩:=Kh (zX t);rw[hE] at aq ai au ⊢;obtain⟨cv,nH⟩:=Kh (I A t.cases.length kc)
 by_cases hr:t.n<1\/5<t.n\/t.ins<1\/8<t.ins\/t.outs<1\/8<t.outs
 . have HR:=zH (aq.out hr)
   obtain⟨n,ins,outs,cases⟩:=t;dsimp only at hr nH ⊢;rw[nH];have HN:=zH hr;clear aq ai au nH hA dr cG HA hE hr;go_enter func63,ntmps63;go_wp2_with fail
   all_goals first | (exfalso;have:=HN.out;omega) | (go_ret;exact⟨zd HR.out.symm,zN w _⟩)
 have r1:¬t.n<1:=by omega
 have r2:¬5<t.n:=by omega
 have r3:¬t.ins<1:=by omega
 have r4:¬8<t.ins:=by omega
 have r5:¬t.outs<1:=by omega
 have r6:¬8<t.outs:=by omega
 have ai:=zH (ai.out hr);have au:=zH (au.out hr);clear hr aq nH hE hA dr
 by_cases hz:t.cases.length<1
 . have HR:=zH (ai.out hz)
   obtain⟨n,ins,outs,cases⟩:=t;dsimp only at dZ r1 r2 r3 r4 r5 r6 hz ⊢;clear ai au cG HA;go_enter func63,ntmps63;go_wp2_with fail
   all_goals first | (exfalso;omega) | skip
   go_ret;exact⟨zd HR.out.symm,zN w _⟩
 have bN:¬((t.cases.length:Int)<1):=by omega
 have au:=zH (au.out (by omega) (by omega));obtain⟨n,hn⟩:=Kh t.n;obtain⟨ins,EH⟩:=Kh t.ins;obtain⟨outs,sX⟩:=Kh t.outs;obtain⟨cs,bJ⟩:=Kh t.cases;have HT:Ap (t.n=n/\t.ins=ins/\t.outs=outs):=⟨hn,EH,sX⟩;rw[hn] at r1 r2 ⊢;rw[EH] at r3 r4 ⊢;rw[sX] at r5 r6 ⊢;rw[bJ] at dZ cG HA bN au ⊢;go_enter func63,ntmps63;go_wp2_with fail
 all_goals first | (exfalso;omega) | skip
 obtain⟨W0,ch,b0,hsz,bX⟩:∃W0,w.alloc (Ag #[O U n,O U ins,O U outs,I A cs.length kc] 24)=W0/\W0.heap[w.heap.size]?=J (Ag #[O U n,O U ins,O U outs,I A cs.length kc] 24 (0,0))/\w.heap.size+1<=W0.heap.size/\Am w.heap.size w W0:=
  ⟨_,rfl,zj _ _,by simp,zN w _⟩
 rw[ch];have dF:=zH bX;have np:=zH b0
 go_loopw [46] (fun i wr=>∃k:Nat,k<=cs.length/\i=O U (k:Int)/\Ap (E=yE t cs k)/\Am W0.heap.size W0 wr) (fun i _=>cs.length-(Ao i).toNat)
 case atStart=>exact⟨0,by omega,rfl,au,Ll _ _⟩
 obtain⟨k,hk,rfl,aj,az⟩:=hrel;have dv:=zH (Lc dF.out az);have HW:=zH az;have d0:=Lb az (by omega) np.out;obtain⟨q0,q1,q2,q3,_⟩:=Kb d0
 by_cases aa:k<cs.length
 . obtain⟨b,o,A0,k0,A1,k1,A2,k2,rfl,dS,c0,c1,c2,I0,I1,I2⟩:=(HA.out.keep dv.out).row k aa
   obtain⟨f0,f1,f2⟩:=cG.out _ (Ld aa);have aF:=zH (@un t cs k aa);have aB:=zH (@gc t cs k aa);obtain⟨e1,e2,e3⟩:=HT.out;have mV:=zH (@Zt t (zw cs k) cs[k]);have bf:=zH (@uo t (zw cs k) cs[k]);have dm:=zH (@Zu t (zw cs k) cs[k]);rw[e1,e2] at mV bf dm;rw[e3] at dm;have HV:=zH (fun (w':Ba) (h:IAt w' w'.heap.size A0 cs[k].inp)=>vR A0 k0 cs[k].inp n ins (by omega) w' h);have HG:=zH (fun (w':Ba) (h1:LAt w' w'.heap.size A1 cs[k].out) (h2:LAt w' w'.heap.size A2 cs[k].calm)=>ZB n ins outs (I (J ⟨b,o,Z⟩) cs.length kc) A0 A1 A2 k0 k1 k2 cs[k] (cG.out _ (Ld aa)) w' h1 h2);obtain⟨bo,ck⟩:=Kh (xv ((zw cs k).map Cs.inp) cs[k].inp);have bL:=zH ck;rw[ck] at bf dm;obtain⟨ev,cP⟩:=Kh (zA cs[k].inp n ins);rw[cP] at mV bf dm HV;obtain⟨gv,EJ⟩:=Kh (xK n outs cs[k]);rw[EJ] at dm HG;obtain⟨x,hx⟩:=Kh (cs[k]);have HX:=zH hx;rw[hx] at c0 c1 c2 I0 I1 I2 f0 aF aB mV bf dm HV HG;obtain⟨xi,xo,xc⟩:=x;dsimp only at c0 c1 c2 I0 I1 I2 f0 HV HG;have Id:=dv.out.size;have IG:w.heap.size<wr.heap.size:=by have:=HW.out.size;omega
   have J0:=I0.more Id;have J1:=I1.more Id;have J2:=I2.more Id;go_wp2_with fail
   obtain⟨W1,cV,b1,aA,aG⟩:∃W1,wr.alloc (Ag #[I A0 xi.length k0,I A1 xo.length k1,I A2 xc.length k2] 63)=W1/\W1.heap[wr.heap.size]?=J (Ag #[I A0 xi.length k0,I A1 xo.length k1,I A2 xc.length k2] 63 (0,0))/\wr.heap.size+1<=W1.heap.size/\Am wr.heap.size wr W1:=
    ⟨_,rfl,zj _ _,by simp,zN wr _⟩
   rw[cV];have K0:=(J0.keep aG).more aG.size;have K1:=zH ((J1.keep aG).more aG.size);have K2:=zH ((J2.keep aG).more aG.size);have BL:=zH (dv.out.trans (aG.mono Id));have BW:=zH (Lc HW.out aG);have tx:=zH b1;refine(HV.out _ K0).mono ?_;rintro e w1 ⟨rfl,aH⟩;have M1:=zH ((K1.out.keep aH).more aH.size);have M2:=zH ((K2.out.keep aH).more aH.size);have ed:=zH (Lc BL.out aH);have pD:=zH (Lc BW.out aH);have M0:=zH ((K0.keep aH).more aH.size);have d0:=Lb pD.out (by omega) np.out;have d1:=Lb aH (by omega) tx.out;obtain⟨q0,q1,q2,q3,_⟩:=Kb d0;obtain⟨p0,p1,p2,_⟩:=Kc d1
   by_cases cP:ev=0
   case neg=>
    have hd:=mV.out cP;have hR:=zH (aj.out.trans ((aF.out (by rw[hd];exact cP)).trans hd));have e0:(ev != 0)=Ar:=by simpa using cP
    go_wp2_with fail;go_ret;exact⟨zd hR.out.symm,ed.out⟩
   case pos=>
   subst cP
   cases k with
   | zero=>
    obtain rfl:bo=As:=by rw[<-bL.out];rfl
    go_wp2_with fail;go_quiet (fail);have dm:=zH (dm.out (by simp) (by simp));go_wp2_with fail;refine(HG.out _ (by exact M1.out.keep (zO (Ll _ _) _)) (by exact M2.out.keep (zO (Ll _ _) _))).mono ?_;rintro e w2 ⟨rfl,af⟩;have CE:=zH (ed.out.trans ((QB af).mono ed.out.size));have Gm:=zH (pD.out.trans ((QB af).mono pD.out.size))
    by_cases hg:gv=0
    . subst hg
      have hR:=zH (aj.out.trans (aB.out dm.out));go_wp2_with fail
      go_roundw
      case rel=>exact⟨_,aa,by go_num,hR,Gm.out⟩
      case measure=>simp[Ao];omega
    . have hR:=zH (aj.out.trans ((aF.out (by rw[dm.out];exact hg)).trans dm.out))
      have e0:(gv != 0)=Ar:=by simpa using hg
      go_wp2_with fail;go_ret;exact⟨zd hR.out.symm,CE.out⟩
   | succ j=>
    have hj:j<cs.length:=by omega
    have cq:xv ((zw cs (j+1)).map Cs.inp) cs[j+1].inp=decide (0<=zm cs[j].inp cs[j+1].inp):=by rw[ya cs j hj];rfl
    obtain⟨b',o',pE,od,_,_,_,_,e',_,u0,_,_,U0,_,_⟩:=((HA.out.keep ed.out).row j hj)
    cases e'
    obtain⟨pd,_,_⟩:=cG.out _ (Ld hj);rw[HX.out] at cq;have hc:=fun n=>jU pE A0 od k0 cs[j].inp xi (by omega) (by omega) (w1.drewN n) (U0.more ed.out.size) M0.out
    rw[show xv ((zw cs (j+1)).map Cs.inp) xi=bo by have:=bL.out;rwa[HX.out] at this] at cq;obtain⟨r,hr⟩:=Kh (zm cs[j].inp xi);rw[hr] at cq hc;have dh:=zH cq;obtain⟨nl,eh⟩:=Kh (cs[j].inp.length);rw[eh] at u0 hc pd;have HC:=zH hc;have g1:((j:Int)+1).toNat=j+1:=by omega
    have g3:IntKind.i64.wrap ((j:Int)+1-1)=(j:Int):=by rw[Lv];omega
    have g5:IntKind.i64.wrap ((j:Int)+1)=(j:Int)+1:=by rw[Lv];omega
    clear cq hc hr eh U0 bL HX
    cases bo with
    | true=>
     have g7:decide (0<=r)=Ar:=dh.out.symm;have g8:0<=r:=Lw g7;have hd:=bf.out (by simp) (by simp);have hR:=zH (aj.out.trans ((aF.out (by rw[hd];decide)).trans hd));clear aj aF aB bf dm HV HG hd dh;go_wp2_with fail;go_quiet ((go_at_call 104;exact Ri (HC.out _)));clear HC g1 g3 g5 u0;go_wp2_with fail;go_ret;exact⟨zd hR.out.symm,zO ed.out _⟩
    | false=>
     have g7:decide (0<=r)=As:=dh.out.symm;have g8:¬0<=r:=NH g7;clear dh;go_wp2_with fail;go_quiet ((go_at_call 104;exact Ri (HC.out _)));have dm:=zH (dm.out (by simp) (by simp));go_wp2_with fail;refine(HG.out _ (by exact M1.out.keep (zO (Ll _ _) _)) (by exact M2.out.keep (zO (Ll _ _) _))).mono ?_;rintro e w2 ⟨rfl,af⟩;have CE:=zH (ed.out.trans ((QB af).mono ed.out.size));have Gm:=zH (pD.out.trans ((QB af).mono pD.out.size))
     by_cases hg:gv=0
     . subst hg
       have hR:=zH (aj.out.trans (aB.out dm.out));go_wp2_with fail
       go_roundw
       case rel=>exact⟨j+1+1,aa,by go_num,hR,Gm.out⟩
       case measure=>simp[Ao];omega
     . have hR:=zH (aj.out.trans ((aF.out (by rw[dm.out];exact hg)).trans dm.out))
       have e0:(gv != 0)=Ar:=by simpa using hg
       go_wp2_with fail;go_ret;exact⟨zd hR.out.symm,CE.out⟩
 obtain rfl:k=cs.length:=by omega
 have HR:=zH (aj.out.trans um);go_wp2_with fail;go_ret;exact⟨zd HR.out.symm,dv.out⟩
end
end Go.Proofs.YtjjcgpfljidbhaaGreat
