/- Merged. -/
import Derived.Test.YtkmbdfdaffmhjaaGreatTb
import Derived.Maps.Own
import Derived.Maps.OwnIn
import Derived.OrdersIn
import Derived.Laws.Pointers
import Derived.Laws.CopyOwn
import Derived.Deep.RegionLaw
import Derived.IntWalk
import Derived.Maps.RangeWalk
open Go.Proofs.Tryz
open Go.Value renaming int->O,slice->I,bool->Ah,agg->Ai,pointer->Aj
open Go.IntKind renaming i64->U
open Option renaming none->Z,some->J
open Go.Obj renaming cells->Ag
open Go.Ending renaming returned->Ak
open Go.Proofs.Tryz renaming prog->Al
open Go.RowKit renaming Below->Am,intOf->Ap,Hid->Aq
open Go renaming Calls->An,Value->Ar,run_equalIn_int->NK,getD_replicate_false->Rz
open Bool renaming true->Au,false->Aw
open Nat renaming sub_zero->N8
open Go.World.ownsRow renaming kept->Pd,alloc->PN
open Go.World.grownBy renaming refl->RR
open List renaming getElem_set->Sb,sum_append->Se
namespace Go.Proofs.YtkmbdfdaffmhjaaGreat
abbrev RG:=@List.mem_of_getElem?
abbrev Po:=@List.pairwise_iff_getElem
abbrev L3:=@Array.getElem?_setIfInBounds_ne
abbrev Sh:=@Go.CallsIn.inRound
abbrev R5:=@Go.Oper.wp_mono
abbrev Rp:=@List.length_take
abbrev Sl:=@Go.Calls.mono
abbrev PT:=@Go.mem_ready
abbrev NL:=@Option.some.inj
abbrev PQ:=@Nat.lt_or_ge
abbrev Rw:=@Array.getElem?_eq_none
abbrev PO:=@Ne.symm
abbrev PB:=@List.take_zero
abbrev NW:=@List.map_congr_left
abbrev Pk:=@List.foldl_append
abbrev PZ:=@List.getElem?_take
abbrev Lk:=@Go.heap_setCell_same
abbrev NQ:=@Array.getElem?_setIfInBounds_self_of_lt
abbrev Nq:=@Nat.sub_self
abbrev Ri:=@List.sum_cons
abbrev RJ:=@List.flatMap_append
abbrev Ry:=@List.length_singleton
abbrev Px:=@List.getElem?_replicate
abbrev LU:=@List.length_replicate
abbrev Pn:=@List.ext_getElem
set_option maxRecDepth 100000
set_option maxHeartbeats 4000000
section
open Go.RowKit
def Qc:Ct Exn:=⟨kXn,fun S w cs x=>∃A c A2 c2,cs=[O U x.c,I A x.word.length c,I A2 x.views.length c2]/\RAtS S w A x.word/\LAtS S w A2 x.views/\x.word.length<=c⟩
theorem zS:CtOk Qc where
 len:=fun ⟨A,c,A2,c2,e,_⟩=>by rw[e];rfl
 one:=fun ⟨A,c,A2,c2,e,_⟩ u hu=>by rw[e] at hu;simp at hu;rcases hu with rfl | rfl | rfl<;>rfl
 keep:=fun ⟨A,c,A2,c2,e,h1,h2,h3⟩ hk=>⟨A,c,A2,c2,e,h1.keep hk,h2.keep hk,h3⟩
 keepC:=fun ⟨A,c,A2,c2,e,h1,h2,h3⟩ hk=>⟨A,c,A2,c2,e,h1.keepC hk,h2.keepC hk,h3⟩
 mono:=fun ⟨A,c,A2,c2,e,h1,h2,h3⟩ hm=>⟨A,c,A2,c2,e,h1.mono hm,h2.mono hm,h3⟩
def XCap(w:Ba)(A:Bb)(xs:List Exn):Prop:=∀b o q,A=J ⟨b,o,q⟩->∀(i:Nat) (_:i<xs.length) (B:Bb) (n c:Nat),w.cell? ⟨b,o+i*3+1,Z⟩=J (I B n c)->n<=c
section
variable {S:Nat->Prop} {w:Ba} {ab:Nat} {v:Ar}
theorem gh{xs:List Exn}(h:OwnX Qc S w ab v xs):∃A cap,v=I A xs.length cap/\xs.length<=cap/\cap<=maxLen/\XAt w w.heap.size A xs/\XCap w A xs:=by
 obtain⟨A,cap,e,h1,h2,h3⟩:=h.form zS
 have key:∀g,A=J ⟨g,0,Z⟩->∀(i:Nat) (hi:i<xs.length),∃A' c' A2 c2,w.cell? ⟨g,i*3,Z⟩=J (O U xs[i].c)/\w.cell? ⟨g,i*3+1,Z⟩=J (I A' xs[i].word.length c')/\w.cell? ⟨g,i*3+2,Z⟩=J (I A2 xs[i].views.length c2)/\RAt w w.heap.size A' xs[i].word/\LAt w w.heap.size A2 xs[i].views/\xs[i].word.length<=c':=by
  intro g eg i hi;obtain⟨g',eg',_,hg,hc⟩:=h3 (by omega);rw[eg] at eg'
  cases eg'
  obtain⟨cs,⟨A',c',A2,c2,rfl,hr,hl,hw⟩,ap⟩:=hc i hi;have h0:=ap 0 _ rfl;have h1:=ap 1 _ rfl;have h2:=ap 2 _ rfl;change w.cell? ⟨g,i*3+0,Z⟩=_ at h0;change w.cell? ⟨g,i*3+1,Z⟩=_ at h1;change w.cell? ⟨g,i*3+2,Z⟩=_ at h2;exact⟨A',c',A2,c2,by simpa using h0,by simpa using h1,by simpa using h2,hr.rat,hl.lat,hw⟩
 refine⟨A,cap,e,h1,h2,fun h0=>?_,fun b o q eA i hi B n c ap=>?_⟩
 . obtain⟨g,rfl,_,hg,_⟩:=h3 h0
   refine⟨g,0,rfl,hg,fun i hi=>?_⟩;obtain⟨A',c',A2,c2,k0,k1,k2,hr,hl,_⟩:=key g rfl i hi;refine⟨_,_,_,?_,?_,?_,rfl,⟨A',c',rfl,hr⟩,⟨A2,c2,rfl,hl⟩⟩
   . simpa using k0
   . simpa using k1
   simpa using k2
 obtain⟨g,eg,_,hg,_⟩:=h3 (by omega);have eg2:=eg;rw[eA] at eg
 cases eg
 obtain⟨A',c',A2,c2,k0,k1,k2,hr,hl,hw⟩:=key _ eg2 i hi;rw[LQ] at ap;rw[k1] at ap
 cases ap
 exact hw
end
end
section
open Go.RowKit
structure KeyOk{κ:Type}(P:Program)(kt:TypeId)(enc:κ->Ar):Prop where
 inj:∀a b,enc a=enc b->a=b
 check:∀(w:Ba) (em:Bool) (a:κ),(Instr.checkKey em 10000 kt (enc a)).run P w=.ok () w
 equal:∀(w:Ba) (a b:κ),(Op.equal kt (enc a) (enc b)).run P w=.ok (@decide (enc a=enc b) (Classical.propDecidable _)) w
 now:∀(d:TypeDesc),P.underlying kt=J d->(∀a b:κ,Instr.sameNow d (enc a) (enc b)=J (@decide (enc a=enc b) (Classical.propDecidable _)))\/(∀a b:κ,Instr.sameNow d (enc a) (enc b)=Z)
 stays:∀a:κ,Instr.sameBits 10000 (enc a) (enc a)=Au
 kind:∃d,P.underlying kt=J d
section
variable {κ:Type} {P:Program} {kt:TypeId} {enc:κ->Ar}
open Classical
theorem Ze{d:TypeDesc}(h:∀a b:κ,Instr.sameNow d (enc a) (enc b)=J (decide (enc a=enc b)))(x:κ):∀(es:List MapEntry) (i:Nat),(∀e∈es,∃k,e.key=enc k) ->
  (Instr.findNow d (enc x) es i=J Z/\∀e∈es,e.key≠enc x)\/∃j e,Instr.findNow d (enc x) es i=J (J (i+j,e.val))/\es[j]?=J e/\e.key=enc x
 | [],i,_=>.inl ⟨rfl,fun _ h=>by cases h⟩
 | e::es,i,hk=>by
  obtain⟨k,pV⟩:=hk e (by simp)
  by_cases he:enc x=enc k
  . refine .inr ⟨0,e,?_,rfl,by rw[pV,he]⟩
    simp[Instr.findNow,pV,h,he]
  . rcases Ze h x es (i+1) (fun e he=>hk e (by simp[he])) with ⟨h1,h2⟩ | ⟨j,e',h1,h2,h3⟩
    . refine .inl ⟨by simp[Instr.findNow,pV,h,he,h1],fun e' CB=>?_⟩
      rcases LL.1 CB with rfl | CB
      . rw[pV];exact fun e2=>he e2.symm
      . exact h2 e' CB
    . exact .inr ⟨j+1,e',by simp[Instr.findNow,pV,h,he,h1];omega,by simpa using h2,h3⟩
theorem jZ(K:KeyOk P kt enc)(w:Ba)(x:κ):∀(es:List MapEntry) (i:Nat),(∀e∈es,∃k,e.key=enc k) ->
  ((Instr.findAsking kt (enc x) es i).run P w=.ok Z w/\∀e∈es,e.key≠enc x)\/∃j e,(Instr.findAsking kt (enc x) es i).run P w=.ok (J (i+j,e.val)) w/\es[j]?=J e/\e.key=enc x
 | [],i,_=>.inl ⟨rfl,fun _ h=>by cases h⟩
 | e::es,i,hk=>by
  obtain⟨k,pV⟩:=hk e (by simp)
  by_cases he:enc x=enc k
  . refine .inr ⟨0,e,?_,rfl,by rw[pV,he]⟩
    simp[Instr.findAsking,pV,K.equal,he,Result.andThen]
  . rcases jZ K w x es (i+1) (fun e he=>hk e (by simp[he])) with ⟨h1,h2⟩ | ⟨j,e',h1,h2,h3⟩
    . refine .inl ⟨by simp[Instr.findAsking,pV,K.equal,he,h1,Result.andThen],fun e' CB=>?_⟩
      rcases LL.1 CB with rfl | CB
      . rw[pV];exact fun e2=>he e2.symm
      . exact h2 e' CB
    . exact .inr ⟨j+1,e',by simp[Instr.findAsking,pV,K.equal,he,h1,Result.andThen];omega,by simpa using h2,h3⟩
theorem YB{d:TypeDesc}(h:∀a b:κ,Instr.sameNow d (enc a) (enc b)=Z)(x:κ)(es:List MapEntry)(hk:∀e∈es,∃k,e.key=enc k) :
  es=[]\/Instr.findNow d (enc x) es 0=Z:=by
 cases es with
 | nil=>exact .inl rfl
 | cons e es=>
  obtain⟨k,pV⟩:=hk e (by simp);exact .inr (by simp[Instr.findNow,pV,h])
theorem YA(K:KeyOk P kt enc)(w:Ba)(x:κ)(es:List MapEntry)(hk:∀e∈es,∃k,e.key=enc k) :
  ((Instr.findKey kt (enc x) es).run P w=.ok Z w/\∀e∈es,e.key≠enc x)\/∃j e,(Instr.findKey kt (enc x) es).run P w=.ok (J (j,e.val)) w/\es[j]?=J e/\e.key=enc x:=by
 obtain⟨d,hd⟩:=K.kind;rcases K.now d hd with h | h
 . rcases Ze h x es 0 hk with ⟨h1,h2⟩ | ⟨j,e,h1,h2,h3⟩
   . exact .inl ⟨by simp[Instr.findKey,run_underlying hd,h1],h2⟩
   exact .inr ⟨j,e,by simp[Instr.findKey,run_underlying hd,h1],h2,h3⟩
 rcases YB h x es hk with rfl | hn
 . exact .inl ⟨by simp[Instr.findKey,run_underlying hd,Instr.findNow],fun _ h=>by cases h⟩
 rcases jZ K w x es 0 hk with ⟨h1,h2⟩ | ⟨j,e,h1,h2,h3⟩
 . exact .inl ⟨by simp[Instr.findKey,run_underlying hd,hn,h1],h2⟩
 exact .inr ⟨j,e,by simp[Instr.findKey,run_underlying hd,hn,h1],h2,h3⟩
def MapOf(enc:κ->Ar)(w:Ba)(b n:Nat)(f:κ->Option Ar):Prop:=
 ∃es cm,w.heap[b]?=J (.map es cm)/\es.size<=n/\(es.toList.Pairwise fun x y=>x.key≠y.key)/\(∀e∈es.toList,∃k,e.key=enc k/\f k=J e.val)/\(∀k v,f k=J v->∃e∈es.toList,e.key=enc k/\e.val=v)
theorem MapOf.made(w:Ba):MapOf enc (w.alloc (.map #[] 0)) w.heap.size 0 (fun _=>Z):=
 ⟨#[],0,heap_alloc_new w _,Ld _,List.Pairwise.nil,fun e h=>by simp at h,fun k v h=>by cases h⟩
theorem MapOf.same{w w':Ba}{b n:Nat}{f:κ->Option Ar}(h:MapOf enc w b n f)(hs:w'.heap[b]?=w.heap[b]?):MapOf enc w' b n f:=by
 obtain⟨es,cm,hb,r⟩:=h;exact⟨es,cm,hs.trans hb,r⟩
theorem MapOf.lt{w:Ba}{b n:Nat}{f:κ->Option Ar}(h:MapOf enc w b n f):b<w.heap.size:=by
 obtain⟨es,cm,hb,r⟩:=h;exact(Ln.1 hb).1
theorem MapOf.look{w:Ba}{b n:Nat}{f:κ->Option Ar}{t e:TypeId}{z:Ar}(h:MapOf enc w b n f)(K:KeyOk P kt enc)(ht:P.underlying t=J (.map kt e))(hz:(zeroValue e).run P w=.ok z w)(k:κ) :
  (Instr.lookup t (.map (J b)) (enc k) Aw).run P w=.ok ((f k).getD z) w:=by
 obtain⟨es,cm,hb,_,_,h1,h2⟩:=h;rcases YA K w k es.toList (fun e he=>by obtain⟨k,hk,_⟩:=h1 e he;exact⟨k,hk⟩) with ⟨r1,r2⟩ | ⟨j,e0,r1,r2,r3⟩
 · have hf : f k = Z := by
    cases hf:f k with
    | none=>rfl
    | some v=>obtain⟨e,he,hk,_⟩:=h2 k v hf;exact absurd hk (r2 e he)
   simp[Instr.lookup,run_underlying ht,MapKept.run_getObj_map hb,K.check w _ k,r1,hz,Result.andThen,hf]
 obtain⟨k',fO,hf⟩:=h1 e0 (RG r2);have:k=k':=K.inj _ _ (r3.symm.trans fO);subst this;simp[Instr.lookup,run_underlying ht,MapKept.run_getObj_map hb,K.check w _ k,r1,Result.andThen,hf]
theorem MapOf.look2{w:Ba}{b n:Nat}{f:κ->Option Ar}{t e:TypeId}{z:Ar}(h:MapOf enc w b n f)(K:KeyOk P kt enc)(ht:P.underlying t=J (.map kt e))(hz:(zeroValue e).run P w=.ok z w)(k:κ) :
  (Instr.lookup t (.map (J b)) (enc k) Au).run P w=.ok (.tuple #[(f k).getD z,Ah (f k).isSome]) w:=by
 obtain⟨es,cm,hb,_,_,h1,h2⟩:=h;rcases YA K w k es.toList (fun e he=>by obtain⟨k,hk,_⟩:=h1 e he;exact⟨k,hk⟩) with ⟨r1,r2⟩ | ⟨j,e0,r1,r2,r3⟩
 · have hf : f k = Z := by
    cases hf:f k with
    | none=>rfl
    | some v=>obtain⟨e,he,hk,_⟩:=h2 k v hf;exact absurd hk (r2 e he)
   simp[Instr.lookup,run_underlying ht,MapKept.run_getObj_map hb,K.check w _ k,r1,hz,Result.andThen,hf]
 obtain⟨k',fO,hf⟩:=h1 e0 (RG r2);have:k=k':=K.inj _ _ (r3.symm.trans fO);subst this;simp[Instr.lookup,run_underlying ht,MapKept.run_getObj_map hb,K.check w _ k,r1,Result.andThen,hf]
def ql[DecidableEq κ](f:κ->Option Ar)(k:κ)(v:Ar):κ->Option Ar:=fun x=>if x=k then J v else f x
theorem jI{P:Program}{w:Ba}{b:Nat}{es es':Array MapEntry}{c c':Nat}(hb:w.heap[b]?=J (.map es c)) :
  (setObj b (.map es' c')).run P w=.ok () { w with heap:=w.heap.setIfInBounds b (.map es' c') }:=by
 simp[setObj,Sem.run,hb]
theorem pw_key{l:List MapEntry}(h:l.Pairwise fun x y=>x.key≠y.key){i j:Nat}{a b:MapEntry}(hi:l[i]?=J a)(hj:l[j]?=J b)(he:a.key=b.key):i=j:=by
 obtain⟨tc,rfl⟩:=Lp.1 hi;obtain⟨cU,rfl⟩:=Lp.1 hj;rcases Nat.lt_trichotomy i j with ac | h' | ac
 . exact absurd he (Po.1 h i j tc cU ac)
 . exact h'
 exact absurd he.symm (Po.1 h j i cU tc ac)
theorem pw_set{l:List MapEntry}(h:l.Pairwise fun x y=>x.key≠y.key){j:Nat}{a a':MapEntry}(hj:l[j]?=J a)(he:a.key=a'.key):(l.set j a').Pairwise fun x y=>x.key≠y.key:=by
 obtain⟨cU,rfl⟩:=Lp.1 hj;rw[Po] at h ⊢;intro i k hi hk Vu;simp only[List.length_set] at hi hk;simp only[List.getElem_set]
 split
 . rename_i h1;subst h1
   split
   . omega
   rw[<-he];exact h _ _ hi hk Vu
 split
 . rename_i h1;subst h1
   rw[<-he];exact h _ _ hi hk Vu
 exact h _ _ hi hk Vu
theorem MapOf.put[DecidableEq κ]{w:Ba}{b n:Nat}{f:κ->Option Ar}{t e:TypeId}(h:MapOf enc w b n f)(K:KeyOk P kt enc)(ht:P.underlying t=J (.map kt e))(k:κ)(v:Ar) :
  ∃w',(Instr.mapUpdate t (.map (J b)) (enc k) v).run P w=.ok () w'/\MapOf enc w' b (n+1) (ql f k v)/\w.grownBy w' (J b):=by
 obtain⟨es,cm,hb,hn,Bx,h1,h2⟩:=h;have cp:=(Ln.1 hb).1
 have grown:∀o,w.grownBy { w with heap:=w.heap.setIfInBounds b o } (J b):=fun o=>
  ⟨rfl,rfl,rfl,by simp,fun i _ hi=>by simp only;rw[L3 (fun e=>hi (by rw[e]))]⟩
 have at_:∀o,({ w with heap:=w.heap.setIfInBounds b o }:Ba).heap[b]?=J o:=fun o=>by simp[cp]
 rcases YA K w k es.toList (fun e he=>by obtain⟨k,hk,_⟩:=h1 e he;exact⟨k,hk⟩) with ⟨r1,r2⟩ | ⟨j,e0,r1,r2,r3⟩
 . refine⟨_,?_,⟨es.push { key:=enc k,val:=v,born:=cm },cm+1,at_ _,by simp;omega,?_,?_,?_⟩,grown _⟩
   . simp[Instr.mapUpdate,run_underlying ht,MapKept.run_getObj_map hb,K.check w Aw k,r1,jI hb,Result.andThen]
   . rw[Array.toList_push]
     exact List.pairwise_append.2 ⟨Bx,List.pairwise_singleton _ _,fun a ha c hc=>by simp only[List.mem_singleton] at hc;subst hc;exact r2 a ha⟩
   . intro e he
     simp only[Array.toList_push,List.mem_append,List.mem_singleton] at he;rcases he with he | rfl
     . obtain⟨k',fO,hf⟩:=h1 e he
       refine⟨k',fO,?_⟩;have:k'≠k:=fun e2=>r2 e he (by rw[fO,e2])
       simp[ql,this,hf]
     exact⟨k,rfl,by simp[ql]⟩
   intro k' v' hf;unfold ql at hf
   split at hf
   . rename_i hk;subst hk
     cases hf
     exact⟨_,by simp;exact .inr rfl,rfl,rfl⟩
   obtain⟨e,he,hk,hv⟩:=h2 k' v' hf;exact⟨e,by simp;exact .inl (by simpa using he),hk,hv⟩
 have Vm:es[j]?=J e0:=by simpa using r2
 have hs:(Instr.keyThatStays e0.key (enc k)).run P w=.ok (enc k) w:=by simp[Instr.keyThatStays,r3,K.stays]
 have cU:j<es.toList.length:=(Lp.1 r2).1
 have rK:(es.modify j (fun e'=>{ e' with key:=enc k,val:=v })).toList=es.toList.set j { e0 with key:=enc k,val:=v }:=by
  rw[Array.toList_modify,ChangeMaps.modify_eq_set _ _ _ _ r2]
 refine⟨_,?_,⟨es.modify j (fun e'=>{ e' with key:=enc k,val:=v }),cm,at_ _,by simp;omega,?_,?_,?_⟩,grown _⟩
 . simp[Instr.mapUpdate,run_underlying ht,MapKept.run_getObj_map hb,K.check w Aw k,r1,Vm,hs,jI hb,Result.andThen]
 . rw[rK]
   exact pw_set Bx r2 (by simpa using r3)
 . intro e he
   rw[rK] at he;obtain⟨i,hi,rfl⟩:=LP he;rw[Sb]
   split
   . exact⟨k,rfl,by simp[ql]⟩
   rename_i bC;have fX:i<es.toList.length:=by simpa using hi
   obtain⟨k',fO,hf⟩:=h1 _ (Le fX);refine⟨k',fO,?_⟩
   by_cases e2:k'=k
   . exact absurd (fO.trans ((congrArg enc e2).trans r3.symm)) (fun e3=>bC (pw_key Bx r2 (Lm fX) e3.symm))
   simp[ql,e2,hf]
 intro k' v' hf;unfold ql at hf
 split at hf
 . rename_i hk;subst hk
   cases hf
   refine⟨{ e0 with key:=enc k',val:=v },?_,rfl,rfl⟩;rw[rK];exact NG.2 ⟨j,by simpa using cU,by simp⟩
 rename_i hk;obtain⟨e,he,Io,hv⟩:=h2 k' v' hf;refine⟨e,?_,Io,hv⟩;rw[rK];obtain⟨i,hi,rfl⟩:=LP he
 have Iq:j≠i:=by
  rintro rfl;rw[Lm cU] at r2
  cases r2
  exact hk (K.inj _ _ (Io.symm.trans r3))
 exact NG.2 ⟨i,by simpa using hi,by simp[Iq]⟩
end
end
section
open Go.RowKit
open Classical in
theorem yO:KeyOk Al 3 (O U) where
 inj:=fun a b h=>by injection h
 check:=fun w em a=>by
  have hi:Al.underlying 3=J (.int U):=LF;unfold Instr.checkKey;simp[run_underlying hi,Result.andThen]
 equal:=fun w a b=>by
  have hi:Al.underlying 3=J (.int U):=LF;unfold Op.equal Op.maxDepth;rw[NK w _ 3 _ _ _ _ hi]
  by_cases h:a=b<;>simp[h]
 now:=fun d hd=>.inl fun a b=>by
  have hi:Al.underlying 3=J (.int U):=LF;rw[hi] at hd
  cases hd
  by_cases h:a=b<;>simp[Instr.sameNow,h]
 stays:=fun a=>by simp[Instr.sameBits]
 kind:=⟨_,LF⟩
theorem Qm(a b:Vw)(h:Ai a.cells=.agg b.cells):a=b:=by
 injection h with h
 obtain⟨a0,a1,a2,a3,a4,a5,a6,a7⟩:=a;obtain⟨b0,b1,b2,b3,b4,b5,b6,b7⟩:=b;simpa[Vw.cells] using h
theorem Xx(w:Ba)(em:Bool)(n:Nat)(a:Int):(Instr.checkKey em (n+1) 3 (O U a)).run Al w=.ok () w:=by
 have hi:Al.underlying 3=J (.int U):=LF;unfold Instr.checkKey;simp[run_underlying hi,Result.andThen]
theorem Xy(w:Ba)(em:Bool)(n:Nat)(a b c d e:Int):(Instr.checkKey em (n+2) 72 (Ai #[O U a,O U b,O U c,O U d,O U e])).run Al w=.ok () w:=by
 have hu:Al.underlying 72=J (.array 5 3):=Pj;have hs:(sizeOf 3).run Al w=.ok 1 w:=by kernel_rfl
 have p0:=fun x0 x1 x2 x3 x4=>yw #[x0,x1,x2,x3,x4] 0 x0 rfl w
 have p1:=fun x0 x1 x2 x3 x4=>yw #[x0,x1,x2,x3,x4] 1 x1 rfl w
 have p2:=fun x0 x1 x2 x3 x4=>yw #[x0,x1,x2,x3,x4] 2 x2 rfl w
 have p3:=fun x0 x1 x2 x3 x4=>yw #[x0,x1,x2,x3,x4] 3 x3 rfl w
 have p4:=fun x0 x1 x2 x3 x4=>yw #[x0,x1,x2,x3,x4] 4 x4 rfl w
 unfold Instr.checkKey;simp only[Sem.run_bind,run_underlying hu,Result.andThen_ok,hs,Std.Legacy.Range.forIn_eq_forIn_range',Std.Legacy.Range.size,Nat.sub_zero,Nat.add_sub_cancel,Nat.div_one,show List.range' 0 5 1=[0,1,2,3,4] from rfl,List.forIn_cons,List.forIn_nil,p0,p1,p2,p3,p4,Nat.mul_one,Xx,Sem.run_pure]
open Classical in
theorem ZH:KeyOk Al 133 (fun v:Vw=>.agg v.cells) where
 inj:=Qm
 check:=fun w em v=>by
  have hu:Al.underlying 133=J (.struct (Al.fieldsOf 133)):=by kernel_rfl
  have hf : (Al.fieldsOf 133).toList.map (fun f => (f.name, f.type, f.offset)) = [("Proc", 3, 0), ("Round", 3, 1), ("Input", 3, 2), ("Heard", 72, 3)] := by kernel_rfl
  have p0:∀x:Vw,(part 3 x.cells 0).run Al w=.ok (O U x.p) w:=fun x=>yw _ 0 _ rfl w
  have p1:∀x:Vw,(part 3 x.cells 1).run Al w=.ok (O U x.r) w:=fun x=>yw _ 1 _ rfl w
  have p2:∀x:Vw,(part 3 x.cells 2).run Al w=.ok (O U x.i) w:=fun x=>yw _ 2 _ rfl w
  have p3:∀x:Vw,(part 72 x.cells 3).run Al w=.ok (Ai #[O U x.h0,O U x.h1,O U x.h2,O U x.h3,O U x.h4]) w:=fun x=>by unfold Vw.cells;kernel_rfl
  unfold Instr.checkKey;simp only[Sem.run_bind,run_underlying hu,Result.andThen_ok];rw[<-Array.forIn_toList]
  generalize (Al.fieldsOf 133).toList=fs at hf
  obtain⟨f0,f1,f2,f3,rfl⟩:∃f0 f1 f2 f3,fs=[f0,f1,f2,f3]:=by
   have hl:fs.length=4:=by simpa using congrArg List.length hf
   rcases fs with _ | ⟨f0,_ | ⟨f1,_ | ⟨f2,_ | ⟨f3,_ | ⟨f4,r⟩⟩⟩⟩⟩<;>simp at hl
   exact⟨_,_,_,_,rfl⟩
  simp only[List.map_cons,List.map_nil,List.cons.injEq,Prod.mk.injEq,and_true] at hf;obtain⟨⟨n0,t0,o0⟩,⟨n1,t1,o1⟩,⟨n2,t2,o2⟩,⟨n3,t3,o3⟩⟩:=hf;simp only[List.forIn_cons,List.forIn_nil,n0,n1,n2,n3,t0,t1,t2,t3,o0,o1,o2,o3,p0,p1,p2,p3,Sem.run_bind,Result.andThen_ok,Xx,Xy,ne_eq,String.reduceEq,not_false_eq_true,if_true,Sem.run_pure]
 equal:=fun w a b=>by
  unfold Op.equal Op.maxDepth;rw[uj 9997 a b w]
  by_cases h:a=b
  . simp[h]
  . have:¬(Ai a.cells=.agg b.cells):=fun e=>h (Qm a b e)
    rw[Lu h,Lu this]
 now:=fun d hd=>.inr fun a b=>by
  have hu:Al.underlying 133=J (.struct (Al.fieldsOf 133)):=by kernel_rfl
  rw[hu] at hd
  cases hd
  simp[Instr.sameNow]
 stays:=fun a=>by simp[Instr.sameBits,Vw.cells]
 kind := ⟨_, by have hu : Al.underlying 133 = J (.struct (Al.fieldsOf 133)) := by kernel_rfl
                exact hu⟩
end
section
open Go.RowKit
structure TArg(w:Ba)(A:Bb)(cap:Nat)(vs:List Vw):Prop where
 rows:VAt w w.heap.size A vs
 lec:vs.length<=cap
 lem:cap<=maxLen
 few:vs.length<=100000
theorem TArg.keep{w w':Ba}{A:Bb}{cap:Nat}{vs:List Vw}(h:TArg w A cap vs)(hb:Am w.heap.size w w'):TArg w' A cap vs:=
 ⟨(h.rows.keep hb).more hb.size,h.lec,h.lem,h.few⟩
def yQ(vs:List Vw):List Ar:=vs.flatMap fun x=>x.cells.toList
theorem vG(vs us:List Vw):yQ (vs++us)=yQ vs++yQ us:=by simp[yQ]
theorem vF(vs:List Vw):(yQ vs).length=vs.length*8:=by
 induction vs with
 | nil=>rfl
 | cons v vs ih=>simp only[yQ,List.flatMap_cons,List.length_append,List.length_cons] at *;rw[ih];simp[Vw.cells];omega
theorem wk:∀(vs:List Vw) (i:Nat) (hi:i<vs.length) (k:Nat),k<8->(yQ vs)[i*8+k]?=vs[i].cells[k]?
 | v::vs,0,hi,k,hk=>by
  simp only[yQ,List.flatMap_cons,List.getElem_cons_zero,Nat.zero_mul,Nat.zero_add];rw[LO (by simp[Vw.cells];omega)];simp
 | v::vs,i+1,hi,k,hk=>by
  have:=wk vs i (by simpa using hi) k hk;simp only[yQ,List.flatMap_cons,List.getElem_cons_succ] at *;rw[LJ (by simp[Vw.cells];omega),<-this]
  congr 1
  simp[Vw.cells];omega
def OwnV(w:Ba)(ab:Nat)(v:Ar)(vs:List Vw):Prop:=w.ownsRow ab 133 8 v vs.length (yQ vs)
theorem OwnV.nil(w:Ba)(ab:Nat):OwnV w ab (I Z 0 0) []:=P5 w ab _ 8
theorem OwnV.form{w:Ba}{ab:Nat}{v:Ar}{vs:List Vw}(h:OwnV w ab v vs)(hf:vs.length<=100000):∃A cap,v=I A vs.length cap/\TArg w A cap vs:=by
 rcases h.2 with ⟨rfl,h0⟩ | ⟨g,cap,cur,rfl,_,hg,ed,oU,_⟩
 . have:vs=[]:=LR h0
   subst this;exact⟨Z,0,rfl,fun h=>absurd h (by simp),Ld _,Nz _,hf⟩
 refine⟨_,_,rfl,fun _=>⟨g,0,rfl,(Ln.1 hg).1,fun i hi k u hk=>?_⟩,ed,oU,hf⟩;have hk8:k<8:=by have:=(Ln.1 hk).1;simpa[Vw.cells] using this
 have:=h.cells (g:=g) rfl (i*8+k) u (by rw[wk vs i hi k hk8];exact hk);rw[show(⟨g,0,Z⟩:Addr).add (i*8+k)=⟨g,0+i*8+k,Z⟩ from by unfold Addr.add;split<;>simp_all] at this;exact this
theorem OwnV.low{w:Ba}{ab base':Nat}{v:Ar}{xs:List Vw}(h:OwnV w ab v xs)(hb:base'<=ab):OwnV w base' v xs:=by
 refine⟨h.1,?_⟩;rcases h.2 with h2 | ⟨g,cap,cur,hv,hg,r⟩
 . exact Or.inl h2
 exact Or.inr ⟨g,cap,cur,hv,by omega,r⟩
theorem OwnV.lt{w:Ba}{ab:Nat}{v:Ar}{xs:List Vw}(h:OwnV w ab v xs):∀k,v.ownBlock=J k->ab<=k/\k<w.heap.size:=Rk h
theorem wX:(Al.info? 133).map (fun i=>(i.zero,i.size,i.bytes))=J (J (.agg (⟨0,0,0,0,0,0,0,0⟩:Vw).cells),8,64):=by kernel_rfl
theorem ge(v:Vw):∀u∈v.cells.toList,u.oneCell'=Au:=by
 intro u hu;simp only[Vw.cells,List.mem_cons,List.not_mem_nil,or_false] at hu;rcases hu with rfl | rfl | rfl | rfl | rfl | rfl | rfl | rfl<;>rfl
theorem JO(vs:List Vw):∀u∈yQ vs,u.oneCell'=Au:=by
 intro u hu;obtain⟨v,_,hv⟩:=NH.1 hu;exact ge v u hv
theorem YP(c:Nat)(ty:TypeId)(W:Ba):(Builtin.append_ #[34,34] ty #[I Z 0 0,I Z 0 c]).run Al W=.ok (I Z 0 0) W:=by
 obtain⟨i0,hi,_⟩:=RO wX;simp[Builtin.append_,run_underlying underlying34,sizeOf,typeInfo,hi,Builtin.lenOf,Builtin.firstCells]
theorem TArg.news{w:Ba}{ad:Addr}{cap:Nat}{vs:List Vw}(h:TArg w (J ad) cap vs):∀j u,(yQ vs)[j]?=J u->w.cell? (ad.add j)=J u:=by
 intro j u hj;have hj8:j<vs.length*8:=by have:=(Lp.1 hj).1;rwa[vF] at this
 obtain⟨b,off,e,ac,hc⟩:=h.rows (by omega)
 cases e
 rw[Pf];have fX:j / 8<vs.length:=by omega
 have h8:j / 8*8+j % 8=j:=by omega
 rw[<-h8,wk vs (j / 8) fX (j % 8) (by omega)] at hj;have:=hc (j / 8) fX (j % 8) u hj;rwa[Pp,h8] at this
theorem OwnV.lit{w:Ba}{ab:Nat}{v:Ar}{vs:List Vw}(h:OwnV w ab v vs):∃A cap,v=I A vs.length cap:=by
 rcases h.2 with ⟨rfl,h0⟩ | ⟨g,cap,cur,rfl,_⟩
 . exact⟨Z,0,by rw[h0]⟩
 exact⟨_,_,rfl⟩
theorem wp_appv0{o:Oper}{a:Act}{K:Act->Ba->Prop}{Q:Exit->Act->Ba->Prop}{W:Ba}(s x:Operand)
  (ho:o.op=.call { callee:=.builtin .append,args:=#[s,x],argTypes:=#[34,34] }) (ab:Nat) (hs:a.eval s=I Z 0 0) (A:Bb) (cap:Nat) (vs:List Vw)
  (hx:a.eval x=I A vs.length cap) (hT:TArg W A cap vs) (hb:ab<=W.heap.size)
  (h:∀A' aH w1,OwnV w1 ab (I A' vs.length aH) vs->W.grownBy w1 Z->K (a.put o.dst (I A' vs.length aH)) w1):o.wp Al a W K Q:=by
 obtain⟨i0,hi,eO,cY,ep⟩:=RO wX
 cases A with
 | none=>
  have pJ:vs=[]:=by
   rcases Nu vs.length with h | h
   . exact LR h
   . obtain⟨b,off,e,_⟩:=hT.rows h;cases e
  subst pJ;have ft:=YP cap o.type W;unfold Oper.wp execOp;simp only[ho,resolve,invoke,builtin,Sem.run_bind,Sem.run_pure,Result.andThen_ok,List.map_toArray,List.map_cons,List.map_nil,hs,hx,List.length_nil,ft];exact h Z 0 W (OwnV.nil _ _) (RR _ _)
 | some ad=>
  refine wp_append_own W s x 34 ho ab 133 i0 _ 8 64 Ra hi eO cY ep rfl (by decide) _ 0 [] hs (P5 W ab _ 8) ad vs.length cap (yQ vs) hx (vF vs) hT.news (JO vs) (by have:=hT.few;unfold maxLen;omega) (by have:=hT.few;omega) hb ?_;intro v' w1 bZ cJ _;have rH:OwnV w1 ab v' vs:=by unfold OwnV;simpa using bZ
  obtain⟨A',aH,rfl⟩:=rH.lit;exact h A' aH w1 rH cJ
theorem wp_appv1{o:Oper}{a:Act}{K:Act->Ba->Prop}{Q:Exit->Act->Ba->Prop}{W:Ba}(s x:Operand)
  (ho:o.op=.call { callee:=.builtin .append,args:=#[s,x],argTypes:=#[34,34] }) (ab:Nat) (V:Ar) (vs:List Vw) (v:Vw) (hs:a.eval s=V) (bZ:OwnV W ab V vs) (hf:vs.length<=100000)
  (g:Nat) (hx:a.eval x=I (J ⟨g,0,Z⟩) 1 1) (hg:W.heap[g]?=J (Ag v.cells 133 (0,0))) (hb:ab<=W.heap.size)
  (h:∀A' aH w1,OwnV w1 ab (I A' (vs.length+1) aH) (vs++[v])->W.grownBy w1 V.ownBlock->K (a.put o.dst (I A' (vs.length+1) aH)) w1):o.wp Al a W K Q:=by
 obtain⟨i0,hi,eO,cY,ep⟩:=RO wX
 refine wp_append_lies W s x 34 ho ab 133 i0 _ 8 64 Ra hi eO cY ep rfl (by decide) V vs.length (yQ vs) hs bZ ⟨g,0,Z⟩ 1 1 v.cells.toList hx (by simp[Vw.cells])
  (RI hg) (ge v) (by omega) (by unfold maxLen;omega) (by omega) hb _ rfl ?_
 intro g' cap w1 rH cJ _ _;refine h _ cap w1 ?_ cJ;unfold OwnV;rw[Lv,vG];simpa[yQ] using rH
theorem JY{ops:Array Oper}{o:Oper}{a:Act}{K:Act->Ba->Prop}{Q:Exit->Act->Ba->Prop}{E:Prop}{W:Ba}(i5:o.guard=Z)(s x:Operand)
  (ho:o.op=.call { callee:=.builtin .append,args:=#[s,x],argTypes:=#[34,34] }) (ab:Nat) (hs:a.eval s=I Z 0 0) (A:Bb) (cap:Nat) (vs:List Vw)
  (hx:a.eval x=I A vs.length cap) (hT:TArg W A cap vs) (hb:ab<=W.heap.size)
  (h:∀A' aH w1,OwnV w1 ab (I A' vs.length aH) vs->W.grownBy w1 Z->K (a.put o.dst (I A' vs.length aH)) w1) :
  if Region.wanted o (yielded ops a.tmps)=Au then Oper.wp Al o a W K Q else E:=by
 have hw:Region.wanted o (yielded ops a.tmps)=Au:=by simp[Region.wanted,i5]
 rw[Lj hw];exact wp_appv0 s x ho ab hs A cap vs hx hT hb h
theorem ZT{ops:Array Oper}{o:Oper}{a:Act}{K:Act->Ba->Prop}{Q:Exit->Act->Ba->Prop}{E:Prop}{W:Ba}(i5:o.guard=Z)(s x:Operand)
  (ho:o.op=.call { callee:=.builtin .append,args:=#[s,x],argTypes:=#[34,34] }) (ab:Nat) (V:Ar) (vs:List Vw) (v:Vw) (hs:a.eval s=V) (bZ:OwnV W ab V vs) (hf:vs.length<=100000)
  (g:Nat) (hx:a.eval x=I (J ⟨g,0,Z⟩) 1 1) (hg:W.heap[g]?=J (Ag v.cells 133 (0,0))) (hb:ab<=W.heap.size)
  (h:∀A' aH w1,OwnV w1 ab (I A' (vs.length+1) aH) (vs++[v])->W.grownBy w1 V.ownBlock->K (a.put o.dst (I A' (vs.length+1) aH)) w1) :
  if Region.wanted o (yielded ops a.tmps)=Au then Oper.wp Al o a W K Q else E:=by
 have hw:Region.wanted o (yielded ops a.tmps)=Au:=by simp[Region.wanted,i5]
 rw[Lj hw];exact wp_appv1 s x ho ab V vs v hs bZ hf g hx hg hb h
theorem yj{W w1:Ba}{row:Option Nat}{b o:Nat}{u:Ar}(hg:W.grownBy w1 row)(h:W.cell? ⟨b,o,Z⟩=J u)(bC:row≠J b):w1.cell? ⟨b,o,Z⟩=J u:=by
 obtain⟨ob,ho,_⟩:=RL h;rw[LN ((hg.block b (Ln.1 ho).1 (fun e=>bC e.symm)))];exact h
theorem uf(w:Ba)(g k:Nat)(v':Ar):w.grownBy (w.setCell ⟨g,k,Z⟩ v') (J g):=
 ⟨rfl,rfl,rfl,by simp[World.setCell],fun j _ hj=>Lf w ⟨g,k,Z⟩ v' j (fun e=>hj (by rw[e]))⟩
theorem grown_heap{W w1:Ba}{row:Option Nat}{b:Nat}{o:Obj}(hg:W.grownBy w1 row)(h:W.heap[b]?=J o)(bC:row≠J b):w1.heap[b]?=J o:=
 (hg.block b (Ln.1 h).1 (fun e=>bC e.symm)).trans h
theorem OwnV.kept{w w':Ba}{ab:Nat}{v:Ar}{vs:List Vw}{row:Option Nat}(h:OwnV w ab v vs)(hg:w.grownBy w' row)(bC:v.ownBlock=Z\/v.ownBlock≠row):OwnV w' ab v vs:=Pd h hg bC
theorem OwnV.alloc{w:Ba}{ab:Nat}{v:Ar}{vs:List Vw}(h:OwnV w ab v vs)(o:Obj):OwnV (w.alloc o) ab v vs:=PN h o
theorem OwnV.drew{w:Ba}{ab:Nat}{v:Ar}{vs:List Vw}(h:OwnV w ab v vs):OwnV w.drew ab v vs:=h
theorem OwnV.below{w w':Ba}{ab B:Nat}{v:Ar}{xs:List Vw}(h:OwnV w ab v xs)(hb:Am B w w')(hB:w.heap.size<=B):OwnV w' ab v xs:=
 Pd (row:=Z) h ⟨hb.os,hb.tape,hb.output,hb.size,fun k hk _=>hb.block k (by omega)⟩ (by cases v.ownBlock<;>simp)
theorem ug{W w1:Ba}{row:Option Nat}{b o:Nat}(hg:W.grownBy w1 row)(h:W.frozen? ⟨b,o,Z⟩=Aw)(ac:b<W.heap.size)(bC:row≠J b):w1.frozen? ⟨b,o,Z⟩=Aw:=
 (World.grownBy.frozen_far hg ⟨b,o,Z⟩ ac (fun e=>bC e.symm)).trans h
theorem OwnV.ne{w:Ba}{ab b:Nat}{v:Ar}{xs:List Vw}(h:OwnV w ab v xs)(hb:b<ab):v.ownBlock≠J b:=fun e=>by
 have:=(h.lt b e).1;omega
def RetPut(n:Int)(A:Bb)(cap:Nat)(vs:List Vw)(v:Vw)(w:Ba)(e:Ending)(w':Ba):Prop:=
 Am w.heap.size w w'/\(v∈vs->e=Ak (.tuple #[Ai #[O U n,I A vs.length cap],O U (kB vs v)])) /\
  (v∉vs->∃A3 mf,e=Ak (.tuple #[Ai #[O U n,I A3 (vs.length+1) mf],O U vs.length])/\OwnV w' w.heap.size (I A3 (vs.length+1) mf) (vs++[v]))
end
section
open Go.RowKit
section
variable {P:Program} {md:Region.Mode} {ops:Array Oper} {Q:Exit->Act->Ba->Prop} {l n:Nat}
theorem op_round{o:Oper}{a:Act}{w:Ba}{K:Act->Ba->Prop}(hd:∀c,o.op≠.defer c)(h:o.wp P a w K Q):o.wpIn (Fence.wide.inRound l) n P a w K Q:=by
 refine⟨fun _ _=>trivial,?_⟩;show o.uponIn (Fence.wide.inRound l) n P a K Q ((o.semAt (J l) a.eval).run P w);rw[Oper.semAt_some l a.eval o hd];unfold Oper.wp at h
 revert h
 cases (execOp a.eval o).run P w with
 | ok x w'=>
  cases x with
  | value v=>exact fun h=>h
  | skip=>exact fun h=>h
  | defer d=>exact fun h=>h
  | enter f args=>exact fun h=>⟨(fun h'=>Bool.noConfusion (show Aw=Au from h')),Sh l (RW.2 h)⟩
  | row r args=>exact fun h=>⟨(fun h'=>Bool.noConfusion (show Aw=Au from h')),fun b cs _=>by obtain⟨v,I9,hR,hs⟩:=h b cs;exact⟨v,I9,hR,stepsIn_wide.2 hs⟩⟩
  | _=>exact fun h=>h.elim
 | halt s w'=>
  cases s with
  | panic v=>exact fun h=>h
  | _=>exact fun h=>h.elim
def Zw(ops:Array Oper):Bool:=ops.toList.all fun o=>match o.op with | .defer _=>Aw | _=>Au
theorem noDefer_at(h:Zw ops=Au){i:Nat}{o:Oper}(ho:ops[i]?=J o):∀c,o.op≠.defer c:=by
 intro c e;have hm:o∈ops.toList:=by rw[Array.mem_toList_iff];exact Array.mem_of_getElem? ho
 have:=LH.1 h o hm;rw[e] at this
 cases this
theorem jm(hd:Zw ops=Au)(nd:¬LetsOut Q):∀(fuel:Nat) (ag:Array Bool) (a:Act) (w:Ba),wpAny P md ops Q fuel ag a w->wpAnyIn (Fence.wide.inRound l) n P md ops Q fuel ag a w
 | 0,_,_,_,h=>h
 | fuel+1,ag,a,w,h=>by
  refine⟨h.1,fun i hi=>?_⟩;have h2:=h.2 i hi;unfold wpOp at h2;unfold wpOpIn
  cases ho:ops[i]? with
  | none=>rw[ho] at h2;exact jm hd nd fuel _ _ _ h2
  | some o=>
   rw[ho] at h2;dsimp only at h2 ⊢
   by_cases hw:Region.wanted o (yielded ops a.tmps)=Au
   . rw[Lj hw] at h2 ⊢
     rcases h2 with h2 | h2
     . exact op_round (noDefer_at hd ho) (R5 (fun a' w' hk=>jm hd nd fuel _ _ _ hk) h2)
     . exact absurd h2.2 nd
   . rw[Lg hw] at h2 ⊢
     exact⟨fun _ _=>trivial,jm hd nd fuel _ _ _ h2⟩
theorem any_still{n:Nat}{w:Ba}{a:Act}{xs:List Oper}(hB:Region.lexTailB .any xs.toArray n=Au)
  (h:wpStill P xs.toArray w (fun a'=>wpList P xs.toArray Q (xs.drop n) a' w) (xs.take n) a):wpAny P .any xs.toArray Q xs.toArray.size (Array.replicate xs.toArray.size Aw) a w:=by
 unfold Region.lexTailB at hB;simp only[Bool.and_eq_true,decide_eq_true_eq] at hB;have hn:n<xs.length:=by simpa using hB.1.1.1.2
 have e1:(xs.take n).length=n:=by rw[Rp];omega
 have e2:(xs.drop n).length=xs.toArray.size-n:=by rw[List.length_drop];rfl
 have hI:HeadInv .any xs.toArray n (Array.replicate xs.toArray.size Aw):=
  ⟨by simp,fun _ _ _ hl=>(by rw[Rz] at hl;exact Bool.noConfusion hl),fun _ _ ht=>getD_in (by simpa using ht) (Rz _ _)⟩
 have H:=wpAnyL_lex (md:=.any) (g:=xs.toArray.size-n) hB.1.1.1.1 hB.1.1.2 hB.1.2 hB.1.1.1.2 (xs.take n) 0 _ a
  (fun j hj=>by
   rw[e1] at hj
   simp[hj]) (by simpa using e1) hI (by rw[e1];exact hB.2) h
 have R:=wpAny_of_head (Q':=Q) (g:=xs.toArray.size-n) (fun ag a' hL=>by
  have T:=wpAny_of_seq (md:=.any) (Q':=Q) (xs.drop n) n ag a' w (fun j=>by simp[List.getElem?_drop]) (by rw[e2];exact hL.1) hL.2
  rwa[e2] at T) _ _ _ H
 rw[e1] at R;have e3:n+(xs.toArray.size-n)=xs.toArray.size:=by have:xs.toArray.size=xs.length:=rfl;omega
 rwa[e3] at R
theorem vX{id k:Nat}{a:Act}{w:Ba}{xs:List Oper}(n:Nat)(hm:P.follows .mixedOrders=Au)(hd:Zw xs.toArray=Au)(hB:Region.lexTailB .any xs.toArray n=Au)(nd:¬LetsOut Q)
  (h:wpStill P xs.toArray w.drew (fun a'=>wpList P xs.toArray Q (xs.drop n) a' w.drew) (xs.take n) a):(Code.region id xs.toArray Au).wpIn (Fence.wide.inRound l) k P Q a w:=
 wpIn_region_any hm (jm hd nd _ _ _ _ (any_still hB h))
end
end
section
open Go.RowKit
section
variable {P:Program} {ops:Array Oper} {md:Region.Mode}
def Qf:Exit->Act->Ba->Prop:=fun _ _ _=>False
theorem qf_lets:¬LetsOut Qf:=fun ⟨_,_,h⟩=>h
theorem wp_of_qf{o:Oper}{a:Act}{w:Ba}{K:Act->Ba->Prop}{Q:Exit->Act->Ba->Prop}(hh:o.wp P a w K Qf):o.wp P a w K Q:=by
 unfold Oper.wp at *
 generalize (execOp a.eval o).run P w=r at *
 cases r with
 | ok n w'=>
  cases n<;>simp only[Oper.upon] at hh⊢<;>
   first
    | exact hh
    | exact Sl hh (fun e I9 he=>by
      cases e with
      | returned v=>exact he
      | panicked c=>exact False.elim he
      | outgrown=>exact absurd he qf_lets)
 | halt x w'=>cases x<;>simp only[Oper.upon] at hh ⊢<;>exact False.elim hh
def kpOp(P:Program)(ops:Array Oper)(i:Nat)(K:Act->Ba->Prop)(a:Act)(w:Ba):Prop:=
 ∃o,ops[i]?=J o/\if Region.wanted o (yielded ops a.tmps)=Au then o.wp P a w K Qf else K (a.put o.dst undef) w
theorem Xl{i:Nat}{K K':Act->Ba->Prop}{a:Act}{w:Ba}(h:∀a w,K a w->K' a w)(hh:kpOp P ops i K a w):kpOp P ops i K' a w:=by
 obtain⟨o,ho,hh⟩:=hh;refine⟨o,ho,?_⟩
 split at hh
 . rename_i hw;rw[Lj hw];exact R5 h hh
 rename_i hw;rw[Lg hw];exact h _ _ hh
def waitB(md:Region.Mode)(ops:Array Oper):Nat->Nat->Nat->Bool
 | 0,_,_=>Aw
 | f+1,j,i=>match ops[j]? with
  | some o=>o.after.any fun e=>Region.binds md e&&(e.on==i||waitB md ops f e.on i)
  | none=>Aw
def Qv(md:Region.Mode)(ops:Array Oper)(F:List Nat)(j:Nat):Bool:=F.all fun i=>waitB md ops ops.size j i
def Closed(md:Region.Mode)(ops:Array Oper)(ag:Array Bool):Prop:=∀(j:Nat) (oj:Oper),ops[j]?=J oj->ag.getD j Aw=Au->∀e∈oj.after,Region.binds md e=Au->ag.getD e.on Aw=Au
theorem Closed.set{ag:Array Bool}(h:Closed md ops ag){i:Nat}(hi:i∈Region.ready md ops ag):Closed md ops (ag.setIfInBounds i Au):=by
 obtain⟨_,oi,hoi,ax⟩:=PT.1 hi;intro j oj hj hl e he hb
 by_cases Iq:i=j
 . subst Iq
   have:oj=oi:=NL (hj.symm.trans hoi);subst this;exact getD_set_true (ax e he hb)
 rw[getD_set_ne Aw Iq] at hl;exact getD_set_true (h j oj hj hl e he hb)
theorem gC{ag:Array Bool}(h:Closed md ops ag):∀(f j i:Nat),(∀oj,ops[j]?=J oj->∀e∈oj.after,Region.binds md e=Au->ag.getD e.on Aw=Au)->waitB md ops f j i=Au->ag.getD i Aw=Au
 | 0,_,_,_,hr=>by cases hr
 | f+1,j,i,hj,hr=>by
  unfold waitB at hr
  cases ho:ops[j]? with
  | none=>rw[ho] at hr;cases hr
  | some o=>
   rw[ho] at hr;obtain⟨e,he,hb⟩:=Array.any_eq_true'.1 hr;simp only[Bool.and_eq_true,Bool.or_eq_true,beq_iff_eq] at hb;have hl:=hj o ho e he hb.1;rcases hb.2 with h1 | h1
   . rw[<-h1];exact hl
   . exact gC h f e.on i (fun oj FP e' CB dZ=>h e.on oj FP hl e' CB dZ) h1
theorem Qu{ag:Array Bool}(h:Closed md ops ag){F:List Nat}{j i:Nat}(hj:j∈Region.ready md ops ag)(hs:Qv md ops F j=Au)(hi:i∈F):ag.getD i Aw=Au:=by
 obtain⟨_,oj,FP,ax⟩:=PT.1 hj;refine gC h ops.size j i (fun o ho e he hb=>?_) (LH.1 hs i hi);have:oj=o:=NL (FP.symm.trans ho);subst this;exact ax e he hb
def ZF(P:Program)(md:Region.Mode)(ops:Array Oper)(F:List Nat)(Q:Act->Ba->Prop):Nat->Array Bool->(Ba->Prop)->Act->Ba->Prop
 | 0,ag,_,a,w=>Region.ready md ops ag=[]/\Q a w
 | fuel+1,ag,Kp,a,w=>(Region.ready md ops ag=[]->Q a w) /\
   ∀i∈Region.ready md ops ag,kpOp P ops i (fun a' w'=>∃lA:Ba->Prop,((∀W,lA W->Kp W)\/Qv md ops F i=Au)/\lA w'/\ZF P md ops F Q fuel (ag.setIfInBounds i Au) lA a' w') a w
theorem vR{F:List Nat}{Q:Exit->Act->Ba->Prop}{Qn:Act->Ba->Prop}(hQ:∀a w,Qn a w->Q .normal a w):∀(fuel:Nat) (ag:Array Bool) (Kp:Ba->Prop) (a:Act) (w:Ba),
  ZF P md ops F Qn fuel ag Kp a w->wpAny P md ops Q fuel ag a w
 | 0,_,_,_,_,h=>⟨h.1,hQ _ _ h.2⟩
 | fuel+1,ag,Kp,a,w,h=>by
  refine⟨fun h0=>hQ _ _ (h.1 h0),fun i hi=>?_⟩;obtain⟨o,ho,h2⟩:=h.2 i hi;unfold wpOp;rw[ho];dsimp only
  split at h2
  . rename_i hw
    rw[Lj hw];exact .inl (R5 (fun a' w' ⟨lA,_,_,h3⟩=>vR hQ fuel _ lA a' w' h3) (wp_of_qf h2))
  . rename_i hw
    rw[Lg hw];obtain⟨lA,_,_,h3⟩:=h2;exact vR hQ fuel _ lA _ _ h3
def FloatTo(P:Program)(ops:Array Oper)(Kp:Ba->Prop)(o:Oper)(a a1:Act):Prop:=∀W,Kp W->∃v,YieldsAt P ops W o v a/\a.put o.dst v=a1
theorem FloatTo.less{Kp lA:Ba->Prop}{o:Oper}{a a1:Act}(h:FloatTo P ops Kp o a a1)(hs:∀W,lA W->Kp W):FloatTo P ops lA o a a1:=fun W hW=>h W (hs W hW)
theorem wH(a:Act)(d:Option Tmp)(v:Ar)(x:Deferred):({ a.put d v with defers:=x::(a.put d v).defers }:Act)=({ a with defers:=x::a.defers }:Act).put d v:=by
 cases d<;>rfl
theorem kpOp_put{j:Nat}{oi oj:Oper}{Kp:Ba->Prop}(hj:ops[j]?=J oj)(hap:oi.apart ops oj=Au)
  (hsi:∀cs b,oi.op≠.select cs b) (hsj:∀cs b,oj.op≠.select cs b) {K:Act->Ba->Prop} {a a1:Act} {w:Ba}
  (hy:FloatTo P ops Kp oi a a1) (hk:Kp w) (h:kpOp P ops j K a1 w) :
  kpOp P ops j (fun a' w'=>∃Ti,FloatTo P ops Kp oi a' Ti/\K Ti w') a w:=by
 obtain⟨h1,h2,h3⟩:=Oper.apart_spec hap;obtain⟨v,hv,rfl⟩:=hy w hk
 have keep:∀u,FloatTo P ops Kp oi (a.put oj.dst u) ((a.put oi.dst v).put oj.dst u):=fun u W hW=>by
  obtain⟨v',Uz,e⟩:=hy W hW;exact⟨v',Uz.of_same (execOp_put oi hsi a oj.dst u h3) (wanted_put oi a oj.dst u h3),by rw[<-Act.put_comm a v' u h2,e]⟩
 have Kq:∀(x:Deferred) u,FloatTo P ops Kp oi (({ a with defers:=x::a.defers }:Act).put oj.dst u) ((({ a.put oi.dst v with defers:=x::(a.put oi.dst v).defers }:Act)).put oj.dst u):=fun x u W hW=>by
  obtain⟨v',Uz,e⟩:=keep u W hW;rw[<-wH a oj.dst u x,<-wH (a.put oi.dst v) oj.dst u x];refine⟨v',Uz.of_same rfl rfl,?_⟩;rw[<-wH,e]
 obtain⟨o,ho,h⟩:=h;have:oj=o:=NL (hj.symm.trans ho);subst this;refine⟨oj,hj,?_⟩;rw[wanted_put oj a oi.dst v h1] at h
 split
 . rename_i hw
   rw[Lj hw] at h;unfold Oper.wp at *;rw[execOp_put oj hsj a oi.dst v h1] at h
   generalize (execOp a.eval oj).run P w=r at *
   cases r with
   | ok n w'=>
    cases n<;>simp only[Oper.upon] at h ⊢
    case value u=>exact⟨_,keep u,h⟩
    case skip=>exact⟨_,keep undef,h⟩
    case defer d=>exact⟨_,Kq d undef,h⟩
    case enter f args=>
     exact Sl h (fun e I9 he=>by
       cases e with
       | returned u=>exact⟨_,keep u,he⟩
       | panicked c=>exact False.elim he
       | outgrown=>exact absurd he qf_lets)
    case row row args=>exact Rows.mono h (fun u I9 he=>⟨_,keep u,he⟩)
   | halt x w'=>cases x<;>simp only[Oper.upon] at h ⊢<;>exact h
 rename_i hw;rw[Lg hw] at h;exact⟨_,keep undef,h⟩
theorem gu{i:Nat}{o:Oper}{v:Ar}{a:Act}{w:Ba}(hi:ops[i]?=J o)(hy:YieldsAt P ops w o v a){K:Act->Ba->Prop}(h:K (a.put o.dst v) w):kpOp P ops i K a w:=by
 refine⟨o,hi,?_⟩;rcases hy with ⟨hw,hv | ⟨hv,rfl⟩ | ⟨f,args,hv,hc⟩⟩ | ⟨hw,rfl⟩
 . rw[Lj hw];unfold Oper.wp;rw[hv];exact h
 . rw[Lj hw];unfold Oper.wp;rw[hv];exact h
 . rw[Lj hw];unfold Oper.wp;rw[hv]
   exact hc.mono fun e I9 ⟨he,aC⟩=>by subst he;subst aC;exact h
 rw[Lg (by rw[hw];decide)];exact h
theorem XH{F:List Nat}{Q:Act->Ba->Prop}{i:Nat}{oi:Oper}(hF:i∈F)(hi:ops[i]?=J oi)(KC:∀(j:Nat) (o:Oper) cs b,ops[j]?=J o->o.op≠.select cs b) :
  ∀(fuel:Nat) (ag:Array Bool) (Kp:Ba->Prop) (a a1:Act) (w:Ba),
   (∀j oj,ops[j]?=J oj->j≠i->ag.getD j Au=Aw->(∀e∈oj.after,Region.binds md e=Au->e.on≠i)->oi.apart ops oj=Au) ->
   Closed md ops ag->i∈Region.ready md ops ag->FloatTo P ops Kp oi a a1->Kp w ->
   ZF P md ops F Q fuel (ag.setIfInBounds i Au) Kp a1 w->ZF P md ops F Q (fuel+1) ag Kp a w:=by
 intro fuel
 induction fuel with
 | zero=>
  intro ag Kp a a1 w _ _ hr hy hk H;refine⟨fun h=>(by rw[h] at hr;cases hr),fun j hj=>?_⟩
  by_cases pw:j=i
  . subst pw
    obtain⟨v,hv,rfl⟩:=hy w hk;exact gu hi hv ⟨Kp,.inl fun _ h=>h,hk,H⟩
  . have:=ready_mono hj pw
    rw[H.1] at this
    cases this
 | succ fuel ih=>
  intro ag Kp a a1 w DS bn hr hy hk H;refine⟨fun h=>(by rw[h] at hr;cases hr),fun j hj=>?_⟩
  by_cases pw:j=i
  . subst pw
    obtain⟨v,hv,rfl⟩:=hy w hk;exact gu hi hv ⟨Kp,.inl fun _ h=>h,hk,H⟩
  . have h1:=H.2 j (ready_mono hj pw)
    obtain⟨Me,oj,FP,ax⟩:=PT.1 hj
    have U2:∀e∈oj.after,Region.binds md e=Au->e.on≠i:=fun e he hb py=>by
     have h1:=ax e he hb;have h0:=(PT.1 hr).1;rw[py] at h1;rcases PQ i ag.size with h' | h'
     . simp[h'] at h0 h1;rw[h0] at h1;cases h1
     . simp[Array.getElem?_eq_none h'] at h1
    have h2:=kpOp_put FP (DS j oj FP pw Me U2) (fun cs b=>KC i oi cs b hi) (fun cs b=>KC j oj cs b FP) hy hk h1
    have Ge:∀k ok,ops[k]?=J ok->k≠i->(ag.setIfInBounds j Au).getD k Au=Aw ->
      (∀e∈ok.after,Region.binds md e=Au->e.on≠i)->oi.apart ops ok=Au:=fun k ok hk SI Ib nd=>by
     refine DS k ok hk SI ?_ nd
     by_cases F8:j=k
     . subst F8;exact Me
     . rw[getD_set_ne Au F8] at Ib;exact Ib
    have hns:Qv md ops F j=Au->False:=fun Sr=>by
     have h1:=Qu bn hj Sr hF;have h0:=(PT.1 hr).1;rcases PQ i ag.size with h' | h'
     . simp[h'] at h0 h1;rw[h0] at h1;cases h1
     . simp[Array.getElem?_eq_none h'] at h1
    refine Xl (fun a' w' ⟨Ti,hf,lA,pK,fO,h3⟩=>⟨lA,pK,fO,ih (ag.setIfInBounds j Au) lA a' Ti w' Ge (bn.set hj) (ready_mono hr (PO pw)) (hf.less (pK.resolve_right hns)) fO ?_⟩) h2;rw[Array.setIfInBounds_comm _ _ pw];exact h3
def kS(P:Program)(md:Region.Mode)(ops:Array Oper)(F:List Nat)(Q:Act->Ba->Prop):List (Nat×Bool)->(Ba->Prop)->Act->Ba->Prop
 | [],_,a,w=>Q a w
 | (i,Au)::r,Kp,a,w=>∃o a1,ops[i]?=J o/\FloatTo P ops Kp o a a1/\kS P md ops F Q r Kp a1 w
 | (i,Aw)::r,Kp,a,w=>kpOp P ops i (fun a' w'=>∃lA:Ba->Prop,((∀W,lA W->Kp W)\/Qv md ops F i=Au)/\lA w'/\kS P md ops F Q r lA a' w') a w
def mixB(md:Region.Mode)(ops:Array Oper)(F:List Nat):List (Nat×Bool)->Array Bool->Bool
 | [],ag=>(Region.ready md ops ag).isEmpty
 | (i,Au)::r,ag=>F.contains i&&(Region.ready md ops ag).contains i&&Region.free md ops ag i&&mixB md ops F r (ag.setIfInBounds i Au)
 | (i,Aw)::r,ag=>decide (Region.ready md ops ag=[i])&&mixB md ops F r (ag.setIfInBounds i Au)
theorem vS{F:List Nat}{Q:Act->Ba->Prop}(hs:Region.noSelect ops=Au):∀(l:List (Nat×Bool)) (ag:Array Bool) (Kp:Ba->Prop) (a:Act) (w:Ba),
  mixB md ops F l ag=Au->Closed md ops ag->Kp w->kS P md ops F Q l Kp a w->ZF P md ops F Q l.length ag Kp a w
 | [],_,_,_,_,hB,_,_,h=>⟨by simpa[mixB] using hB,h⟩
 | (i,Au)::l,ag,Kp,a,w,hB,bn,hk,h=>by
  simp only[mixB,Bool.and_eq_true] at hB;obtain⟨o,a1,ho,hf,h⟩:=h;have hr:i∈Region.ready md ops ag:=by simpa using hB.1.1.2
  exact XH (by simpa using hB.1.1.1) ho (Region.noSelect_spec hs) l.length ag Kp a a1 w (Region.free_spec ho hB.1.2) bn hr hf hk (vS hs l _ Kp a1 w hB.2 (bn.set hr) hk h)
 | (i,Aw)::l,ag,Kp,a,w,hB,bn,hk,h=>by
  simp only[mixB,Bool.and_eq_true,decide_eq_true_eq] at hB;refine⟨fun h1=>(by rw[hB.1] at h1;cases h1),fun j hj=>?_⟩;rw[hB.1] at hj;have pw:j=i:=by simpa using hj
  subst pw;exact Xl (fun a' w' ⟨lA,pK,fO,h3⟩=>⟨lA,pK,fO,vS hs l _ lA a' w' hB.2 (bn.set (by rw[hB.1];simp)) fO h3⟩) h
def uM(l:List (Nat×Bool)):List Nat:=l.filterMap fun x=>if x.2 then J x.1 else Z
theorem Jt:Closed md ops (Array.replicate ops.size Aw):=fun j _ _ h=>by rw[Rz] at h;cases h
def XZ(md:Region.Mode)(ops:Array Oper)(l:List (Nat×Bool)):Bool:=Region.noSelect ops&&mixB md ops (uM l) l (Array.replicate ops.size Aw)&&l.length==ops.size
theorem any_mix{Q:Exit->Act->Ba->Prop}{a:Act}{w:Ba}{xs:List Oper}(l:List (Nat×Bool))(Kp:Ba->Prop)(hB:XZ .any xs.toArray l=Au)
  (h0:Kp w) (h:kS P .any xs.toArray (uM l) (fun a' w'=>Q .normal a' w') l Kp a w):wpAny P .any xs.toArray Q xs.toArray.size (Array.replicate xs.toArray.size Aw) a w:=by
 unfold XZ at hB;simp only[Bool.and_eq_true,beq_iff_eq] at hB;have:=vS (md:=.any) hB.1.1 l _ Kp a w hB.1.2 Jt h0 h;rw[hB.2] at this;exact vR (fun _ _ h=>h) _ _ _ _ _ this
theorem zt{id:Nat}{Q:Exit->Act->Ba->Prop}{a:Act}{w:Ba}{xs:List Oper}(l:List (Nat×Bool))(Kp:Ba->Prop)(hm:P.follows .mixedOrders=Au)(hB:XZ .any xs.toArray l=Au)
  (h0:Kp w.drew) (h:kS P .any xs.toArray (uM l) (fun a' w'=>Q .normal a' w') l Kp a w.drew):(Code.region id xs.toArray Au).wp P Q a w:=
 wp_region_any hm (any_mix l Kp hB h0 h)
theorem zX{id k l0:Nat}{Q:Exit->Act->Ba->Prop}{a:Act}{w:Ba}{xs:List Oper}(l:List (Nat×Bool))(Kp:Ba->Prop)(hm:P.follows .mixedOrders=Au)(hd:Zw xs.toArray=Au)(hB:XZ .any xs.toArray l=Au)(nd:¬LetsOut Q)
  (h0:Kp w.drew) (h:kS P .any xs.toArray (uM l) (fun a' w'=>Q .normal a' w') l Kp a w.drew):(Code.region id xs.toArray Au).wpIn (Fence.wide.inRound l0) k P Q a w:=
 wpIn_region_any hm (jm hd nd _ _ _ _ (any_mix l Kp hB h0 h))
theorem zj{F:List Nat}{Q:Act->Ba->Prop}{i:Nat}{r:List (Nat×Bool)}{Kp:Ba->Prop}{a a1:Act}{w:Ba}{o:Oper}(ho:ops[i]?=J o)
  (h:∀(K:Act->Prop),K a1->∀W,Kp W->if Region.wanted o (yielded ops a.tmps)=Au then o.still P a W K else K (a.put o.dst undef))
  (k:kS P md ops F Q r Kp a1 w):kS P md ops F Q ((i,Au)::r) Kp a w:=by
 refine⟨o,a1,ho,fun W hW=>?_,k⟩;have h2:=h (fun x=>x=a1) rfl W hW;have h3:stOp P ops W i (fun x=>x=a1) a:=by unfold stOp;simp only[ho];exact h2
 obtain⟨v,hv,he⟩:=yieldsAt_of_stOp ho h3;exact⟨v,hv,he⟩
theorem zn{F:List Nat}{Q:Act->Ba->Prop}{i:Nat}{r:List (Nat×Bool)}{Kp:Ba->Prop}{a:Act}{w:Ba}{o:Oper}(ho:ops[i]?=J o)
  (h:∀K:Act->Ba->Prop,(∀a' w',Kp w'->kS P md ops F Q r Kp a' w'->K a' w')->if Region.wanted o (yielded ops a.tmps)=Au then o.wp P a w K Qf else K (a.put o.dst undef) w):kS P md ops F Q ((i,Aw)::r) Kp a w:=
 ⟨o,ho,h _ fun _ _ hk h3=>⟨Kp,.inl fun _ h=>h,hk,h3⟩⟩
theorem zy{F:List Nat}{Q:Act->Ba->Prop}{Kp:Ba->Prop}{a:Act}{w:Ba}(h:Q a w):kS P md ops F Q [] Kp a w:=h
theorem yb{F:List Nat}{Q:Act->Ba->Prop}{i:Nat}{r:List (Nat×Bool)}{Kp:Ba->Prop}{a:Act}{w:Ba}{o:Oper}(ho:ops[i]?=J o)(hs:Qv md ops F i=Au)
  (h:∀K:Act->Ba->Prop,(∀(lA:Ba->Prop) a' w',lA w'->kS P md ops F Q r lA a' w'->K a' w')->if Region.wanted o (yielded ops a.tmps)=Au then o.wp P a w K Qf else K (a.put o.dst undef) w):kS P md ops F Q ((i,Aw)::r) Kp a w:=
 ⟨o,ho,h _ fun lA _ _ hk h2=>⟨lA,.inr hs,hk,h2⟩⟩
end
end
section
open Go.RowKit
def yf(a:Ad):Nat->Int->Nat
 | 0,_=>1
 | k+1,s=>((a.at_ s).map fun m=>yf a k m.to).sum
def xd(L x:Nat):Nat:=min x (L+1)
def cl(a:Ad)(L k s:Nat):List Int:=(List.range s).map fun (j:Nat)=>((xd L (yf a k (j:Int)):Nat):Int)
theorem jE(a:Ad)(L k s:Nat):(cl a L k s).length=s:=by unfold cl;simp
theorem cl_succ(a:Ad)(L k s:Nat):cl a L k (s+1)=cl a L k s++[((xd L (yf a k (s:Int)):Nat):Int)]:=by
 unfold cl;rw[Sf,LK];rfl
theorem YF(a:Ad)(L k s j:Nat)(h:j<(cl a L k s).length):(cl a L k s)[j]=((xd L (yf a k (j:Int)):Nat):Int):=by
 simp[cl]
def kX(a:Ad)(k:Nat)(M:List Mv)(j:Nat):Nat:=((M.take j).map fun m=>yf a k m.to).sum
theorem JW(a:Ad)(k:Nat)(M:List Mv):kX a k M 0=0:=by unfold kX;rw[PB];rfl
theorem JX(a:Ad)(k:Nat)(M:List Mv){j:Nat}(h:j<M.length):kX a k M (j+1)=kX a k M j+yf a k M[j].to:=by
 unfold kX;rw[Lq h,LK,Se];simp
theorem sumTo_end(a:Ad)(k:Nat){s:Nat}(h:s<a.sts.length):kX a k a.sts[s] (a.sts[s].length)=yf a (k+1) (s:Int):=by
 unfold kX;rw[yf,LS,show a.at_ (s:Int)=a.sts[s] by unfold Ad.at_;rw[Lo,Lh,Lm h];rfl]
theorem ww(L x:Nat):xd L x<=L+1:=Nat.min_le_right _ _
theorem sat_add(L x y:Nat):min (xd L x+xd L y) (L+1)=xd L (x+y):=by unfold xd;omega
theorem Qw(L:Nat):xd L 0=0:=by unfold xd;omega
theorem sat_one(L:Nat):xd L 1=1:=by unfold xd;omega
theorem sat_gt(L x:Nat):(L<xd L x)↔L<x:=by unfold xd;omega
theorem sat_eq{L x:Nat}(h:x<=L):xd L x=x:=by unfold xd;omega
theorem sat_mul(L c x:Nat)(hc:1<=c):(L<c*xd L x)↔L<c*x:=by
 unfold xd
 by_cases h:x<=L+1
 . rw[Sd h]
 rw[Nat.min_eq_right (by omega)];have h1:1*(L+1)<=c*(L+1):=RF _ hc;have h2:c*(L+1)<=c*x:=Nat.mul_le_mul_left _ (by omega);constructor<;>intro _<;>omega
def zI(a:Ad):Nat->Int->List (List Rd)
 | 0,_=>[[]]
 | k+1,s=>(a.at_ s).flatMap fun m=>(zI a k m.to).map (m.r::·)
theorem yK(a:Ad):∀(k:Nat) (s:Int),(zI a k s).length=yf a k s
 | 0,_=>rfl
 | k+1,s=>by
  rw[zI,yf,List.length_flatMap]
  congr 1
  exact NW fun m _=>by rw[LM,yK a k m.to]
theorem xv(a:Ad):∀(k:Nat) (s:Int),∀w∈zI a k s,w.length=k
 | 0,_,w,h=>by simp[zI] at h;subst h;rfl
 | k+1,s,w,h=>by
  rw[zI] at h;obtain⟨m,_,hm⟩:=NH.1 h;obtain⟨w',hw,rfl⟩:=LZ.1 hm;rw[Lz,xv a k m.to w' hw]
theorem at_mem{a:Ad}{s:Int}{m:Mv}(h:m∈a.at_ s):m∈a.mvs:=by
 unfold Ad.at_ at h;unfold Ad.mvs;rw[Lh] at h
 cases hc:a.sts[s.toNat]? with
 | none=>rw[hc] at h;cases h
 | some l=>rw[hc] at h;exact Nw.2 ⟨l,RG hc,h⟩
theorem jp(a:Ad):∀(k:Nat) (s:Int),∀w∈zI a k s,∀r∈w,∃m∈a.mvs,m.r=r
 | 0,_,w,h,r,hr=>by simp[zI] at h;subst h;cases hr
 | k+1,s,w,h,r,hr=>by
  rw[zI] at h;obtain⟨m,hma,hm⟩:=NH.1 h;obtain⟨w',hw,rfl⟩:=LZ.1 hm;rcases LL.1 hr with rfl | hr
  . exact⟨m,at_mem hma,rfl⟩
  . exact jp a k m.to w' hw r hr
def zW(r:Rd)(p:Nat)(now:List Int)(q:Nat):Int:=if q<now.length/\(r.h p).toNat.testBit q=Au then now.getD q 0 else -1
def xI(r:Rd)(k p:Nat)(now:List Int):Vw:=⟨p,k,0,zW r p now 0,zW r p now 1,zW r p now 2,zW r p now 3,zW r p now 4⟩
def yS(p:Nat)(i:Int):Vw:=⟨p,0,i,-1,-1,-1,-1,-1⟩
def qe(vs:List Vw)(v:Vw):List Vw×Int:=if v∈vs then (vs,kB vs v) else (vs++[v],vs.length)
theorem QH{vs:List Vw}{v:Vw}(h:v∈vs):qe vs v=(vs,kB vs v):=Lj h
theorem putW_no{vs:List Vw}{v:Vw}(h:v∉vs):qe vs v=(vs++[v],(vs.length:Int)):=Lg h
theorem putW_len(vs:List Vw)(v:Vw):(qe vs v).1.length<=vs.length+1:=by
 unfold qe;split<;>simp
def yq(f:Nat->Vw)(vs:List Vw):Nat->List Vw×List Int
 | 0=>(vs,[])
 | p+1=>((qe (yq f vs p).1 (f p)).1,(yq f vs p).2++[(qe (yq f vs p).1 (f p)).2])
theorem xJ(f:Nat->Vw)(vs:List Vw):∀p,(yq f vs p).2.length=p
 | 0=>rfl
 | p+1=>by rw[yq,Lv,xJ f vs p];rfl
theorem ja(f:Nat->Vw)(vs:List Vw):∀p,(yq f vs p).1.length<=vs.length+p
 | 0=>by simp[yq]
 | p+1=>by
  have h:=ja f vs p;have h2:=putW_len (yq f vs p).1 (f p);rw[yq];dsimp only;omega
def zA(vs:List Vw)(n:Nat)(inp:List Int)(word:List Rd):Nat->List Vw×List (List Int)
 | 0=>((yq (fun p=>yS p (inp.getD p 0)) vs n).1,[(yq (fun p=>yS p (inp.getD p 0)) vs n).2])
 | j+1=>((yq (fun p=>xI (word.getD j default) (j+1) p ((zA vs n inp word j).2.getD j [])) (zA vs n inp word j).1 n).1,
   (zA vs n inp word j).2++[(yq (fun p=>xI (word.getD j default) (j+1) p ((zA vs n inp word j).2.getD j [])) (zA vs n inp word j).1 n).2])
theorem yF(vs:List Vw)(n:Nat)(inp:List Int)(word:List Rd):∀j,(zA vs n inp word j).2.length=j+1
 | 0=>rfl
 | j+1=>by rw[zA,Lv,yF vs n inp word j];rfl
theorem jb(vs:List Vw)(n:Nat)(inp:List Int)(word:List Rd):∀j,(zA vs n inp word j).1.length<=vs.length+(j+1)*n
 | 0=>by rw[zA];have:=ja (fun p=>yS p (inp.getD p 0)) vs n;simpa using this
 | j+1=>by
  have h:=jb vs n inp word j;have h2:=ja (fun p=>xI (word.getD j default) (j+1) p ((zA vs n inp word j).2.getD j [])) (zA vs n inp word j).1 n;rw[zA,Rf (j+1) 1 n];dsimp only;omega
theorem kh(vs:List Vw)(n:Nat)(inp:List Int)(word:List Rd):∀j,∀l∈(zA vs n inp word j).2,l.length=n
 | 0,l,h=>by rw[zA] at h;simp at h;subst h;exact xJ _ _ _
 | j+1,l,h=>by
  rw[zA] at h;rcases Ng.1 h with h | h
  . exact kh vs n inp word j l h
  . simp at h;subst h;exact xJ _ _ _
def zC(p:Pb):List (Nat×List Rd):=(List.range p.t.cases.length).flatMap fun i=>(zI p.a p.k.toNat 0).map fun w=>(i,w)
def yy(p:Pb)(i:Nat):List Int:=(p.t.cases.getD i default).inp
def zE(p:Pb)(l:List (Nat×List Rd)):List Vw×List Exn:=
 l.foldl (fun s x=>((zA s.1 p.t.n.toNat (yy p x.1) x.2 x.2.length).1,s.2++[⟨x.1,x.2,(zA s.1 p.t.n.toNat (yy p x.1) x.2 x.2.length).2⟩])) ([],[])
theorem jR(p:Pb):zE p []=([],[]):=rfl
theorem qu(p:Pb)(l:List (Nat×List Rd))(x:Nat×List Rd):zE p (l++[x]) =
  ((zA (zE p l).1 p.t.n.toNat (yy p x.1) x.2 x.2.length).1,(zE p l).2++[⟨x.1,x.2,(zA (zE p l).1 p.t.n.toNat (yy p x.1) x.2 x.2.length).2⟩]):=by
 unfold zE;rw[Pk];rfl
def qo:Sy:=⟨⟨⟨0,0,0,[]⟩,⟨0,[]⟩,0⟩,0,[],[]⟩
def zO(p:Pb):Sy:=⟨p,p.t.n,(zE p (zC p)).1,(zE p (zC p)).2⟩
end
section
open Go.RowKit
def RowX{α:Type}(C:Ct α)(S:Nat->Prop)(w:Ba)(g:Nat)(xs:List α):Prop:=
 ∃iu,w.heap[g]?=J (Ag iu C.K.e (0,0))/\∀(i:Nat) (hi:i<xs.length),∃cs,C.lies (fun k=>S k/\k≠g) w cs xs[i]/\∀j u,cs[j]?=J u->iu[i*C.K.size+j]?=J u
section
variable {α:Type} {C:Ct α} {S S':Nat->Prop} {w w':Ba} {g:Nat} {xs:List α}
theorem RowX.keep(ok:CtOk C)(h:RowX C S w g xs)(hk:KeepB (fun k=>S k/\k≠g) w w')(hg:w'.heap[g]?=w.heap[g]?):RowX C S w' g xs:=by
 obtain⟨iu,h1,h2⟩:=h;refine⟨iu,hg.trans h1,fun i hi=>?_⟩;obtain⟨cs,h3,h4⟩:=h2 i hi;exact⟨cs,ok.keep h3 hk,h4⟩
theorem RowX.below(ok:CtOk C){B:Nat}(h:RowX C S w g xs)(hb:Am B w w')(hB:w.heap.size<=B):RowX C S w' g xs:=
 h.keep ok ⟨hb.size,fun k _ hk=>hb.block k (by omega)⟩ (hb.block g (by obtain⟨iu,h1,_⟩:=h;have:=zk h1;omega))
theorem RowX.mono(ok:CtOk C)(h:RowX C S w g xs)(hm:∀k,k<w.heap.size->S k->S' k):RowX C S' w g xs:=by
 obtain⟨iu,h1,h2⟩:=h;refine⟨iu,h1,fun i hi=>?_⟩;obtain⟨cs,h3,h4⟩:=h2 i hi;exact⟨cs,ok.mono h3 fun k hk hs=>⟨hm k hk hs.1,hs.2⟩,h4⟩
theorem RowX.lt(h:RowX C S w g xs):g<w.heap.size:=by obtain⟨iu,h1,_⟩:=h;exact zk h1
theorem RowX.other(ok:CtOk C)(h:RowX C S w g xs){b:Nat}(o:Nat)(v:Ar)(hb:b≠g)(hS:¬S b):RowX C S (w.setCell ⟨b,o,Z⟩ v) g xs:=
 h.keep ok (KeepB.setCell (fun h=>hS h.1) v) (Lf w ⟨b,o,Z⟩ v g (fun e=>hb e.symm))
theorem RowX.of_own(ok:CtOk C){ab n cap:Nat}{v:Ar}{cs:List Ar}(h:OwnR C.K w ab v n cs)(hv:v=I (J ⟨g,0,Z⟩) n cap)(_hn:xs.length=n)
  (hc:∀(i:Nat) (hi:i<xs.length),∃d,C.lies (fun k=>S k/\k≠g) w d xs[i]/\∀j u,d[j]?=J u->cs[i*C.K.size+j]?=J u):RowX C S w g xs:=by
 have:=ok;subst hv;rcases h.2 with ⟨e,_⟩ | ⟨g',aH,cur,e,_,hg,_,_,_,ht⟩
 . cases e
 cases e
 refine⟨cur,hg,fun i hi=>?_⟩;obtain⟨d,h1,h2⟩:=hc i hi;refine⟨d,h1,fun j u hu=>?_⟩;have h3:=h2 j u hu;rw[<-ht,PZ] at h3
 split at h3
 . simpa using h3
 cases h3
end
theorem RowX.set3{S:Nat->Prop}{w:Ba}{g:Nat}{xs:List Cs}(h:RowX cCs S w g xs){i:Nat}(hi:i<xs.length){v0 v1 v2:Ar}(hl:cCs.lies (fun k=>S k/\k≠g) w [v0,v1,v2] xs[i]) :
  RowX cCs S (((w.setCell ⟨g,i*3,Z⟩ v0).setCell ⟨g,i*3+1,Z⟩ v1).setCell ⟨g,i*3+2,Z⟩ v2) g xs:=by
 obtain⟨iu,h1,h2⟩:=h;have k1:=Lk w g (i*3) iu _ v0 h1;have k2:=Lk _ g (i*3+1) _ _ v1 k1;have k3:=Lk _ g (i*3+2) _ _ v2 k2
 have hk:KeepB (fun k=>S k/\k≠g) w (((w.setCell ⟨g,i*3,Z⟩ v0).setCell ⟨g,i*3+1,Z⟩ v1).setCell ⟨g,i*3+2,Z⟩ v2):=
  ((KeepB.setCell (a:=⟨g,i*3,Z⟩) (fun h=>h.2 rfl) v0).trans (KeepB.setCell (a:=⟨g,i*3+1,Z⟩) (fun h=>h.2 rfl) v1)).trans (KeepB.setCell (a:=⟨g,i*3+2,Z⟩) (fun h=>h.2 rfl) v2)
 refine⟨_,k3,fun i' fX=>?_⟩
 by_cases e:i'=i
 . subst e
   obtain⟨cs,h3,h4⟩:=h2 i' fX;have aL:=qj.len h3
   have hb:i'*3+2<iu.size:=by
    have hc2:2<cs.length:=by rw[aL];show 2<3;omega
    have:=h4 2 cs[2] (Lm hc2);exact(Ln.1 this).1
   refine⟨[v0,v1,v2],qj.keep hl hk,fun j u hu=>?_⟩;change (((iu.setIfInBounds (i'*3) v0).setIfInBounds (i'*3+1) v1).setIfInBounds (i'*3+2) v2)[i'*3+j]?=J u
   match j,hu with
   | 0,hu=>cases hu;rw[L3 (by omega),L3 (by omega),Pe,NQ (by omega)]
   | 1,hu=>cases hu;rw[L3 (by omega),NQ (by simp;omega)]
   | 2,hu=>cases hu;rw[NQ (by simp;omega)]
 obtain⟨cs,h3,h4⟩:=h2 i' fX;refine⟨cs,qj.keep h3 hk,fun j u hu=>?_⟩;have hj:j<3:=by have:=(Lp.1 hu).1;rw[qj.len h3] at this;exact this
 have h5:=h4 j u hu;change iu[i'*3+j]?=J u at h5;change (((iu.setIfInBounds (i*3) v0).setIfInBounds (i*3+1) v1).setIfInBounds (i*3+2) v2)[i'*3+j]?=J u;rw[L3 (by omega),L3 (by omega),L3 (by omega)];exact h5
theorem RowX.set1{α:Type}{C:Ct α}(ok:CtOk C)(Ta:C.K.size=1){S:Nat->Prop}{w:Ba}{g:Nat}{xs:List α}(h:RowX C S w g xs){i:Nat}(hi:i<xs.length){v0:Ar}(hl:C.lies (fun k=>S k/\k≠g) w [v0] xs[i]) :
  RowX C S (w.setCell ⟨g,i,Z⟩ v0) g xs:=by
 obtain⟨iu,h1,h2⟩:=h;have k1:=Lk w g i iu _ v0 h1;have hk:KeepB (fun k=>S k/\k≠g) w (w.setCell ⟨g,i,Z⟩ v0):=KeepB.setCell (a:=⟨g,i,Z⟩) (fun h=>h.2 rfl) v0;refine⟨_,k1,fun i' fX=>?_⟩;obtain⟨cs,h3,h4⟩:=h2 i' fX;have aL:=ok.len h3;rw[Ta] at aL
 by_cases e:i'=i
 . subst e
   have hb:i'<iu.size:=by
    have:=h4 0 cs[0] (Lm (by omega));rw[Ta] at this;have:=(Ln.1 this).1;omega
   refine⟨[v0],ok.keep hl hk,fun j u hu=>?_⟩;have hj:j=0:=by have:=(Lp.1 hu).1;simp at this;omega
   subst hj
   cases hu
   rw[Ta,N0,Pe,NQ hb]
 refine⟨cs,ok.keep h3 hk,fun j u hu=>?_⟩;have hj:j=0:=by have:=(Lp.1 hu).1;omega
 subst hj;have h5:=h4 0 u hu;rw[Ta,N0,Pe] at h5 ⊢;rw[L3 (by omega)];exact h5
theorem RowX.cat{S:Nat->Prop}{w:Ba}{g:Nat}{xs:List Cs}(h:RowX cCs S w g xs):CAt w w.heap.size (J ⟨g,0,Z⟩) xs:=fun _=>by
 obtain⟨iu,h1,h2⟩:=h;refine⟨g,0,rfl,zk h1,fun i hi=>?_⟩;obtain⟨cs,⟨A0,c0,A1,c1,A2,c2,rfl,Ir,oR,ew⟩,h4⟩:=h2 i hi;refine⟨_,_,_,?_,?_,?_,⟨A0,c0,rfl,Ir.iat⟩,⟨A1,c1,rfl,oR.lat⟩,⟨A2,c2,rfl,ew.lat⟩⟩
 . rw[LQ];exact zh h1 _ (h4 0 _ rfl)
 . rw[LQ];exact zh h1 _ (h4 1 _ rfl)
 . rw[LQ];exact zh h1 _ (h4 2 _ rfl)
theorem RowX.sat{S:Nat->Prop}{w:Ba}{g:Nat}{xs:List (List Mv)}(h:RowX cMl S w g xs):SAt w w.heap.size (J ⟨g,0,Z⟩) xs:=fun _=>by
 obtain⟨iu,h1,h2⟩:=h;refine⟨g,0,rfl,zk h1,fun i hi=>?_⟩;obtain⟨cs,⟨A0,c0,rfl,Ir⟩,h4⟩:=h2 i hi;refine⟨A0,c0,?_,Ir.mat⟩;have:=h4 0 _ rfl;change iu[i*1+0]?=_ at this;rw[LQ];exact zh h1 _ (by rw[<-this];congr 1;omega)
theorem CAt.raw{w:Ba}{B:Nat}{A:Bb}{xs:List Cs}(h:CAt w B A xs)(hB:B<=w.heap.size):∃cs:List Ar,cs.length=xs.length*3/\Raw w A xs.length cs/\(∀u∈cs,u.oneCell'=Au) /\
  ∀(i:Nat) (hi:i<xs.length),∃d,cCs.lies (fun k=>k<B) w d xs[i]/\∀j u,d[j]?=J u->cs[i*3+j]?=J u:=by
 have key:∀n,n<=xs.length->∃bE:List (List Ar),bE.length=n/\(∀c∈bE,c.length=3/\∀u∈c,u.oneCell'=Au)/\∀(i:Nat) (hi:i<n) (hx:i<xs.length),∃d,bE[i]?=J d/\cCs.lies (fun k=>k<B) w d xs[i] /\
   ∀b off,A=J ⟨b,off,Z⟩->∀j u,d[j]?=J u->w.cell? ⟨b,off+(i*3+j),Z⟩=J u:=by
  intro n
  induction n with
  | zero=>exact fun _=>⟨[],rfl,by simp,fun i hi=>absurd hi (by omega)⟩
  | succ n ih=>
   intro hn;obtain⟨bE,c1,c2,c3⟩:=ih (by omega);obtain⟨b,off,A0,k0,A1,k1,A2,k2,e,hb,x0,x1,x2,i0,l1,l2⟩:=h.row n (by omega);refine⟨bE++[[I A0 xs[n].inp.length k0,I A1 xs[n].out.length k1,I A2 xs[n].calm.length k2]],by simp[c1],?_,fun i hi hx=>?_⟩
   . intro c hc
     rcases Ng.1 hc with hc | hc
     . exact c2 c hc
     . simp at hc;subst hc
       exact⟨rfl,fun u hu=>by simp at hu;rcases hu with rfl | rfl | rfl<;>rfl⟩
   . by_cases ei:i<n
     . obtain⟨d,d1,d2⟩:=c3 i ei hx
       exact⟨d,by rw[LO (by omega)];exact d1,d2⟩
     . obtain rfl:i=n:=by omega
       refine⟨_,by rw[LJ (by omega),c1,Nq];rfl,⟨A0,k0,A1,k1,A2,k2,rfl,IAtS.of_iat i0 hB (fun _ h=>h),LAtS.of_lat l1 hB (fun _ h=>h),LAtS.of_lat l2 hB (fun _ h=>h)⟩,fun b' ny e' j u hu=>?_⟩;rw[e] at e';cases e'
       match j,hu with
       | 0,hu=>cases hu;exact x0
       | 1,hu=>cases hu;exact x1
       | 2,hu=>cases hu;exact x2
 obtain⟨bE,c1,c2,c3⟩:=key xs.length (Ld _);have cN:∀c∈bE,c.length=3:=fun c hc=>(c2 c hc).1
 have DT:bE.flatten.length=xs.length*3:=by
  rw[List.length_flatten,<-c1];clear c3 c1
  induction bE with
  | nil=>rfl
  | cons c bE ih=>simp only[List.map_cons,List.sum_cons,List.length_cons];rw[ih (fun d hd=>c2 d (by simp[hd])) (fun d hd=>cN d (by simp[hd])),cN c (by simp)];omega
 refine⟨bE.flatten,DT,fun h0=>?_,fun u hu=>?_,fun i hi=>?_⟩
 . obtain⟨b,off,e,hb,_⟩:=h h0
   refine⟨b,off,e,by omega,fun j u hj=>?_⟩;have cU:j<xs.length*3:=by rw[<-DT];exact(Lp.1 hj).1
   have fX:j / 3<xs.length:=by omega
   obtain⟨d,d1,_,d3⟩:=c3 (j / 3) fX fX;have h8:j / 3*3+j % 3=j:=by omega
   have h9:=Zz bE cN (j / 3) (by omega) (j % 3) (by omega);rw[h8,hj] at h9;obtain⟨_,d4⟩:=Lp.1 d1;rw[d4] at h9;have:=d3 b off e (j % 3) u h9.symm;rwa[h8] at this
 . obtain⟨c,hc,hu⟩:=Nw.1 hu
   exact(c2 c hc).2 u hu
 obtain⟨d,d1,d2,_⟩:=c3 i hi hi;refine⟨d,d2,fun j u hu=>?_⟩;have hj:j<3:=by have:=(Lp.1 hu).1;rw[qj.len d2] at this;exact this
 obtain⟨d5,d4⟩:=Lp.1 d1;rw[Zz bE cN i d5 j hj,d4];exact hu
theorem SAt.raw{w:Ba}{B:Nat}{A:Bb}{xs:List (List Mv)}(h:SAt w B A xs)(hB:B<=w.heap.size):∃cs:List Ar,cs.length=xs.length*1/\Raw w A xs.length cs/\(∀u∈cs,u.oneCell'=Au) /\
  ∀(i:Nat) (hi:i<xs.length),∃d,cMl.lies (fun k=>k<B) w d xs[i]/\∀j u,d[j]?=J u->cs[i*1+j]?=J u:=by
 have key:∀n,n<=xs.length->∃cs:List Ar,cs.length=n/\(∀u∈cs,u.oneCell'=Au)/\∀(i:Nat) (hi:i<n) (hx:i<xs.length),∃A' c,cs[i]?=J (I A' xs[i].length c)/\MAtS (fun k=>k<B) w A' xs[i] /\
   ∀b off,A=J ⟨b,off,Z⟩->w.cell? ⟨b,off+i,Z⟩=J (I A' xs[i].length c):=by
  intro n
  induction n with
  | zero=>exact fun _=>⟨[],rfl,by simp,fun i hi=>absurd hi (by omega)⟩
  | succ n ih=>
   intro hn;obtain⟨cs,c1,c2,c3⟩:=ih (by omega);obtain⟨b,off,A',c,e,hb,x0,m0⟩:=h.at_ n (by omega);refine⟨cs++[I A' xs[n].length c],by simp[c1],?_,fun i hi hx=>?_⟩
   . intro u hu
     rcases Ng.1 hu with hu | hu
     . exact c2 u hu
     . simp at hu;subst hu;rfl
   . by_cases ei:i<n
     . obtain⟨A2,k2,d1,d2⟩:=c3 i ei hx
       exact⟨A2,k2,by rw[LO (by omega)];exact d1,d2⟩
     . obtain rfl:i=n:=by omega
       refine⟨A',c,by rw[LJ (by omega),c1,Nq];rfl,MAtS.of_mat m0 hB (fun _ h=>h),fun b' ny e'=>?_⟩;rw[e] at e';cases e';exact x0
 obtain⟨cs,c1,c2,c3⟩:=key xs.length (Ld _);refine⟨cs,by omega,fun h0=>?_,c2,fun i hi=>?_⟩
 . obtain⟨b,off,e,hb,_⟩:=h h0
   refine⟨b,off,e,by omega,fun j u hj=>?_⟩;have cU:j<xs.length:=by rw[<-c1];exact(Lp.1 hj).1
   obtain⟨A',c,d1,_,d3⟩:=c3 j cU cU;rw[hj] at d1;cases d1;exact d3 b off e
 obtain⟨A',c,d1,d2,_⟩:=c3 i hi hi;refine⟨[I A' xs[i].length c],⟨A',c,rfl,d2⟩,fun j u hu=>?_⟩;have hj:j=0:=by have:=(Lp.1 hu).1;simp at this;omega
 subst hj
 cases hu
 rw[N0,Pe];exact d1
end
section
open Go.RowKit
attribute [local go_sem] Oper.semAt_some
theorem Zv(w:Ba)(c1:Array Ar)(t1:TypeId):∃W0,(w.alloc (Ag c1 t1)).drew=W0/\W0.heap[w.heap.size]?=J (Ag c1 t1 (0,0))/\W0.heap.size=w.heap.size+1/\Am w.heap.size w W0:=
 ⟨_,rfl,zx w _,by show(w.alloc _).heap.size=_;simp,(zU w _).drew⟩
def yT(pre:List Rd)(l:List (List Rd)):List (List Rd):=l.map (pre++·)
theorem behind_nil(pre:List Rd):yT pre [[]]=[pre]:=by simp[yT]
theorem JC(pre:List Rd)(r:Rd)(l:List (List Rd)):yT pre (l.map (r::·))=yT (pre++[r]) l:=by simp[yT]
def yB(a:Ad)(k:Nat)(M:List Mv)(j:Nat):List (List Rd):=(M.take j).flatMap fun m=>(zI a k m.to).map (m.r::·)
theorem uu(a:Ad)(k:Nat)(M:List Mv):yB a k M 0=[]:=by simp[yB]
theorem qN(a:Ad)(k:Nat)(M:List Mv){j:Nat}(h:j<M.length):yB a k M (j+1)=yB a k M j++(zI a k M[j].to).map (M[j].r::·):=by
 unfold yB;rw[Lq h,RJ];simp
theorem gB(a:Ad)(k:Nat){s:Nat}(h:s<a.sts.length):yB a k a.sts[s] a.sts[s].length=zI a (k+1) (s:Int):=by
 unfold yB;rw[zI,LS,show a.at_ (s:Int)=a.sts[s] by unfold Ad.at_;rw[Lo,Lh,Lm h];rfl]
theorem gA(a:Ad)(k:Nat)(M:List Mv)(j:Nat):(yB a k M j).length<=(yB a k M M.length).length:=by
 unfold yB;rw[LS]
 conv=>rhs;rw[<-PE j M,RJ,Lv]
 omega
def Fx(bR bO bA bF g k:Nat):Prop:=k≠bR/\k≠bO/\k≠bA/\k≠bF/\k≠g
structure FromIn(a:Ad)(K:Nat)(SV:Bb)(ks B bR bO bA bF g:Nat)(V:Ar)(pre:List Rd)(outs:List (List Rd))(w0 w:Ba):Prop where
 hR:w.heap[bR]?=J (Ag #[O U K] 3 (0,0))
 hO:w.heap[bO]?=J (Ag #[V] 113 (0,0))
 hA:w.heap[bA]?=J (Ag #[O U a.n,I SV a.sts.length ks] 27 (0,0))
 hF:w.heap[bF]?=J (Ag #[.func (.func 86) #[] #[Aj (J ⟨bR,0,Z⟩),Aj (J ⟨bO,0,Z⟩),Aj (J ⟨bA,0,Z⟩),Aj (J ⟨bF,0,Z⟩)]] 155 (0,0))
 out:OwnX cWd (Fx bR bO bA bF g) w B V outs
 ne:∀k,V.ownBlock=J k->Fx bR bO bA bF g k
 buf:OwnR kRd w B (I (J ⟨g,0,Z⟩) pre.length K) pre.length (yR pre)
 bel:Am B w0 w
theorem FromIn.fresh{a:Ad}{K:Nat}{SV:Bb}{ks B bR bO bA bF g:Nat}{V:Ar}{pre:List Rd}{outs:List (List Rd)}{w0 w:Ba}(H:FromIn a K SV ks B bR bO bA bF g V pre outs w0 w){k:Nat}(hk:w.heap.size<=k):Fx bR bO bA bF g k:=by
 have h1:=zk H.hR;have h2:=zk H.hO;have h3:=zk H.hA;have h4:=zk H.hF;have h5:=(H.buf.lt g rfl).2;exact⟨by omega,by omega,by omega,by omega,by omega⟩
structure FromB(B bR bO bA bF g:Nat):Prop where
 r:B<=bR
 o:B<=bO
 a:B<=bA
 f:B<=bF
 ro:bR≠bO
 ao:bA≠bO
 fo:bF≠bO
 gr:g≠bR
 go:g≠bO
 ga:g≠bA
 gf:g≠bF
 g:B<=g
def wj(a:Ad)(K:Nat)(SV:Bb)(ks k:Nat):Prop:=∀(s:Int) (pre:List Rd) (outs:List (List Rd)) (V:Ar) (B bR bO bA bF g:Nat) (w0 w:Ba),
 pre.length+k=K->(k=0\/(0<=s/\s<a.sts.length))->outs.length+(zI a k s).length<=5000->FromB B bR bO bA bF g->SAt w0 B SV a.sts->FromIn a K SV ks B bR bO bA bF g V pre outs w0 w ->
 An Al 86 #[O U s,I (J ⟨g,0,Z⟩) pre.length K,Aj (J ⟨bR,0,Z⟩),Aj (J ⟨bO,0,Z⟩),Aj (J ⟨bA,0,Z⟩),Aj (J ⟨bF,0,Z⟩)] w
  fun e w'=>(∃v,e=Ak v)/\∃V',FromIn a K SV ks B bR bO bA bF g V' pre (outs++yT pre (zI a k s)) w0 w'
theorem FromIn.push{a:Ad}{K:Nat}{SV:Bb}{ks B bR bO bA bF g:Nat}{V:Ar}{pre:List Rd}{outs:List (List Rd)}{w0 w W w3:Ba}{x:List Rd}{bE:List (List Ar)}{A2:Bb}{c2 g' cap:Nat}
  (H:FromIn a K SV ks B bR bO bA bF g V pre outs w0 w) (hB:FromB B bR bO bA bF g) (hw:Am w.heap.size w W) (hl:bE.length=outs.length)
  (h3:∀(i:Nat) (h1:i<bE.length) (h2:i<outs.length),cWd.lies (fun k=>Fx bR bO bA bF g k/\V.ownBlock≠J k) W bE[i] outs[i])
  (hx:RAtS (fun k=>w.heap.size<=k) W A2 x) (hxc:x.length<=c2) (hr:OwnR kWd w3 B (I (J ⟨g',0,Z⟩) (outs.length+1) cap) (outs.length+1) (bE.flatten++[I A2 x.length c2]))
  (hg:W.grownBy w3 V.ownBlock) (bG:V.ownBlock=J g'\/g'=W.heap.size) :
  FromIn a K SV ks B bR bO bA bF g (I (J ⟨g',0,Z⟩) (outs.length+1) cap) pre (outs++[x]) w0 (w3.setCell ⟨bO,0,Z⟩ (I (J ⟨g',0,Z⟩) (outs.length+1) cap)):=by
 have ac:=H.out.lt;have sr:g<w.heap.size:=(H.buf.lt g rfl).2;have Sp:=hw.size;have k1:=zk H.hR;have k2:=zk H.hO;have k3:=zk H.hA;have k4:=zk H.hF
 have hk:∀b,b<w.heap.size->V.ownBlock≠J b->b≠bO->(w3.setCell ⟨bO,0,Z⟩ (I (J ⟨g',0,Z⟩) (outs.length+1) cap)).heap[b]?=w.heap[b]?:=fun b h1 h0 h2=>
  (Lf _ _ _ b h2).trans ((hg.block b (by omega) (fun e=>h0 e.symm)).trans (hw.block b h1))
 have By:w3.heap[bO]?=J (Ag #[V] 113 (0,0)):=(hg.block bO (by omega) (fun e=>(H.ne bO e.symm).2.1 rfl)).trans ((hw.block bO (by omega)).trans H.hO);obtain⟨x1,x2,x3⟩:=qK By (I (J ⟨g',0,Z⟩) (outs.length+1) cap);have hX:cWd.lies (fun k=>Fx bR bO bA bF g k/\V.ownBlock≠J k) W [I A2 x.length c2] x:=⟨A2,c2,rfl,hx.mono fun k _ hk=>⟨H.fresh hk,fun e=>by have:=(ac k e).2;omega⟩,hxc⟩;have hO:=OwnX.app qx hl h3 hX hr hg bG;have DR:B<=g'/\g'<w3.heap.size:=hr.lt g' rfl
 have hfx:Fx bR bO bA bF g g':=by
  rcases bG with e | e
  . exact H.ne g' e
  exact H.fresh (by omega)
 have Dy:V.ownBlock≠J g:=fun e=>(H.ne g e).2.2.2.2 rfl
 refine⟨(hk _ k1 (fun e=>(H.ne _ e).1 rfl) hB.ro).trans H.hR,x1,(hk _ k3 (fun e=>(H.ne _ e).2.2.1 rfl) hB.ao).trans H.hA,(hk _ k4 (fun e=>(H.ne _ e).2.2.2.1 rfl) hB.fo).trans H.hF,?_,?_,?_,?_⟩
 . refine hO.kept qx (zQ w3 bO 0 _) (.inr (fun e=>?_)) (fun k e=>.inl fun hs=>?_)
   . have e2:g'=bO:=by simpa[Value.ownBlock] using e
     exact hfx.2.1 e2
   cases e
   exact hs.2.1 rfl
 . intro k e
   have e2:g'=k:=by simpa[Value.ownBlock] using e
   subst e2;exact hfx
 . refine((H.buf.below hw (Ld _)).kept hg (.inr (fun e=>Dy e.symm))).kept (zQ w3 bO 0 _) (.inr (fun e=>?_))
   have e2:g=bO:=by simpa[Value.ownBlock] using e
   exact hB.go e2
 have h1:=hB.o;have h2:=hB.g;exact((H.bel.trans (hw.mono (by omega))).grown hg (by omega) (fun k hk=>(ac k hk).1)).setCell (by show B<=bO;omega) _
theorem from_zero(a:Ad)(K:Nat)(hK:K<=6)(SV:Bb)(ks:Nat):wj a K SV ks 0:=by
 intro s pre outs V B bR bO bA bF g w0 w Ih _ aL hB hS H;obtain rfl:K=pre.length:=by omega
 have aL:outs.length<=5000:=by omega
 have HI:=zH H;have cX:=zH hB;have r0:=zh H.hR 0 rfl;have o0:=zh H.hO 0 rfl
 have FJ:Raw w.drew (J ⟨g,0,Z⟩) pre.length (yR pre):=by
  obtain⟨A,cap,e,_,_,h⟩:=H.buf.raw
  cases e;exact h
 have HC:=zH (Xw (J ⟨g,0,Z⟩) pre.length pre.length (yR pre) w.drew (xK pre) FJ (vZ pre) (by omega));go_enter func86,ntmps86;go_wp2_with fail;refine zt [(0,Au),(1,Au),(2,Aw),(3,Aw),(4,Aw),(5,Aw)] (fun W=>W.cell? ⟨bO,0,Z⟩=J V) (by kernel_rfl) (by kernel_rfl) (by exact o0) ?_
 repeat
  apply zj rfl
  . intro K' aa W hW
    go_simp;exact aa
 refine zn rfl ?_;intro K' aa;go_simp;refine HC.out.mono ?_;rintro e w2 ⟨v2,rfl,oO,ah⟩;obtain⟨A2,c2,rfl,hc2,mL,ew⟩:=vY oO;have ah:Am w.heap.size w w2:=JB ah;have ew:RAtS (fun k=>w.heap.size<=k) w2 A2 pre:=ew;have G':=HI.out.hO;have o2:w2.cell? ⟨bO,0,Z⟩=J V:=(ah.cell (p:=⟨bO,0,Z⟩) (zk G')).trans o0;refine aa _ _ o2 ?_;refine zn rfl ?_;intro K' aa;go_simp;have VY:bO<w2.heap.size:=by have:=zk G';have:=ah.size;omega
 refine aa _ _ ((World.cell?_alloc_lt _ _ _ VY).trans o2) ?_;refine zn rfl ?_;intro K' aa;obtain⟨W2,ij⟩:=Kk (w2.alloc (Ag #[I A2 pre.length c2] 124));have mC:=zx w2 (Ag #[I A2 pre.length c2] 124);have az:Am w.heap.size w W2:=by rw[<-ij];exact ah.alloc ah.size _
 have MS:RAtS (fun k=>w.heap.size<=k) W2 A2 pre:=by rw[<-ij];exact ew.keep (KeepB.alloc _ _ _)
 rw[ij] at mC ⊢;obtain⟨bE,bn,nf,cN⟩:=HI.out.out.below qx az (Ld _);have bN:B<=W2.heap.size:=by have:=cX.out.g;have:=(HI.out.buf.lt g rfl).2;have:=az.size;omega
 refine step_appR kWd_ok (by rfl) (.tmp 14) (.tmp 17) (by rfl) B V outs.length bE.flatten (by rfl) nf w2.heap.size #[I A2 pre.length c2] (by rfl) mC rfl (by simp[Value.oneCell']) (by omega) bN _ rfl ?_;intro g' cap w3 hr cJ bG Vc
 have o3:w3.cell? ⟨bO,0,Z⟩=J V:=by
  refine(LN (cJ.block bO (by have:=zk G';have:=az.size;omega) (fun e=>?_))).trans ((az.cell (p:=⟨bO,0,Z⟩) (zk G')).trans o0);exact(HI.out.ne bO e.symm).2.1 rfl
 have f3:w3.frozen? ⟨bO,0,Z⟩=Aw:=by
  refine zi (cs:=#[V]) (t:=113) ((cJ.block bO (by have:=zk G';have:=az.size;omega) (fun e=>?_)).trans ((az.block bO (zk G')).trans G')) 0;exact(HI.out.ne bO e.symm).2.1 rfl
 have HP:=zH (HI.out.push cX.out az bn cN MS hc2 hr cJ bG);refine aa _ _ o3 ?_;refine yb rfl (by kernel_rfl) ?_;intro K' aa;go_simp;refine aa (fun _=>True) _ _ trivial ?_;refine zy ?_;go_simp;go_wp2_with fail;refine LI (Rr rfl _ _ _) rfl ?_;refine⟨⟨.tuple #[],rfl⟩,I (J ⟨g',0,Z⟩) (outs.length+1) cap,?_⟩;rw[show zI a 0 s=[[]] from rfl,behind_nil];exact HP.out
theorem FromIn.ext{a:Ad}{K:Nat}{SV:Bb}{ks B bR bO bA bF g:Nat}{V:Ar}{pre:List Rd}{outs:List (List Rd)}{w0 w W w4:Ba}{r:Rd}
  (H:FromIn a K SV ks B bR bO bA bF g V pre outs w0 w) (hB:FromB B bR bO bA bF g) (hw:Am w.heap.size w W)
  (hr:OwnR kRd w4 B (I (J ⟨g,0,Z⟩) (pre.length+1) K) (pre.length+1) (yR pre++r.cells.toList)) (hg:W.grownBy w4 (J g)) :
  FromIn a K SV ks B bR bO bA bF g V (pre++[r]) outs w0 w4:=by
 have sr:g<w.heap.size:=(H.buf.lt g rfl).2;have Sp:=hw.size;have k1:=zk H.hR;have k2:=zk H.hO;have k3:=zk H.hA;have k4:=zk H.hF;have hk:∀b,b<w.heap.size->g≠b->w4.heap[b]?=w.heap[b]?:=fun b h1 h2=>(hg.block b (by omega) (fun e=>by cases e;exact h2 rfl)).trans (hw.block b h1)
 have Dy:V.ownBlock≠J g:=fun e=>(H.ne g e).2.2.2.2 rfl
 refine⟨(hk _ k1 hB.gr).trans H.hR,(hk _ k2 hB.go).trans H.hO,(hk _ k3 hB.ga).trans H.hA,(hk _ k4 hB.gf).trans H.hF,?_,H.ne,?_,?_⟩
 . exact(H.out.below qx hw (Ld _)).kept qx hg (.inr Dy) (fun k e=>.inl fun hs=>hs.2.2.2.2 (by cases e;rfl))
 . rw[Lv,vK];exact hr
 have:=hB.g;exact(H.bel.trans (hw.mono (by omega))).grown hg (by omega) (fun k hk=>by cases hk;omega)
theorem FromIn.cut{a:Ad}{K:Nat}{SV:Bb}{ks B bR bO bA bF g:Nat}{V:Ar}{pre:List Rd}{outs:List (List Rd)}{w0 w:Ba}{r:Rd}
  (H:FromIn a K SV ks B bR bO bA bF g V (pre++[r]) outs w0 w):FromIn a K SV ks B bR bO bA bF g V pre outs w0 w:=by
 refine⟨H.hR,H.hO,H.hA,H.hF,H.out,H.ne,?_,H.bel⟩;have h:=H.buf;rw[vK,Lv] at h;exact h.pop (xK pre)
theorem behind_len(pre:List Rd)(l:List (List Rd)):(yT pre l).length=l.length:=by simp[yT]
theorem YW(pre:List Rd)(l m:List (List Rd)):yT pre (l++m)=yT pre l++yT pre m:=by simp[yT]
theorem from_succ(a:Ad)(K:Nat)(SV:Bb)(ks k:Nat)(hz:zG a a.sts=0)(hf:FewA a)(ih:wj a K SV ks k):wj a K SV ks (k+1):=by
 intro s pre outs V B bR bO bA bF g w0 w Ih tI aL hB hS H;have hs:0<=s/\s<a.sts.length:=tI.resolve_left (by omega);obtain⟨S,rfl⟩:=Ls hs.1;have rc:S<a.sts.length:=by omega
 have HI:=zH H;have cX:=zH hB;have HIH:=zH ih;have en:=zH hS;have HZ:=zH (@xL a hz);have tN:=hf.each (Le rc);have oZ:=zH (gB a k rc);have rx:=zH aL;have He:=zH (fun (m:Mv) (hm:m∈a.sts[S])=>(Nw.2 ⟨_,Le rc,hm⟩:m∈a.mvs));have r0:=zh H.hR 0 rfl;have a1:=zh H.hA 1 rfl;obtain⟨bs,os,A',rk,IE,bN,s0,GD⟩:=(hS.keep H.bel).at_ S rc;have hsv:SV.map (fun x=>x)=J ⟨bs,os,Z⟩:=by rw[IE];rfl
 have Db:Aq (∀W,Am B w0 W->MAt W B A' a.sts[S]):=by
  intro W hW;obtain⟨bs2,os2,A2,cs2,MI,_,s2,Ei⟩:=(hS.keep hW).at_ S rc;rw[IE] at MI
  cases MI
  have e1:=(hS.keep H.bel).at_ S rc;obtain⟨bs3,os3,A3,cs3,MH,Ms,s3,hM3⟩:=hS.at_ S rc;rw[IE] at MH
  cases MH
  have x1:=(H.bel.cell (p:=⟨bs,os+S,Z⟩) Ms).trans s3;have x2:=(hW.cell (p:=⟨bs,os+S,Z⟩) Ms).trans s3;rw[x1] at s0
  cases s0
  exact hM3.keep hW
 clear hsv GD hS;subst IE;obtain⟨M,hM⟩:=Kk (a.sts[S]);rw[hM] at s0 Db oZ He tN;have e0:((pre.length:Int)==(K:Int))=Aw:=by simp;omega
 have aw:(S:Int)<(a.sts.length:Int):=by omega
 have bQ:(0:Int)<=(S:Int):=by omega
 clear H hB hM hz hf ih hs tI;go_enter func86,ntmps86;go_wp2_with fail;clear r0 a1 s0 e0
 go_loopw [25] (fun i wr=>∃(j:Nat) (V':Ar),j<=M.length/\i=O U (j:Int)/\Aq (FromIn a K (J ⟨bs,os,Z⟩) ks B bR bO bA bF g V' pre (outs++yT pre (yB a k M j)) w0 wr)) (fun i _=>M.length-(Ap i).toNat)
 case atStart=>exact⟨0,V,by omega,rfl,by rw[uu,show yT pre []=[] from rfl,Nj];exact HI.out⟩
 obtain⟨j,V',hj,rfl,HJ⟩:=hrel
 by_cases cU:j<M.length
 case neg=>
  obtain rfl:j=M.length:=by omega
  go_wp2_with fail
  go_end0
  refine⟨⟨.tuple #[],rfl⟩,V',?_⟩;rw[<-oZ.out];exact HJ.out
 obtain⟨bm,om,e1,hbm,m0,m1,m2,m3,m4,m5,m6,m7⟩:=(Db.out _ HJ.out.bel).row j cU;subst e1;have SK:(0:Int)<=(j:Int):=by omega
 have Ip:(j:Int)<(M.length:Int):=by omega
 have HF:=HJ.out.hF;have f0:=zh HF 0 rfl;have V7:bF<wr.heap.size:=zk HF;have lZ:=He.out M[j] (Le cU);obtain⟨z1,z2,z3,z4⟩:=HZ.out _ lZ;have dW:=zH (qN a k M cU);have iX:=gA a k M (j+1);rw[qN a k M cU,Lv,LM] at iX;obtain⟨m,LX⟩:=Kk (M[j]);rw[LX] at m0 m1 m2 m3 m4 m5 m6 m7 lZ z1 z2 z3 z4 dW iX
 have ta:(outs++yT pre (yB a k M j)).length+(zI a k m.to).length<=5000:=by
  have:=rx.out;rw[<-oZ.out] at this;rw[Lv,behind_len];omega
 have HL5:=zH ta;have HZ3:=zH z3;have HZ4:=zH z4;clear LX iX z1 z2 z3 z4 ta lZ He HZ rx HI Db oZ;go_wp2_with fail;clear m0 m1 m2 m3 m4 m5 m6 m7;obtain⟨W1,fG,g0,fa,aB⟩:=zm wr m.cells 78;unfold Mv.cells at fG;rw[fG];clear fG;have f1:=(aB.cell (p:=⟨bF,0,Z⟩) V7).trans f0;have fd:=(HJ.out.buf.lt g rfl).2;have VB:=cX.out.gf;have hpK:pre.length+1<=K:=by omega
 have UX:(pre++[m.r]).length+k=K:=by rw[Lv,Ry];omega
 have hGN:wr.heap.size<W1.heap.size:=by omega
 have hD:=zH g0
 refine zt [(0,Au),(1,Au),(2,Au),(3,Au),(4,Au),(5,Au),(6,Aw),(7,Aw),(8,Aw)]
  (fun W=>W.cell? ⟨bF,0,Z⟩=J (.func (.func 86) #[] #[Aj (J ⟨bR,0,Z⟩),Aj (J ⟨bO,0,Z⟩),Aj (J ⟨bA,0,Z⟩),Aj (J ⟨bF,0,Z⟩)])/\W.heap[wr.heap.size]?=J (Ag m.cells 78 (0,0)))
  (by kernel_rfl) (by kernel_rfl) ⟨f1,g0⟩ ?_
 clear f0
 repeat
  apply zj rfl
  . rintro K' aa W ⟨y0,y1⟩
    have g1:W.cell? ⟨wr.heap.size,0,Z⟩=J (O U m.r.n):=zh y1 0 rfl;have g2:W.cell? ⟨wr.heap.size,1,Z⟩=J (O U m.r.h0):=zh y1 1 rfl;have g3:W.cell? ⟨wr.heap.size,2,Z⟩=J (O U m.r.h1):=zh y1 2 rfl;have g4:W.cell? ⟨wr.heap.size,3,Z⟩=J (O U m.r.h2):=zh y1 3 rfl;have g5:W.cell? ⟨wr.heap.size,4,Z⟩=J (O U m.r.h3):=zh y1 4 rfl;have g6:W.cell? ⟨wr.heap.size,5,Z⟩=J (O U m.r.h4):=zh y1 5 rfl;have g7:W.cell? ⟨wr.heap.size,6,Z⟩=J (O U m.r.f):=zh y1 6 rfl;have g8:W.cell? ⟨wr.heap.size,7,Z⟩=J (O U m.to):=zh y1 7 rfl;clear y1;go_simp;exact aa
 refine zn rfl ?_;intro K' aa;go_simp;obtain⟨W2,ij,d0,eZ,GJ⟩:=Zv W1 m.r.cells 76;unfold Rd.cells at ij;rw[ij];have g2:=Lb GJ hGN hD.out;have f2:=(GJ.cell (p:=⟨bF,0,Z⟩) (by show bF<W1.heap.size;omega)).trans f1;refine aa _ _ ⟨f2,g2⟩ ?_;have hBW:Am wr.heap.size wr W2:=aB.trans (GJ.mono (by omega));refine zn rfl ?_;intro K' aa;rw[Lj (by rfl)];refine wp_fitR X0 (.tmp 32) (.tmp 35) (by rfl) B g pre.length K (yR pre) (by rfl) (HJ.out.buf.below hBW (Ld _)) (wr.heap.size+1) m.r.cells (by rfl) (fa▸d0) rfl (by simp[Rd.cells,Value.oneCell']) hpK ?_;intro W3 hr px;have HX:=zH (HJ.out.ext cX.out hBW hr px);have g3:=(px.block _ (by omega) (fun e=>by cases e;omega)).trans g2;have f3:=(LN (px.block bF (by omega) (fun e=>by cases e;exact VB rfl))).trans f2;refine aa _ _ ⟨f3,g3⟩ ?_;refine yb rfl (by kernel_rfl) ?_;intro K' aa;go_simp;have HC:=HIH.out m.to (pre++[m.r]) (outs++yT pre (yB a k M j)) V' B bR bO bA bF g w0 W3 UX (.inr ⟨HZ3.out,HZ4.out⟩) HL5.out cX.out en.out HX.out;rw[Lv,Ry] at HC;refine HC.mono ?_;rintro e w4 ⟨⟨v4,rfl⟩,V4,H4⟩;have H5:=zH H4.cut;rw[Nh,<-JC,<-YW,<-dW.out] at H5;refine aa (fun _=>True) _ _ trivial ?_;refine zy ?_;go_wp2_with fail
 go_roundw
 case rel=>exact⟨j+1,V4,by omega,by go_num,H5⟩
 simp[Ap];omega
theorem Jg(a:Ad)(K:Nat)(hK:K<=6)(SV:Bb)(ks:Nat)(hz:zG a a.sts=0)(hf:FewA a):∀k,wj a K SV ks k
 | 0=>from_zero a K hK SV ks
 | k+1=>from_succ a K SV ks k hz hf (Jg a K hK SV ks hz hf k)
theorem grow_grow{W w w':Ba}{r r':Option Nat}(h:W.grownBy w r)(hg:w.grownBy w' r')(hr:∀k,r'=J k->k<W.heap.size->r=J k):W.grownBy w' r:=
 ⟨hg.os.trans h.os,hg.tape.trans h.tape,hg.output.trans h.output,Lr h.size hg.size,fun k hk hn=>(hg.block k (LE hk h.size) (fun e=>hn (hr k e.symm hk).symm)).trans (h.block k hk hn)⟩
theorem grow_below{W w w':Ba}{r:Option Nat}(h:W.grownBy w r)(hb:Am w.heap.size w w'):W.grownBy w' r:=
 ⟨hb.os.trans h.os,hb.tape.trans h.tape,hb.output.trans h.output,Lr h.size hb.size,fun k hk hn=>(hb.block k (LE hk h.size)).trans (h.block k hk hn)⟩
def jn(a:Ad)(SV:Bb)(ks k:Nat):Prop:=∀(s:Int) (w:Ba),(k=0\/(0<=s/\s<a.sts.length))->(zI a k s).length<=5000->SAt w w.heap.size SV a.sts ->
 An Al 137 #[Ai #[O U a.n,I SV a.sts.length ks],O U s,O U k] w fun e w'=>∃v,e=Ak v/\OwnX cWd (fun b=>w.heap.size<=b) w' w.heap.size v (zI a k s)/\Am w.heap.size w w'
theorem fromR_zero(a:Ad)(SV:Bb)(ks:Nat):jn a SV ks 0:=by
 intro s w _ _ _;go_enter func137,ntmps137;go_wp2_with fail;obtain⟨w1,ae,d0,d1,aw,lN⟩:=xk w #[O U a.n,I SV a.sts.length ks] #[I Z 0 0] 27 124;rw[ae];go_ret;refine⟨_,rfl,⟨[[I Z 0 0]],rfl,?_,?_⟩,lN⟩
 . exact OwnR.of_block (K:=kWd) (n:=1) d1 (by omega) rfl (by unfold maxLen;omega)
 intro i h1 h2;obtain rfl:i=0:=by simp at h1;omega
 exact⟨Z,0,rfl,RAtS.nil _ _ _,Ld _⟩
theorem fromR_succ(a:Ad)(SV:Bb)(ks k:Nat)(DO:k<=6)(hz:zG a a.sts=0)(hf:FewA a)(ih:jn a SV ks k):jn a SV ks (k+1):=by
 intro s w tI aL hS;have hs:0<=s/\s<a.sts.length:=tI.resolve_left (by omega);obtain⟨S,rfl⟩:=Ls hs.1;have rc:S<a.sts.length:=by omega
 have HIH:=zH ih;have HZ:=zH (@xL a hz);have tN:=hf.each (Le rc);have oZ:=zH (gB a k rc);have rx:=zH aL;have He:=zH (fun (m:Mv) (hm:m∈a.sts[S])=>(Nw.2 ⟨_,Le rc,hm⟩:m∈a.mvs));have HS:=zH hS;obtain⟨bs,os,A',rk,IE,bN,s0,GD⟩:=hS.at_ S rc;subst IE;have Db:=zH GD;obtain⟨M,hM⟩:=Kk (a.sts[S]);rw[hM] at s0 Db oZ He tN;have e0:(((k+1:Nat):Int)==0)=Aw:=by simp;omega
 have ae:IntKind.i64.wrap (((k+1:Nat):Int)-1)=(k:Int):=by rw[Ll];omega
 have aw:(S:Int)<(a.sts.length:Int):=by omega
 have bQ:(0:Int)<=(S:Int):=by omega
 obtain⟨K,hK⟩:∃K:Int,((k+1:Nat):Int)=K:=⟨_,rfl⟩;rw[hK] at e0 ae ⊢;go_enter func137,ntmps137;go_wp2_with fail;obtain⟨w1,fG,d0,fa,aB⟩:=zm w #[O U a.n,I (J ⟨bs,os,Z⟩) a.sts.length ks] 27;rw[fG];have dU:=zH d0;have mJ:=zH aB;clear d0 aB e0
 go_loopw [7,8] (fun o i wr=>∃j:Nat,j<=M.length/\i=O U (j:Int)/\Aq (OwnX cWd (fun b=>w.heap.size<b) wr (w.heap.size+1) o (yB a k M j))/\Aq (Am w1.heap.size w1 wr)) (fun _ i _=>M.length-(Ap i).toNat)
 case atStart=>exact⟨0,by omega,rfl,by rw[uu];exact OwnX.nil _ _ _ _,Li _ _⟩
 obtain⟨j,hj,rfl,HO,ix⟩:=hrel;have D0:=Lb ix.out (by omega) dU.out;have q1:=zh D0 1 rfl;have cp:=ix.out.size;have s1:wr.cell? ⟨bs,os+S,Z⟩=J (I A' M.length rk):=((mJ.out.trans (ix.out.mono (by omega))).cell (p:=⟨bs,os+S,Z⟩) bN).trans s0
 by_cases cU:j<M.length
 case neg=>
  obtain rfl:j=M.length:=by omega
  go_wp2_with fail;go_ret;refine⟨_,rfl,?_,mJ.out.trans (ix.out.mono (by omega))⟩;rw[<-oZ.out];exact(HO.out.mono qx fun b _ hb=>by omega).low (by omega)
 obtain⟨bm,om,e1,hbm,m0,m1,m2,m3,m4,m5,m6,m7⟩:=(Db.out.keep (mJ.out.trans (ix.out.mono (by omega)))).row j cU;subst e1;have SK:(0:Int)<=(j:Int):=by omega
 have Ip:(j:Int)<(M.length:Int):=by omega
 have q0:=zh D0 0 rfl;have sr:w.heap.size<wr.heap.size:=by omega
 have lZ:=He.out M[j] (Le cU);obtain⟨z1,z2,z3,z4⟩:=HZ.out _ lZ;have en:=zH (qN a k M cU);have iX:=gA a k M (j+1);rw[qN a k M cU,Lv,LM] at iX;obtain⟨m,LX⟩:=Kk (M[j]);rw[LX] at m0 m1 m2 m3 m4 m5 m6 m7 lZ z1 z2 z3 z4 en iX
 have ta:(yB a k M j).length+(zI a k m.to).length<=5000:=by
  have:=rx.out;rw[<-oZ.out] at this;omega
 have HC:=zH (fun (W:Ba) (hW:Am wr.heap.size wr W)=>HIH.out m.to W (.inr ⟨z3,z4⟩) (by omega) (((HS.out.keep (mJ.out.trans ((ix.out.trans (hW.mono cp)).mono (by omega)))).more (by have:=hW.size;omega))));clear LX iX z1 z2 z3 z4 lZ He HZ rx Db oZ;go_wp2_with fail;clear m0 m1 m2 m3 m4 m5 m6 m7 q0 q1 s1;obtain⟨W1,fG,g0,eZ,az⟩:=zm wr m.cells 78;unfold Mv.cells at fG;rw[fG];refine(HC.out W1 az).mono ?_;rintro e w3 ⟨rv,rfl,By,al⟩;obtain⟨AR,cR,rfl,hcR,hmR,hWR⟩:=YI By;have G0:=Lb al (by omega) g0;have bK:Aq (Am wr.heap.size wr w3):=az.trans (al.mono (by omega));have tl:=zH (HO.out.below qx bK.out (Ld _));have iW:=HO.out.lt;have nm:=zH (By.mono (S':=fun b=>wr.heap.size<b) qx fun b _ hb=>by omega);have OT:=zH G0;have nD:=al.size;obtain⟨R,hR⟩:=Kk (zI a k m.to);have HRK:=zH (xv a k m.to);rw[hR] at ta en nm HRK ⊢;go_wp2_with fail;obtain⟨Ab,rfl⟩:∃Ab,Ab=u7:=⟨_,rfl⟩;obtain⟨wo,rfl⟩:∃x,x=wr:=⟨_,rfl⟩
 go_loopw [7,11] (fun o i wx=>∃l:Nat,l<=R.length/\i=O U (l:Int)/\Aq (OwnX cWd (fun b=>w.heap.size<b) wx (w.heap.size+1) o (yB a k M j++(R.take l).map (m.r::·)))/\Aq (w3.grownBy wx (Value.ownBlock Ab))/\Aq (o.ownBlock=Value.ownBlock Ab\/∀b,o.ownBlock=J b->w3.heap.size<=b)) (fun _ i _=>R.length-(Ap i).toNat)
 case atStart=>exact⟨0,by omega,rfl,by rw[PB,Nr,Nj];exact tl.out,RR _ _,.inl rfl⟩
 obtain⟨l,hl,rfl,HX,HG,HW⟩:=hrel;have aY:Aq (Am w1.heap.size w1 wr):=(ix.out.trans (bK.out.mono cp)).grown HG.out (by omega) (fun b hb=>by have:=(iW b hb).1;omega)
 by_cases aN:l<R.length
 case neg=>
  obtain rfl:l=R.length:=by omega
  rw[LS,<-en.out] at HX;go_wp2_with fail
  go_roundw
  case rel=>exact⟨j+1,by omega,by go_num,HX,aY⟩
  simp[Ap];omega
 have CM:OwnX cWd (fun b=>wo.heap.size<b) wr W1.heap.size (I AR R.length cR) R:=nm.out.kept qx HG.out (by
  cases hAR:(I AR R.length cR).ownBlock with
  | none=>exact .inl rfl
  | some b=>exact .inr fun e=>by have h1:=(nm.out.lt b hAR).1;have h2:=(iW b e.symm).2;omega) (fun b hb=>.inl fun h=>by have:=(iW b hb).2;omega)
 obtain⟨A9,c9,e9,_,_,hWX⟩:=YI CM
 cases e9
 obtain⟨br,or_,A2,c2,er,bD,r0,iC⟩:=hWX.at_ l aN;subst er;have G1:=(HG.out.block wo.heap.size (by omega) (fun e=>by have:=(iW _ e.symm).2;omega)).trans OT.out;have sS:=zk G1;have EF:=zH iC;have HOX:=zH HX.out;have Vg:(yB a k M j++(R.take l).map (m.r::·)).length=(yB a k M j).length+l:=by simp;omega
 have KB:Aq (yB a k M j++(R.take (l+1)).map (m.r::·)=(yB a k M j++(R.take l).map (m.r::·))++[m.r::R[l]]):=by
  show _=_;rw[Lq aN,LK,Nh];rfl
 have fF:=HRK.out _ (Le aN);have Vh:R[l].length<=6:=by omega
 clear fF;have Cz:(0:Int)<=(l:Int):=by omega
 have oR:(l:Int)<(R.length:Int):=by omega
 obtain⟨x,hx⟩:=Kk (R[l]);rw[hx] at r0 EF KB Vh;have FJ:Aq (Raw (wr.alloc (Ag m.r.cells 76)) A2 x.length (yR x)):=Z9 ((EF.out.keep (zU wr _)).more (by simp));have g0:wr.cell? ⟨wo.heap.size,0,Z⟩=J (O U m.r.n):=zh G1 0 rfl;have g1:wr.cell? ⟨wo.heap.size,1,Z⟩=J (O U m.r.h0):=zh G1 1 rfl;have g2:wr.cell? ⟨wo.heap.size,2,Z⟩=J (O U m.r.h1):=zh G1 2 rfl;have g3:wr.cell? ⟨wo.heap.size,3,Z⟩=J (O U m.r.h2):=zh G1 3 rfl;have g4:wr.cell? ⟨wo.heap.size,4,Z⟩=J (O U m.r.h3):=zh G1 4 rfl;have g5:wr.cell? ⟨wo.heap.size,5,Z⟩=J (O U m.r.h4):=zh G1 5 rfl;have g6:wr.cell? ⟨wo.heap.size,6,Z⟩=J (O U m.r.f):=zh G1 6 rfl;have hbr2:br<wr.heap.size:=bD;have Dx:w.heap.size+1<=wr.heap.size:=by have:=HG.out.size;omega
 clear hx CM hWX iC G1 HX;have OT:=zH (zx wr (Ag m.r.cells 76));obtain⟨N,hN⟩:=Kk ((yB a k M j++(R.take l).map (m.r::·)).length);have MO:N<=5000:=by omega
 have HN:=zH hN;clear hN Vg
 go_wp2_with (at_builtin;(first
  | ((refine Qj X0 rfl (.tmp 50) (.tmp 54) rfl wr.heap.size (I (J ⟨wr.heap.size, 0, Z⟩) 1 1) 1 m.r.cells.toList rfl (OwnR.of_block OT.out (Nat.le_refl _) rfl (by unfold maxLen; omega)) A2 x.length c2 (yR x) rfl (xK _) FJ.out (vZ _) (by omega) (by simp) ?_)
     intro v1 w5 iV lK _;have KL:OwnR kRd w5 wr.heap.size v1 (m.r::x).length (yR (m.r::x)):=by rw[Lz,Nat.add_comm];exact iV
     obtain⟨A5,c5,rfl,hc5,_,ta⟩:=vY KL;have lO:Am wr.heap.size wr w5:=(zU wr _).grown lK (by simp) (fun b hb=>by cases hb;exact Ld _);have lc:=zH (lO.alloc lO.size (Ag #[.slice A5 (m.r::x).length c5] 124));have ph:=zH (zx w5 (Ag #[.slice A5 (m.r::x).length c5] 124));have EM:=zH (ta.keep (KeepB.alloc _ w5 (Ag #[.slice A5 (m.r::x).length c5] 124)));have C9:=zH (HOX.out.below qx lc.out (Ld _));have hsz6:wr.heap.size<=w5.heap.size:=lO.size
     clear iV KL lK ta lO)
  | (obtain ⟨bE, bn, nf, cN⟩ := C9.out
     rw[HN.out] at nf;refine yI kWd_ok rfl (.tmp 49) (.tmp 56) rfl (w.heap.size+1) u7 N bE.flatten rfl nf w5.heap.size #[.slice A5 (m.r::x).length c5] rfl ph.out rfl (by simp[Value.oneCell']) (by omega) (by simp;omega) _ rfl ?_;intro g' cap w7 pN mM fy tO;have hX:cWd.lies (fun b=>(fun b=>w.heap.size<b) b/\Value.ownBlock u7≠J b) _ [.slice A5 (m.r::x).length c5] (m.r::x):=⟨A5,c5,rfl,EM.out.mono fun b _ hb=>⟨by have:wr.heap.size<=b:=hb;show w.heap.size<b;omega,fun e=>by have:=(HOX.out.lt b e).2;have:wr.heap.size<=b:=hb;omega⟩,hc5⟩;have nF:=pN;rw[<-HN.out] at nF;have C8:=zH (OwnX.app qx bn cN hX nF mM fy);rw[<-KB.out,HN.out] at C8
     have EP:Aq (w3.grownBy w7 Ab.ownBlock):=grow_grow (grow_below HG.out lc.out) mM (fun b hb ac=>by
      rcases HW.out with h | h
      . rw[<-h];exact hb
      . have:=h b hb;omega)
     have o9:Aq ((I (J ⟨g',0,Z⟩) (N+1) cap).ownBlock=Ab.ownBlock\/∀b,(I (J ⟨g',0,Z⟩) (N+1) cap).ownBlock=J b->w3.heap.size<=b):=by
      have dx:=HG.out.size;rcases fy with e | e
      . rcases HW.out with h | h
        . exact .inl (by rw[<-h,e];rfl)
        . exact .inr fun b hb=>h b (by rw[e];exact hb)
      . refine .inr fun b hb=>?_
        have h9:g'=b:=by simpa[Value.ownBlock] using hb
        simp at e;omega
     clear pN nF mM fy hX cN nf bn)
  ))
 go_roundw
 case rel=>exact⟨l+1,by omega,by go_num,C8,EP,o9⟩
 simp[Ap];omega
theorem Xr(a:Ad)(SV:Bb)(ks:Nat)(hz:zG a a.sts=0)(hf:FewA a):∀k,k<=6->jn a SV ks k
 | 0,_=>fromR_zero a SV ks
 | k+1,h=>fromR_succ a SV ks k (by omega) hz hf (Xr a SV ks hz hf k (by omega))
structure Wrote(R:Nat->Prop)(w w':Ba):Prop where
 os:w'.os=w.os
 tape:w'.tape=w.tape
 output:w'.output=w.output
 size:w.heap.size<=w'.heap.size
 block:∀k,k<w.heap.size->¬R k->w'.heap[k]?=w.heap[k]?
theorem Wrote.refl(R:Nat->Prop)(w:Ba):Wrote R w w:=⟨rfl,rfl,rfl,Ld _,fun _ _ _=>rfl⟩
theorem Wrote.trans{R R':Nat->Prop}{a b c:Ba}(h:Wrote R a b)(k:Wrote R' b c)(hr:∀k,k<a.heap.size->R' k->R k):Wrote R a c:=
 ⟨k.os.trans h.os,k.tape.trans h.tape,k.output.trans h.output,Lr h.size k.size,fun i hi hn=>(k.block i (LE hi h.size) (fun h'=>hn (hr i hi h'))).trans (h.block i hi hn)⟩
theorem Wrote.of_below{R:Nat->Prop}{a b:Ba}(h:Am a.heap.size a b):Wrote R a b:=⟨h.os,h.tape,h.output,h.size,fun k hk _=>h.block k hk⟩
theorem Wrote.of_grown{R:Nat->Prop}{a b:Ba}{row:Option Nat}(h:a.grownBy b row)(hr:∀k,row=J k->k<a.heap.size->R k):Wrote R a b:=⟨h.os,h.tape,h.output,h.size,fun k hk hn=>h.block k hk (fun e=>hn (hr k e.symm hk))⟩
theorem Wrote.below{R:Nat->Prop}{a b:Ba}{B:Nat}(h:Wrote R a b)(hB:B<=a.heap.size)(hr:∀k,k<B->¬R k):Am B a b:=⟨h.os,h.tape,h.output,h.size,fun k hk=>h.block k (by omega) (hr k hk)⟩
theorem Wrote.keep{R S:Nat->Prop}{a b:Ba}(h:Wrote R a b)(hr:∀k,k<a.heap.size->S k->¬R k):KeepB S a b:=⟨h.size,fun k hs hk=>h.block k hk (hr k hk hs)⟩
theorem Wrote.more{R R':Nat->Prop}{a b:Ba}(h:Wrote R a b)(hr:∀k,k<a.heap.size->R k->R' k):Wrote R' a b:=⟨h.os,h.tape,h.output,h.size,fun k hk hn=>h.block k hk (fun h'=>hn (hr k hk h'))⟩
def uJ(vs:List Vw):Vw->Option Ar:=fun v=>if v∈vs then J (O U (kB vs v)) else Z
theorem numF_nil:uJ []=fun _=>Z:=by funext v;simp[uJ]
theorem numF_put{vs:List Vw}{v:Vw}(h:v∉vs):ql (uJ vs) v (O U vs.length)=uJ (vs++[v]):=by
 funext x
 unfold ql uJ
 by_cases e:x=v
 . subst e
   rw[Lj rfl,Lj (by simp)]
   congr 2
   exact(Jb (k:=vs.length) (by simp) (by simp) (by rw[List.take_left];exact h)).symm
 rw[Lg e]
 by_cases hx:x∈vs
 . rw[Lj hx,Lj (by simp[hx])]
   congr 2
   unfold kB;rw[Lj hx,Lj (by simp[hx]),NA,Lj hx]
 rw[Lg hx,Lg (by simp[hx,e])]
structure BdIn(B bB bM:Nat)(n:Int)(V:Ar)(vs:List Vw)(w:Ba):Prop where
 hB:w.heap[bB]?=J (Ag #[O U n,V,.map (J bM)] 120 (0,0))
 num:∃m,MapOf (fun v:Vw=>.agg v.cells) w bM m (uJ vs)
 own:OwnV w B V vs
 ne:∀k,V.ownBlock=J k->k≠bB/\k≠bM
 bm:bB≠bM
 lo:B<=bB/\B<=bM
def Bk(bB bM:Nat)(V:Ar)(k:Nat):Prop:=k=bB\/k=bM\/V.ownBlock=J k
def BdOn(bB bM:Nat)(V:Ar)(w:Ba)(V':Ar)(w':Ba):Prop:=Wrote (Bk bB bM V) w w'/\∀k,V'.ownBlock=J k->V.ownBlock=J k\/w.heap.size<=k
theorem BdOn.refl(bB bM:Nat)(V:Ar)(w:Ba):BdOn bB bM V w V w:=⟨Wrote.refl _ _,fun _ h=>.inl h⟩
theorem BdOn.trans{bB bM:Nat}{V V1 V2:Ar}{w w1 w2:Ba}(h:BdOn bB bM V w V1 w1)(k:BdOn bB bM V1 w1 V2 w2):BdOn bB bM V w V2 w2:=by
 refine⟨h.1.trans k.1 fun j hj hr=>?_,fun j hj=>?_⟩
 . rcases hr with e | e | e
   . exact .inl e
   . exact .inr (.inl e)
   rcases h.2 j e with e | e
   . exact .inr (.inr e)
   omega
 rcases k.2 j hj with e | e
 . exact h.2 j e
 exact .inr (Lr h.1.size e)
theorem BdOn.after{bB bM:Nat}{V V1:Ar}{w w1 w2:Ba}(h:BdOn bB bM V w V1 w1)(k:Am w1.heap.size w1 w2):BdOn bB bM V w V1 w2:=⟨h.1.trans (Wrote.of_below (R:=fun _=>False) k) (fun _ _ h=>h.elim),h.2⟩
theorem BdIn.on{B bB bM:Nat}{n:Int}{V:Ar}{vs:List Vw}{w w':Ba}(h:BdIn B bB bM n V vs w)(hb:Am w.heap.size w w'):BdIn B bB bM n V vs w':=by
 obtain⟨m,hm⟩:=h.num;exact⟨La hb h.hB,⟨m,hm.same (hb.block _ hm.lt)⟩,h.own.below hb (Ld _),h.ne,h.bm,h.lo⟩
theorem BdIn.push{B bB bM m:Nat}{n:Int}{A:Bb}{cap:Nat}{vs:List Vw}{v:Vw}{w w2 W w4:Ba}{g' aH:Nat}(H:BdIn B bB bM n (I A vs.length cap) vs w)(mC:w.grownBy w2 (J bM))
  (mL:MapOf (fun v:Vw=>.agg v.cells) w2 bM m (uJ (vs++[v]))) (hW:Am w2.heap.size w2 W)
  (hr:OwnR kVw w4 B (I (J ⟨g',0,Z⟩) (vs.length+1) aH) (vs.length+1) (yQ vs++v.cells.toList)) (hg:W.grownBy w4 (I A vs.length cap).ownBlock)
  (bG:(I A vs.length cap).ownBlock=J g'\/g'=W.heap.size) :
  BdIn B bB bM n (I (J ⟨g',0,Z⟩) (vs.length+1) aH) (vs++[v]) (w4.setCell ⟨bB,1,Z⟩ (I (J ⟨g',0,Z⟩) (vs.length+1) aH)) /\
   BdOn bB bM (I A vs.length cap) w (I (J ⟨g',0,Z⟩) (vs.length+1) aH) (w4.setCell ⟨bB,1,Z⟩ (I (J ⟨g',0,Z⟩) (vs.length+1) aH)):=by
 have In:=zk H.hB;obtain⟨m0,s'⟩:=H.num;have Ve:=s'.lt;have bQ:=mC.size;have Ss:=hW.size;have iW:=H.own.lt;have ah:=(mC.block bB In (fun e=>by cases e;exact H.bm rfl)).trans H.hB;have aP:=(hg.block bB (by omega) (fun e=>(H.ne bB e.symm).1 rfl)).trans ((hW.block bB (by omega)).trans ah);have SB:=((mL.same (hW.block bM (by omega))).same (hg.block bM (by omega) (fun e=>(H.ne bM e.symm).2 rfl)));have fd:=hr.lt g' rfl
 have bC:g'≠bB/\g'≠bM:=by
  rcases bG with e | e
  . exact H.ne g' e
  exact⟨by omega,by omega⟩
 refine⟨⟨?_,⟨m,SB.same (Lf w4 _ _ bM (fun e=>H.bm e.symm))⟩,?_,?_,H.bm,H.lo⟩,?_,?_⟩
 . rw[Lk w4 bB 1 _ _ _ aP];rfl
 . have h5:OwnR kVw (w4.setCell ⟨bB,1,Z⟩ (I (J ⟨g',0,Z⟩) (vs.length+1) aH)) B (I (J ⟨g',0,Z⟩) (vs.length+1) aH) (vs.length+1) (yQ vs++v.cells.toList):=hr.kept (zQ w4 bB 1 _) (.inr (fun e=>bC.1 (by simpa[Value.ownBlock] using e)))
   unfold OwnV;rw[Lv,vG,show yQ [v]=v.cells.toList by simp[yQ]];exact h5
 . intro k hk
   have:g'=k:=by simpa[Value.ownBlock] using hk
   subst this;exact bC
 . have h1:Wrote (Bk bB bM (I A vs.length cap)) w w2:=Wrote.of_grown mC (fun k hk _=>by cases hk;exact .inr (.inl rfl))
   have h2:Wrote (Bk bB bM (I A vs.length cap)) w2 W:=Wrote.of_below hW;have h3:Wrote (Bk bB bM (I A vs.length cap)) W w4:=Wrote.of_grown hg (fun k hk _=>.inr (.inr hk));have h4:Wrote (Bk bB bM (I A vs.length cap)) w4 (w4.setCell ⟨bB,1,Z⟩ (I (J ⟨g',0,Z⟩) (vs.length+1) aH)):=Wrote.of_grown (zQ w4 bB 1 _) (fun k hk _=>by cases hk;exact .inl rfl);exact((h1.trans h2 (fun _ _ h=>h)).trans h3 (fun _ _ h=>h)).trans h4 (fun _ _ h=>h)
 intro k hk;have:g'=k:=by simpa[Value.ownBlock] using hk
 subst this;rcases bG with e | e
 . exact .inl e
 exact .inr (by omega)
theorem JE(B bB bM:Nat)(n:Int)(V:Ar)(vs:List Vw)(v:Vw)(hl:vs.length<=50000)(w:Ba)(H:BdIn B bB bM n V vs w) :
  An Al 92 #[Aj (J ⟨bB,0,Z⟩),.agg v.cells] w fun e w'=>e=Ak (O U (qe vs v).2)/\∃V',BdIn B bB bM n V' (qe vs v).1 w'/\BdOn bB bM V w V' w':=by
 obtain⟨A,cap,rfl⟩:=H.own.lit;obtain⟨w1,ae,d0,fa,aB⟩:=zm w v.cells 133;have H1:=H.on aB;have HI:=zH H1;have ak:=zH ae;have mJ:=zH aB;have dU:=zH d0;have HV:=zH (show uJ vs v=if v∈vs then J (O U (kB vs v)) else Z from rfl);have In:=zk H.hB;have lP:=zH (fun (k:Nat) (e:(I A vs.length cap).ownBlock=J k)=>(H.own.lt k e).2);have hbMw:bM<w.heap.size:=by obtain⟨_,hm⟩:=H.num;exact hm.lt
 have b0:=H1.hB;obtain⟨m,hm⟩:=H1.num;have HM:=zH hm;have hz:∀W:Ba,(zeroValue 3).run Al W=.ok (O U 0) W:=fun W=>by kernel_rfl
 have ht:Al.underlying 118=J (.map 133 3):=underlying118;have Mq:bB≠w.heap.size:=by omega
 clear ae H1 H;go_enter func92,ntmps92;unfold Vw.cells at ak ⊢;go_wp2_with fail;rw[ak.out]
 by_cases hv:v∈vs
 case pos=>
  have hf:uJ vs v=J (O U (kB vs v)):=Lj hv;have Bx:=QH hv;have HPW:=zH Bx;have HF:=zH hf;have hid:=Ja hv;clear Bx hf hv HV;refine zt [(0,Au),(1,Au),(2,Au),(3,Au),(4,Au),(5,Au),(6,Au),(7,Au),(8,Au),(9,Au),(10,Au)] (fun W=>W.heap[bB]?=J (Ag #[O U n,I A vs.length cap,.map (J bM)] 120 (0,0))/\MapOf (fun v:Vw=>.agg v.cells) W bM m (uJ vs)/\W.heap[w.heap.size]?=J (Ag v.cells 133 (0,0))) (by kernel_rfl) (by kernel_rfl) ⟨b0,hm,d0⟩ ?_
  repeat
   apply zj rfl
   . rintro K' aa W ⟨y0,y1,y2⟩
     have g0:W.cell? ⟨w.heap.size,0,Z⟩=J (O U v.p):=zh y2 0 rfl;have g1:W.cell? ⟨w.heap.size,1,Z⟩=J (O U v.r):=zh y2 1 rfl;have g2:W.cell? ⟨w.heap.size,2,Z⟩=J (O U v.i):=zh y2 2 rfl;have g3:W.cell? ⟨w.heap.size,3,Z⟩=J (O U v.h0):=zh y2 3 rfl;have g4:W.cell? ⟨w.heap.size,4,Z⟩=J (O U v.h1):=zh y2 4 rfl;have g5:W.cell? ⟨w.heap.size,5,Z⟩=J (O U v.h2):=zh y2 5 rfl;have g6:W.cell? ⟨w.heap.size,6,Z⟩=J (O U v.h3):=zh y2 6 rfl;have g7:W.cell? ⟨w.heap.size,7,Z⟩=J (O U v.h4):=zh y2 7 rfl;have b0:W.cell? ⟨bB,0,Z⟩=J (O U n):=zh y0 0 rfl;have b1:W.cell? ⟨bB,1,Z⟩=J (I A vs.length cap):=zh y0 1 rfl;have b2:W.cell? ⟨bB,2,Z⟩=J (.map (J bM)):=zh y0 2 rfl;have fF:=y1.look2 ZH ht (hz W) v;rw[HF.out] at fF;simp only[Option.getD_some,Option.isSome_some,Vw.cells] at fF;clear y0 y1 y2;go_simp;exact aa
  refine zy ?_;clear b0 hm d0;go_wp2_with fail;go_ret;rw[HPW.out];exact⟨rfl,_,HI.out.on (Li _ _).drew,(BdOn.refl bB bM _ w).after (mJ.out.drew)⟩
 have hf:uJ vs v=Z:=Lg hv;have Bx:=putW_no hv;have HPW:=zH Bx;have HF:=zH hf;have HVN:Aq (v∉vs):=hv;clear Bx hf hv HV;refine zt [(0,Au),(1,Au),(2,Au),(3,Au),(4,Au),(5,Au),(6,Au),(7,Au),(8,Au),(9,Au),(10,Au)] (fun W=>W.heap[bB]?=J (Ag #[O U n,I A vs.length cap,.map (J bM)] 120 (0,0))/\MapOf (fun v:Vw=>.agg v.cells) W bM m (uJ vs)/\W.heap[w.heap.size]?=J (Ag v.cells 133 (0,0))) (by kernel_rfl) (by kernel_rfl) ⟨b0,hm,d0⟩ ?_
 repeat
  apply zj rfl
  . rintro K' aa W ⟨y0,y1,y2⟩
    have g0:W.cell? ⟨w.heap.size,0,Z⟩=J (O U v.p):=zh y2 0 rfl;have g1:W.cell? ⟨w.heap.size,1,Z⟩=J (O U v.r):=zh y2 1 rfl;have g2:W.cell? ⟨w.heap.size,2,Z⟩=J (O U v.i):=zh y2 2 rfl;have g3:W.cell? ⟨w.heap.size,3,Z⟩=J (O U v.h0):=zh y2 3 rfl;have g4:W.cell? ⟨w.heap.size,4,Z⟩=J (O U v.h1):=zh y2 4 rfl;have g5:W.cell? ⟨w.heap.size,5,Z⟩=J (O U v.h2):=zh y2 5 rfl;have g6:W.cell? ⟨w.heap.size,6,Z⟩=J (O U v.h3):=zh y2 6 rfl;have g7:W.cell? ⟨w.heap.size,7,Z⟩=J (O U v.h4):=zh y2 7 rfl;have b0:W.cell? ⟨bB,0,Z⟩=J (O U n):=zh y0 0 rfl;have b1:W.cell? ⟨bB,1,Z⟩=J (I A vs.length cap):=zh y0 1 rfl;have b2:W.cell? ⟨bB,2,Z⟩=J (.map (J bM)):=zh y0 2 rfl;have fF:=y1.look2 ZH ht (hz W) v;rw[HF.out] at fF;simp only[Option.getD_none,Option.isSome_none,Vw.cells] at fF;clear y0 y1 y2;go_simp;exact aa
 refine zy ?_;clear hm;have b1:w1.cell? ⟨bB,1,Z⟩=J (I A vs.length cap):=zh HI.out.hB 1 rfl;go_wp2_with fail;obtain⟨w2,ft,mL,st⟩:=MapOf.put (w:=w1.drew.drew) (P:=Al) (show MapOf (fun v:Vw=>.agg v.cells) w1.drew.drew bM m (uJ vs) from HM.out) ZH ht v (O U vs.length);rw[numF_put HVN.out] at mL;have HM2:=zH mL;have De:Aq (w1.grownBy w2 (J bM)):=⟨st.os,st.tape,st.output,st.size,st.block⟩;have Ve:=HM.out.lt;have hbM:=HI.out.bm;have VT:w.heap.size≠bM:=by omega
 simp only[Vw.cells] at ft;have d2:=(De.out.block _ (zk dU.out) (fun e=>by cases e;exact VT rfl)).trans dU.out;have b2:=(De.out.block _ (zk HI.out.hB) (fun e=>by cases e;exact hbM rfl)).trans HI.out.hB;clear mL st;refine zt [(0,Au),(1,Au),(2,Au),(3,Au),(4,Au),(5,Au),(6,Aw)] (fun W=>W.heap[bB]?=J (Ag #[O U n,I A vs.length cap,.map (J bM)] 120 (0,0))/\W.heap[w.heap.size]?=J (Ag v.cells 133 (0,0))) (by kernel_rfl) (by kernel_rfl) ⟨HI.out.hB,d0⟩ ?_;clear b0 b1 d0
 repeat
  apply zj rfl
  . rintro K' aa W ⟨y0,y2⟩
    have g0:W.cell? ⟨w.heap.size,0,Z⟩=J (O U v.p):=zh y2 0 rfl;have g1:W.cell? ⟨w.heap.size,1,Z⟩=J (O U v.r):=zh y2 1 rfl;have g2:W.cell? ⟨w.heap.size,2,Z⟩=J (O U v.i):=zh y2 2 rfl;have g3:W.cell? ⟨w.heap.size,3,Z⟩=J (O U v.h0):=zh y2 3 rfl;have g4:W.cell? ⟨w.heap.size,4,Z⟩=J (O U v.h1):=zh y2 4 rfl;have g5:W.cell? ⟨w.heap.size,5,Z⟩=J (O U v.h2):=zh y2 5 rfl;have g6:W.cell? ⟨w.heap.size,6,Z⟩=J (O U v.h3):=zh y2 6 rfl;have g7:W.cell? ⟨w.heap.size,7,Z⟩=J (O U v.h4):=zh y2 7 rfl;have b2:W.cell? ⟨bB,2,Z⟩=J (.map (J bM)):=zh y0 2 rfl;clear y0 y2;go_simp;exact aa
 refine zn rfl ?_;intro K' aa;go_simp;refine aa _ _ ⟨b2,d2⟩ ?_;refine zy ?_;clear aa K' ft;go_wp2_with fail;have bQ:=De.out.size;have Mu:bB<w2.heap.size:=by omega
 have sc:=zH d2;have cX:=zH b2;refine zt [(0,Au),(1,Au),(2,Au),(3,Au),(4,Au),(5,Au),(6,Aw),(7,Aw),(8,Aw),(9,Aw),(10,Aw)] (fun W=>W.heap[bB]?=J (Ag #[O U n,I A vs.length cap,.map (J bM)] 120 (0,0))/\W.heap[w.heap.size]?=J (Ag v.cells 133 (0,0))) (by kernel_rfl) (by kernel_rfl) ⟨b2,d2⟩ ?_;clear b2 d2
 repeat
  apply zj rfl
  . rintro K' aa W ⟨y0,y2⟩
    have g0:W.cell? ⟨w.heap.size,0,Z⟩=J (O U v.p):=zh y2 0 rfl;have g1:W.cell? ⟨w.heap.size,1,Z⟩=J (O U v.r):=zh y2 1 rfl;have g2:W.cell? ⟨w.heap.size,2,Z⟩=J (O U v.i):=zh y2 2 rfl;have g3:W.cell? ⟨w.heap.size,3,Z⟩=J (O U v.h0):=zh y2 3 rfl;have g4:W.cell? ⟨w.heap.size,4,Z⟩=J (O U v.h1):=zh y2 4 rfl;have g5:W.cell? ⟨w.heap.size,5,Z⟩=J (O U v.h2):=zh y2 5 rfl;have g6:W.cell? ⟨w.heap.size,6,Z⟩=J (O U v.h3):=zh y2 6 rfl;have g7:W.cell? ⟨w.heap.size,7,Z⟩=J (O U v.h4):=zh y2 7 rfl;have b1:W.cell? ⟨bB,1,Z⟩=J (I A vs.length cap):=zh y0 1 rfl;clear y0 y2;go_simp;exact aa
 refine zn rfl ?_;intro K' aa;go_simp;obtain⟨W3,nP,e3,dx,ck⟩:=Zv w2 v.cells 133;simp only[Vw.cells] at nP;rw[nP];clear nP;refine aa _ _ ⟨Lb ck Mu cX.out,Lb ck (by omega) sc.out⟩ ?_;clear aa K';refine zn rfl ?_;intro K' aa;rw[Lj (by rfl)]
 have hOw:OwnR kVw W3 B (I A vs.length cap) vs.length (yQ vs):=by
  have h0:OwnR kVw w1 B (I A vs.length cap) vs.length (yQ vs):=HI.out.own;refine(h0.kept De.out ?_).below ck (Ld _);rcases hA:(I A vs.length cap).ownBlock with _ | k
  . exact .inl rfl
  exact .inr fun e=>(HI.out.ne k hA).2 (by simpa using e)
 have iW:=HI.out.lo;refine jo kVw_ok (.tmp 33) (.tmp 35) (by rfl) B (I A vs.length cap) vs.length (yQ vs) (by rfl) hOw w2.heap.size v.cells (by rfl) e3 rfl (ge v) (by omega) (by omega) _ rfl ?_;intro g' aH w4 hr hg bG ac;have HP:=zH (BdIn.push HI.out De.out HM2.out ck hr hg bG);have z0:=(hg.block bB (by omega) (fun e=>(HI.out.ne bB e.symm).1 rfl)).trans (Lb ck Mu cX.out);have z1:=(hg.block w.heap.size (by omega) (fun e=>by have:=lP.out _ e.symm;omega)).trans (Lb ck (by omega) sc.out);refine aa _ _ ⟨z0,z1⟩ ?_;clear aa K' hr hg bG hOw e3 ck;refine zn rfl ?_;intro K' aa;go_simp;refine aa _ _ ⟨z0,z1⟩ ?_;clear aa K';refine zn rfl ?_;intro K' aa;go_simp;refine aa _ _ ⟨z0,z1⟩ ?_;clear aa K';have b1:w4.cell? ⟨bB,1,Z⟩=J (I A vs.length cap):=zh z0 1 rfl;have f1:=zi z0 1;clear z0 z1;refine yb rfl (by kernel_rfl) ?_;intro K' aa;go_simp;refine aa (fun _=>True) _ _ trivial ?_;refine zy ?_;clear aa K' b1 f1;go_wp2_with fail;go_ret;rw[HPW.out];exact⟨rfl,_,HP.out.1,(BdOn.refl bB bM _ w).after mJ.out |>.trans HP.out.2⟩
def Yi(k:Nat):Array Ar:=#[O U (if 0<k then -1 else 0),O U (if 1<k then -1 else 0),O U (if 2<k then -1 else 0),O U (if 3<k then -1 else 0),O U (if 4<k then -1 else 0)]
theorem minus_set(k:Nat)(hk:k<5):(Yi k).setIfInBounds k (O U (-1))=Yi (k+1):=by
 match k,hk with
 | 0,_=>rfl
 | 1,_=>rfl
 | 2,_=>rfl
 | 3,_=>rfl
 | 4,_=>rfl
theorem minus_at(k:Nat)(hk:k<5):(Yi k)[k]?=J (O U 0):=by
 match k,hk with
 | 0,_=>rfl
 | 1,_=>rfl
 | 2,_=>rfl
 | 3,_=>rfl
 | 4,_=>rfl
theorem gL(w:Ba):An Al 93 #[] w fun e w'=>e=Ak (Ai #[O U (-1),O U (-1),O U (-1),O U (-1),O U (-1)])/\Am w.heap.size w w':=by
 obtain⟨w1,ae,d0,d1,aw,hB⟩:=xk w (Yi 0) (Yi 0) 72 72;have ak:=zH ae;go_enter func93,ntmps93;go_wp2_with fail;rw[show((w.alloc (Ag #[O U 0,O U 0,O U 0,O U 0,O U 0] 72)).alloc (Ag #[O U 0,O U 0,O U 0,O U 0,O U 0] 72))=w1 from ak.out];have H0:=zH d0;have H1:=zH d1;have HB:=zH hB
 go_loopw [3] (fun i wr=>∃k:Nat,k<=5/\i=O U (k:Int)/\Aq (wr.heap[w.heap.size]?=J (Ag (Yi 0) 72 (0,0)))/\Aq (wr.heap[w.heap.size+1]?=J (Ag (Yi k) 72 (0,0)))/\Aq (Am w.heap.size w wr)) (fun i _=>5-(Ap i).toNat)
 case atStart=>exact⟨0,by omega,rfl,H0.out,H1.out,HB.out⟩
 obtain⟨k,hk,rfl,H0,H1,Bi⟩:=hrel
 by_cases pU:k<5
 case neg=>
  obtain rfl:k=5:=by omega
  have x0:wr.cell? ⟨w.heap.size+1,0,Z⟩=J (O U (-1)):=zh H1.out 0 rfl;have x1:wr.cell? ⟨w.heap.size+1,1,Z⟩=J (O U (-1)):=zh H1.out 1 rfl;have x2:wr.cell? ⟨w.heap.size+1,2,Z⟩=J (O U (-1)):=zh H1.out 2 rfl;have x3:wr.cell? ⟨w.heap.size+1,3,Z⟩=J (O U (-1)):=zh H1.out 3 rfl;have x4:wr.cell? ⟨w.heap.size+1,4,Z⟩=J (O U (-1)):=zh H1.out 4 rfl;have y0:wr.cell? ⟨w.heap.size,0,Z⟩=J (O U 0):=zh H0.out 0 rfl;have y1:wr.cell? ⟨w.heap.size,1,Z⟩=J (O U 0):=zh H0.out 1 rfl;have y2:wr.cell? ⟨w.heap.size,2,Z⟩=J (O U 0):=zh H0.out 2 rfl;have y3:wr.cell? ⟨w.heap.size,3,Z⟩=J (O U 0):=zh H0.out 3 rfl;have y4:wr.cell? ⟨w.heap.size,4,Z⟩=J (O U 0):=zh H0.out 4 rfl;have f0:=zi H0.out 0;have f1:=zi H0.out 1;have f2:=zi H0.out 2;have f3:=zi H0.out 3;have f4:=zi H0.out 4;go_wp2_with fail;refine LI (v:=Ai #[O U (-1),O U (-1),O U (-1),O U (-1),O U (-1)]) (by simp[results,results93,go_sem,y0,y1,y2,y3,y4]) rfl ⟨rfl,?_⟩;exact((((Bi.out.setCell (Ld _) _).setCell (Ld _) _).setCell (Ld _) _).setCell (Ld _) _).setCell (Ld _) _
 have x0:=zh H1.out k (minus_at k pU);have f0:=zi H1.out k;have dS:(0:Int)<=(k:Int):=by omega
 have aW:(k:Int)<5:=by omega
 go_wp2_with fail
 go_roundw
 case rel=>exact⟨k+1,by omega,by go_num,(Lf wr _ _ w.heap.size (by show w.heap.size≠w.heap.size+1;omega)).trans H0.out,by show _=_;rw[Lk wr _ k _ _ _ H1.out,minus_set k pU],Bi.out.setCell (by show w.heap.size<=w.heap.size+1;omega) _⟩
 simp[Ap];omega
end
section
open Go.RowKit
theorem wU(n:Nat)(h1:1<=n)(h5:n<=8)(W:Ba):(Instr.makeSlice 50 (O U n) (O U n)).run Al W=.ok (I (J ⟨W.heap.size,0,Z⟩) n n) (W.alloc (Ag ((List.replicate n 0).map (O U)).toArray 3)):=by
 obtain rfl | rfl | rfl | rfl | rfl | rfl | rfl | rfl:n=1\/n=2\/n=3\/n=4\/n=5\/n=6\/n=7\/n=8:=by omega
 all_goals kernel_rfl
theorem js{cur:List Ar}{x:Ar}{k m n:Nat}(hl:cur.length=n)(h:cur.take k=List.replicate k x)(hk:k+m<=n):(splice cur k (List.replicate m x)).take (k+m)=List.replicate (k+m) x/\(splice cur k (List.replicate m x)).length=n:=by
 constructor
 . unfold splice
   rw[h,<-Nh,Sc (by simp),NZ (by simp)];exact List.replicate_append_replicate
 rw[length_splice _ _ _ (by simp;omega),hl]
theorem one_src{w:Ba}{b o:Nat}{x:Ar}(h:w.cell? ⟨b,o,Z⟩=J x):∀j v,[x][j]?=J v->w.cell? ((⟨b,o,Z⟩:Addr).add j)=J v:=by
 intro j v hj;have h0:j=0:=by have:=(Lp.1 hj).1;simp at this;omega
 subst h0;simp at hj;subst hj;rw[Pf];exact h
theorem Qs:(Al.info? 3).map (·.size)=J 1:=by kernel_rfl
theorem QE(n b:Nat)(h1:1<=n)(h5:n<=8)(u:Int)(w:Ba)(hb:w.heap[b]?=J (Ag #[O U u] 3 (0,0))) :
  An Al 40 #[I (J ⟨b,0,Z⟩) 1 1,O U n] w fun e w'=>∃g,e=Ak (I (J ⟨g,0,Z⟩) n n)/\w.heap.size<=g/\RowAt w' g (List.replicate n u)/\Am w.heap.size w w':=by
 have iD:=wU n h1 h5;obtain⟨ar,p'⟩:∃ar:List Ar,(List.replicate n 0).map (O U)=ar:=⟨_,rfl⟩;rw[p'] at iD;have Gs:ar.length=n:=by rw[<-p'];simp
 have hc:=zh hb 0 rfl;have cp:=zk hb;have hm:=Tryz.bits_Mul 1 n (by omega) (by omega) w;have e1:(1*n / 18446744073709551616:Nat)=0:=by omega
 have e2:(1*n % 18446744073709551616:Nat)=n:=by omega
 rw[e1,e2] at hm;have Il:¬(n:Int)<0:=by omega
 go_enter func40,ntmps40;go_wp2_with fail;refine hm.mono ?_;rintro e w1 ⟨rfl,ae⟩;obtain rfl:=ae;obtain⟨W0,eJ,b0,bL,dl⟩:=zm w1 ar.toArray 3;have hx:W0.cell? ⟨b,0,Z⟩=J (O U u):=(dl.cell (p:=⟨b,0,Z⟩) cp).trans hc;have BB:=zH dl;have BX:=zH b0;have HX:=zH hx;go_wp2_with ((refine wpList_copy_splice rfl (.tmp 31) (.tmp 32) 50 50 rfl 3 NJ Qs (J ⟨w1.heap.size,0,Z⟩) (J ⟨b,0,Z⟩) n n 1 1 rfl rfl w1.heap.size 0 ar 3 BX.out [O U u] (by simp[Nat.min_def];omega) (fun _=>⟨rfl,_,rfl,one_src HX.out⟩) (by simp;omega) (by simp[Value.oneCell']) w1.heap.size w1 BB.out (Ld _) ?_);intro w2 iC ah);obtain⟨g,hg⟩:=Kk w1.heap.size;have s1:=js (cur:=ar) (x:=O U u) (k:=0) (m:=1) (n:=n) Gs (by simp) (by omega);have S1:=zH s1;have Hj:=zH hg;rw[hg] at iC ah ⊢
 go_loopw [8] (fun l wr=>∃(k:Nat) (cur:List Ar),1<=k/\k<=n/\l=O U k/\Aq (cur.length=n)/\Aq (cur.take k=List.replicate k (O U u))/\Aq (wr.heap[g]?=J (Ag cur.toArray 3 (0,0)))/\Am g w1 wr) (fun l _=>n-(Ap l).toNat)
 case atStart=>exact⟨1,splice ar 0 [O U u],by omega,h1,rfl,S1.out.2,S1.out.1,iC,ah⟩
 obtain⟨k,cur,aW,hkn,rfl,bn,Gi,ap,pX⟩:=hrel
 by_cases ac:k<n
 . clear S1 iC ah
   have dS:(0:Int)<=(k:Int):=by omega
   have iZ:(k:Int)<=(n:Int):=by omega
   have bC:¬n=k:=by omega
   go_upto_region 9 with fail
   obtain⟨d,hd⟩:=Kk (n-k);obtain⟨m,hm⟩:=Kk (Nat.min k d);have s':min k d=m:=hm;have Vb:1<=m:=by omega
   have mL:k+m<=n:=by omega
   have hm3:m<=k:=by omega
   have tG:∀j v,(List.replicate m (O U u))[j]?=J v->wr.cell? ((⟨g,0,Z⟩:Addr).add j)=J v:=by
    intro j v hj;have Vo:j<m:=by have:=(Lp.1 hj).1;simpa using this
    rw[Px,Lj Vo] at hj
    cases hj
    rw[Pf,LQ];refine zh ap.out j ?_;rw[List.getElem?_toArray];have h2:=congrArg (fun l=>l[j]?) Gi.out;simp only[List.getElem?_take,List.getElem?_replicate] at h2;rwa[Lj (by omega),Lj (by omega)] at h2
   have SP:=zH (js (cur:=cur) (x:=O U u) (k:=k) (m:=m) (n:=n) bn.out Gi.out mL);have GU:=zH tG;have HM:=zH hm;have ot:=zH pX;have aw:IntKind.i64.wrap ((k:Int)+(m:Int))=(k:Int)+(m:Int):=IntWalk.i64_in _ (by omega);have mI:=zH aw;clear tG hm pX aw
   go_region_law ((refine step_copy_splice (by rfl) (.tmp 41) (.tmp 44) 50 50 (by rfl) 3 NJ Qs (J ⟨g,k,Z⟩) (J ⟨g,0,Z⟩) d d k n (by simp[go_sem]) (by simp[go_sem]) g k cur 3 ap.out (List.replicate m (O U u)) (by rw[LU];exact HM.out.symm) (fun _=>⟨rfl,_,rfl,GU.out⟩) (by rw[LU,bn.out];exact mL) (by intro v hv;rw[List.eq_of_mem_replicate hv];rfl) g w1 ot.out.drew (Ld _) ?_;intro w3 mK al;rw[LU]))
   all_goals
    rw[mI.out];go_wp2_with fail
    go_frame
    go_roundw
    case rel=>
     (repeat apply Exists.intro)
     exact⟨⟨k+m,splice cur k (List.replicate m (O U u)),by omega,by omega,rfl,SP.out.2,SP.out.1,mK,al⟩,by first | rfl | (go_frame;rfl) | (simp[Act.put];done)⟩
    case measure=>simp[Ap];omega
 obtain rfl:k=n:=by omega
 go_wp2_with fail;go_ret;refine⟨g,rfl,by have:=Hj.out;omega,?_,by have:=Hj.out;rw[this];exact pX⟩;unfold RowAt;have e:=Gi.out;rw[NZ (by have:=bn.out;omega)] at e;rw[ap.out,e];simp
theorem BdIn.set{B bB bM:Nat}{n:Int}{V:Ar}{vs:List Vw}{w:Ba}(h:BdIn B bB bM n V vs w){g:Nat}(h1:g≠bB)(h2:g≠bM)(h3:V.ownBlock≠J g)(o:Nat)(u:Ar):BdIn B bB bM n V vs (w.setCell ⟨g,o,Z⟩ u):=by
 obtain⟨m,hm⟩:=h.num;exact⟨(Lf w _ _ bB (fun e=>h1 e.symm)).trans h.hB,⟨m,hm.same (Lf w _ _ bM (fun e=>h2 e.symm))⟩,h.own.kept (zQ w g o _) (.inr h3),h.ne,h.bm,h.lo⟩
theorem BdIn.grown{B bB bM:Nat}{n:Int}{V:Ar}{vs:List Vw}{w w':Ba}{row:Option Nat}(h:BdIn B bB bM n V vs w)(hg:w.grownBy w' row)(h1:row≠J bB)(h2:row≠J bM)(h3:∀k,V.ownBlock=J k->row≠J k):BdIn B bB bM n V vs w':=by
 obtain⟨m,hm⟩:=h.num;refine⟨(hg.block _ (zk h.hB) (fun e=>h1 e.symm)).trans h.hB,⟨m,hm.same (hg.block _ hm.lt (fun e=>h2 e.symm))⟩,h.own.kept hg ?_,h.ne,h.bm,h.lo⟩
 cases hv:V.ownBlock with
 | none=>exact .inl rfl
 | some k=>exact .inr fun e=>h3 k hv e.symm
theorem BdIn.lts{B bB bM:Nat}{n:Int}{V:Ar}{vs:List Vw}{w:Ba}(h:BdIn B bB bM n V vs w):bB<w.heap.size/\bM<w.heap.size/\∀k,V.ownBlock=J k->B<=k/\k<w.heap.size:=by
 obtain⟨m,hm⟩:=h.num;exact⟨zk h.hB,hm.lt,h.own.lt⟩
theorem BdOn.bel{B bB bM:Nat}{n:Int}{V V':Ar}{vs:List Vw}{w w':Ba}(h:BdIn B bB bM n V vs w)(k:BdOn bB bM V w V' w'):Am B w w':=by
 obtain⟨h1,h2,h3⟩:=h.lts;have h4:=h.lo;refine k.1.below (by omega) fun j hj hr=>?_
 rcases hr with e | e | e
 . omega
 . omega
 have:=(h3 j e).1;omega
theorem BdOn.set{bB bM:Nat}{V V':Ar}{w w':Ba}(k:BdOn bB bM V w V' w'){g:Nat}(hg:w.heap.size<=g)(o:Nat)(u:Ar):BdOn bB bM V w V' (w'.setCell ⟨g,o,Z⟩ u):=
 ⟨k.1.trans (Wrote.of_grown (R:=fun k=>k=g) (zQ w' g o u) (fun k e _=>by cases e;rfl)) (fun k hk e=>by subst e;omega),k.2⟩
theorem BdOn.grown{bB bM:Nat}{V V':Ar}{w w' w2:Ba}{row:Option Nat}(k:BdOn bB bM V w V' w')(hg:w'.grownBy w2 row)(hr:∀j,row=J j->w.heap.size<=j):BdOn bB bM V w V' w2:=
 ⟨k.1.trans (Wrote.of_grown (R:=fun k=>row=J k) hg (fun _ e _=>e)) (fun j hj e=>by have:=hr j e;omega),k.2⟩
theorem row_set{xs:List Int}{N p:Nat}(hx:xs.length=p)(hp:p<N)(u:Int):(xs++List.replicate (N-p) 0).set p u=(xs++[u])++List.replicate (N-(p+1)) 0:=by
 subst hx;rw[List.set_append_right _ _ (Ld _),Nq,show N-xs.length=(N-(xs.length+1))+1 by omega,List.replicate_succ,List.set_cons_zero];simp
structure RwIn(B bB bM N:Nat)(V0:Ar)(w0:Ba)(gN:Nat)(f:Nat->Vw)(vs:List Vw)(p:Nat)(V1:Ar)(W:Ba):Prop where
 bd:BdIn B bB bM N V1 (yq f vs p).1 W
 row:RowAt W gN ((yq f vs p).2++List.replicate (N-p) 0)
 on:BdOn bB bM V0 w0 V1 W
 ne:V1.ownBlock≠J gN
 ng:w0.heap.size<=gN
 nb:gN≠bB/\gN≠bM
theorem RwIn.on_{B bB bM N:Nat}{V0:Ar}{w0:Ba}{gN:Nat}{f:Nat->Vw}{vs:List Vw}{p:Nat}{V1:Ar}{W W':Ba}(H:RwIn B bB bM N V0 w0 gN f vs p V1 W)(hb:Am W.heap.size W W'):RwIn B bB bM N V0 w0 gN f vs p V1 W':=
 ⟨H.bd.on hb,Lb hb H.row.lt H.row,H.on.after hb,H.ne,H.ng,H.nb⟩
theorem RwIn.mid{B bB bM N:Nat}{V0:Ar}{w0:Ba}{gN:Nat}{f:Nat->Vw}{vs:List Vw}{p:Nat}{V1 V':Ar}{W W':Ba}(H:RwIn B bB bM N V0 w0 gN f vs p V1 W)(ho:BdOn bB bM V1 W V' W') :
  RowAt W' gN ((yq f vs p).2++List.replicate (N-p) 0)/\V'.ownBlock≠J gN:=by
 refine⟨(ho.1.block gN H.row.lt fun hr=>?_).trans H.row,fun e=>?_⟩
 . rcases hr with e | e | e
   . exact H.nb.1 e
   . exact H.nb.2 e
   exact H.ne e
 rcases ho.2 gN e with e | e
 . exact H.ne e
 have:=H.row.lt;omega
theorem RwIn.step{B bB bM N:Nat}{V0:Ar}{w0:Ba}{gN:Nat}{f:Nat->Vw}{vs:List Vw}{p:Nat}{V1 V':Ar}{W W':Ba}(H:RwIn B bB bM N V0 w0 gN f vs p V1 W)(hp:p<N)
  (hb:BdIn B bB bM N V' (qe (yq f vs p).1 (f p)).1 W') (ho:BdOn bB bM V1 W V' W') :
  RwIn B bB bM N V0 w0 gN f vs (p+1) V' (W'.setCell ⟨gN,p,Z⟩ (O U (qe (yq f vs p).1 (f p)).2)):=by
 obtain⟨h1,h2⟩:=H.mid ho;refine⟨hb.set H.nb.1 H.nb.2 h2 p _,?_,(H.on.trans ho).set H.ng p _,h2,H.ng,H.nb⟩;have h3:=h1.set p (qe (yq f vs p).1 (f p)).2;rw[row_set (xJ f vs p) hp] at h3;exact h3
end
section
open Go.RowKit
attribute [local go_sem] Oper.semAt_some
theorem ints_raw{w:Ba}{A:Bb}{xs:List Int}(h:IAt w w.heap.size A xs):Raw w A xs.length (xs.map (O U)):=fun h0=>by
 obtain⟨b,off,e,ac,hc⟩:=h h0;refine⟨b,off,e,ac,fun j u hj=>?_⟩;obtain⟨x,hx,rfl⟩:∃x,xs[j]?=J x/\O U x=u:=by simpa using hj
 obtain⟨cU,rfl⟩:=Lp.1 hx;exact hc j cU
theorem ints_one(xs:List Int):∀u∈xs.map (O U),u.oneCell'=Au:=fun u hu=>by obtain⟨x,_,rfl⟩:=LZ.1 hu;rfl
theorem ints_own{w:Ba}{ab:Nat}{v:Ar}{xs:List Int}(h:OwnR kIn w ab v xs.length (xs.map (O U))):∃A cap,v=I A xs.length cap/\xs.length<=cap/\cap<=maxLen/\IAtS (fun k=>ab<=k) w A xs:=by
 have ac:=h.lt;obtain⟨A,cap,rfl,hc,hm,hr⟩:=h.form;refine⟨A,cap,rfl,hc,hm,fun h0=>?_⟩;obtain⟨g,rfl,hg,fd,bn⟩:=hr h0;refine⟨g,0,rfl,(ac g hg).1,fd,fun i hi=>?_⟩;rw[LQ];exact bn i _ (by simp[hi])
theorem YE(A:Bb)(cap:Nat)(xs:List Int)(w:Ba)(hA:IAt w w.heap.size A xs)(hl:xs.length<=1000000) :
  An Al 80 #[I A xs.length cap] w fun e w'=>∃A' c,e=Ak (I A' xs.length c)/\IAtS (fun k=>w.heap.size<=k) w' A' xs/\Am w.heap.size w w':=
 (clone_kIn A xs.length cap (xs.map (O U)) w (by simp) (ints_raw hA) (ints_one xs) hl).mono fun e w' ⟨v,h1,h2,h3⟩=>by
  obtain⟨A',c,h4,_,_,h5⟩:=ints_own h2;exact⟨A',c,by rw[h1,h4],h5,h3⟩
theorem gD(A:Bb)(cap:Nat)(xss:List (List Int))(w:Ba)(hA:LAt w w.heap.size A xss)(hl:xss.length<=100000)(aN:∀v∈xss,v.length<=100000) :
  An Al 88 #[I A xss.length cap] w fun e w'=>∃v,e=Ak v/\OwnX cIs (fun k=>w.heap.size<=k) w' w.heap.size v xss/\Am w.heap.size w w':=by
 have HA:=zH hA;have tp:=zH aN;go_enter func88,ntmps88;go_wp2_with fail
 go_loopw [3,8] (fun o i wr=>∃k:Nat,k<=xss.length/\i=O U (k:Int)/\Aq (OwnX cIs (fun b=>w.heap.size<=b) wr w.heap.size o (xss.take k))/\Aq (Am w.heap.size w wr)) (fun _ i _=>xss.length-(Ap i).toNat)
 case atStart=>exact⟨0,by omega,rfl,by rw[PB];exact OwnX.nil _ _ _ _,Li _ _⟩
 obtain⟨k,hk,rfl,HO,HB⟩:=hrel
 by_cases dy:k<xss.length
 case neg=>
  obtain rfl:k=xss.length:=by omega
  rw[LS] at HO;go_wp2_with fail;go_ret;exact⟨_,rfl,HO.out,HB.out⟩
 obtain⟨b,off,A',c',e1,hb,c0,hI⟩:=(HA.out.keep HB.out).at_ k dy;subst e1;have iA:Aq (xss.take (k+1)=xss.take k++[xss[k]]):=Lq dy;have rJ:=tp.out _ (Le dy);have bN:=HB.out.size;have dS:(0:Int)<=(k:Int):=by omega
 have aW:(k:Int)<(xss.length:Int):=by omega
 have rF:(xss.take k).length=k:=by rw[Rp];omega
 have HTL:=zH rF;obtain⟨x,hx⟩:=Kk (xss[k]);rw[hx] at c0 hI iA rJ;have HC:=zH (YE A' c' x wr (hI.more bN) (by omega));go_wp2_with fail;refine HC.out.mono ?_;rintro e w2 ⟨A2,c2,rfl,rM,ah⟩;have aT:Aq (Am wr.heap.size wr (w2.alloc (Ag #[I A2 x.length c2] 50))):=ah.alloc ah.size _;have OP:Aq (IAtS (fun b=>wr.heap.size<=b) (w2.alloc (Ag #[I A2 x.length c2] 50)) A2 x):=rM.keep (KeepB.alloc _ _ _);have De:=zH (zx w2 (Ag #[I A2 x.length c2] 50));have C':=zH (HO.out.below yX aT.out (Ld _));have eZ:=ah.size;have EL:=zH HO.out.lt;go_wp2_with (at_builtin;obtain⟨bE,bn,nf,cN⟩:=C'.out;rw[HTL.out] at nf;refine yI X3 rfl (.tmp 12) (.tmp 15) rfl w.heap.size u3 k bE.flatten rfl nf w2.heap.size #[I A2 x.length c2] rfl De.out rfl (by simp[Value.oneCell']) (by omega) (by simp;omega) _ rfl ?_;intro g' cap w7 pN mM fy tO);have hX:cIs.lies (fun b=>(fun b=>w.heap.size<=b) b/\Value.ownBlock u3≠J b) _ [I A2 x.length c2] x:=⟨A2,c2,rfl,OP.out.mono fun b _ hb=>⟨by show w.heap.size<=b;omega,fun e=>by have:=(EL.out b e).2;omega⟩⟩;have nF:=pN;rw[<-HTL.out] at nF;have C8:=zH (OwnX.app yX bn cN hX nF mM fy);rw[<-iA.out,HTL.out] at C8;have BR:Aq (Am w.heap.size w w7):=(HB.out.trans (aT.out.mono bN)).grown mM (by simp;omega) (fun b hb=>(EL.out b hb).1)
 go_roundw
 case rel=>exact⟨k+1,by omega,by go_num,C8,BR⟩
 simp[Ap];omega
end
section
open Go.RowKit
def f0(inp:List Int):Nat->Vw:=fun p=>yS p (inp.getD p 0)
def fk(word:List Rd)(k:Nat)(row:List Int):Nat->Vw:=fun p=>xI (word.getD k default) (k+1) p row
structure PlIn(B bB bM N:Nat)(V0:Ar)(w0:Ba)(vs:List Vw)(inp:List Int)(word:List Rd)(k:Nat)(V1 o:Ar)(gk:Nat)(W:Ba):Prop where
 bd:BdIn B bB bM N V1 (zA vs N inp word k).1 W
 on:BdOn bB bM V0 w0 V1 W
 out:OwnX cIs (fun b=>w0.heap.size<=b/\V1.ownBlock≠J b) W w0.heap.size o (zA vs N inp word k).2
 no:∀b,V1.ownBlock=J b->o.ownBlock≠J b
 row:RowAt W gk ((zA vs N inp word k).2.getD k [])
 gl:w0.heap.size<=gk
 ng:V1.ownBlock≠J gk
 og:o.ownBlock≠J gk
 lt:bB<w0.heap.size/\bM<w0.heap.size
theorem rowk_len(vs:List Vw)(N:Nat)(inp:List Int)(word:List Rd)(k:Nat):((zA vs N inp word k).2.getD k []).length=N:=by
 have hl:=yF vs N inp word k;rw[Lh,Lm (by omega)];exact kh vs N inp word k _ (Le _)
section
variable {B bB bM N:Nat} {V0:Ar} {w0:Ba} {vs:List Vw} {inp:List Int} {word:List Rd}
theorem PlIn.start{V1:Ar}{gN:Nat}{W:Ba}(_hN:N<=5)(h:RwIn B bB bM N V0 w0 gN (f0 inp) vs N V1 W)(hl:bB<w0.heap.size/\bM<w0.heap.size) :
  PlIn B bB bM N V0 w0 vs inp word 0 V1 (I (J ⟨W.heap.size,0,Z⟩) 1 1) gN (W.alloc (Ag #[I (J ⟨gN,0,Z⟩) N N] 50)):=by
 have eh:=xJ (f0 inp) vs N;have fd:=h.row.lt;have hb:=zU W (Ag #[I (J ⟨gN,0,Z⟩) N N] 50);have an:=h.row;rw[Nq,List.replicate_zero,Nj] at an;refine⟨h.bd.on hb,h.on.after hb,⟨[[I (J ⟨gN,0,Z⟩) N N]],rfl,?_,fun i i1 i2=>?_⟩,fun b e e2=>?_,Lb hb fd an,h.ng,h.ne,fun e=>?_,hl⟩
 . refine OwnR.of_block (K:=kIs) (n:=1) (zx W _) ?_ rfl (by unfold maxLen;omega)
   have:=h.on.1.size;omega
 . obtain rfl:i=0:=by simp at i1;omega
   refine⟨J ⟨gN,0,Z⟩,N,?_,?_⟩
   . show [I (J ⟨gN,0,Z⟩) N N]=[.slice (J ⟨gN,0,Z⟩) (yq (f0 inp) vs N).2.length N]
     rw[eh]
   intro _;refine⟨gN,0,rfl,⟨⟨h.ng,h.ne⟩,fun e=>?_⟩,by simp;omega,fun j hj=>?_⟩
   . have:W.heap.size=gN:=by simpa[Value.ownBlock] using e
     omega
   rw[LQ];exact RowAt.cell (Lb hb fd an) j hj
 . have h1:W.heap.size=b:=by simpa[Value.ownBlock] using e2
   have:=(h.bd.own.lt b e).2;omega
 have h1:W.heap.size=gN:=by simpa[Value.ownBlock] using e
 omega
theorem PlIn.outn{k:Nat}{V1 o:Ar}{gk:Nat}{W Wx:Ba}{gX:Nat}{f:Nat->Vw}{V3:Ar}{p:Nat}{W3:Ba}(h:PlIn B bB bM N V0 w0 vs inp word k V1 o gk W)(hx:Am W.heap.size W Wx)
  (r:RwIn B bB bM N V1 Wx gX f (zA vs N inp word k).1 p V3 W3) :
  OwnX cIs (fun b=>w0.heap.size<=b/\V3.ownBlock≠J b) W3 w0.heap.size o (zA vs N inp word k).2/\(∀b,V3.ownBlock=J b->o.ownBlock≠J b):=by
 have hsx:=hx.size;have pP:=h.out.lt
 have h1:OwnX cIs (fun b=>(w0.heap.size<=b/\V1.ownBlock≠J b)/\V3.ownBlock≠J b) Wx w0.heap.size o (zA vs N inp word k).2:=
  (h.out.below yX hx (Ld _)).mono yX fun b hb hs=>⟨hs,fun e=>by
   rcases r.on.2 b e with e | e
   . exact hs.2 e
   . omega⟩
 refine⟨(h1.keep yX (r.on.1.keep fun b _ hs hr=>?_) fun b hb=>r.on.1.block b (by have:=(pP b hb).2;omega) fun hr=>?_).mono yX fun b _ hs=>⟨hs.1.1,hs.2⟩,fun b e e2=>?_⟩
 . rcases hr with e | e | e
   . have:=h.lt.1;have:=hs.1.1;omega
   . have:=h.lt.2;have:=hs.1.1;omega
   exact hs.1.2 e
 . have:=(pP b hb).1
   rcases hr with e | e | e
   . have:=h.lt.1;omega
   . have:=h.lt.2;omega
   exact h.no b e hb
 rcases r.on.2 b e with e | e
 . exact h.no b e e2
 have:=(pP b e2).2;omega
theorem PlIn.rown{k:Nat}{V1 o:Ar}{gk:Nat}{W Wx:Ba}{gX:Nat}{f:Nat->Vw}{V3:Ar}{p:Nat}{W3:Ba}(h:PlIn B bB bM N V0 w0 vs inp word k V1 o gk W)(hx:Am W.heap.size W Wx)
  (r:RwIn B bB bM N V1 Wx gX f (zA vs N inp word k).1 p V3 W3):RowAt W3 gk ((zA vs N inp word k).2.getD k []):=by
 have hsx:=hx.size;have fd:=h.row.lt;refine(r.on.1.block gk (by omega) fun hr=>?_).trans (Lb hx fd h.row);have:=h.gl;rcases hr with e | e | e
 . have:=h.lt.1;omega
 . have:=h.lt.2;omega
 exact h.ng e
theorem PlIn.next{k:Nat}{V1 o:Ar}{gk:Nat}{W Wx:Ba}{gX:Nat}{V3:Ar}{W3 W4 w5:Ba}{bE:List (List Ar)}{g' cap:Nat}(h:PlIn B bB bM N V0 w0 vs inp word k V1 o gk W)(hx:Am W.heap.size W Wx)
  (r:RwIn B bB bM N V1 Wx gX (fk word k ((zA vs N inp word k).2.getD k [])) (zA vs N inp word k).1 N V3 W3) (h4:Am W3.heap.size W3 W4)
  (bn:bE.length=(zA vs N inp word k).2.length) (cN:∀(i:Nat) (h1:i<bE.length) (h2:i<(zA vs N inp word k).2.length),cIs.lies (fun b=>(w0.heap.size<=b/\V3.ownBlock≠J b)/\o.ownBlock≠J b) W4 bE[i] (zA vs N inp word k).2[i])
  (hr:OwnR kIs w5 w0.heap.size (I (J ⟨g',0,Z⟩) ((zA vs N inp word k).2.length+1) cap) ((zA vs N inp word k).2.length+1) (bE.flatten++[I (J ⟨gX,0,Z⟩) N N]))
  (hg:W4.grownBy w5 o.ownBlock) (bG:o.ownBlock=J g'\/g'=W4.heap.size) :
  PlIn B bB bM N V0 w0 vs inp word (k+1) V3 (I (J ⟨g',0,Z⟩) ((zA vs N inp word k).2.length+1) cap) gX w5:=by
 obtain⟨By,nd⟩:=h.outn hx r;have eh:=xJ (fk word k ((zA vs N inp word k).2.getD k [])) (zA vs N inp word k).1 N;have fd:=r.row.lt;have iU:=h4.size;have hsx:=hx.size;have pP:=By.lt;have hlW:=h.on.1.size;have hxg:=r.ng
 have FQ:o.ownBlock≠J gX:=fun e=>by
  have:=(h.out.lt gX e).2;omega
 have an:=r.row;rw[Nq,List.replicate_zero,Nj] at an;have KF:RowAt w5 gX (yq (fk word k ((zA vs N inp word k).2.getD k [])) (zA vs N inp word k).1 N).2:=(hg.block gX (by omega) (fun e=>FQ e.symm)).trans (Lb h4 fd an);have e1:(zA vs N inp word (k+1)).2=(zA vs N inp word k).2++[(yq (fk word k ((zA vs N inp word k).2.getD k [])) (zA vs N inp word k).1 N).2]:=rfl;have aL:=yF vs N inp word k
 have Ec:V3.ownBlock≠J g':=fun e=>by
  rcases bG with e2 | e2
  . exact nd g' e e2
  . have:=(r.bd.own.lt g' e).2;omega
 have hX:cIs.lies (fun b=>(w0.heap.size<=b/\V3.ownBlock≠J b)/\o.ownBlock≠J b) W4 [I (J ⟨gX,0,Z⟩) N N] (yq (fk word k ((zA vs N inp word k).2.getD k [])) (zA vs N inp word k).1 N).2:=by
  refine⟨J ⟨gX,0,Z⟩,N,by rw[eh],fun _=>⟨gX,0,rfl,⟨⟨by omega,r.ne⟩,FQ⟩,by omega,fun j hj=>?_⟩⟩;rw[LQ];exact RowAt.cell (Lb h4 fd an) j hj
 refine⟨?_,?_,?_,?_,?_,by omega,r.ne,?_,h.lt⟩
 . refine(r.bd.on h4).grown hg (fun e=>?_) (fun e=>?_) (fun b hb e=>nd b hb e)
   . have:=(pP bB e).1;have:=h.lt.1;omega
   have:=(pP bM e).1;have:=h.lt.2;omega
 . exact((h.on.after hx).trans (r.on.after h4)).grown hg (fun j hj=>(pP j hj).1)
 . rw[e1]
   exact OwnX.app yX bn cN hX hr hg bG
 . intro b hb e
   have:g'=b:=by simpa[Value.ownBlock] using e
   subst this;exact Ec hb
 . rw[e1,Lh,LJ (by omega),aL,Nq]
   exact KF
 intro e;have:g'=gX:=by simpa[Value.ownBlock] using e
 subst this;rcases bG with e2 | e2
 . exact FQ e2
 omega
end
def xQ(r:Rd)(p:Nat)(row:List Int)(q j:Nat):Int:=if j<q then zW r p row j else -1
def kZ(r:Rd)(k p:Nat)(row:List Int)(q:Nat):Vw:=⟨p,k,0,xQ r p row q 0,xQ r p row q 1,xQ r p row q 2,xQ r p row q 3,xQ r p row q 4⟩
theorem heardQ_end(r:Rd)(p:Nat)(row:List Int)(j:Nat):xQ r p row row.length j=zW r p row j:=by
 unfold xQ zW
 split
 . rfl
 rename_i h;rw[Lg (fun h2=>h h2.1)]
theorem seenQ_end(r:Rd)(k p:Nat)(row:List Int):kZ r k p row row.length=xI r k p row:=by
 unfold kZ xI;simp only[heardQ_end]
theorem Zc(r:Rd)(p:Nat)(row:List Int)(q j:Nat)(h:j≠q):xQ r p row (q+1) j=xQ r p row q j:=by
 unfold xQ
 by_cases h1:j<q
 . rw[Lj h1,Lj (by omega)]
 rw[Lg h1,Lg (by omega)]
theorem seenQ_no(r:Rd)(k p:Nat)(row:List Int)(q:Nat)(h:(r.h p).toNat.testBit q=Aw):kZ r k p row (q+1)=kZ r k p row q:=by
 have key:∀j,xQ r p row (q+1) j=xQ r p row q j:=fun j=>by
  by_cases e:j=q
  . subst e
    have h1:zW r p row j=-1:=by unfold zW;rw[Lg (fun h2=>by rw[h] at h2;cases h2.2)]
    unfold xQ;rw[Lj (by omega),Lg (by omega),h1]
  . exact Zc r p row q j e
 unfold kZ;simp only[key]
theorem seenQ_yes(r:Rd)(k p:Nat)(row:List Int)(q:Nat)(hq:q<row.length)(h5:q<5)(h:(r.h p).toNat.testBit q=Au):(kZ r k p row q).cells.setIfInBounds (3+q) (O U row[q])=(kZ r k p row (q+1)).cells:=by
 have e:xQ r p row (q+1) q=row[q]:=by
  unfold xQ;rw[Lj (by omega)];unfold zW;rw[Lj ⟨hq,h⟩,Lh,Lm hq];rfl
 have key:=fun j (h:j≠q)=>Zc r p row q j h
 unfold kZ Vw.cells
 match q,h5 with
 | 0,_=>simp only[key 1 (by decide),key 2 (by decide),key 3 (by decide),key 4 (by decide),e];rfl
 | 1,_=>simp only[key 0 (by decide),key 2 (by decide),key 3 (by decide),key 4 (by decide),e];rfl
 | 2,_=>simp only[key 1 (by decide),key 0 (by decide),key 3 (by decide),key 4 (by decide),e];rfl
 | 3,_=>simp only[key 1 (by decide),key 2 (by decide),key 0 (by decide),key 4 (by decide),e];rfl
 | 4,_=>simp only[key 1 (by decide),key 2 (by decide),key 3 (by decide),key 0 (by decide),e];rfl
theorem Rd.cells_h(r:Rd)(p:Nat)(hp:p<5):r.cells[1+p]?=J (O U (r.h p)):=by
 match p,hp with
 | 0,_=>rfl
 | 1,_=>rfl
 | 2,_=>rfl
 | 3,_=>rfl
 | 4,_=>rfl
theorem YL{h j:Nat}(hh:h<32)(hj:j<5):(bits BinOp.and U ((h:Int) / 2^j) 1==1)=h.testBit j:=by
 match j,hj with
 | 0,_=>exact Lx (jJ (p:=fun h=>decide ((bits BinOp.and U ((h:Int) / 2^0) 1==1)=h.testBit 0)) (by decide +kernel) hh)
 | 1,_=>exact Lx (jJ (p:=fun h=>decide ((bits BinOp.and U ((h:Int) / 2^1) 1==1)=h.testBit 1)) (by decide +kernel) hh)
 | 2,_=>exact Lx (jJ (p:=fun h=>decide ((bits BinOp.and U ((h:Int) / 2^2) 1==1)=h.testBit 2)) (by decide +kernel) hh)
 | 3,_=>exact Lx (jJ (p:=fun h=>decide ((bits BinOp.and U ((h:Int) / 2^3) 1==1)=h.testBit 3)) (by decide +kernel) hh)
 | 4,_=>exact Lx (jJ (p:=fun h=>decide ((bits BinOp.and U ((h:Int) / 2^4) 1==1)=h.testBit 4)) (by decide +kernel) hh)
theorem Zb{r:Rd}(h:yM r=0)(p:Nat)(hp:p<5):0<=r.h p/\r.h p<32:=by
 unfold yM at h
 split at h
 . cases h
 rename_i hn
 have key:∀k,k<=5->yH r (5-k) k=0->∀q,k<=q->q<5->xE r.n q (r.h q)=0:=by
  intro k hk
  induction hm:5-k generalizing k with
  | zero=>intro _ q h1 h2;omega
  | succ m ih=>
   intro hz q h1 h2;unfold yH at hz
   split at hz
   . rename_i bC;exact absurd hz bC
   . rename_i bC
     by_cases e:q=k
     . subst e;simpa using bC
     . exact ih (k+1) (by omega) (by omega) hz q (by omega) h2
 have h1:=key 0 (by omega) h p (by omega) hp;unfold xE at h1
 split at h1
 . split at h1
   . cases h1
   rename_i h2;have:r.h p=0:=by simpa using h2
   omega
 split at h1
 . cases h1
 rename_i h2
 have h3:(2^r.n.toNat-1:Nat)<32:=by
  have:2^r.n.toNat<=2^5:=Nk (by omega) (by omega);omega
 omega
end
section
open Go.RowKit
attribute [local go_sem] Oper.semAt_some
theorem play_any(B bB bM N:Nat)(h1:1<=N)(h5:N<=5)(V:Ar)(vs:List Vw)(pJ:vs.length<=40000)(inp:List Int)(dD:inp.length=N)(word:List Rd)(DO:word.length<=6)(oy:∀r∈word,yi r=0/\r.n=N)
  (A AW:Bb) (ci cw:Nat) (w:Ba) (lN:B<=w.heap.size) (H:BdIn B bB bM N V vs w) (hI:IAt w B A inp) (hW:RAt w B AW word) :
  An Al 53 #[Aj (J ⟨bB,0,Z⟩),I A inp.length ci,I AW word.length cw] w fun e w'=>∃v V',e=Ak v/\BdIn B bB bM N V' (zA vs N inp word word.length).1 w'/\BdOn bB bM V w V' w' /\
   OwnX cIs (fun b=>w.heap.size<=b/\V'.ownBlock≠J b) w' w.heap.size v (zA vs N inp word word.length).2/\∀b,V'.ownBlock=J b->v.ownBlock≠J b:=by
 have HI:=zH hI;have HW:=zH hW;have To:=zH oy;have HH:=zH H;have iD:=wU N h1 (by omega);have HM:=zH iD;obtain⟨ar,p'⟩:=Kk (((List.replicate N 0).map (O U)).toArray);rw[p'] at iD;have rD:=zH p';have b0:=zh H.hB 0 rfl;have mg:=zH dD;rw[dD];obtain⟨l1,l2,l3⟩:=H.lts;clear p' hI hW oy H dD l3;go_enter func53,ntmps53;go_wp2_with fail;obtain⟨w1,ae,d0,aw,aB⟩:=zm w ar 3;rw[ae]
 have R1:Aq (RwIn B bB bM N V w w.heap.size (f0 inp) vs 0 V w1):=
  ⟨HH.out.on aB,by show w1.heap[w.heap.size]?=_;rw[d0,<-rD.out];rfl,(BdOn.refl _ _ _ _).after aB,fun e=>by have:=(HH.out.own.lt _ e).2;omega,Ld _,by omega,by omega⟩
 go_loopw [24] (fun i wr=>∃(p:Nat) (V1:Ar),p<=N/\i=O U (p:Int)/\Aq (RwIn B bB bM N V w w.heap.size (f0 inp) vs p V1 wr)) (fun i _=>N-(Ap i).toNat)
 case atStart=>exact⟨0,V,by omega,rfl,R1.out⟩
 obtain⟨p,V1,hp,rfl,HR⟩:=hrel
 by_cases KR:p<N
 case neg=>
  obtain rfl:N=p:=by omega
  go_wp2_with fail;have P0:=zH (PlIn.start (word:=word) h5 HR.out ⟨l1,l2⟩);obtain⟨W1,fG⟩:=Kk (wr.alloc (Ag #[I (J ⟨w.heap.size,0,Z⟩) N N] 50));rw[fG] at P0 ⊢;obtain⟨g0,su⟩:=Kk wr.heap.size;rw[su] at P0 ⊢;obtain⟨gn,hgn⟩:=Kk w.heap.size;rw[hgn];have P0:Aq (PlIn B bB bM N V w vs inp word 0 V1 (I (J ⟨g0,0,Z⟩) 1 1) gn W1):=by rw[<-hgn];exact P0.out
  go_loopw [7,9,44] (fun nw o i wr=>∃(k:Nat) (V1:Ar) (gk:Nat),k<=word.length/\nw=I (J ⟨gk,0,Z⟩) N N/\i=O U (k:Int)/\Aq (PlIn B bB bM N V w vs inp word k V1 o gk wr)) (fun _ _ i _=>word.length-(Ap i).toNat)
  case atStart=>exact⟨0,V1,gn,by omega,rfl,rfl,P0.out⟩
  obtain⟨k,V2,gk,hk,rfl,rfl,HP⟩:=hrel
  by_cases dy:k<word.length
  case neg=>
   obtain rfl:k=word.length:=by omega
   go_wp2_with fail;go_ret;exact⟨_,V2,rfl,HP.out.bd,HP.out.on,HP.out.out,HP.out.no⟩
  obtain⟨bw,ow,e1,aO,c0,c1,c2,c3,c4,c5,c6⟩:=(HW.out.keep (HP.out.on.bel HH.out)).row k dy;subst e1;have oB:=To.out _ (Le dy);have i5:word.getD k default=word[k]:=by rw[Lh,Lm dy];rfl
  obtain⟨r,hr⟩:=Kk (word[k]);rw[hr] at c0 c1 c2 c3 c4 c5 c6 oB i5;have HGD:=zH i5;have HRD:=zH (kd oB.1).2.2.1;have dS:(0:Int)<=(k:Int):=by omega
  have aW:(k:Int)<(word.length:Int):=by omega
  have hkw:IntKind.i64.wrap ((k:Int)+1)=(k:Int)+1:=by rw[Ll];omega
  have b0:wr.cell? ⟨bB,0,Z⟩=J (O U (N:Int)):=zh HP.out.bd.hB 0 rfl;have hbBw:bB<wr.heap.size:=HP.out.bd.lts.1;have hbww:bw<wr.heap.size:=by have:=HP.out.on.1.size;omega
  clear hr oB i5;go_wp2_with fail;clear c0 c1 c2 c3 c4 c5 c6;obtain⟨W1,fG,g0,fa,S7⟩:=zm wr r.cells 76;unfold Rd.cells at fG;rw[fG];obtain⟨W2,ij,x0,eZ,hBy⟩:=zm W1 ar 3;rw[ij];rw[fa] at x0;have OT:=zH g0;have aY:=zH S7;obtain⟨row,an⟩:=Kk ((zA vs N inp word k).2.getD k []);have sI:=zH an;have eo:Aq (row.length=N):=by rw[<-an];exact rowk_len vs N inp word k
  have Dx:=HP.out.on.1.size
  have R0:Aq (RwIn B bB bM N V2 W1 (wr.heap.size+1) (fk word k row) (zA vs N inp word k).1 0 V2 W2):=
   ⟨(HP.out.bd.on S7).on hBy,by show W2.heap[_]?=_;rw[x0,<-rD.out];rfl,(BdOn.refl _ _ _ _).after hBy,fun e=>by have:=(HP.out.bd.own.lt _ e).2;omega,by omega,by omega,by omega⟩
  have HPF:=zH (jb vs N inp word k)
  have hNk:(k+1)*N<=35:=by
   have:=LV (show k+1<=7 by omega) h5;omega
  obtain⟨wo,rfl⟩:∃x,x=wr:=⟨_,rfl⟩
  go_loopw [56] (fun i wx=>∃(q:Nat) (V3:Ar),q<=N/\i=O U (q:Int)/\Aq (RwIn B bB bM N V2 W1 (wo.heap.size+1) (fk word k row) (zA vs N inp word k).1 q V3 wx)) (fun i _=>N-(Ap i).toNat)
  case atStart=>exact⟨0,V2,by omega,rfl,R0.out⟩
  obtain⟨q,V3,hq,rfl,HR⟩:=hrel
  by_cases hqN:q<N
  case neg=>
   obtain rfl:N=q:=by omega
   have By:=HP.out.outn aY.out HR.out;have aL:=yF vs N inp word k;have hgX:=HR.out.row.lt;have rZ:=zH (zx wr (Ag #[I (J ⟨wo.heap.size+1,0,Z⟩) N N] 50));have mS:=zH (By.1.below yX (zU wr (Ag #[I (J ⟨wo.heap.size+1,0,Z⟩) N N] 50)) (Ld _));have HL:=zH aL;have Fw:w.heap.size<=wr.heap.size:=by have:=HR.out.on.1.size;omega
   go_wp2_with (at_builtin;obtain⟨bE,bn,nf,cN⟩:=mS.out;rw[HL.out] at nf;refine yI X3 rfl (.tmp 92) (.tmp 94) rfl w.heap.size u9 (k+1) bE.flatten rfl nf wr.heap.size #[I (J ⟨wo.heap.size+1,0,Z⟩) N N] rfl rZ.out rfl (by simp[Value.oneCell']) (by omega) (by simp;omega) _ rfl ?_;intro g' cap w7 pN mM fy tO);have EF:=HR.out;rw[<-sI.out] at EF;have nF:=pN;rw[<-HL.out] at nF;have C6:=zH (PlIn.next HP.out aY.out EF (zU wr _) bn cN nF mM fy);rw[HL.out] at C6
   go_roundw
   case rel=>exact⟨k+1,V3,wo.heap.size+1,by omega,rfl,by go_num,C6⟩
   simp[Ap];omega
  go_wp2_with fail;refine(gL wr).mono ?_;rintro e w3 ⟨rfl,al⟩;have R3:=zH (HR.out.on_ al);go_wp2_with fail;obtain⟨W4,tg,v0,FF,fZ⟩:=zm w3 (kZ r (k+1) q row 0).cells 133;have sB:w3.alloc (Ag #[O U (q:Int),O U ((k:Int)+1),O U 0,O U (-1),O U (-1),O U (-1),O U (-1),O U (-1)] 133)=W4:=by rw[<-tg];rfl
  rw[sB];have dx:=al.size;have VE:wo.heap.size<w3.heap.size:=by have:=HR.out.on.1.size;omega
  have OS:Aq (w3.heap[wo.heap.size]?=J (Ag r.cells 76 (0,0))):=by
   refine(R3.out.on.1.block wo.heap.size (by omega) fun hr=>?_).trans OT.out;have:=HP.out.bd.lts;rcases hr with e | e | e
   . omega
   . omega
   have:=(this.2.2 _ e).2;omega
  have EH:Aq (RowAt w3 gk row):=by have:=HP.out.rown aY.out R3.out;rw[sI.out] at this;exact this
  obtain⟨wp,rfl⟩:∃x,x=wr:=⟨_,rfl⟩
  go_loopw [66] (fun i wy=>∃j:Nat,j<=N/\i=O U (j:Int)/\Aq (wy.heap[w3.heap.size]?=J (Ag (kZ r (k+1) q row j).cells 133 (0,0)))/\Aq (Am w3.heap.size w3 wy)) (fun i _=>N-(Ap i).toNat)
  case atStart=>exact⟨0,by omega,rfl,v0,fZ⟩
  clear v0 fZ FF;obtain⟨j,hj,rfl,HV,O1⟩:=hrel
  by_cases hjN:j<N
  case neg=>
   obtain rfl:N=j:=by omega
   have hfk:fk word k row q=kZ r (k+1) q row N:=by
    have:=seenQ_end r (k+1) q row;rw[eo.out] at this;rw[this];show xI (word.getD k default) (k+1) q row=_;rw[HGD.out]
   obtain⟨vw,hvw⟩:=Kk (kZ r (k+1) q row N);rw[hvw] at HV hfk;have x0:wr.cell? ⟨w3.heap.size,0,Z⟩=J (O U vw.p):=zh HV.out 0 rfl;have x1:wr.cell? ⟨w3.heap.size,1,Z⟩=J (O U vw.r):=zh HV.out 1 rfl;have x2:wr.cell? ⟨w3.heap.size,2,Z⟩=J (O U vw.i):=zh HV.out 2 rfl;have x3:wr.cell? ⟨w3.heap.size,3,Z⟩=J (O U vw.h0):=zh HV.out 3 rfl;have x4:wr.cell? ⟨w3.heap.size,4,Z⟩=J (O U vw.h1):=zh HV.out 4 rfl;have x5:wr.cell? ⟨w3.heap.size,5,Z⟩=J (O U vw.h2):=zh HV.out 5 rfl;have x6:wr.cell? ⟨w3.heap.size,6,Z⟩=J (O U vw.h3):=zh HV.out 6 rfl;have x7:wr.cell? ⟨w3.heap.size,7,Z⟩=J (O U vw.h4):=zh HV.out 7 rfl;have R4:=R3.out.on_ O1.out;have hsq:=ja (fk word k row) (zA vs N inp word k).1 q;have HAD:=zH (JE B bB bM N V3 (yq (fk word k row) (zA vs N inp word k).1 q).1 vw (by have:=HPF.out;omega) wr R4.bd);have rW:=zH R4;have HFK:=zH hfk;have Ig:(0:Int)<=(q:Int):=by omega
   have Bw:(q:Int)<(N:Int):=by omega
   go_wp2_with fail;refine HAD.out.mono ?_;rintro e w5 ⟨rfl,V5,SO,pQ⟩;have pu:=rW.out.mid pQ;rw[<-HFK.out] at SO;have ED:=zH (rW.out.step hqN SO pQ);rw[HFK.out] at ED;obtain⟨u5,c5⟩:∃u:Int,w5.cell? ⟨wo.heap.size+1,q,Z⟩=J (O U u):=⟨_,pu.1.cell q (by rw[Lv,xJ,LU];omega)⟩;have y5:=pu.1.froz q;go_wp2_with fail
   go_roundw
   case rel=>exact⟨q+1,V5,by omega,by go_num,ED⟩
   simp[Ap];omega
  have VA:=EH.out.lt;have hjr:j<row.length:=by have:=eo.out;omega
  have n0:=(O1.out.cell (p:=⟨gk,j,Z⟩) VA).trans (EH.out.cell j hjr);have m0:wr.cell? ⟨wo.heap.size,1+q,Z⟩=J (O U (r.h q)):=(O1.out.cell (p:=⟨wo.heap.size,1+q,Z⟩) VE).trans (zh OS.out (1+q) (Rd.cells_h r q (by omega)));obtain⟨y,hy⟩:=Kk (row[j]);rw[hy] at n0;have rG:=Zb HRD.out q (by omega);obtain⟨h,hh⟩:=Ls rG.1;have Vy:h<32:=by omega
  rw[hh] at m0;have SK:(0:Int)<=(j:Int):=by omega
  have Ip:(j:Int)<(N:Int):=by omega
  have SJ:(j:Int)<5:=by omega
  have Ig:(0:Int)<=(q:Int):=by omega
  have KO:(q:Int)<5:=by omega
  have rP:=YL Vy (show j<5 by omega);have hrt:(r.h q).toNat=h:=by rw[hh];rfl
  have HNO:=zH (seenQ_no r (k+1) q row j);have Ol:=zH (seenQ_yes r (k+1) q row j hjr (by omega));rw[hrt,hy] at Ol;rw[hrt] at HNO;have z0:wr.cell? ⟨w3.heap.size,3+j,Z⟩=J (O U ((kZ r (k+1) q row j).h j)):=zh HV.out (3+j) (Vw.cells_h _ j (by omega));have zf:=zi HV.out (3+j)
  by_cases hb:h.testBit j=Au
  case pos=>
   rw[hb] at rP;have HS:=zH (Ol.out hb);go_wp2_with fail
   go_roundw
   case rel=>exact⟨j+1,by omega,by go_num,by show _=_;rw[Lk wr _ (3+j) _ _ _ HV.out,HS.out],O1.out.setCell (Ld _) _⟩
   simp[Ap];omega
  have ah:h.testBit j=Aw:=by simpa using hb
  rw[ah] at rP;have HS:=zH (HNO.out ah);go_wp2_with fail
  go_roundw
  case rel=>exact⟨j+1,by omega,by go_num,by show _=_;rw[HS.out];exact HV.out,O1.out⟩
  simp[Ap];omega
 have dD:=mg.out;obtain⟨bi,oi,e1,hbi,i0⟩:=(HI.out.keep (HR.out.on.bel HH.out)).at_ p (by omega);subst e1;have Vt:Aq ((f0 inp) p=yS p inp[p]):=by show yS p (inp.getD p 0)=_;rw[Lh,Lm (by omega)];rfl
 obtain⟨x,hx⟩:=Kk (inp[p]);rw[hx] at i0 Vt;have mB:(0:Int)<=(p:Int):=by omega
 have hp1:(p:Int)<(N:Int):=by omega
 have cp:bi<wr.heap.size:=by have:=HR.out.row.lt;omega
 go_wp2_with fail;have pb:=zH (ja (f0 inp) vs p)
 refine zt [(0,Au),(1,Au),(2,Au),(3,Au),(4,Au),(5,Au),(6,Au),(7,Au),(8,Aw),(9,Aw),(10,Aw),(11,Aw),(12,Aw)]
  (fun W=>W.cell? ⟨bi,oi+p,Z⟩=J (O U x)) (by kernel_rfl) (by kernel_rfl) (by exact i0) ?_
 repeat
  apply zj rfl
  . rintro K' aa W y0
    go_simp;exact aa
 refine zn rfl ?_;intro K' aa;go_simp;refine(gL wr.drew).mono ?_;rintro e w3 ⟨rfl,al⟩;have al:Am wr.heap.size wr w3:=JB al;have R3:=HR.out.on_ al;have i3:=(al.cell (p:=⟨bi,oi+p,Z⟩) cp).trans i0;refine aa _ _ i3 ?_;refine zn rfl ?_;intro K' aa;go_simp;refine aa _ _ i3 ?_;refine zn rfl ?_;intro K' aa;go_simp;refine(JE B bB bM N V1 (yq (f0 inp) vs p).1 (yS p x) (by have:=pb.out;omega) w3 R3.bd).mono ?_;rintro e w4 ⟨rfl,V4,hd4,Ik⟩;have SB:=R3.mid Ik;rw[<-Vt.out] at hd4;have rn:=zH (R3.step KR hd4 Ik);rw[Vt.out] at rn
 have i4:w4.cell? ⟨bi,oi+p,Z⟩=J (O U x):=by
  refine(LN (Ik.1.block bi (by have:=al.size;omega) fun hr=>?_)).trans i3;have iW:=HR.out.bd.lo;rcases hr with e | e | e
  . omega
  . omega
  have:=(R3.bd.own.lt bi e).1;omega
 refine aa _ _ i4 ?_;obtain⟨u4,c4⟩:∃u:Int,w4.cell? ⟨w.heap.size,p,Z⟩=J (O U u):=⟨_,SB.1.cell p (by rw[Lv,xJ,LU];omega)⟩;have y4:=SB.1.froz p;refine zn rfl ?_;intro K' aa;go_simp;refine aa _ _ i4 ?_;refine yb rfl (by kernel_rfl) ?_;intro K' aa;go_simp;refine aa (fun _=>True) _ _ trivial ?_;refine zy ?_;go_wp2_with fail
 go_roundw
 case rel=>exact⟨p+1,V4,by omega,by go_num,rn⟩
 simp[Ap];omega
end
section
open Go.RowKit Go.Shelf
attribute [local go_sem] Oper.semAt_some
def zu(n:Nat):Nat->Nat->List (Nat×Nat)
 | _,0=>[]
 | i,m+1=>(List.range n).map (fun j=>(i,j))++zu n (i+1) m
def yV(n i j:Nat):List (Nat×Nat):=((List.range n).drop j).map fun j=>(i,j)
theorem uE{n i j:Nat}(h:j<n):yV n i j=(i,j)::yV n i (j+1):=by
 unfold yV;rw[Ly (by simpa using h)];simp
theorem gO(n i:Nat):yV n i n=[]:=by unfold yV;simp
theorem xW{n:Nat}:∀(m i:Nat) (x:Nat×Nat),x∈zu n i m->i<=x.1/\x.1<i+m/\x.2<n
 | 0,_,_,h=>by cases h
 | m+1,i,x,h=>by
  rcases Ng.1 h with h | h
  . obtain⟨j,hj,rfl⟩:=LZ.1 h
    exact⟨Ld _,by show i<_;omega,by simpa using hj⟩
  . obtain⟨a,b,c⟩:=xW m (i+1) x h
    exact⟨by omega,by omega,c⟩
theorem execs_any(p:Pb)(A:Bb)(kc:Nat)(SV:Bb)(ks:Nat)(V:Bb)(nw cw:Nat)(w:Ba):An Al 51 #[.agg (p.vs A kc SV ks),I V nw cw] w fun e w'=>
  e=Ak (.func (.func 91) #[] #[Aj (J ⟨w.heap.size,0,Z⟩),Aj (J ⟨w.heap.size+1,0,Z⟩)])/\(w.alloc (Ag (p.vs A kc SV ks) 29)).alloc (Ag #[I V nw cw] 113)=w':=by
 unfold Pb.vs;go_enter func51,ntmps51;go_wp2;go_ret;exact⟨rfl,rfl⟩
def SlAt(w:Ba)(B:Nat)(AW:Bb)(nw:Nat)(sl:Nat->Ar):Prop:=∀j,j<nw->∃b off,AW=J ⟨b,off,Z⟩/\b<B/\w.cell? ⟨b,off+j,Z⟩=J (sl j)
theorem SlAt.same{w w':Ba}{B:Nat}{AW:Bb}{nw:Nat}{sl:Nat->Ar}(h:SlAt w B AW nw sl)(hk:∀k,k<B->w'.heap[k]?=w.heap[k]?):SlAt w' B AW nw sl:=fun j hj=>by
 obtain⟨b,off,e,hb,hc⟩:=h j hj;exact⟨b,off,e,hb,(LN (hk b hb)).trans hc⟩
theorem Jl(C:Array Ar)(M:Nat)(hf:M<=30)(A:Bb)(kc:Nat)(hC:C[3]?=J (I A M kc))(AW:Bb)(nw cw:Nat)(U1:nw<=5000)(sl:Nat->Ar)(B bp bw:Nat)(w:Ba)(hp:w.heap[bp]?=J (Ag C 29))(hw:w.heap[bw]?=J (Ag #[I AW nw cw] 113))
  (hS:SlAt w B AW nw sl) (hB:B<=w.heap.size) :
  Qe Al 91 #[Aj (J ⟨bp,0,Z⟩),Aj (J ⟨bw,0,Z⟩)] (fun x:Nat×Nat=>#[O U x.1,sl x.2]) (fun k=>k<B\/k=bp\/k=bw) (zu nw 0 M) w:=fun n hn l Af Jx W hW hJ Ww hY h0=>by
 have oV:bp<w.heap.size:=(Ln.1 hp).1;have aO:bw<w.heap.size:=(Ln.1 hw).1;have mB:=(hW.block bp oV).trans hp;have Dx:=(hW.block bw aO).trans hw;have EE:=zH (hS.same (w':=W) fun k hk=>hW.block k (by omega));have HY:=zH hY;have c3:=zh mB 3 hC;have H0:=zH h0;have C7:=zH mB;have EC:=zH Dx;have WQ:B<=W.heap.size:=Lr hB hW.size;have hpW:bp<W.heap.size:=LE oV hW.size;have hwW:bw<W.heap.size:=LE aO hW.size;refine RM func91 rfl trivial ?_ rfl;simp only[ntmps91,List.size_toArray,List.length_cons,List.length_nil,Nat.reduceAdd,Nat.reduceSub,Array.replicate_succ,Array.replicate_zero,List.push_toArray,List.append_toArray,List.nil_append,List.cons_append];gi_wp2
 gi_loopw [11] (fun q wr=>∃s:Nat,s<=M/\q=O U (s:Int)/\∃pre:List { x:Nat×Nat // x∈zu nw 0 M },Aq (pre.map (·.1)++zu nw s (M-s)=zu nw 0 M)/\Aq (Af pre wr)/\Aq (SlAt wr B AW nw sl)/\Aq (wr.heap[bp]?=J (Ag C 29))/\Aq (wr.heap[bw]?=J (Ag #[I AW nw cw] 113))/\W.heap.size<=wr.heap.size) (fun q _=>M-(Ap q).toNat)
 case atStart=>exact⟨0,by omega,rfl,[],by simp[Aq],H0,EE,C7,EC,Ld _⟩
 case round=>
  obtain⟨s,hs,rfl,pre,mA,la,Aa,ti,mF,bL⟩:=hrel
  by_cases ac:s<M
  · have Iw : zu nw s (M - s) = yV nw s 0 ++ zu nw (s + 1) (M - (s + 1)) := by
     rw[show M-s=(M-(s+1))+1 by omega,zu];unfold yV;rw[Ni]
    have HP:Aq (pre.map (·.1)++(yV nw s 0++zu nw (s+1) (M-(s+1)))=zu nw 0 M):=by rw[<-Iw];exact mA.out
    have q0:=zh mF.out 0 rfl;gi_wp2_with fail
    gi_loopw [16] (fun q wr=>∃j:Nat,j<=nw/\q=O U (j:Int)/\∃pre:List { x:Nat×Nat // x∈zu nw 0 M },Aq (pre.map (·.1)++(yV nw s j++zu nw (s+1) (M-(s+1)))=zu nw 0 M)/\Aq (Af pre wr)/\Aq (SlAt wr B AW nw sl)/\Aq (wr.heap[bp]?=J (Ag C 29))/\Aq (wr.heap[bw]?=J (Ag #[I AW nw cw] 113))/\W.heap.size<=wr.heap.size) (fun q _=>nw-(Ap q).toNat)
    case atStart=>exact⟨0,by omega,rfl,pre,HP,la,Aa,ti,mF,bL⟩
    case round=>
     obtain⟨j,hj,rfl,pre,mA,la,Aa,ti,mF,bL⟩:=hrel
     by_cases cU:j<nw
     . obtain⟨b2,o2,rfl,ah,m0⟩:=Aa.out j cU
       have pO:pre.map (·.1)++((s,j)::(yV nw s (j+1)++zu nw (s+1) (M-(s+1))))=zu nw 0 M:=by
        have:=mA.out;rw[uE cU,Nb] at this;exact this
       have dC:(s,j)∈zu nw 0 M:=by rw[<-pO];simp
       have aL:pre.length<(zu nw 0 M).length:=by
        have:=congrArg List.length pO;simp only[List.length_append,List.length_map,List.length_cons] at this;omega
       obtain⟨fn,tmps,assign,body,hy,hR⟩:=HY.out pre ⟨(s,j),dC⟩ _ la.out aL;dsimp only at hy
       have AP:Aq ((pre++[(⟨(s,j),dC⟩:{ x:Nat×Nat // x∈zu nw 0 M })]).map (·.1)++(yV nw s (j+1)++zu nw (s+1) (M-(s+1)))=zu nw 0 M):=by
        rw[LK,Nh];exact pO
       have HR:=zH hR;gi_wp2_with fail;refine HR.out.mono ?_;rintro e W3 (⟨rfl,GE,rL⟩ | ⟨rfl,rg⟩)
       . have aw:wr.heap.size<=W3.heap.size:=rL.size
         have S3:=zH (Aa.out.same (fun k hk=>rL.same k (.inl hk) (by omega)));have P3:=zH ((rL.same bp (.inr (.inl rfl)) (by omega)).trans ti.out);have B3:=zH ((rL.same bw (.inr (.inr rfl)) (by omega)).trans mF.out);have J3:=zH GE;have nD:W.heap.size<=W3.heap.size:=by omega
         gi_wp2_with fail
         go_roundw
         case rel=>exact⟨j+1,by omega,by go_num,_,AP,J3,S3,P3,B3,nD⟩
         case measure=>simp[Ap];omega
       . gi_wp2_with fail
         refine LI (Rr rfl _ _ _) rfl ?_;refine⟨⟨_,rfl⟩,.inr ⟨_,?_,rg⟩⟩;exact⟨_,AP.out⟩
     . obtain rfl:nw=j:=by omega
       have HP:Aq (pre.map (·.1)++zu nw (s+1) (M-(s+1))=zu nw 0 M):=by have:=mA.out;rwa[gO,Nc] at this
       gi_wp2_with fail
       go_roundw
       case rel=>exact⟨s+1,by omega,by go_num,pre,HP,la,Aa,ti,mF,bL⟩
       case measure=>simp[Ap];omega
  . obtain rfl:M=s:=by omega
    have HP:Aq (pre.map (·.1)=zu nw 0 M):=by have:=mA.out;rwa[Nq,zu,Nj] at this
    gi_wp2_with fail
    go_end0
    exact⟨⟨_,rfl⟩,.inl ⟨pre,HP.out,la.out⟩⟩
end
section
open Go.RowKit
theorem Yg:∀(j:Nat) (xss:List (List Mv)) (x:Int×Mv),x∈zM j xss->∃s,j<=s/\s<j+xss.length/\x.1=(s:Int)
 | _,[],x,h=>by cases h
 | j,l::r,x,h=>by
  rw[zM] at h;rcases Ng.1 h with h | h
  . obtain⟨m,_,rfl⟩:=LZ.1 h
    exact⟨j,Ld _,by simp,rfl⟩
  . obtain⟨s,h1,h2,h3⟩:=Yg (j+1) r x h
    exact⟨s,by omega,by simp;omega,h3⟩
def kJ(a:Ad)(k s:Nat)(xs:List (Int×Mv)):Nat:=(xs.map fun x=>if x.1=(s:Int) then yf a k x.2.to else 0).sum
theorem sumF_snoc(a:Ad)(k s:Nat)(xs:List (Int×Mv))(x:Int×Mv):kJ a k s (xs++[x])=kJ a k s xs+if x.1=(s:Int) then yf a k x.2.to else 0:=by
 unfold kJ;rw[LK,Se];simp
theorem ZS(a:Ad)(k s j:Nat)(h:s≠j):∀l:List Mv,kJ a k s (l.map fun m=>((j:Int),m))=0
 | []=>rfl
 | m::l=>by
  have:=ZS a k s j h l;unfold kJ at this ⊢;rw[L4,L4,Ri,this,Lg (by intro e;apply h;omega)]
theorem Y8(a:Ad)(k s:Nat):∀l:List Mv,kJ a k s (l.map fun m=>((s:Int),m))=(l.map fun m=>yf a k m.to).sum
 | []=>rfl
 | m::l=>by
  have:=Y8 a k s l;unfold kJ at this ⊢;rw[L4,L4,Ri,this,Lj rfl,L4,Ri]
theorem sumF_app(a:Ad)(k s:Nat)(xs ys:List (Int×Mv)):kJ a k s (xs++ys)=kJ a k s xs+kJ a k s ys:=by
 unfold kJ;rw[LK,Se]
theorem Y9(a:Ad)(k s:Nat):∀(j:Nat) (xss:List (List Mv)),kJ a k s (zM j xss)=if j<=s then ((xss.getD (s-j) []).map fun m=>yf a k m.to).sum else 0
 | j,[]=>by simp[zM,kJ]
 | j,l::r=>by
  rw[zM,sumF_app,Y9 a k s (j+1) r]
  by_cases e:s=j
  . subst e
    rw[Y8,Lg (by omega),Lj (Ld _),Nq];rfl
  . rw[ZS a k s j e,LQ]
    by_cases h:j<=s
    . rw[Lj (by omega),Lj h,show s-j=(s-(j+1))+1 by omega,List.getD_cons_succ]
    . rw[Lg (by omega),Lg h]
theorem sumF_all(a:Ad)(k s:Nat):kJ a k s (zM 0 a.sts)=yf a (k+1) (s:Int):=by
 rw[Y9,Lj (Nz _),N8,yf];unfold Ad.at_;rw[Lo]
def qE(a:Ad)(L k sl:Nat)(pre:List (Int×Mv)):List Int:=(List.range sl).map fun (j:Nat)=>((xd L (kJ a k j pre):Nat):Int)
theorem nextL_len(a:Ad)(L k sl:Nat)(pre:List (Int×Mv)):(qE a L k sl pre).length=sl:=by unfold qE;simp
theorem nextL_nil(a:Ad)(L k sl:Nat):qE a L k sl []=List.replicate sl 0:=by
 refine Pn (by simp[qE]) fun j h1 h2=>?_
 simp[qE,kJ,Qw]
theorem wQ(a:Ad)(L k sl:Nat)(pre:List (Int×Mv))(j:Nat)(h:j<(qE a L k sl pre).length):(qE a L k sl pre)[j]=((xd L (kJ a k j pre):Nat):Int):=by simp[qE]
theorem nextL_step(a:Ad)(L k sl:Nat)(pre:List (Int×Mv))(x:Int×Mv)(s:Nat)(hx:x.1=(s:Int)):qE a L k sl (pre++[x])=(qE a L k sl pre).set s ((xd L (kJ a k s pre+yf a k x.2.to):Nat):Int):=by
 refine Pn (by simp[qE]) fun j h1 h2=>?_
 rw[Sb,wQ,sumF_snoc,hx]
 by_cases e:s=j
 . subst e;rw[Lj rfl,Lj rfl]
 rw[Lg (by omega),Lg e,Pe,wQ]
theorem nextL_all(a:Ad)(L k sl:Nat):qE a L k sl (zM 0 a.sts)=cl a L (k+1) sl:=by
 unfold qE cl;refine NW fun j _=>?_
 rw[sumF_all]
theorem cl_first(a:Ad)(L sl:Nat):cl a L 0 sl=List.replicate sl 1:=by
 refine Pn (by simp[cl]) fun j h1 h2=>?_
 rw[YF];simp[yf,sat_one]
end
end Go.Proofs.YtkmbdfdaffmhjaaGreat
