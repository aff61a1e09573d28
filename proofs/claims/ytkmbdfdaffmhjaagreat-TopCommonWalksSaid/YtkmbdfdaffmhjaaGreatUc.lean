/- Merged. -/
import Derived.Test.YtkmbdfdaffmhjaaGreatUb
import Derived.Maps.Own
import Derived.Maps.OwnIn
import Derived.OrdersIn
import Derived.Laws.Pointers
import Derived.Laws.CopyOwn
import Derived.Deep.RegionLaw
import Derived.IntWalk
import Derived.Maps.RangeWalk
open Go.Proofs.Tryz
open Go.Value renaming int->O,slice->I,bool->Ah,agg->Ai,pointer->Aj
open Go.IntKind renaming i64->U
open Option renaming none->Z,some->J
open Go.Obj renaming cells->Ag
open Go.Ending renaming returned->Ak
open Go.Proofs.Tryz renaming prog->Al
open Go.RowKit renaming Below->Am,intOf->Ar,Hid->As
open Go renaming Calls->An,Value->Au,run_equalIn_int->NK,getD_replicate_false->RN,mem_ready->Sk
open Bool renaming true->Av,false->Aw
open Nat renaming sub_zero->Po
open Go.World.ownsRow renaming kept->Pw,alloc->PH
open Go.World.grownBy renaming refl->R9
open List renaming pairwise_iff_getElem->Rg,sum_append->Sp
namespace Go.Proofs.YtkmbdfdaffmhjaaGreat
abbrev RT:=@List.mem_of_getElem?
abbrev RL:=@List.length_set
abbrev RF:=@List.getElem_set
abbrev Nh:=@Array.getElem?_setIfInBounds_ne
abbrev RR:=@List.pairwise_append
abbrev Sr:=@Go.CallsIn.inRound
abbrev PV:=@List.length_take
abbrev Sc:=@List.getElem?_drop
abbrev SA:=@Go.Calls.mono
abbrev NS:=@Option.some.inj
abbrev RI:=@Nat.lt_or_ge
abbrev N9:=@Ne.symm
abbrev Pu:=@List.take_zero
abbrev Ps:=@List.map_congr_left
abbrev Pp:=@List.foldl_append
abbrev NY:=@List.getElem?_take
abbrev Lk:=@Go.heap_setCell_same
abbrev NZ:=@Array.getElem?_setIfInBounds_self_of_lt
abbrev Nq:=@Nat.sub_self
abbrev Rv:=@List.sum_cons
abbrev P7:=@List.flatMap_append
abbrev Nm:=@List.length_singleton
abbrev R7:=@Go.wpList_copy_splice
abbrev NN:=@List.getElem?_replicate
abbrev PC:=@List.getElem?_toArray
abbrev Sz:=@Go.IntWalk.i64_in
abbrev Si:=@Go.step_copy_splice
abbrev LO:=@List.length_replicate
abbrev Rw:=@List.eq_of_mem_replicate
abbrev RY:=@List.getD_cons_succ
abbrev NO:=@List.ext_getElem
set_option maxRecDepth 100000
set_option maxHeartbeats 4000000
section
open Go.RowKit
def Qw:Ct Exn:=⟨kXn,fun S w cs x=>∃A c A2 c2,cs=[O U x.c,I A x.word.length c,I A2 x.views.length c2]/\RAtS S w A x.word/\LAtS S w A2 x.views/\x.word.length<=c⟩
theorem zX:CtOk Qw where
 len:=fun ⟨A,c,A2,c2,e,_⟩=>by rw[e];rfl
 one:=fun ⟨A,c,A2,c2,e,_⟩ u hu=>by rw[e] at hu;simp at hu;rcases hu with rfl | rfl | rfl<;>rfl
 keep:=fun ⟨A,c,A2,c2,e,h1,h2,h3⟩ hk=>⟨A,c,A2,c2,e,h1.keep hk,h2.keep hk,h3⟩
 keepC:=fun ⟨A,c,A2,c2,e,h1,h2,h3⟩ hk=>⟨A,c,A2,c2,e,h1.keepC hk,h2.keepC hk,h3⟩
 mono:=fun ⟨A,c,A2,c2,e,h1,h2,h3⟩ hm=>⟨A,c,A2,c2,e,h1.mono hm,h2.mono hm,h3⟩
def XCap(w:Ba)(A:Bb)(xs:List Exn):Prop:=∀b o q,A=J ⟨b,o,q⟩->∀(i:Nat) (_:i<xs.length) (B:Bb) (n c:Nat),w.cell? ⟨b,o+i*3+1,Z⟩=J (I B n c)->n<=c
section
variable {S:Nat->Prop} {w:Ba} {base:Nat} {v:Au}
theorem wZ{xs:List Exn}(h:OwnX Qw S w base v xs):∃A cap,v=I A xs.length cap/\xs.length<=cap/\cap<=maxLen/\XAt w w.heap.size A xs/\XCap w A xs:=by
 obtain⟨A,cap,e,h1,h2,h3⟩:=h.form zX
 have key:∀g,A=J ⟨g,0,Z⟩->∀(i:Nat) (hi:i<xs.length),∃A' c' A2 c2,w.cell? ⟨g,i*3,Z⟩=J (O U xs[i].c)/\w.cell? ⟨g,i*3+1,Z⟩=J (I A' xs[i].word.length c')/\w.cell? ⟨g,i*3+2,Z⟩=J (I A2 xs[i].views.length c2)/\RAt w w.heap.size A' xs[i].word/\LAt w w.heap.size A2 xs[i].views/\xs[i].word.length<=c':=by
  intro g eg i hi;obtain⟨g',eg',_,hg,hc⟩:=h3 (by omega);rw[eg] at eg'
  cases eg'
  obtain⟨cs,⟨A',c',A2,c2,rfl,hr,hl,hw⟩,al⟩:=hc i hi;have h0:=al 0 _ rfl;have h1:=al 1 _ rfl;have h2:=al 2 _ rfl;change w.cell? ⟨g,i*3+0,Z⟩=_ at h0;change w.cell? ⟨g,i*3+1,Z⟩=_ at h1;change w.cell? ⟨g,i*3+2,Z⟩=_ at h2;exact⟨A',c',A2,c2,by simpa using h0,by simpa using h1,by simpa using h2,hr.rat,hl.lat,hw⟩
 refine⟨A,cap,e,h1,h2,fun h0=>?_,fun b o q eA i hi B n c al=>?_⟩
 . obtain⟨g,rfl,_,hg,_⟩:=h3 h0
   refine⟨g,0,rfl,hg,fun i hi=>?_⟩;obtain⟨A',c',A2,c2,k0,k1,k2,hr,hl,_⟩:=key g rfl i hi;refine⟨_,_,_,?_,?_,?_,rfl,⟨A',c',rfl,hr⟩,⟨A2,c2,rfl,hl⟩⟩
   . simpa using k0
   . simpa using k1
   simpa using k2
 obtain⟨g,eg,_,hg,_⟩:=h3 (by omega);have eg2:=eg;rw[eA] at eg
 cases eg
 obtain⟨A',c',A2,c2,k0,k1,k2,hr,hl,hw⟩:=key _ eg2 i hi;rw[LI] at al;rw[k1] at al
 cases al
 exact hw
end
end
section
open Go.RowKit
structure KeyOk{κ:Type}(P:Program)(kt:TypeId)(enc:κ->Au):Prop where
 inj:∀a b,enc a=enc b->a=b
 check:∀(w:Ba) (em:Bool) (a:κ),(Instr.checkKey em 10000 kt (enc a)).run P w=.ok () w
 equal:∀(w:Ba) (a b:κ),(Op.equal kt (enc a) (enc b)).run P w=.ok (@decide (enc a=enc b) (Classical.propDecidable _)) w
 now:∀(d:TypeDesc),P.underlying kt=J d->(∀a b:κ,Instr.sameNow d (enc a) (enc b)=J (@decide (enc a=enc b) (Classical.propDecidable _)))\/(∀a b:κ,Instr.sameNow d (enc a) (enc b)=Z)
 stays:∀a:κ,Instr.sameBits 10000 (enc a) (enc a)=Av
 kind:∃d,P.underlying kt=J d
section
variable {κ:Type} {P:Program} {kt:TypeId} {enc:κ->Au}
open Classical
theorem Zf{d:TypeDesc}(h:∀a b:κ,Instr.sameNow d (enc a) (enc b)=J (decide (enc a=enc b)))(x:κ):∀(es:List MapEntry) (i:Nat),(∀e∈es,∃k,e.key=enc k) ->
  (Instr.findNow d (enc x) es i=J Z/\∀e∈es,e.key≠enc x)\/∃j e,Instr.findNow d (enc x) es i=J (J (i+j,e.val))/\es[j]?=J e/\e.key=enc x
 | [],i,_=>.inl ⟨rfl,fun _ h=>by cases h⟩
 | e::es,i,hk=>by
  obtain⟨k,pT⟩:=hk e (by simp)
  by_cases he:enc x=enc k
  . refine .inr ⟨0,e,?_,rfl,by rw[pT,he]⟩
    simp[Instr.findNow,pT,h,he]
  . rcases Zf h x es (i+1) (fun e he=>hk e (by simp[he])) with ⟨h1,h2⟩ | ⟨j,e',h1,h2,h3⟩
    . refine .inl ⟨by simp[Instr.findNow,pT,h,he,h1],fun e' sY=>?_⟩
      rcases L9.1 sY with rfl | sY
      . rw[pT];exact fun e2=>he e2.symm
      . exact h2 e' sY
    . exact .inr ⟨j+1,e',by simp[Instr.findNow,pT,h,he,h1];omega,by simpa using h2,h3⟩
theorem va(K:KeyOk P kt enc)(w:Ba)(x:κ):∀(es:List MapEntry) (i:Nat),(∀e∈es,∃k,e.key=enc k) ->
  ((Instr.findAsking kt (enc x) es i).run P w=.ok Z w/\∀e∈es,e.key≠enc x)\/∃j e,(Instr.findAsking kt (enc x) es i).run P w=.ok (J (i+j,e.val)) w/\es[j]?=J e/\e.key=enc x
 | [],i,_=>.inl ⟨rfl,fun _ h=>by cases h⟩
 | e::es,i,hk=>by
  obtain⟨k,pT⟩:=hk e (by simp)
  by_cases he:enc x=enc k
  . refine .inr ⟨0,e,?_,rfl,by rw[pT,he]⟩
    simp[Instr.findAsking,pT,K.equal,he,Result.andThen]
  . rcases va K w x es (i+1) (fun e he=>hk e (by simp[he])) with ⟨h1,h2⟩ | ⟨j,e',h1,h2,h3⟩
    . refine .inl ⟨by simp[Instr.findAsking,pT,K.equal,he,h1,Result.andThen],fun e' sY=>?_⟩
      rcases L9.1 sY with rfl | sY
      . rw[pT];exact fun e2=>he e2.symm
      . exact h2 e' sY
    . exact .inr ⟨j+1,e',by simp[Instr.findAsking,pT,K.equal,he,h1,Result.andThen];omega,by simpa using h2,h3⟩
theorem YB{d:TypeDesc}(h:∀a b:κ,Instr.sameNow d (enc a) (enc b)=Z)(x:κ)(es:List MapEntry)(hk:∀e∈es,∃k,e.key=enc k) :
  es=[]\/Instr.findNow d (enc x) es 0=Z:=by
 cases es with
 | nil=>exact .inl rfl
 | cons e es=>
  obtain⟨k,pT⟩:=hk e (by simp);exact .inr (by simp[Instr.findNow,pT,h])
theorem YA(K:KeyOk P kt enc)(w:Ba)(x:κ)(es:List MapEntry)(hk:∀e∈es,∃k,e.key=enc k) :
  ((Instr.findKey kt (enc x) es).run P w=.ok Z w/\∀e∈es,e.key≠enc x)\/∃j e,(Instr.findKey kt (enc x) es).run P w=.ok (J (j,e.val)) w/\es[j]?=J e/\e.key=enc x:=by
 obtain⟨d,hd⟩:=K.kind;rcases K.now d hd with h | h
 . rcases Zf h x es 0 hk with ⟨h1,h2⟩ | ⟨j,e,h1,h2,h3⟩
   . exact .inl ⟨by simp[Instr.findKey,run_underlying hd,h1],h2⟩
   exact .inr ⟨j,e,by simp[Instr.findKey,run_underlying hd,h1],h2,h3⟩
 rcases YB h x es hk with rfl | hn
 . exact .inl ⟨by simp[Instr.findKey,run_underlying hd,Instr.findNow],fun _ h=>by cases h⟩
 rcases va K w x es 0 hk with ⟨h1,h2⟩ | ⟨j,e,h1,h2,h3⟩
 . exact .inl ⟨by simp[Instr.findKey,run_underlying hd,hn,h1],h2⟩
 exact .inr ⟨j,e,by simp[Instr.findKey,run_underlying hd,hn,h1],h2,h3⟩
def MapOf(enc:κ->Au)(w:Ba)(b n:Nat)(f:κ->Option Au):Prop:=
 ∃es bk,w.heap[b]?=J (.map es bk)/\es.size<=n/\(es.toList.Pairwise fun x y=>x.key≠y.key)/\(∀e∈es.toList,∃k,e.key=enc k/\f k=J e.val)/\(∀k v,f k=J v->∃e∈es.toList,e.key=enc k/\e.val=v)
theorem MapOf.made(w:Ba):MapOf enc (w.alloc (.map #[] 0)) w.heap.size 0 (fun _=>Z):=
 ⟨#[],0,St w _,Ld _,List.Pairwise.nil,fun e h=>by simp at h,fun k v h=>by cases h⟩
theorem MapOf.same{w w':Ba}{b n:Nat}{f:κ->Option Au}(h:MapOf enc w b n f)(hs:w'.heap[b]?=w.heap[b]?):MapOf enc w' b n f:=by
 obtain⟨es,bk,hb,r⟩:=h;exact⟨es,bk,hs.trans hb,r⟩
theorem MapOf.lt{w:Ba}{b n:Nat}{f:κ->Option Au}(h:MapOf enc w b n f):b<w.heap.size:=by
 obtain⟨es,bk,hb,r⟩:=h;exact(Ln.1 hb).1
theorem MapOf.look{w:Ba}{b n:Nat}{f:κ->Option Au}{t e:TypeId}{z:Au}(h:MapOf enc w b n f)(K:KeyOk P kt enc)(ht:P.underlying t=J (.map kt e))(hz:(zeroValue e).run P w=.ok z w)(k:κ) :
  (Instr.lookup t (.map (J b)) (enc k) Aw).run P w=.ok ((f k).getD z) w:=by
 obtain⟨es,bk,hb,_,_,h1,h2⟩:=h;rcases YA K w k es.toList (fun e he=>by obtain⟨k,hk,_⟩:=h1 e he;exact⟨k,hk⟩) with ⟨r1,r2⟩ | ⟨j,e0,r1,r2,r3⟩
 · have hf : f k = Z := by
    cases hf:f k with
    | none=>rfl
    | some v=>obtain⟨e,he,hk,_⟩:=h2 k v hf;exact absurd hk (r2 e he)
   simp[Instr.lookup,run_underlying ht,MapKept.run_getObj_map hb,K.check w _ k,r1,hz,Result.andThen,hf]
 obtain⟨k',en,hf⟩:=h1 e0 (RT r2);have:k=k':=K.inj _ _ (r3.symm.trans en);subst this;simp[Instr.lookup,run_underlying ht,MapKept.run_getObj_map hb,K.check w _ k,r1,Result.andThen,hf]
theorem MapOf.look2{w:Ba}{b n:Nat}{f:κ->Option Au}{t e:TypeId}{z:Au}(h:MapOf enc w b n f)(K:KeyOk P kt enc)(ht:P.underlying t=J (.map kt e))(hz:(zeroValue e).run P w=.ok z w)(k:κ) :
  (Instr.lookup t (.map (J b)) (enc k) Av).run P w=.ok (.tuple #[(f k).getD z,Ah (f k).isSome]) w:=by
 obtain⟨es,bk,hb,_,_,h1,h2⟩:=h;rcases YA K w k es.toList (fun e he=>by obtain⟨k,hk,_⟩:=h1 e he;exact⟨k,hk⟩) with ⟨r1,r2⟩ | ⟨j,e0,r1,r2,r3⟩
 · have hf : f k = Z := by
    cases hf:f k with
    | none=>rfl
    | some v=>obtain⟨e,he,hk,_⟩:=h2 k v hf;exact absurd hk (r2 e he)
   simp[Instr.lookup,run_underlying ht,MapKept.run_getObj_map hb,K.check w _ k,r1,hz,Result.andThen,hf]
 obtain⟨k',en,hf⟩:=h1 e0 (RT r2);have:k=k':=K.inj _ _ (r3.symm.trans en);subst this;simp[Instr.lookup,run_underlying ht,MapKept.run_getObj_map hb,K.check w _ k,r1,Result.andThen,hf]
def xg[DecidableEq κ](f:κ->Option Au)(k:κ)(v:Au):κ->Option Au:=fun x=>if x=k then J v else f x
theorem jF{P:Program}{w:Ba}{b:Nat}{es Uk:Array MapEntry}{c c':Nat}(hb:w.heap[b]?=J (.map es c)) :
  (setObj b (.map Uk c')).run P w=.ok () { w with heap:=w.heap.setIfInBounds b (.map Uk c') }:=by
 simp[setObj,Sem.run,hb]
theorem pw_key{l:List MapEntry}(h:l.Pairwise fun x y=>x.key≠y.key){i j:Nat}{a b:MapEntry}(hi:l[i]?=J a)(hj:l[j]?=J b)(he:a.key=b.key):i=j:=by
 obtain⟨sX,rfl⟩:=Lq.1 hi;obtain⟨cc,rfl⟩:=Lq.1 hj;rcases Nat.lt_trichotomy i j with hlt | h' | hlt
 . exact absurd he (Rg.1 h i j sX cc hlt)
 . exact h'
 exact absurd he.symm (Rg.1 h j i cc sX hlt)
theorem pw_set{l:List MapEntry}(h:l.Pairwise fun x y=>x.key≠y.key){j:Nat}{a a':MapEntry}(hj:l[j]?=J a)(he:a.key=a'.key):(l.set j a').Pairwise fun x y=>x.key≠y.key:=by
 obtain⟨cc,rfl⟩:=Lq.1 hj;rw[Rg] at h ⊢;intro i k hi hk Wu;simp only[List.length_set] at hi hk;simp only[List.getElem_set]
 split
 . rename_i h1;subst h1
   split
   . omega
   rw[<-he];exact h _ _ hi hk Wu
 split
 . rename_i h1;subst h1
   rw[<-he];exact h _ _ hi hk Wu
 exact h _ _ hi hk Wu
theorem MapOf.put[DecidableEq κ]{w:Ba}{b n:Nat}{f:κ->Option Au}{t e:TypeId}(h:MapOf enc w b n f)(K:KeyOk P kt enc)(ht:P.underlying t=J (.map kt e))(k:κ)(v:Au) :
  ∃w',(Instr.mapUpdate t (.map (J b)) (enc k) v).run P w=.ok () w'/\MapOf enc w' b (n+1) (xg f k v)/\w.grownBy w' (J b):=by
 obtain⟨es,bk,hb,hn,Cz,h1,h2⟩:=h;have aY:=(Ln.1 hb).1
 have grown:∀o,w.grownBy { w with heap:=w.heap.setIfInBounds b o } (J b):=fun o=>
  ⟨rfl,rfl,rfl,by simp,fun i _ hi=>by simp only;rw[Nh (fun e=>hi (by rw[e]))]⟩
 have at_:∀o,({ w with heap:=w.heap.setIfInBounds b o }:Ba).heap[b]?=J o:=fun o=>by simp[aY]
 rcases YA K w k es.toList (fun e he=>by obtain⟨k,hk,_⟩:=h1 e he;exact⟨k,hk⟩) with ⟨r1,r2⟩ | ⟨j,e0,r1,r2,r3⟩
 . refine⟨_,?_,⟨es.push { key:=enc k,val:=v,born:=bk },bk+1,at_ _,by simp;omega,?_,?_,?_⟩,grown _⟩
   . simp[Instr.mapUpdate,run_underlying ht,MapKept.run_getObj_map hb,K.check w Aw k,r1,jF hb,Result.andThen]
   . rw[Array.toList_push]
     exact RR.2 ⟨Cz,List.pairwise_singleton _ _,fun a ha c hc=>by simp only[List.mem_singleton] at hc;subst hc;exact r2 a ha⟩
   . intro e he
     simp only[Array.toList_push,List.mem_append,List.mem_singleton] at he;rcases he with he | rfl
     . obtain⟨k',en,hf⟩:=h1 e he
       refine⟨k',en,?_⟩;have:k'≠k:=fun e2=>r2 e he (by rw[en,e2])
       simp[xg,this,hf]
     exact⟨k,rfl,by simp[xg]⟩
   intro k' v' hf;unfold xg at hf
   split at hf
   . rename_i hk;subst hk
     cases hf
     exact⟨_,by simp;exact .inr rfl,rfl,rfl⟩
   obtain⟨e,he,hk,hv⟩:=h2 k' v' hf;exact⟨e,by simp;exact .inl (by simpa using he),hk,hv⟩
 have hjs:es[j]?=J e0:=by simpa using r2
 have hs:(Instr.keyThatStays e0.key (enc k)).run P w=.ok (enc k) w:=by simp[Instr.keyThatStays,r3,K.stays]
 have cc:j<es.toList.length:=(Lq.1 r2).1
 have rJ:(es.modify j (fun e'=>{ e' with key:=enc k,val:=v })).toList=es.toList.set j { e0 with key:=enc k,val:=v }:=by
  rw[Array.toList_modify,ChangeMaps.modify_eq_set _ _ _ _ r2]
 refine⟨_,?_,⟨es.modify j (fun e'=>{ e' with key:=enc k,val:=v }),bk,at_ _,by simp;omega,?_,?_,?_⟩,grown _⟩
 . simp[Instr.mapUpdate,run_underlying ht,MapKept.run_getObj_map hb,K.check w Aw k,r1,hjs,hs,jF hb,Result.andThen]
 . rw[rJ]
   exact pw_set Cz r2 (by simpa using r3)
 . intro e he
   rw[rJ] at he;obtain⟨i,hi,rfl⟩:=LT he;rw[RF]
   split
   . exact⟨k,rfl,by simp[xg]⟩
   rename_i az;have iV:i<es.toList.length:=by simpa using hi
   obtain⟨k',en,hf⟩:=h1 _ (Lh iV);refine⟨k',en,?_⟩
   by_cases e2:k'=k
   . exact absurd (en.trans ((congrArg enc e2).trans r3.symm)) (fun e3=>az (pw_key Cz r2 (Li iV) e3.symm))
   simp[xg,e2,hf]
 intro k' v' hf;unfold xg at hf
 split at hf
 . rename_i hk;subst hk
   cases hf
   refine⟨{ e0 with key:=enc k',val:=v },?_,rfl,rfl⟩;rw[rJ];exact NM.2 ⟨j,by simpa using cc,by simp⟩
 rename_i hk;obtain⟨e,he,Ie,hv⟩:=h2 k' v' hf;refine⟨e,?_,Ie,hv⟩;rw[rJ];obtain⟨i,hi,rfl⟩:=LT he
 have TP:j≠i:=by
  rintro rfl;rw[Li cc] at r2
  cases r2
  exact hk (K.inj _ _ (Ie.symm.trans r3))
 exact NM.2 ⟨i,by simpa using hi,by simp[TP]⟩
end
end
section
open Go.RowKit
open Classical in
theorem yC:KeyOk Al 3 (O U) where
 inj:=fun a b h=>by injection h
 check:=fun w em a=>by
  have hi:Al.underlying 3=J (.int U):=LE;unfold Instr.checkKey;simp[run_underlying hi,Result.andThen]
 equal:=fun w a b=>by
  have hi:Al.underlying 3=J (.int U):=LE;unfold Op.equal Op.maxDepth;rw[NK w _ 3 _ _ _ _ hi]
  by_cases h:a=b<;>simp[h]
 now:=fun d hd=>.inl fun a b=>by
  have hi:Al.underlying 3=J (.int U):=LE;rw[hi] at hd
  cases hd
  by_cases h:a=b<;>simp[Instr.sameNow,h]
 stays:=fun a=>by simp[Instr.sameBits]
 kind:=⟨_,LE⟩
theorem QH(a b:Vw)(h:Ai a.cells=.agg b.cells):a=b:=by
 injection h with h
 obtain⟨a0,a1,a2,a3,a4,a5,a6,a7⟩:=a;obtain⟨b0,b1,b2,b3,b4,b5,b6,b7⟩:=b;simpa[Vw.cells] using h
theorem wW(w:Ba)(em:Bool)(n:Nat)(a:Int):(Instr.checkKey em (n+1) 3 (O U a)).run Al w=.ok () w:=by
 have hi:Al.underlying 3=J (.int U):=LE;unfold Instr.checkKey;simp[run_underlying hi,Result.andThen]
theorem XI(w:Ba)(em:Bool)(n:Nat)(a b c d e:Int):(Instr.checkKey em (n+2) 72 (Ai #[O U a,O U b,O U c,O U d,O U e])).run Al w=.ok () w:=by
 have hu:Al.underlying 72=J (.array 5 3):=PE;have hs:(sizeOf 3).run Al w=.ok 1 w:=by kernel_rfl
 have p0:=fun x0 x1 x2 x3 x4=>yi #[x0,x1,x2,x3,x4] 0 x0 rfl w
 have p1:=fun x0 x1 x2 x3 x4=>yi #[x0,x1,x2,x3,x4] 1 x1 rfl w
 have p2:=fun x0 x1 x2 x3 x4=>yi #[x0,x1,x2,x3,x4] 2 x2 rfl w
 have p3:=fun x0 x1 x2 x3 x4=>yi #[x0,x1,x2,x3,x4] 3 x3 rfl w
 have p4:=fun x0 x1 x2 x3 x4=>yi #[x0,x1,x2,x3,x4] 4 x4 rfl w
 unfold Instr.checkKey;simp only[Sem.run_bind,run_underlying hu,Result.andThen_ok,hs,Std.Legacy.Range.forIn_eq_forIn_range',Std.Legacy.Range.size,Nat.sub_zero,Nat.add_sub_cancel,Nat.div_one,show List.range' 0 5 1=[0,1,2,3,4] from rfl,List.forIn_cons,List.forIn_nil,p0,p1,p2,p3,p4,Nat.mul_one,wW,Sem.run_pure]
open Classical in
theorem ZK:KeyOk Al 133 (fun v:Vw=>.agg v.cells) where
 inj:=QH
 check:=fun w em v=>by
  have hu:Al.underlying 133=J (.struct (Al.fieldsOf 133)):=by kernel_rfl
  have hf : (Al.fieldsOf 133).toList.map (fun f => (f.name, f.type, f.offset)) = [("Proc", 3, 0), ("Round", 3, 1), ("Input", 3, 2), ("Heard", 72, 3)] := by kernel_rfl
  have p0:∀x:Vw,(part 3 x.cells 0).run Al w=.ok (O U x.p) w:=fun x=>yi _ 0 _ rfl w
  have p1:∀x:Vw,(part 3 x.cells 1).run Al w=.ok (O U x.r) w:=fun x=>yi _ 1 _ rfl w
  have p2:∀x:Vw,(part 3 x.cells 2).run Al w=.ok (O U x.i) w:=fun x=>yi _ 2 _ rfl w
  have p3:∀x:Vw,(part 72 x.cells 3).run Al w=.ok (Ai #[O U x.h0,O U x.h1,O U x.h2,O U x.h3,O U x.h4]) w:=fun x=>by unfold Vw.cells;kernel_rfl
  unfold Instr.checkKey;simp only[Sem.run_bind,run_underlying hu,Result.andThen_ok];rw[<-Array.forIn_toList]
  generalize (Al.fieldsOf 133).toList=fs at hf
  obtain⟨f0,f1,f2,f3,rfl⟩:∃f0 f1 f2 f3,fs=[f0,f1,f2,f3]:=by
   have hl:fs.length=4:=by simpa using congrArg List.length hf
   rcases fs with _ | ⟨f0,_ | ⟨f1,_ | ⟨f2,_ | ⟨f3,_ | ⟨f4,r⟩⟩⟩⟩⟩<;>simp at hl
   exact⟨_,_,_,_,rfl⟩
  simp only[List.map_cons,List.map_nil,List.cons.injEq,Prod.mk.injEq,and_true] at hf;obtain⟨⟨n0,t0,o0⟩,⟨n1,t1,o1⟩,⟨n2,t2,o2⟩,⟨n3,t3,o3⟩⟩:=hf;simp only[List.forIn_cons,List.forIn_nil,n0,n1,n2,n3,t0,t1,t2,t3,o0,o1,o2,o3,p0,p1,p2,p3,Sem.run_bind,Result.andThen_ok,wW,XI,ne_eq,String.reduceEq,not_false_eq_true,if_true,Sem.run_pure]
 equal:=fun w a b=>by
  unfold Op.equal Op.maxDepth;rw[uh 9997 a b w]
  by_cases h:a=b
  . simp[h]
  . have:¬(Ai a.cells=.agg b.cells):=fun e=>h (QH a b e)
    rw[Lv h,Lv this]
 now:=fun d hd=>.inr fun a b=>by
  have hu:Al.underlying 133=J (.struct (Al.fieldsOf 133)):=by kernel_rfl
  rw[hu] at hd
  cases hd
  simp[Instr.sameNow]
 stays:=fun a=>by simp[Instr.sameBits,Vw.cells]
 kind := ⟨_, by have hu : Al.underlying 133 = J (.struct (Al.fieldsOf 133)) := by kernel_rfl
                exact hu⟩
end
section
open Go.RowKit
structure TArg(w:Ba)(A:Bb)(cap:Nat)(vs:List Vw):Prop where
 rows:VAt w w.heap.size A vs
 lec:vs.length<=cap
 lem:cap<=maxLen
 few:vs.length<=100000
theorem TArg.keep{w w':Ba}{A:Bb}{cap:Nat}{vs:List Vw}(h:TArg w A cap vs)(hb:Am w.heap.size w w'):TArg w' A cap vs:=
 ⟨(h.rows.keep hb).more hb.size,h.lec,h.lem,h.few⟩
def yP(vs:List Vw):List Au:=vs.flatMap fun x=>x.cells.toList
theorem vI(vs us:List Vw):yP (vs++us)=yP vs++yP us:=by simp[yP]
theorem vH(vs:List Vw):(yP vs).length=vs.length*8:=by
 induction vs with
 | nil=>rfl
 | cons v vs ih=>simp only[yP,List.flatMap_cons,List.length_append,List.length_cons] at *;rw[ih];simp[Vw.cells];omega
theorem wg:∀(vs:List Vw) (i:Nat) (hi:i<vs.length) (k:Nat),k<8->(yP vs)[i*8+k]?=vs[i].cells[k]?
 | v::vs,0,hi,k,hk=>by
  simp only[yP,List.flatMap_cons,List.getElem_cons_zero,Nat.zero_mul,Nat.zero_add];rw[LC (by simp[Vw.cells];omega)];simp
 | v::vs,i+1,hi,k,hk=>by
  have:=wg vs i (by simpa using hi) k hk;simp only[yP,List.flatMap_cons,List.getElem_cons_succ] at *;rw[Ly (by simp[Vw.cells];omega),<-this]
  congr 1
  simp[Vw.cells];omega
def OwnV(w:Ba)(base:Nat)(v:Au)(vs:List Vw):Prop:=w.ownsRow base 133 8 v vs.length (yP vs)
theorem OwnV.nil(w:Ba)(base:Nat):OwnV w base (I Z 0 0) []:=Rh w base _ 8
theorem OwnV.form{w:Ba}{base:Nat}{v:Au}{vs:List Vw}(h:OwnV w base v vs)(hf:vs.length<=100000):∃A cap,v=I A vs.length cap/\TArg w A cap vs:=by
 rcases h.2 with ⟨rfl,h0⟩ | ⟨g,cap,cur,rfl,_,hg,cG,iJ,_⟩
 . have:vs=[]:=LJ h0
   subst this;exact⟨Z,0,rfl,fun h=>absurd h (by simp),Ld _,Ni _,hf⟩
 refine⟨_,_,rfl,fun _=>⟨g,0,rfl,(Ln.1 hg).1,fun i hi k u hk=>?_⟩,cG,iJ,hf⟩;have hk8:k<8:=by have:=(Ln.1 hk).1;simpa[Vw.cells] using this
 have:=h.cells (g:=g) rfl (i*8+k) u (by rw[wg vs i hi k hk8];exact hk);rw[show(⟨g,0,Z⟩:Addr).add (i*8+k)=⟨g,0+i*8+k,Z⟩ from by unfold Addr.add;split<;>simp_all] at this;exact this
theorem OwnV.low{w:Ba}{base base':Nat}{v:Au}{xs:List Vw}(h:OwnV w base v xs)(hb:base'<=base):OwnV w base' v xs:=by
 refine⟨h.1,?_⟩;rcases h.2 with h2 | ⟨g,cap,cur,hv,hg,r⟩
 . exact Or.inl h2
 exact Or.inr ⟨g,cap,cur,hv,by omega,r⟩
theorem OwnV.lt{w:Ba}{base:Nat}{v:Au}{xs:List Vw}(h:OwnV w base v xs):∀k,v.ownBlock=J k->base<=k/\k<w.heap.size:=Ry h
theorem wQ:(Al.info? 133).map (fun i=>(i.zero,i.size,i.bytes))=J (J (.agg (⟨0,0,0,0,0,0,0,0⟩:Vw).cells),8,64):=by kernel_rfl
theorem wX(v:Vw):∀u∈v.cells.toList,u.oneCell'=Av:=by
 intro u hu;simp only[Vw.cells,List.mem_cons,List.not_mem_nil,or_false] at hu;rcases hu with rfl | rfl | rfl | rfl | rfl | rfl | rfl | rfl<;>rfl
theorem J9(vs:List Vw):∀u∈yP vs,u.oneCell'=Av:=by
 intro u hu;obtain⟨v,_,hv⟩:=Nw.1 hu;exact wX v u hv
theorem YS(c:Nat)(ty:TypeId)(W:Ba):(Builtin.append_ #[34,34] ty #[I Z 0 0,I Z 0 c]).run Al W=.ok (I Z 0 0) W:=by
 obtain⟨i0,hi,_⟩:=RH wQ;simp[Builtin.append_,run_underlying underlying34,sizeOf,typeInfo,hi,Builtin.lenOf,Builtin.firstCells]
theorem TArg.news{w:Ba}{ad:Addr}{cap:Nat}{vs:List Vw}(h:TArg w (J ad) cap vs):∀j u,(yP vs)[j]?=J u->w.cell? (ad.add j)=J u:=by
 intro j u hj;have hj8:j<vs.length*8:=by have:=(Lq.1 hj).1;rwa[vH] at this
 obtain⟨b,off,e,hlt,hc⟩:=h.rows (by omega)
 cases e
 rw[NR];have iV:j / 8<vs.length:=by omega
 have h8:j / 8*8+j % 8=j:=by omega
 rw[<-h8,wg vs (j / 8) iV (j % 8) (by omega)] at hj;have:=hc (j / 8) iV (j % 8) u hj;rwa[PJ,h8] at this
theorem OwnV.lit{w:Ba}{base:Nat}{v:Au}{vs:List Vw}(h:OwnV w base v vs):∃A cap,v=I A vs.length cap:=by
 rcases h.2 with ⟨rfl,h0⟩ | ⟨g,cap,cur,rfl,_⟩
 . exact⟨Z,0,by rw[h0]⟩
 exact⟨_,_,rfl⟩
theorem wp_appv0{o:Oper}{a:Act}{K:Act->Ba->Prop}{Q:Exit->Act->Ba->Prop}{W:Ba}(s x:Operand)
  (ho:o.op=.call { callee:=.builtin .append,args:=#[s,x],argTypes:=#[34,34] }) (base:Nat) (hs:a.eval s=I Z 0 0) (A:Bb) (cap:Nat) (vs:List Vw)
  (hx:a.eval x=I A vs.length cap) (hT:TArg W A cap vs) (hb:base<=W.heap.size)
  (h:∀A' ap w1,OwnV w1 base (I A' vs.length ap) vs->W.grownBy w1 Z->K (a.put o.dst (I A' vs.length ap)) w1):o.wp Al a W K Q:=by
 obtain⟨i0,hi,dx,ce,dI⟩:=RH wQ
 cases A with
 | none=>
  have mV:vs=[]:=by
   rcases NC vs.length with h | h
   . exact LJ h
   . obtain⟨b,off,e,_⟩:=hT.rows h;cases e
  subst mV;have dm:=YS cap o.type W;unfold Oper.wp execOp;simp only[ho,resolve,invoke,builtin,Sem.run_bind,Sem.run_pure,Result.andThen_ok,List.map_toArray,List.map_cons,List.map_nil,hs,hx,List.length_nil,dm];exact h Z 0 W (OwnV.nil _ _) (R9 _ _)
 | some ad=>
  refine wp_append_own W s x 34 ho base 133 i0 _ 8 64 Rn hi dx ce dI rfl (by decide) _ 0 [] hs (Rh W base _ 8) ad vs.length cap (yP vs) hx (vH vs) hT.news (J9 vs) (by have:=hT.few;unfold maxLen;omega) (by have:=hT.few;omega) hb ?_;intro v' w1 aU bK _;have rG:OwnV w1 base v' vs:=by unfold OwnV;simpa using aU
  obtain⟨A',ap,rfl⟩:=rG.lit;exact h A' ap w1 rG bK
theorem wp_appv1{o:Oper}{a:Act}{K:Act->Ba->Prop}{Q:Exit->Act->Ba->Prop}{W:Ba}(s x:Operand)
  (ho:o.op=.call { callee:=.builtin .append,args:=#[s,x],argTypes:=#[34,34] }) (base:Nat) (V:Au) (vs:List Vw) (v:Vw) (hs:a.eval s=V) (aU:OwnV W base V vs) (hf:vs.length<=100000)
  (g:Nat) (hx:a.eval x=I (J ⟨g,0,Z⟩) 1 1) (hg:W.heap[g]?=J (Ag v.cells 133 (0,0))) (hb:base<=W.heap.size)
  (h:∀A' ap w1,OwnV w1 base (I A' (vs.length+1) ap) (vs++[v])->W.grownBy w1 V.ownBlock->K (a.put o.dst (I A' (vs.length+1) ap)) w1):o.wp Al a W K Q:=by
 obtain⟨i0,hi,dx,ce,dI⟩:=RH wQ
 refine wp_append_lies W s x 34 ho base 133 i0 _ 8 64 Rn hi dx ce dI rfl (by decide) V vs.length (yP vs) hs aU ⟨g,0,Z⟩ 1 1 v.cells.toList hx (by simp[Vw.cells])
  (RW hg) (wX v) (by omega) (by unfold maxLen;omega) (by omega) hb _ rfl ?_
 intro g' cap w1 rG bK _ _;refine h _ cap w1 ?_ bK;unfold OwnV;rw[Lr,vI];simpa[yP] using rG
theorem step_appv0{aq:Array Oper}{o:Oper}{a:Act}{K:Act->Ba->Prop}{Q:Exit->Act->Ba->Prop}{E:Prop}{W:Ba}(iI:o.guard=Z)(s x:Operand)
  (ho:o.op=.call { callee:=.builtin .append,args:=#[s,x],argTypes:=#[34,34] }) (base:Nat) (hs:a.eval s=I Z 0 0) (A:Bb) (cap:Nat) (vs:List Vw)
  (hx:a.eval x=I A vs.length cap) (hT:TArg W A cap vs) (hb:base<=W.heap.size)
  (h:∀A' ap w1,OwnV w1 base (I A' vs.length ap) vs->W.grownBy w1 Z->K (a.put o.dst (I A' vs.length ap)) w1) :
  if Region.wanted o (yielded aq a.tmps)=Av then Oper.wp Al o a W K Q else E:=by
 have hw:Region.wanted o (yielded aq a.tmps)=Av:=by simp[Region.wanted,iI]
 rw[Lj hw];exact wp_appv0 s x ho base hs A cap vs hx hT hb h
theorem ZU{aq:Array Oper}{o:Oper}{a:Act}{K:Act->Ba->Prop}{Q:Exit->Act->Ba->Prop}{E:Prop}{W:Ba}(iI:o.guard=Z)(s x:Operand)
  (ho:o.op=.call { callee:=.builtin .append,args:=#[s,x],argTypes:=#[34,34] }) (base:Nat) (V:Au) (vs:List Vw) (v:Vw) (hs:a.eval s=V) (aU:OwnV W base V vs) (hf:vs.length<=100000)
  (g:Nat) (hx:a.eval x=I (J ⟨g,0,Z⟩) 1 1) (hg:W.heap[g]?=J (Ag v.cells 133 (0,0))) (hb:base<=W.heap.size)
  (h:∀A' ap w1,OwnV w1 base (I A' (vs.length+1) ap) (vs++[v])->W.grownBy w1 V.ownBlock->K (a.put o.dst (I A' (vs.length+1) ap)) w1) :
  if Region.wanted o (yielded aq a.tmps)=Av then Oper.wp Al o a W K Q else E:=by
 have hw:Region.wanted o (yielded aq a.tmps)=Av:=by simp[Region.wanted,iI]
 rw[Lj hw];exact wp_appv1 s x ho base V vs v hs aU hf g hx hg hb h
theorem yw{W w1:Ba}{row:Option Nat}{b o:Nat}{u:Au}(hg:W.grownBy w1 row)(h:W.cell? ⟨b,o,Z⟩=J u)(az:row≠J b):w1.cell? ⟨b,o,Z⟩=J u:=by
 obtain⟨ob,ho,_⟩:=R5 h;rw[LL ((hg.block b (Ln.1 ho).1 (fun e=>az e.symm)))];exact h
theorem ue(w:Ba)(g k:Nat)(v':Au):w.grownBy (w.setCell ⟨g,k,Z⟩ v') (J g):=
 ⟨rfl,rfl,rfl,by simp[World.setCell],fun j _ hj=>Le w ⟨g,k,Z⟩ v' j (fun e=>hj (by rw[e]))⟩
theorem grown_heap{W w1:Ba}{row:Option Nat}{b:Nat}{o:Obj}(hg:W.grownBy w1 row)(h:W.heap[b]?=J o)(az:row≠J b):w1.heap[b]?=J o:=
 (hg.block b (Ln.1 h).1 (fun e=>az e.symm)).trans h
theorem OwnV.kept{w w':Ba}{base:Nat}{v:Au}{vs:List Vw}{row:Option Nat}(h:OwnV w base v vs)(hg:w.grownBy w' row)(az:v.ownBlock=Z\/v.ownBlock≠row):OwnV w' base v vs:=Pw h hg az
theorem OwnV.alloc{w:Ba}{base:Nat}{v:Au}{vs:List Vw}(h:OwnV w base v vs)(o:Obj):OwnV (w.alloc o) base v vs:=PH h o
theorem OwnV.drew{w:Ba}{base:Nat}{v:Au}{vs:List Vw}(h:OwnV w base v vs):OwnV w.drew base v vs:=h
theorem OwnV.below{w w':Ba}{base B:Nat}{v:Au}{xs:List Vw}(h:OwnV w base v xs)(hb:Am B w w')(hB:w.heap.size<=B):OwnV w' base v xs:=
 Pw (row:=Z) h ⟨hb.os,hb.tape,hb.output,hb.size,fun k hk _=>hb.block k (by omega)⟩ (by cases v.ownBlock<;>simp)
theorem uf{W w1:Ba}{row:Option Nat}{b o:Nat}(hg:W.grownBy w1 row)(h:W.frozen? ⟨b,o,Z⟩=Aw)(hlt:b<W.heap.size)(az:row≠J b):w1.frozen? ⟨b,o,Z⟩=Aw:=
 (World.grownBy.frozen_far hg ⟨b,o,Z⟩ hlt (fun e=>az e.symm)).trans h
theorem OwnV.ne{w:Ba}{base b:Nat}{v:Au}{xs:List Vw}(h:OwnV w base v xs)(hb:b<base):v.ownBlock≠J b:=fun e=>by
 have:=(h.lt b e).1;omega
def RetPut(n:Int)(A:Bb)(cap:Nat)(vs:List Vw)(v:Vw)(w:Ba)(e:Ending)(w':Ba):Prop:=
 Am w.heap.size w w'/\(v∈vs->e=Ak (.tuple #[Ai #[O U n,I A vs.length cap],O U (kJ vs v)])) /\
  (v∉vs->∃A3 lN,e=Ak (.tuple #[Ai #[O U n,I A3 (vs.length+1) lN],O U vs.length])/\OwnV w' w.heap.size (I A3 (vs.length+1) lN) (vs++[v]))
end
section
open Go.RowKit
section
variable {P:Program} {md:Region.Mode} {aq:Array Oper} {Q:Exit->Act->Ba->Prop} {l n:Nat}
theorem op_round{o:Oper}{a:Act}{w:Ba}{K:Act->Ba->Prop}(hd:∀c,o.op≠.defer c)(h:o.wp P a w K Q):o.wpIn (Fence.wide.inRound l) n P a w K Q:=by
 refine⟨fun _ _=>trivial,?_⟩;show o.uponIn (Fence.wide.inRound l) n P a K Q ((o.semAt (J l) a.eval).run P w);rw[Oper.semAt_some l a.eval o hd];unfold Oper.wp at h
 revert h
 cases (execOp a.eval o).run P w with
 | ok x w'=>
  cases x with
  | value v=>exact fun h=>h
  | skip=>exact fun h=>h
  | defer d=>exact fun h=>h
  | enter f args=>exact fun h=>⟨(fun h'=>Bool.noConfusion (show Aw=Av from h')),Sr l (Se.2 h)⟩
  | row r args=>exact fun h=>⟨(fun h'=>Bool.noConfusion (show Aw=Av from h')),fun b cs _=>by obtain⟨v,I6,hR,hs⟩:=h b cs;exact⟨v,I6,hR,stepsIn_wide.2 hs⟩⟩
  | _=>exact fun h=>h.elim
 | halt s w'=>
  cases s with
  | panic v=>exact fun h=>h
  | _=>exact fun h=>h.elim
def Zz(aq:Array Oper):Bool:=aq.toList.all fun o=>match o.op with | .defer _=>Aw | _=>Av
theorem noDefer_at(h:Zz aq=Av){i:Nat}{o:Oper}(ho:aq[i]?=J o):∀c,o.op≠.defer c:=by
 intro c e;have hm:o∈aq.toList:=by rw[Array.mem_toList_iff];exact Array.mem_of_getElem? ho
 have:=Nf.1 h o hm;rw[e] at this
 cases this
theorem jr(hd:Zz aq=Av)(nc:¬LetsOut Q):∀(fuel:Nat) (af:Array Bool) (a:Act) (w:Ba),wpAny P md aq Q fuel af a w->wpAnyIn (Fence.wide.inRound l) n P md aq Q fuel af a w
 | 0,_,_,_,h=>h
 | fuel+1,af,a,w,h=>by
  refine⟨h.1,fun i hi=>?_⟩;have h2:=h.2 i hi;unfold wpOp at h2;unfold wpOpIn
  cases ho:aq[i]? with
  | none=>rw[ho] at h2;exact jr hd nc fuel _ _ _ h2
  | some o=>
   rw[ho] at h2;dsimp only at h2 ⊢
   by_cases hw:Region.wanted o (yielded aq a.tmps)=Av
   . rw[Lj hw] at h2 ⊢
     rcases h2 with h2 | h2
     . exact op_round (noDefer_at hd ho) (Oper.wp_mono (fun a' w' hk=>jr hd nc fuel _ _ _ hk) h2)
     . exact absurd h2.2 nc
   . rw[Lg hw] at h2 ⊢
     exact⟨fun _ _=>trivial,jr hd nc fuel _ _ _ h2⟩
theorem any_still{n:Nat}{w:Ba}{a:Act}{xs:List Oper}(hB:Region.lexTailB .any xs.toArray n=Av)
  (h:wpStill P xs.toArray w (fun a'=>wpList P xs.toArray Q (xs.drop n) a' w) (xs.take n) a):wpAny P .any xs.toArray Q xs.toArray.size (Array.replicate xs.toArray.size Aw) a w:=by
 unfold Region.lexTailB at hB;simp only[Bool.and_eq_true,decide_eq_true_eq] at hB;have hn:n<xs.length:=by simpa using hB.1.1.1.2
 have e1:(xs.take n).length=n:=by rw[PV];omega
 have e2:(xs.drop n).length=xs.toArray.size-n:=by rw[List.length_drop];rfl
 have hI:HeadInv .any xs.toArray n (Array.replicate xs.toArray.size Aw):=
  ⟨by simp,fun _ _ _ hl=>(by rw[RN] at hl;exact Bool.noConfusion hl),fun _ _ ht=>getD_in (by simpa using ht) (RN _ _)⟩
 have H:=wpAnyL_lex (md:=.any) (g:=xs.toArray.size-n) hB.1.1.1.1 hB.1.1.2 hB.1.2 hB.1.1.1.2 (xs.take n) 0 _ a
  (fun j hj=>by
   rw[e1] at hj
   simp[hj]) (by simpa using e1) hI (by rw[e1];exact hB.2) h
 have R:=wpAny_of_head (Q':=Q) (g:=xs.toArray.size-n) (fun af a' hL=>by
  have T:=wpAny_of_seq (md:=.any) (Q':=Q) (xs.drop n) n af a' w (fun j=>by simp[List.getElem?_drop]) (by rw[e2];exact hL.1) hL.2
  rwa[e2] at T) _ _ _ H
 rw[e1] at R;have e3:n+(xs.toArray.size-n)=xs.toArray.size:=by have:xs.toArray.size=xs.length:=rfl;omega
 rwa[e3] at R
theorem kn{id k:Nat}{a:Act}{w:Ba}{xs:List Oper}(n:Nat)(hm:P.follows .mixedOrders=Av)(hd:Zz xs.toArray=Av)(hB:Region.lexTailB .any xs.toArray n=Av)(nc:¬LetsOut Q)
  (h:wpStill P xs.toArray w.drew (fun a'=>wpList P xs.toArray Q (xs.drop n) a' w.drew) (xs.take n) a):(Code.region id xs.toArray Av).wpIn (Fence.wide.inRound l) k P Q a w:=
 wpIn_region_any hm (jr hd nc _ _ _ _ (any_still hB h))
end
end
section
open Go.RowKit
section
variable {P:Program} {aq:Array Oper} {md:Region.Mode}
def Qf:Exit->Act->Ba->Prop:=fun _ _ _=>False
theorem qf_lets:¬LetsOut Qf:=fun ⟨_,_,h⟩=>h
theorem wp_of_qf{o:Oper}{a:Act}{w:Ba}{K:Act->Ba->Prop}{Q:Exit->Act->Ba->Prop}(hh:o.wp P a w K Qf):o.wp P a w K Q:=by
 unfold Oper.wp at *
 generalize (execOp a.eval o).run P w=r at *
 cases r with
 | ok n w'=>
  cases n<;>simp only[Oper.upon] at hh⊢<;>
   first
    | exact hh
    | exact SA hh (fun e I6 he=>by
      cases e with
      | returned v=>exact he
      | panicked c=>exact False.elim he
      | outgrown=>exact absurd he qf_lets)
 | halt x w'=>cases x<;>simp only[Oper.upon] at hh ⊢<;>exact False.elim hh
def kpOp(P:Program)(aq:Array Oper)(i:Nat)(K:Act->Ba->Prop)(a:Act)(w:Ba):Prop:=
 ∃o,aq[i]?=J o/\if Region.wanted o (yielded aq a.tmps)=Av then o.wp P a w K Qf else K (a.put o.dst undef) w
theorem Xv{i:Nat}{K K':Act->Ba->Prop}{a:Act}{w:Ba}(h:∀a w,K a w->K' a w)(hh:kpOp P aq i K a w):kpOp P aq i K' a w:=by
 obtain⟨o,ho,hh⟩:=hh;refine⟨o,ho,?_⟩
 split at hh
 . rename_i hw;rw[Lj hw];exact Oper.wp_mono h hh
 rename_i hw;rw[Lg hw];exact h _ _ hh
def waitB(md:Region.Mode)(aq:Array Oper):Nat->Nat->Nat->Bool
 | 0,_,_=>Aw
 | f+1,j,i=>match aq[j]? with
  | some o=>o.after.any fun e=>Region.binds md e&&(e.on==i||waitB md aq f e.on i)
  | none=>Aw
def QN(md:Region.Mode)(aq:Array Oper)(F:List Nat)(j:Nat):Bool:=F.all fun i=>waitB md aq aq.size j i
def Closed(md:Region.Mode)(aq:Array Oper)(af:Array Bool):Prop:=∀(j:Nat) (oj:Oper),aq[j]?=J oj->af.getD j Aw=Av->∀e∈oj.after,Region.binds md e=Av->af.getD e.on Aw=Av
theorem Closed.set{af:Array Bool}(h:Closed md aq af){i:Nat}(hi:i∈Region.ready md aq af):Closed md aq (af.setIfInBounds i Av):=by
 obtain⟨_,oi,hoi,aZ⟩:=Sk.1 hi;intro j oj hj hl e he hb
 by_cases TP:i=j
 . subst TP
   have:oj=oi:=NS (hj.symm.trans hoi);subst this;exact getD_set_true (aZ e he hb)
 rw[getD_set_ne Aw TP] at hl;exact getD_set_true (h j oj hj hl e he hb)
theorem gA{af:Array Bool}(h:Closed md aq af):∀(f j i:Nat),(∀oj,aq[j]?=J oj->∀e∈oj.after,Region.binds md e=Av->af.getD e.on Aw=Av)->waitB md aq f j i=Av->af.getD i Aw=Av
 | 0,_,_,_,hr=>by cases hr
 | f+1,j,i,hj,hr=>by
  unfold waitB at hr
  cases ho:aq[j]? with
  | none=>rw[ho] at hr;cases hr
  | some o=>
   rw[ho] at hr;obtain⟨e,he,hb⟩:=Array.any_eq_true'.1 hr;simp only[Bool.and_eq_true,Bool.or_eq_true,beq_iff_eq] at hb;have hl:=hj o ho e he hb.1;rcases hb.2 with h1 | h1
   . rw[<-h1];exact hl
   . exact gA h f e.on i (fun oj Fq e' sY cN=>h e.on oj Fq hl e' sY cN) h1
theorem QM{af:Array Bool}(h:Closed md aq af){F:List Nat}{j i:Nat}(hj:j∈Region.ready md aq af)(hs:QN md aq F j=Av)(hi:i∈F):af.getD i Aw=Av:=by
 obtain⟨_,oj,Fq,aZ⟩:=Sk.1 hj;refine gA h aq.size j i (fun o ho e he hb=>?_) (Nf.1 hs i hi);have:oj=o:=NS (Fq.symm.trans ho);subst this;exact aZ e he hb
def ZI(P:Program)(md:Region.Mode)(aq:Array Oper)(F:List Nat)(Q:Act->Ba->Prop):Nat->Array Bool->(Ba->Prop)->Act->Ba->Prop
 | 0,af,_,a,w=>Region.ready md aq af=[]/\Q a w
 | fuel+1,af,Kp,a,w=>(Region.ready md aq af=[]->Q a w) /\
   ∀i∈Region.ready md aq af,kpOp P aq i (fun a' w'=>∃i5:Ba->Prop,((∀W,i5 W->Kp W)\/QN md aq F i=Av)/\i5 w'/\ZI P md aq F Q fuel (af.setIfInBounds i Av) i5 a' w') a w
theorem vR{F:List Nat}{Q:Exit->Act->Ba->Prop}{Qn:Act->Ba->Prop}(hQ:∀a w,Qn a w->Q .normal a w):∀(fuel:Nat) (af:Array Bool) (Kp:Ba->Prop) (a:Act) (w:Ba),
  ZI P md aq F Qn fuel af Kp a w->wpAny P md aq Q fuel af a w
 | 0,_,_,_,_,h=>⟨h.1,hQ _ _ h.2⟩
 | fuel+1,af,Kp,a,w,h=>by
  refine⟨fun h0=>hQ _ _ (h.1 h0),fun i hi=>?_⟩;obtain⟨o,ho,h2⟩:=h.2 i hi;unfold wpOp;rw[ho];dsimp only
  split at h2
  . rename_i hw
    rw[Lj hw];exact .inl (Oper.wp_mono (fun a' w' ⟨i5,_,_,h3⟩=>vR hQ fuel _ i5 a' w' h3) (wp_of_qf h2))
  . rename_i hw
    rw[Lg hw];obtain⟨i5,_,_,h3⟩:=h2;exact vR hQ fuel _ i5 _ _ h3
def FloatTo(P:Program)(aq:Array Oper)(Kp:Ba->Prop)(o:Oper)(a a1:Act):Prop:=∀W,Kp W->∃v,YieldsAt P aq W o v a/\a.put o.dst v=a1
theorem FloatTo.less{Kp i5:Ba->Prop}{o:Oper}{a a1:Act}(h:FloatTo P aq Kp o a a1)(hs:∀W,i5 W->Kp W):FloatTo P aq i5 o a a1:=fun W hW=>h W (hs W hW)
theorem ws(a:Act)(d:Option Tmp)(v:Au)(x:Deferred):({ a.put d v with defers:=x::(a.put d v).defers }:Act)=({ a with defers:=x::a.defers }:Act).put d v:=by
 cases d<;>rfl
theorem kpOp_put{j:Nat}{oi oj:Oper}{Kp:Ba->Prop}(hj:aq[j]?=J oj)(hap:oi.apart aq oj=Av)
  (hsi:∀cs b,oi.op≠.select cs b) (sb:∀cs b,oj.op≠.select cs b) {K:Act->Ba->Prop} {a a1:Act} {w:Ba}
  (hy:FloatTo P aq Kp oi a a1) (hk:Kp w) (h:kpOp P aq j K a1 w) :
  kpOp P aq j (fun a' w'=>∃Ur,FloatTo P aq Kp oi a' Ur/\K Ur w') a w:=by
 obtain⟨h1,h2,h3⟩:=Oper.apart_spec hap;obtain⟨v,hv,rfl⟩:=hy w hk
 have keep:∀u,FloatTo P aq Kp oi (a.put oj.dst u) ((a.put oi.dst v).put oj.dst u):=fun u W hW=>by
  obtain⟨v',Vc,e⟩:=hy W hW;exact⟨v',Vc.of_same (execOp_put oi hsi a oj.dst u h3) (wanted_put oi a oj.dst u h3),by rw[<-Act.put_comm a v' u h2,e]⟩
 have KD:∀(x:Deferred) u,FloatTo P aq Kp oi (({ a with defers:=x::a.defers }:Act).put oj.dst u) ((({ a.put oi.dst v with defers:=x::(a.put oi.dst v).defers }:Act)).put oj.dst u):=fun x u W hW=>by
  obtain⟨v',Vc,e⟩:=keep u W hW;rw[<-ws a oj.dst u x,<-ws (a.put oi.dst v) oj.dst u x];refine⟨v',Vc.of_same rfl rfl,?_⟩;rw[<-ws,e]
 obtain⟨o,ho,h⟩:=h;have:oj=o:=NS (hj.symm.trans ho);subst this;refine⟨oj,hj,?_⟩;rw[wanted_put oj a oi.dst v h1] at h
 split
 . rename_i hw
   rw[Lj hw] at h;unfold Oper.wp at *;rw[execOp_put oj sb a oi.dst v h1] at h
   generalize (execOp a.eval oj).run P w=r at *
   cases r with
   | ok n w'=>
    cases n<;>simp only[Oper.upon] at h ⊢
    case value u=>exact⟨_,keep u,h⟩
    case skip=>exact⟨_,keep undef,h⟩
    case defer d=>exact⟨_,KD d undef,h⟩
    case enter f args=>
     exact SA h (fun e I6 he=>by
       cases e with
       | returned u=>exact⟨_,keep u,he⟩
       | panicked c=>exact False.elim he
       | outgrown=>exact absurd he qf_lets)
    case row row args=>exact Rows.mono h (fun u I6 he=>⟨_,keep u,he⟩)
   | halt x w'=>cases x<;>simp only[Oper.upon] at h ⊢<;>exact h
 rename_i hw;rw[Lg hw] at h;exact⟨_,keep undef,h⟩
theorem gq{i:Nat}{o:Oper}{v:Au}{a:Act}{w:Ba}(hi:aq[i]?=J o)(hy:YieldsAt P aq w o v a){K:Act->Ba->Prop}(h:K (a.put o.dst v) w):kpOp P aq i K a w:=by
 refine⟨o,hi,?_⟩;rcases hy with ⟨hw,hv | ⟨hv,rfl⟩ | ⟨f,args,hv,hc⟩⟩ | ⟨hw,rfl⟩
 . rw[Lj hw];unfold Oper.wp;rw[hv];exact h
 . rw[Lj hw];unfold Oper.wp;rw[hv];exact h
 . rw[Lj hw];unfold Oper.wp;rw[hv]
   exact hc.mono fun e I6 ⟨he,bh⟩=>by subst he;subst bh;exact h
 rw[Lg (by rw[hw];decide)];exact h
theorem XS{F:List Nat}{Q:Act->Ba->Prop}{i:Nat}{oi:Oper}(hF:i∈F)(hi:aq[i]?=J oi)(K7:∀(j:Nat) (o:Oper) cs b,aq[j]?=J o->o.op≠.select cs b) :
  ∀(fuel:Nat) (af:Array Bool) (Kp:Ba->Prop) (a a1:Act) (w:Ba),
   (∀j oj,aq[j]?=J oj->j≠i->af.getD j Av=Aw->(∀e∈oj.after,Region.binds md e=Av->e.on≠i)->oi.apart aq oj=Av) ->
   Closed md aq af->i∈Region.ready md aq af->FloatTo P aq Kp oi a a1->Kp w ->
   ZI P md aq F Q fuel (af.setIfInBounds i Av) Kp a1 w->ZI P md aq F Q (fuel+1) af Kp a w:=by
 intro fuel
 induction fuel with
 | zero=>
  intro af Kp a a1 w _ _ hr hy hk H;refine⟨fun h=>(by rw[h] at hr;cases hr),fun j hj=>?_⟩
  by_cases BJ:j=i
  . subst BJ
    obtain⟨v,hv,rfl⟩:=hy w hk;exact gq hi hv ⟨Kp,.inl fun _ h=>h,hk,H⟩
  . have:=ready_mono hj BJ
    rw[H.1] at this
    cases this
 | succ fuel ih=>
  intro af Kp a a1 w DY aA hr hy hk H;refine⟨fun h=>(by rw[h] at hr;cases hr),fun j hj=>?_⟩
  by_cases BJ:j=i
  . subst BJ
    obtain⟨v,hv,rfl⟩:=hy w hk;exact gq hi hv ⟨Kp,.inl fun _ h=>h,hk,H⟩
  . have h1:=H.2 j (ready_mono hj BJ)
    obtain⟨MJ,oj,Fq,aZ⟩:=Sk.1 hj
    have VM:∀e∈oj.after,Region.binds md e=Av->e.on≠i:=fun e he hb nG=>by
     have h1:=aZ e he hb;have h0:=(Sk.1 hr).1;rw[nG] at h1;rcases RI i af.size with h' | h'
     . simp[h'] at h0 h1;rw[h0] at h1;cases h1
     . simp[Array.getElem?_eq_none h'] at h1
    have h2:=kpOp_put Fq (DY j oj Fq BJ MJ VM) (fun cs b=>K7 i oi cs b hi) (fun cs b=>K7 j oj cs b Fq) hy hk h1
    have FM:∀k ok,aq[k]?=J ok->k≠i->(af.setIfInBounds j Av).getD k Av=Aw ->
      (∀e∈ok.after,Region.binds md e=Av->e.on≠i)->oi.apart aq ok=Av:=fun k ok hk TL Hv nc=>by
     refine DY k ok hk TL ?_ nc
     by_cases FD:j=k
     . subst FD;exact MJ
     . rw[getD_set_ne Av FD] at Hv;exact Hv
    have hns:QN md aq F j=Av->False:=fun Tu=>by
     have h1:=QM aA hj Tu hF;have h0:=(Sk.1 hr).1;rcases RI i af.size with h' | h'
     . simp[h'] at h0 h1;rw[h0] at h1;cases h1
     . simp[Array.getElem?_eq_none h'] at h1
    refine Xv (fun a' w' ⟨Ur,hf,i5,pG,en,h3⟩=>⟨i5,pG,en,ih (af.setIfInBounds j Av) i5 a' Ur w' FM (aA.set hj) (ready_mono hr (N9 BJ)) (hf.less (pG.resolve_right hns)) en ?_⟩) h2;rw[Array.setIfInBounds_comm _ _ BJ];exact h3
def kW(P:Program)(md:Region.Mode)(aq:Array Oper)(F:List Nat)(Q:Act->Ba->Prop):List (Nat×Bool)->(Ba->Prop)->Act->Ba->Prop
 | [],_,a,w=>Q a w
 | (i,Av)::r,Kp,a,w=>∃o a1,aq[i]?=J o/\FloatTo P aq Kp o a a1/\kW P md aq F Q r Kp a1 w
 | (i,Aw)::r,Kp,a,w=>kpOp P aq i (fun a' w'=>∃i5:Ba->Prop,((∀W,i5 W->Kp W)\/QN md aq F i=Av)/\i5 w'/\kW P md aq F Q r i5 a' w') a w
def mixB(md:Region.Mode)(aq:Array Oper)(F:List Nat):List (Nat×Bool)->Array Bool->Bool
 | [],af=>(Region.ready md aq af).isEmpty
 | (i,Av)::r,af=>F.contains i&&(Region.ready md aq af).contains i&&Region.free md aq af i&&mixB md aq F r (af.setIfInBounds i Av)
 | (i,Aw)::r,af=>decide (Region.ready md aq af=[i])&&mixB md aq F r (af.setIfInBounds i Av)
theorem vS{F:List Nat}{Q:Act->Ba->Prop}(hs:Region.noSelect aq=Av):∀(l:List (Nat×Bool)) (af:Array Bool) (Kp:Ba->Prop) (a:Act) (w:Ba),
  mixB md aq F l af=Av->Closed md aq af->Kp w->kW P md aq F Q l Kp a w->ZI P md aq F Q l.length af Kp a w
 | [],_,_,_,_,hB,_,_,h=>⟨by simpa[mixB] using hB,h⟩
 | (i,Av)::l,af,Kp,a,w,hB,aA,hk,h=>by
  simp only[mixB,Bool.and_eq_true] at hB;obtain⟨o,a1,ho,hf,h⟩:=h;have hr:i∈Region.ready md aq af:=by simpa using hB.1.1.2
  exact XS (by simpa using hB.1.1.1) ho (Region.noSelect_spec hs) l.length af Kp a a1 w (Region.free_spec ho hB.1.2) aA hr hf hk (vS hs l _ Kp a1 w hB.2 (aA.set hr) hk h)
 | (i,Aw)::l,af,Kp,a,w,hB,aA,hk,h=>by
  simp only[mixB,Bool.and_eq_true,decide_eq_true_eq] at hB;refine⟨fun h1=>(by rw[hB.1] at h1;cases h1),fun j hj=>?_⟩;rw[hB.1] at hj;have BJ:j=i:=by simpa using hj
  subst BJ;exact Xv (fun a' w' ⟨i5,pG,en,h3⟩=>⟨i5,pG,en,vS hs l _ i5 a' w' hB.2 (aA.set (by rw[hB.1];simp)) en h3⟩) h
def uI(l:List (Nat×Bool)):List Nat:=l.filterMap fun x=>if x.2 then J x.1 else Z
theorem JM:Closed md aq (Array.replicate aq.size Aw):=fun j _ _ h=>by rw[RN] at h;cases h
def Qj(md:Region.Mode)(aq:Array Oper)(l:List (Nat×Bool)):Bool:=Region.noSelect aq&&mixB md aq (uI l) l (Array.replicate aq.size Aw)&&l.length==aq.size
theorem any_mix{Q:Exit->Act->Ba->Prop}{a:Act}{w:Ba}{xs:List Oper}(l:List (Nat×Bool))(Kp:Ba->Prop)(hB:Qj .any xs.toArray l=Av)
  (h0:Kp w) (h:kW P .any xs.toArray (uI l) (fun a' w'=>Q .normal a' w') l Kp a w):wpAny P .any xs.toArray Q xs.toArray.size (Array.replicate xs.toArray.size Aw) a w:=by
 unfold Qj at hB;simp only[Bool.and_eq_true,beq_iff_eq] at hB;have:=vS (md:=.any) hB.1.1 l _ Kp a w hB.1.2 JM h0 h;rw[hB.2] at this;exact vR (fun _ _ h=>h) _ _ _ _ _ this
theorem zr{id:Nat}{Q:Exit->Act->Ba->Prop}{a:Act}{w:Ba}{xs:List Oper}(l:List (Nat×Bool))(Kp:Ba->Prop)(hm:P.follows .mixedOrders=Av)(hB:Qj .any xs.toArray l=Av)
  (h0:Kp w.drew) (h:kW P .any xs.toArray (uI l) (fun a' w'=>Q .normal a' w') l Kp a w.drew):(Code.region id xs.toArray Av).wp P Q a w:=
 wp_region_any hm (any_mix l Kp hB h0 h)
theorem zS{id k l0:Nat}{Q:Exit->Act->Ba->Prop}{a:Act}{w:Ba}{xs:List Oper}(l:List (Nat×Bool))(Kp:Ba->Prop)(hm:P.follows .mixedOrders=Av)(hd:Zz xs.toArray=Av)(hB:Qj .any xs.toArray l=Av)(nc:¬LetsOut Q)
  (h0:Kp w.drew) (h:kW P .any xs.toArray (uI l) (fun a' w'=>Q .normal a' w') l Kp a w.drew):(Code.region id xs.toArray Av).wpIn (Fence.wide.inRound l0) k P Q a w:=
 wpIn_region_any hm (jr hd nc _ _ _ _ (any_mix l Kp hB h0 h))
theorem zk{F:List Nat}{Q:Act->Ba->Prop}{i:Nat}{r:List (Nat×Bool)}{Kp:Ba->Prop}{a a1:Act}{w:Ba}{o:Oper}(ho:aq[i]?=J o)
  (h:∀(K:Act->Prop),K a1->∀W,Kp W->if Region.wanted o (yielded aq a.tmps)=Av then o.still P a W K else K (a.put o.dst undef))
  (k:kW P md aq F Q r Kp a1 w):kW P md aq F Q ((i,Av)::r) Kp a w:=by
 refine⟨o,a1,ho,fun W hW=>?_,k⟩;have h2:=h (fun x=>x=a1) rfl W hW;have h3:stOp P aq W i (fun x=>x=a1) a:=by unfold stOp;simp only[ho];exact h2
 obtain⟨v,hv,he⟩:=yieldsAt_of_stOp ho h3;exact⟨v,hv,he⟩
theorem zu{F:List Nat}{Q:Act->Ba->Prop}{i:Nat}{r:List (Nat×Bool)}{Kp:Ba->Prop}{a:Act}{w:Ba}{o:Oper}(ho:aq[i]?=J o)
  (h:∀K:Act->Ba->Prop,(∀a' w',Kp w'->kW P md aq F Q r Kp a' w'->K a' w')->if Region.wanted o (yielded aq a.tmps)=Av then o.wp P a w K Qf else K (a.put o.dst undef) w):kW P md aq F Q ((i,Aw)::r) Kp a w:=
 ⟨o,ho,h _ fun _ _ hk h3=>⟨Kp,.inl fun _ h=>h,hk,h3⟩⟩
theorem zz{F:List Nat}{Q:Act->Ba->Prop}{Kp:Ba->Prop}{a:Act}{w:Ba}(h:Q a w):kW P md aq F Q [] Kp a w:=h
theorem yd{F:List Nat}{Q:Act->Ba->Prop}{i:Nat}{r:List (Nat×Bool)}{Kp:Ba->Prop}{a:Act}{w:Ba}{o:Oper}(ho:aq[i]?=J o)(hs:QN md aq F i=Av)
  (h:∀K:Act->Ba->Prop,(∀(i5:Ba->Prop) a' w',i5 w'->kW P md aq F Q r i5 a' w'->K a' w')->if Region.wanted o (yielded aq a.tmps)=Av then o.wp P a w K Qf else K (a.put o.dst undef) w):kW P md aq F Q ((i,Aw)::r) Kp a w:=
 ⟨o,ho,h _ fun i5 _ _ hk h2=>⟨i5,.inr hs,hk,h2⟩⟩
end
end
section
open Go.RowKit
def yj(a:Ad):Nat->Int->Nat
 | 0,_=>1
 | k+1,s=>((a.at_ s).map fun m=>yj a k m.to).sum
def xa(L x:Nat):Nat:=min x (L+1)
def cl(a:Ad)(L k s:Nat):List Int:=(List.range s).map fun (j:Nat)=>((xa L (yj a k (j:Int)):Nat):Int)
theorem jA(a:Ad)(L k s:Nat):(cl a L k s).length=s:=by unfold cl;simp
theorem cl_succ(a:Ad)(L k s:Nat):cl a L k (s+1)=cl a L k s++[((xa L (yj a k (s:Int)):Nat):Int)]:=by
 unfold cl;rw[P4,LF];rfl
theorem YF(a:Ad)(L k s j:Nat)(h:j<(cl a L k s).length):(cl a L k s)[j]=((xa L (yj a k (j:Int)):Nat):Int):=by
 simp[cl]
def kZ(a:Ad)(k:Nat)(M:List Mv)(j:Nat):Nat:=((M.take j).map fun m=>yj a k m.to).sum
theorem sumTo_zero(a:Ad)(k:Nat)(M:List Mv):kZ a k M 0=0:=by unfold kZ;rw[Pu];rfl
theorem sumTo_succ(a:Ad)(k:Nat)(M:List Mv){j:Nat}(h:j<M.length):kZ a k M (j+1)=kZ a k M j+yj a k M[j].to:=by
 unfold kZ;rw[Ls h,LF,Sp];simp
theorem sumTo_end(a:Ad)(k:Nat){s:Nat}(h:s<a.sts.length):kZ a k a.sts[s] (a.sts[s].length)=yj a (k+1) (s:Int):=by
 unfold kZ;rw[yj,LK,show a.at_ (s:Int)=a.sts[s] by unfold Ad.at_;rw[Lm,Lf,Li h];rfl]
theorem wk(L x:Nat):xa L x<=L+1:=Nat.min_le_right _ _
theorem sat_add(L x y:Nat):min (xa L x+xa L y) (L+1)=xa L (x+y):=by unfold xa;omega
theorem QO(L:Nat):xa L 0=0:=by unfold xa;omega
theorem sat_one(L:Nat):xa L 1=1:=by unfold xa;omega
theorem sat_gt(L x:Nat):(L<xa L x)↔L<x:=by unfold xa;omega
theorem sat_eq{L x:Nat}(h:x<=L):xa L x=x:=by unfold xa;omega
theorem sat_mul(L c x:Nat)(hc:1<=c):(L<c*xa L x)↔L<c*x:=by
 unfold xa
 by_cases h:x<=L+1
 . rw[RK h]
 rw[Nat.min_eq_right (by omega)];have h1:1*(L+1)<=c*(L+1):=RQ _ hc;have h2:c*(L+1)<=c*x:=Nat.mul_le_mul_left _ (by omega);constructor<;>intro _<;>omega
def zL(a:Ad):Nat->Int->List (List Rd)
 | 0,_=>[[]]
 | k+1,s=>(a.at_ s).flatMap fun m=>(zL a k m.to).map (m.r::·)
theorem yK(a:Ad):∀(k:Nat) (s:Int),(zL a k s).length=yj a k s
 | 0,_=>rfl
 | k+1,s=>by
  rw[zL,yj,List.length_flatMap]
  congr 1
  exact Ps fun m _=>by rw[LG,yK a k m.to]
theorem xy(a:Ad):∀(k:Nat) (s:Int),∀w∈zL a k s,w.length=k
 | 0,_,w,h=>by simp[zL] at h;subst h;rfl
 | k+1,s,w,h=>by
  rw[zL] at h;obtain⟨m,_,hm⟩:=Nw.1 h;obtain⟨w',hw,rfl⟩:=LS.1 hm;rw[Lx,xy a k m.to w' hw]
theorem at_mem{a:Ad}{s:Int}{m:Mv}(h:m∈a.at_ s):m∈a.mvs:=by
 unfold Ad.at_ at h;unfold Ad.mvs;rw[Lf] at h
 cases hc:a.sts[s.toNat]? with
 | none=>rw[hc] at h;cases h
 | some l=>rw[hc] at h;exact NG.2 ⟨l,RT hc,h⟩
theorem ju(a:Ad):∀(k:Nat) (s:Int),∀w∈zL a k s,∀r∈w,∃m∈a.mvs,m.r=r
 | 0,_,w,h,r,hr=>by simp[zL] at h;subst h;cases hr
 | k+1,s,w,h,r,hr=>by
  rw[zL] at h;obtain⟨m,hma,hm⟩:=Nw.1 h;obtain⟨w',hw,rfl⟩:=LS.1 hm;rcases L9.1 hr with rfl | hr
  . exact⟨m,at_mem hma,rfl⟩
  . exact ju a k m.to w' hw r hr
def yh(r:Rd)(p:Nat)(now:List Int)(q:Nat):Int:=if q<now.length/\(r.h p).toNat.testBit q=Av then now.getD q 0 else -1
def qn(r:Rd)(k p:Nat)(now:List Int):Vw:=⟨p,k,0,yh r p now 0,yh r p now 1,yh r p now 2,yh r p now 3,yh r p now 4⟩
def yR(p:Nat)(i:Int):Vw:=⟨p,0,i,-1,-1,-1,-1,-1⟩
def qd(vs:List Vw)(v:Vw):List Vw×Int:=if v∈vs then (vs,kJ vs v) else (vs++[v],vs.length)
theorem QZ{vs:List Vw}{v:Vw}(h:v∈vs):qd vs v=(vs,kJ vs v):=Lj h
theorem putW_no{vs:List Vw}{v:Vw}(h:v∉vs):qd vs v=(vs++[v],(vs.length:Int)):=Lg h
theorem putW_len(vs:List Vw)(v:Vw):(qd vs v).1.length<=vs.length+1:=by
 unfold qd;split<;>simp
def yx(f:Nat->Vw)(vs:List Vw):Nat->List Vw×List Int
 | 0=>(vs,[])
 | p+1=>((qd (yx f vs p).1 (f p)).1,(yx f vs p).2++[(qd (yx f vs p).1 (f p)).2])
theorem xI(f:Nat->Vw)(vs:List Vw):∀p,(yx f vs p).2.length=p
 | 0=>rfl
 | p+1=>by rw[yx,Lr,xI f vs p];rfl
theorem jd(f:Nat->Vw)(vs:List Vw):∀p,(yx f vs p).1.length<=vs.length+p
 | 0=>by simp[yx]
 | p+1=>by
  have h:=jd f vs p;have h2:=putW_len (yx f vs p).1 (f p);rw[yx];dsimp only;omega
def zC(vs:List Vw)(n:Nat)(inp:List Int)(word:List Rd):Nat->List Vw×List (List Int)
 | 0=>((yx (fun p=>yR p (inp.getD p 0)) vs n).1,[(yx (fun p=>yR p (inp.getD p 0)) vs n).2])
 | j+1=>((yx (fun p=>qn (word.getD j default) (j+1) p ((zC vs n inp word j).2.getD j [])) (zC vs n inp word j).1 n).1,
   (zC vs n inp word j).2++[(yx (fun p=>qn (word.getD j default) (j+1) p ((zC vs n inp word j).2.getD j [])) (zC vs n inp word j).1 n).2])
theorem yH(vs:List Vw)(n:Nat)(inp:List Int)(word:List Rd):∀j,(zC vs n inp word j).2.length=j+1
 | 0=>rfl
 | j+1=>by rw[zC,Lr,yH vs n inp word j];rfl
theorem jf(vs:List Vw)(n:Nat)(inp:List Int)(word:List Rd):∀j,(zC vs n inp word j).1.length<=vs.length+(j+1)*n
 | 0=>by rw[zC];have:=jd (fun p=>yR p (inp.getD p 0)) vs n;simpa using this
 | j+1=>by
  have h:=jf vs n inp word j;have h2:=jd (fun p=>qn (word.getD j default) (j+1) p ((zC vs n inp word j).2.getD j [])) (zC vs n inp word j).1 n;rw[zC,Rr (j+1) 1 n];dsimp only;omega
theorem ko(vs:List Vw)(n:Nat)(inp:List Int)(word:List Rd):∀j,∀l∈(zC vs n inp word j).2,l.length=n
 | 0,l,h=>by rw[zC] at h;simp at h;subst h;exact xI _ _ _
 | j+1,l,h=>by
  rw[zC] at h;rcases LX.1 h with h | h
  . exact ko vs n inp word j l h
  . simp at h;subst h;exact xI _ _ _
def zE(p:Pb):List (Nat×List Rd):=(List.range p.t.cases.length).flatMap fun i=>(zL p.a p.k.toNat 0).map fun w=>(i,w)
def yA(p:Pb)(i:Nat):List Int:=(p.t.cases.getD i default).inp
def zI(p:Pb)(l:List (Nat×List Rd)):List Vw×List Exn:=
 l.foldl (fun s x=>((zC s.1 p.t.n.toNat (yA p x.1) x.2 x.2.length).1,s.2++[⟨x.1,x.2,(zC s.1 p.t.n.toNat (yA p x.1) x.2 x.2.length).2⟩])) ([],[])
theorem jQ(p:Pb):zI p []=([],[]):=rfl
theorem qw(p:Pb)(l:List (Nat×List Rd))(x:Nat×List Rd):zI p (l++[x]) =
  ((zC (zI p l).1 p.t.n.toNat (yA p x.1) x.2 x.2.length).1,(zI p l).2++[⟨x.1,x.2,(zC (zI p l).1 p.t.n.toNat (yA p x.1) x.2 x.2.length).2⟩]):=by
 unfold zI;rw[Pp];rfl
def qo:Sy:=⟨⟨⟨0,0,0,[]⟩,⟨0,[]⟩,0⟩,0,[],[]⟩
def qM(p:Pb):Sy:=⟨p,p.t.n,(zI p (zE p)).1,(zI p (zE p)).2⟩
end
section
open Go.RowKit
def RowX{α:Type}(C:Ct α)(S:Nat->Prop)(w:Ba)(g:Nat)(xs:List α):Prop:=
 ∃fW,w.heap[g]?=J (Ag fW C.K.e (0,0))/\∀(i:Nat) (hi:i<xs.length),∃cs,C.lies (fun k=>S k/\k≠g) w cs xs[i]/\∀j u,cs[j]?=J u->fW[i*C.K.size+j]?=J u
section
variable {α:Type} {C:Ct α} {S S':Nat->Prop} {w w':Ba} {g:Nat} {xs:List α}
theorem RowX.keep(ok:CtOk C)(h:RowX C S w g xs)(hk:KeepB (fun k=>S k/\k≠g) w w')(hg:w'.heap[g]?=w.heap[g]?):RowX C S w' g xs:=by
 obtain⟨fW,h1,h2⟩:=h;refine⟨fW,hg.trans h1,fun i hi=>?_⟩;obtain⟨cs,h3,h4⟩:=h2 i hi;exact⟨cs,ok.keep h3 hk,h4⟩
theorem RowX.below(ok:CtOk C){B:Nat}(h:RowX C S w g xs)(hb:Am B w w')(hB:w.heap.size<=B):RowX C S w' g xs:=
 h.keep ok ⟨hb.size,fun k _ hk=>hb.block k (by omega)⟩ (hb.block g (by obtain⟨fW,h1,_⟩:=h;have:=zj h1;omega))
theorem RowX.mono(ok:CtOk C)(h:RowX C S w g xs)(hm:∀k,k<w.heap.size->S k->S' k):RowX C S' w g xs:=by
 obtain⟨fW,h1,h2⟩:=h;refine⟨fW,h1,fun i hi=>?_⟩;obtain⟨cs,h3,h4⟩:=h2 i hi;exact⟨cs,ok.mono h3 fun k hk hs=>⟨hm k hk hs.1,hs.2⟩,h4⟩
theorem RowX.lt(h:RowX C S w g xs):g<w.heap.size:=by obtain⟨fW,h1,_⟩:=h;exact zj h1
theorem RowX.other(ok:CtOk C)(h:RowX C S w g xs){b:Nat}(o:Nat)(v:Au)(hb:b≠g)(hS:¬S b):RowX C S (w.setCell ⟨b,o,Z⟩ v) g xs:=
 h.keep ok (KeepB.setCell (fun h=>hS h.1) v) (Le w ⟨b,o,Z⟩ v g (fun e=>hb e.symm))
theorem RowX.of_own(ok:CtOk C){base n cap:Nat}{v:Au}{cs:List Au}(h:OwnR C.K w base v n cs)(hv:v=I (J ⟨g,0,Z⟩) n cap)(_hn:xs.length=n)
  (hc:∀(i:Nat) (hi:i<xs.length),∃d,C.lies (fun k=>S k/\k≠g) w d xs[i]/\∀j u,d[j]?=J u->cs[i*C.K.size+j]?=J u):RowX C S w g xs:=by
 have:=ok;subst hv;rcases h.2 with ⟨e,_⟩ | ⟨g',ap,cur,e,_,hg,_,_,_,ht⟩
 . cases e
 cases e
 refine⟨cur,hg,fun i hi=>?_⟩;obtain⟨d,h1,h2⟩:=hc i hi;refine⟨d,h1,fun j u hu=>?_⟩;have h3:=h2 j u hu;rw[<-ht,NY] at h3
 split at h3
 . simpa using h3
 cases h3
end
theorem RowX.set3{S:Nat->Prop}{w:Ba}{g:Nat}{xs:List Cs}(h:RowX cCs S w g xs){i:Nat}(hi:i<xs.length){v0 v1 v2:Au}(hl:cCs.lies (fun k=>S k/\k≠g) w [v0,v1,v2] xs[i]) :
  RowX cCs S (((w.setCell ⟨g,i*3,Z⟩ v0).setCell ⟨g,i*3+1,Z⟩ v1).setCell ⟨g,i*3+2,Z⟩ v2) g xs:=by
 obtain⟨fW,h1,h2⟩:=h;have k1:=Lk w g (i*3) fW _ v0 h1;have k2:=Lk _ g (i*3+1) _ _ v1 k1;have k3:=Lk _ g (i*3+2) _ _ v2 k2
 have hk:KeepB (fun k=>S k/\k≠g) w (((w.setCell ⟨g,i*3,Z⟩ v0).setCell ⟨g,i*3+1,Z⟩ v1).setCell ⟨g,i*3+2,Z⟩ v2):=
  ((KeepB.setCell (a:=⟨g,i*3,Z⟩) (fun h=>h.2 rfl) v0).trans (KeepB.setCell (a:=⟨g,i*3+1,Z⟩) (fun h=>h.2 rfl) v1)).trans (KeepB.setCell (a:=⟨g,i*3+2,Z⟩) (fun h=>h.2 rfl) v2)
 refine⟨_,k3,fun i' iV=>?_⟩
 by_cases e:i'=i
 . subst e
   obtain⟨cs,h3,h4⟩:=h2 i' iV;have ay:=qg.len h3
   have hb:i'*3+2<fW.size:=by
    have hc2:2<cs.length:=by rw[ay];show 2<3;omega
    have:=h4 2 cs[2] (Li hc2);exact(Ln.1 this).1
   refine⟨[v0,v1,v2],qg.keep hl hk,fun j u hu=>?_⟩;change (((fW.setIfInBounds (i'*3) v0).setIfInBounds (i'*3+1) v1).setIfInBounds (i'*3+2) v2)[i'*3+j]?=J u
   match j,hu with
   | 0,hu=>cases hu;rw[Nh (by omega),Nh (by omega),Py,NZ (by omega)]
   | 1,hu=>cases hu;rw[Nh (by omega),NZ (by simp;omega)]
   | 2,hu=>cases hu;rw[NZ (by simp;omega)]
 obtain⟨cs,h3,h4⟩:=h2 i' iV;refine⟨cs,qg.keep h3 hk,fun j u hu=>?_⟩;have hj:j<3:=by have:=(Lq.1 hu).1;rw[qg.len h3] at this;exact this
 have h5:=h4 j u hu;change fW[i'*3+j]?=J u at h5;change (((fW.setIfInBounds (i*3) v0).setIfInBounds (i*3+1) v1).setIfInBounds (i*3+2) v2)[i'*3+j]?=J u;rw[Nh (by omega),Nh (by omega),Nh (by omega)];exact h5
theorem RowX.set1{α:Type}{C:Ct α}(ok:CtOk C)(Uh:C.K.size=1){S:Nat->Prop}{w:Ba}{g:Nat}{xs:List α}(h:RowX C S w g xs){i:Nat}(hi:i<xs.length){v0:Au}(hl:C.lies (fun k=>S k/\k≠g) w [v0] xs[i]) :
  RowX C S (w.setCell ⟨g,i,Z⟩ v0) g xs:=by
 obtain⟨fW,h1,h2⟩:=h;have k1:=Lk w g i fW _ v0 h1;have hk:KeepB (fun k=>S k/\k≠g) w (w.setCell ⟨g,i,Z⟩ v0):=KeepB.setCell (a:=⟨g,i,Z⟩) (fun h=>h.2 rfl) v0;refine⟨_,k1,fun i' iV=>?_⟩;obtain⟨cs,h3,h4⟩:=h2 i' iV;have ay:=ok.len h3;rw[Uh] at ay
 by_cases e:i'=i
 . subst e
   have hb:i'<fW.size:=by
    have:=h4 0 cs[0] (Li (by omega));rw[Uh] at this;have:=(Ln.1 this).1;omega
   refine⟨[v0],ok.keep hl hk,fun j u hu=>?_⟩;have hj:j=0:=by have:=(Lq.1 hu).1;simp at this;omega
   subst hj
   cases hu
   rw[Uh,NT,Py,NZ hb]
 refine⟨cs,ok.keep h3 hk,fun j u hu=>?_⟩;have hj:j=0:=by have:=(Lq.1 hu).1;omega
 subst hj;have h5:=h4 0 u hu;rw[Uh,NT,Py] at h5 ⊢;rw[Nh (by omega)];exact h5
theorem RowX.cat{S:Nat->Prop}{w:Ba}{g:Nat}{xs:List Cs}(h:RowX cCs S w g xs):CAt w w.heap.size (J ⟨g,0,Z⟩) xs:=fun _=>by
 obtain⟨fW,h1,h2⟩:=h;refine⟨g,0,rfl,zj h1,fun i hi=>?_⟩;obtain⟨cs,⟨A0,c0,A1,c1,A2,c2,rfl,FF,iG,mt⟩,h4⟩:=h2 i hi;refine⟨_,_,_,?_,?_,?_,⟨A0,c0,rfl,FF.iat⟩,⟨A1,c1,rfl,iG.lat⟩,⟨A2,c2,rfl,mt.lat⟩⟩
 . rw[LI];exact zh h1 _ (h4 0 _ rfl)
 . rw[LI];exact zh h1 _ (h4 1 _ rfl)
 . rw[LI];exact zh h1 _ (h4 2 _ rfl)
theorem RowX.sat{S:Nat->Prop}{w:Ba}{g:Nat}{xs:List (List Mv)}(h:RowX cMl S w g xs):SAt w w.heap.size (J ⟨g,0,Z⟩) xs:=fun _=>by
 obtain⟨fW,h1,h2⟩:=h;refine⟨g,0,rfl,zj h1,fun i hi=>?_⟩;obtain⟨cs,⟨A0,c0,rfl,FF⟩,h4⟩:=h2 i hi;refine⟨A0,c0,?_,FF.mat⟩;have:=h4 0 _ rfl;change fW[i*1+0]?=_ at this;rw[LI];exact zh h1 _ (by rw[<-this];congr 1;omega)
theorem CAt.raw{w:Ba}{B:Nat}{A:Bb}{xs:List Cs}(h:CAt w B A xs)(hB:B<=w.heap.size):∃cs:List Au,cs.length=xs.length*3/\Raw w A xs.length cs/\(∀u∈cs,u.oneCell'=Av) /\
  ∀(i:Nat) (hi:i<xs.length),∃d,cCs.lies (fun k=>k<B) w d xs[i]/\∀j u,d[j]?=J u->cs[i*3+j]?=J u:=by
 have key:∀n,n<=xs.length->∃aW:List (List Au),aW.length=n/\(∀c∈aW,c.length=3/\∀u∈c,u.oneCell'=Av)/\∀(i:Nat) (hi:i<n) (hx:i<xs.length),∃d,aW[i]?=J d/\cCs.lies (fun k=>k<B) w d xs[i] /\
   ∀b off,A=J ⟨b,off,Z⟩->∀j u,d[j]?=J u->w.cell? ⟨b,off+(i*3+j),Z⟩=J u:=by
  intro n
  induction n with
  | zero=>exact fun _=>⟨[],rfl,by simp,fun i hi=>absurd hi (by omega)⟩
  | succ n ih=>
   intro hn;obtain⟨aW,c1,c2,c3⟩:=ih (by omega);obtain⟨b,off,A0,k0,A1,k1,A2,k2,e,hb,x0,x1,x2,i0,l1,l2⟩:=h.row n (by omega);refine⟨aW++[[I A0 xs[n].inp.length k0,I A1 xs[n].out.length k1,I A2 xs[n].calm.length k2]],by simp[c1],?_,fun i hi hx=>?_⟩
   . intro c hc
     rcases LX.1 hc with hc | hc
     . exact c2 c hc
     . simp at hc;subst hc
       exact⟨rfl,fun u hu=>by simp at hu;rcases hu with rfl | rfl | rfl<;>rfl⟩
   . by_cases ei:i<n
     . obtain⟨d,d1,d2⟩:=c3 i ei hx
       exact⟨d,by rw[LC (by omega)];exact d1,d2⟩
     . obtain rfl:i=n:=by omega
       refine⟨_,by rw[Ly (by omega),c1,Nq];rfl,⟨A0,k0,A1,k1,A2,k2,rfl,IAtS.of_iat i0 hB (fun _ h=>h),LAtS.of_lat l1 hB (fun _ h=>h),LAtS.of_lat l2 hB (fun _ h=>h)⟩,fun b' nn e' j u hu=>?_⟩;rw[e] at e';cases e'
       match j,hu with
       | 0,hu=>cases hu;exact x0
       | 1,hu=>cases hu;exact x1
       | 2,hu=>cases hu;exact x2
 obtain⟨aW,c1,c2,c3⟩:=key xs.length (Ld _);have bN:∀c∈aW,c.length=3:=fun c hc=>(c2 c hc).1
 have DZ:aW.flatten.length=xs.length*3:=by
  rw[List.length_flatten,<-c1];clear c3 c1
  induction aW with
  | nil=>rfl
  | cons c aW ih=>simp only[List.map_cons,List.sum_cons,List.length_cons];rw[ih (fun d hd=>c2 d (by simp[hd])) (fun d hd=>bN d (by simp[hd])),bN c (by simp)];omega
 refine⟨aW.flatten,DZ,fun h0=>?_,fun u hu=>?_,fun i hi=>?_⟩
 . obtain⟨b,off,e,hb,_⟩:=h h0
   refine⟨b,off,e,by omega,fun j u hj=>?_⟩;have cc:j<xs.length*3:=by rw[<-DZ];exact(Lq.1 hj).1
   have iV:j / 3<xs.length:=by omega
   obtain⟨d,d1,_,d3⟩:=c3 (j / 3) iV iV;have h8:j / 3*3+j % 3=j:=by omega
   have h9:=ZD aW bN (j / 3) (by omega) (j % 3) (by omega);rw[h8,hj] at h9;obtain⟨_,d4⟩:=Lq.1 d1;rw[d4] at h9;have:=d3 b off e (j % 3) u h9.symm;rwa[h8] at this
 . obtain⟨c,hc,hu⟩:=NG.1 hu
   exact(c2 c hc).2 u hu
 obtain⟨d,d1,d2,_⟩:=c3 i hi hi;refine⟨d,d2,fun j u hu=>?_⟩;have hj:j<3:=by have:=(Lq.1 hu).1;rw[qg.len d2] at this;exact this
 obtain⟨d5,d4⟩:=Lq.1 d1;rw[ZD aW bN i d5 j hj,d4];exact hu
theorem SAt.raw{w:Ba}{B:Nat}{A:Bb}{xs:List (List Mv)}(h:SAt w B A xs)(hB:B<=w.heap.size):∃cs:List Au,cs.length=xs.length*1/\Raw w A xs.length cs/\(∀u∈cs,u.oneCell'=Av) /\
  ∀(i:Nat) (hi:i<xs.length),∃d,cMl.lies (fun k=>k<B) w d xs[i]/\∀j u,d[j]?=J u->cs[i*1+j]?=J u:=by
 have key:∀n,n<=xs.length->∃cs:List Au,cs.length=n/\(∀u∈cs,u.oneCell'=Av)/\∀(i:Nat) (hi:i<n) (hx:i<xs.length),∃A' c,cs[i]?=J (I A' xs[i].length c)/\MAtS (fun k=>k<B) w A' xs[i] /\
   ∀b off,A=J ⟨b,off,Z⟩->w.cell? ⟨b,off+i,Z⟩=J (I A' xs[i].length c):=by
  intro n
  induction n with
  | zero=>exact fun _=>⟨[],rfl,by simp,fun i hi=>absurd hi (by omega)⟩
  | succ n ih=>
   intro hn;obtain⟨cs,c1,c2,c3⟩:=ih (by omega);obtain⟨b,off,A',c,e,hb,x0,m0⟩:=h.at_ n (by omega);refine⟨cs++[I A' xs[n].length c],by simp[c1],?_,fun i hi hx=>?_⟩
   . intro u hu
     rcases LX.1 hu with hu | hu
     . exact c2 u hu
     . simp at hu;subst hu;rfl
   . by_cases ei:i<n
     . obtain⟨A2,k2,d1,d2⟩:=c3 i ei hx
       exact⟨A2,k2,by rw[LC (by omega)];exact d1,d2⟩
     . obtain rfl:i=n:=by omega
       refine⟨A',c,by rw[Ly (by omega),c1,Nq];rfl,MAtS.of_mat m0 hB (fun _ h=>h),fun b' nn e'=>?_⟩;rw[e] at e';cases e';exact x0
 obtain⟨cs,c1,c2,c3⟩:=key xs.length (Ld _);refine⟨cs,by omega,fun h0=>?_,c2,fun i hi=>?_⟩
 . obtain⟨b,off,e,hb,_⟩:=h h0
   refine⟨b,off,e,by omega,fun j u hj=>?_⟩;have cc:j<xs.length:=by rw[<-c1];exact(Lq.1 hj).1
   obtain⟨A',c,d1,_,d3⟩:=c3 j cc cc;rw[hj] at d1;cases d1;exact d3 b off e
 obtain⟨A',c,d1,d2,_⟩:=c3 i hi hi;refine⟨[I A' xs[i].length c],⟨A',c,rfl,d2⟩,fun j u hu=>?_⟩;have hj:j=0:=by have:=(Lq.1 hu).1;simp at this;omega
 subst hj
 cases hu
 rw[NT,Py];exact d1
end
section
open Go.RowKit
attribute [local go_sem] Oper.semAt_some
theorem Zy(w:Ba)(c1:Array Au)(t1:TypeId):∃W0,(w.alloc (Ag c1 t1)).drew=W0/\W0.heap[w.heap.size]?=J (Ag c1 t1 (0,0))/\W0.heap.size=w.heap.size+1/\Am w.heap.size w W0:=
 ⟨_,rfl,zx w _,by show(w.alloc _).heap.size=_;simp,(zW w _).drew⟩
def xf(pre:List Rd)(l:List (List Rd)):List (List Rd):=l.map (pre++·)
theorem behind_nil(pre:List Rd):xf pre [[]]=[pre]:=by simp[xf]
theorem JS(pre:List Rd)(r:Rd)(l:List (List Rd)):xf pre (l.map (r::·))=xf (pre++[r]) l:=by simp[xf]
def yB(a:Ad)(k:Nat)(M:List Mv)(j:Nat):List (List Rd):=(M.take j).flatMap fun m=>(zL a k m.to).map (m.r::·)
theorem uo(a:Ad)(k:Nat)(M:List Mv):yB a k M 0=[]:=by simp[yB]
theorem qQ(a:Ad)(k:Nat)(M:List Mv){j:Nat}(h:j<M.length):yB a k M (j+1)=yB a k M j++(zL a k M[j].to).map (M[j].r::·):=by
 unfold yB;rw[Ls h,P7];simp
theorem gz(a:Ad)(k:Nat){s:Nat}(h:s<a.sts.length):yB a k a.sts[s] a.sts[s].length=zL a (k+1) (s:Int):=by
 unfold yB;rw[zL,LK,show a.at_ (s:Int)=a.sts[s] by unfold Ad.at_;rw[Lm,Lf,Li h];rfl]
theorem gx(a:Ad)(k:Nat)(M:List Mv)(j:Nat):(yB a k M j).length<=(yB a k M M.length).length:=by
 unfold yB;rw[LK]
 conv=>rhs;rw[<-PR j M,P7,Lr]
 omega
def Fx(bR bO bA bF g k:Nat):Prop:=k≠bR/\k≠bO/\k≠bA/\k≠bF/\k≠g
structure FromIn(a:Ad)(K:Nat)(SV:Bb)(ks B bR bO bA bF g:Nat)(V:Au)(pre:List Rd)(outs:List (List Rd))(w0 w:Ba):Prop where
 hR:w.heap[bR]?=J (Ag #[O U K] 3 (0,0))
 hO:w.heap[bO]?=J (Ag #[V] 113 (0,0))
 hA:w.heap[bA]?=J (Ag #[O U a.n,I SV a.sts.length ks] 27 (0,0))
 hF:w.heap[bF]?=J (Ag #[.func (.func 86) #[] #[Aj (J ⟨bR,0,Z⟩),Aj (J ⟨bO,0,Z⟩),Aj (J ⟨bA,0,Z⟩),Aj (J ⟨bF,0,Z⟩)]] 155 (0,0))
 out:OwnX cWd (Fx bR bO bA bF g) w B V outs
 ne:∀k,V.ownBlock=J k->Fx bR bO bA bF g k
 buf:OwnR kRd w B (I (J ⟨g,0,Z⟩) pre.length K) pre.length (yQ pre)
 bel:Am B w0 w
theorem FromIn.fresh{a:Ad}{K:Nat}{SV:Bb}{ks B bR bO bA bF g:Nat}{V:Au}{pre:List Rd}{outs:List (List Rd)}{w0 w:Ba}(H:FromIn a K SV ks B bR bO bA bF g V pre outs w0 w){k:Nat}(hk:w.heap.size<=k):Fx bR bO bA bF g k:=by
 have h1:=zj H.hR;have h2:=zj H.hO;have h3:=zj H.hA;have h4:=zj H.hF;have h5:=(H.buf.lt g rfl).2;exact⟨by omega,by omega,by omega,by omega,by omega⟩
structure FromB(B bR bO bA bF g:Nat):Prop where
 r:B<=bR
 o:B<=bO
 a:B<=bA
 f:B<=bF
 ro:bR≠bO
 ao:bA≠bO
 fo:bF≠bO
 gr:g≠bR
 go:g≠bO
 ga:g≠bA
 gf:g≠bF
 g:B<=g
def we(a:Ad)(K:Nat)(SV:Bb)(ks k:Nat):Prop:=∀(s:Int) (pre:List Rd) (outs:List (List Rd)) (V:Au) (B bR bO bA bF g:Nat) (w0 w:Ba),
 pre.length+k=K->(k=0\/(0<=s/\s<a.sts.length))->outs.length+(zL a k s).length<=5000->FromB B bR bO bA bF g->SAt w0 B SV a.sts->FromIn a K SV ks B bR bO bA bF g V pre outs w0 w ->
 An Al 86 #[O U s,I (J ⟨g,0,Z⟩) pre.length K,Aj (J ⟨bR,0,Z⟩),Aj (J ⟨bO,0,Z⟩),Aj (J ⟨bA,0,Z⟩),Aj (J ⟨bF,0,Z⟩)] w
  fun e w'=>(∃v,e=Ak v)/\∃V',FromIn a K SV ks B bR bO bA bF g V' pre (outs++xf pre (zL a k s)) w0 w'
theorem FromIn.push{a:Ad}{K:Nat}{SV:Bb}{ks B bR bO bA bF g:Nat}{V:Au}{pre:List Rd}{outs:List (List Rd)}{w0 w W w3:Ba}{x:List Rd}{aW:List (List Au)}{A2:Bb}{c2 g' cap:Nat}
  (H:FromIn a K SV ks B bR bO bA bF g V pre outs w0 w) (hB:FromB B bR bO bA bF g) (hw:Am w.heap.size w W) (hl:aW.length=outs.length)
  (h3:∀(i:Nat) (h1:i<aW.length) (h2:i<outs.length),cWd.lies (fun k=>Fx bR bO bA bF g k/\V.ownBlock≠J k) W aW[i] outs[i])
  (hx:RAtS (fun k=>w.heap.size<=k) W A2 x) (hxc:x.length<=c2) (hr:OwnR kWd w3 B (I (J ⟨g',0,Z⟩) (outs.length+1) cap) (outs.length+1) (aW.flatten++[I A2 x.length c2]))
  (hg:W.grownBy w3 V.ownBlock) (aI:V.ownBlock=J g'\/g'=W.heap.size) :
  FromIn a K SV ks B bR bO bA bF g (I (J ⟨g',0,Z⟩) (outs.length+1) cap) pre (outs++[x]) w0 (w3.setCell ⟨bO,0,Z⟩ (I (J ⟨g',0,Z⟩) (outs.length+1) cap)):=by
 have hlt:=H.out.lt;have pQ:g<w.heap.size:=(H.buf.lt g rfl).2;have Tp:=hw.size;have k1:=zj H.hR;have k2:=zj H.hO;have k3:=zj H.hA;have k4:=zj H.hF
 have hk:∀b,b<w.heap.size->V.ownBlock≠J b->b≠bO->(w3.setCell ⟨bO,0,Z⟩ (I (J ⟨g',0,Z⟩) (outs.length+1) cap)).heap[b]?=w.heap[b]?:=fun b h1 h0 h2=>
  (Le _ _ _ b h2).trans ((hg.block b (by omega) (fun e=>h0 e.symm)).trans (hw.block b h1))
 have rH:w3.heap[bO]?=J (Ag #[V] 113 (0,0)):=(hg.block bO (by omega) (fun e=>(H.ne bO e.symm).2.1 rfl)).trans ((hw.block bO (by omega)).trans H.hO);obtain⟨x1,x2,x3⟩:=qv rH (I (J ⟨g',0,Z⟩) (outs.length+1) cap);have hX:cWd.lies (fun k=>Fx bR bO bA bF g k/\V.ownBlock≠J k) W [I A2 x.length c2] x:=⟨A2,c2,rfl,hx.mono fun k _ hk=>⟨H.fresh hk,fun e=>by have:=(hlt k e).2;omega⟩,hxc⟩;have hO:=OwnX.app qz hl h3 hX hr hg aI;have hge:B<=g'/\g'<w3.heap.size:=hr.lt g' rfl
 have FK:Fx bR bO bA bF g g':=by
  rcases aI with e | e
  . exact H.ne g' e
  exact H.fresh (by omega)
 have Vk:V.ownBlock≠J g:=fun e=>(H.ne g e).2.2.2.2 rfl
 refine⟨(hk _ k1 (fun e=>(H.ne _ e).1 rfl) hB.ro).trans H.hR,x1,(hk _ k3 (fun e=>(H.ne _ e).2.2.1 rfl) hB.ao).trans H.hA,(hk _ k4 (fun e=>(H.ne _ e).2.2.2.1 rfl) hB.fo).trans H.hF,?_,?_,?_,?_⟩
 . refine hO.kept qz (zV w3 bO 0 _) (.inr (fun e=>?_)) (fun k e=>.inl fun hs=>?_)
   . have e2:g'=bO:=by simpa[Value.ownBlock] using e
     exact FK.2.1 e2
   cases e
   exact hs.2.1 rfl
 . intro k e
   have e2:g'=k:=by simpa[Value.ownBlock] using e
   subst e2;exact FK
 . refine((H.buf.below hw (Ld _)).kept hg (.inr (fun e=>Vk e.symm))).kept (zV w3 bO 0 _) (.inr (fun e=>?_))
   have e2:g=bO:=by simpa[Value.ownBlock] using e
   exact hB.go e2
 have h1:=hB.o;have h2:=hB.g;exact((H.bel.trans (hw.mono (by omega))).grown hg (by omega) (fun k hk=>(hlt k hk).1)).setCell (by show B<=bO;omega) _
theorem from_zero(a:Ad)(K:Nat)(hK:K<=6)(SV:Bb)(ks:Nat):we a K SV ks 0:=by
 intro s pre outs V B bR bO bA bF g w0 w H7 _ ay hB hS H;obtain rfl:K=pre.length:=by omega
 have ay:outs.length<=5000:=by omega
 have HI:=zH H;have cj:=zH hB;have r0:=zh H.hR 0 rfl;have o0:=zh H.hO 0 rfl
 have Fi:Raw w.drew (J ⟨g,0,Z⟩) pre.length (yQ pre):=by
  obtain⟨A,cap,e,_,_,h⟩:=H.buf.raw
  cases e;exact h
 have HC:=zH (XG (J ⟨g,0,Z⟩) pre.length pre.length (yQ pre) w.drew (xJ pre) Fi (vY pre) (by omega));go_enter func86,ntmps86;go_wp2_with fail;refine zr [(0,Av),(1,Av),(2,Aw),(3,Aw),(4,Aw),(5,Aw)] (fun W=>W.cell? ⟨bO,0,Z⟩=J V) (by kernel_rfl) (by kernel_rfl) (by exact o0) ?_
 repeat
  apply zk rfl
  . intro K' aa W hW
    go_simp;exact aa
 refine zu rfl ?_;intro K' aa;go_simp;refine HC.out.mono ?_;rintro e w2 ⟨v2,rfl,lJ,ae⟩;obtain⟨A2,c2,rfl,hc2,fL,mt⟩:=vX lJ;have ae:Am w.heap.size w w2:=JR ae;have mt:RAtS (fun k=>w.heap.size<=k) w2 A2 pre:=mt;have GM:=HI.out.hO;have o2:w2.cell? ⟨bO,0,Z⟩=J V:=(ae.cell (p:=⟨bO,0,Z⟩) (zj GM)).trans o0;refine aa _ _ o2 ?_;refine zu rfl ?_;intro K' aa;go_simp;have hbO2:bO<w2.heap.size:=by have:=zj GM;have:=ae.size;omega
 refine aa _ _ ((World.cell?_alloc_lt _ _ _ hbO2).trans o2) ?_;refine zu rfl ?_;intro K' aa;obtain⟨W2,dZ⟩:=Kj (w2.alloc (Ag #[I A2 pre.length c2] 124));have fm:=zx w2 (Ag #[I A2 pre.length c2] 124);have bE:Am w.heap.size w W2:=by rw[<-dZ];exact ae.alloc ae.size _
 have OD:RAtS (fun k=>w.heap.size<=k) W2 A2 pre:=by rw[<-dZ];exact mt.keep (KeepB.alloc _ _ _)
 rw[dZ] at fm ⊢;obtain⟨aW,aA,l',bN⟩:=HI.out.out.below qz bE (Ld _);have aO:B<=W2.heap.size:=by have:=cj.out.g;have:=(HI.out.buf.lt g rfl).2;have:=bE.size;omega
 refine step_appR kWd_ok (by rfl) (.tmp 14) (.tmp 17) (by rfl) B V outs.length aW.flatten (by rfl) l' w2.heap.size #[I A2 pre.length c2] (by rfl) fm rfl (by simp[Value.oneCell']) (by omega) aO _ rfl ?_;intro g' cap w3 hr bK aI VZ
 have o3:w3.cell? ⟨bO,0,Z⟩=J V:=by
  refine(LL (bK.block bO (by have:=zj GM;have:=bE.size;omega) (fun e=>?_))).trans ((bE.cell (p:=⟨bO,0,Z⟩) (zj GM)).trans o0);exact(HI.out.ne bO e.symm).2.1 rfl
 have f3:w3.frozen? ⟨bO,0,Z⟩=Aw:=by
  refine zi (cs:=#[V]) (t:=113) ((bK.block bO (by have:=zj GM;have:=bE.size;omega) (fun e=>?_)).trans ((bE.block bO (zj GM)).trans GM)) 0;exact(HI.out.ne bO e.symm).2.1 rfl
 have HP:=zH (HI.out.push cj.out bE aA bN OD hc2 hr bK aI);refine aa _ _ o3 ?_;refine yd rfl (by kernel_rfl) ?_;intro K' aa;go_simp;refine aa (fun _=>True) _ _ trivial ?_;refine zz ?_;go_simp;go_wp2_with fail;refine LP (P8 rfl _ _ _) rfl ?_;refine⟨⟨.tuple #[],rfl⟩,I (J ⟨g',0,Z⟩) (outs.length+1) cap,?_⟩;rw[show zL a 0 s=[[]] from rfl,behind_nil];exact HP.out
theorem FromIn.ext{a:Ad}{K:Nat}{SV:Bb}{ks B bR bO bA bF g:Nat}{V:Au}{pre:List Rd}{outs:List (List Rd)}{w0 w W w4:Ba}{r:Rd}
  (H:FromIn a K SV ks B bR bO bA bF g V pre outs w0 w) (hB:FromB B bR bO bA bF g) (hw:Am w.heap.size w W)
  (hr:OwnR kRd w4 B (I (J ⟨g,0,Z⟩) (pre.length+1) K) (pre.length+1) (yQ pre++r.cells.toList)) (hg:W.grownBy w4 (J g)) :
  FromIn a K SV ks B bR bO bA bF g V (pre++[r]) outs w0 w4:=by
 have pQ:g<w.heap.size:=(H.buf.lt g rfl).2;have Tp:=hw.size;have k1:=zj H.hR;have k2:=zj H.hO;have k3:=zj H.hA;have k4:=zj H.hF;have hk:∀b,b<w.heap.size->g≠b->w4.heap[b]?=w.heap[b]?:=fun b h1 h2=>(hg.block b (by omega) (fun e=>by cases e;exact h2 rfl)).trans (hw.block b h1)
 have Vk:V.ownBlock≠J g:=fun e=>(H.ne g e).2.2.2.2 rfl
 refine⟨(hk _ k1 hB.gr).trans H.hR,(hk _ k2 hB.go).trans H.hO,(hk _ k3 hB.ga).trans H.hA,(hk _ k4 hB.gf).trans H.hF,?_,H.ne,?_,?_⟩
 . exact(H.out.below qz hw (Ld _)).kept qz hg (.inr Vk) (fun k e=>.inl fun hs=>hs.2.2.2.2 (by cases e;rfl))
 . rw[Lr,vM];exact hr
 have:=hB.g;exact(H.bel.trans (hw.mono (by omega))).grown hg (by omega) (fun k hk=>by cases hk;omega)
theorem FromIn.cut{a:Ad}{K:Nat}{SV:Bb}{ks B bR bO bA bF g:Nat}{V:Au}{pre:List Rd}{outs:List (List Rd)}{w0 w:Ba}{r:Rd}
  (H:FromIn a K SV ks B bR bO bA bF g V (pre++[r]) outs w0 w):FromIn a K SV ks B bR bO bA bF g V pre outs w0 w:=by
 refine⟨H.hR,H.hO,H.hA,H.hF,H.out,H.ne,?_,H.bel⟩;have h:=H.buf;rw[vM,Lr] at h;exact h.pop (xJ pre)
theorem behind_len(pre:List Rd)(l:List (List Rd)):(xf pre l).length=l.length:=by simp[xf]
theorem YY(pre:List Rd)(l m:List (List Rd)):xf pre (l++m)=xf pre l++xf pre m:=by simp[xf]
theorem from_succ(a:Ad)(K:Nat)(SV:Bb)(ks k:Nat)(hz:zJ a a.sts=0)(hf:FewA a)(ih:we a K SV ks k):we a K SV ks (k+1):=by
 intro s pre outs V B bR bO bA bF g w0 w H7 rB ay hB hS H;have hs:0<=s/\s<a.sts.length:=rB.resolve_left (by omega);obtain⟨S,rfl⟩:=Lp hs.1;have pW:S<a.sts.length:=by omega
 have HI:=zH H;have cj:=zH hB;have HIH:=zH ih;have cW:=zH hS;have HZ:=zH (@xL a hz);have tO:=hf.each (Lh pW);have oX:=zH (gz a k pW);have lU:=zH ay;have Cd:=zH (fun (m:Mv) (hm:m∈a.sts[S])=>(NG.2 ⟨_,Lh pW,hm⟩:m∈a.mvs));have r0:=zh H.hR 0 rfl;have a1:=zh H.hA 1 rfl;obtain⟨bs,os,A',rf,Ip,aO,s0,Gd⟩:=(hS.keep H.bel).at_ S pW;have hsv:SV.map (fun x=>x)=J ⟨bs,os,Z⟩:=by rw[Ip];rfl
 have Di:As (∀W,Am B w0 W->MAt W B A' a.sts[S]):=by
  intro W hW;obtain⟨bs2,os2,A2,cs2,Ot,_,s2,AD⟩:=(hS.keep hW).at_ S pW;rw[Ip] at Ot
  cases Ot
  have e1:=(hS.keep H.bel).at_ S pW;obtain⟨bs3,os3,A3,cs3,Oq,FU,s3,hM3⟩:=hS.at_ S pW;rw[Ip] at Oq
  cases Oq
  have x1:=(H.bel.cell (p:=⟨bs,os+S,Z⟩) FU).trans s3;have x2:=(hW.cell (p:=⟨bs,os+S,Z⟩) FU).trans s3;rw[x1] at s0
  cases s0
  exact hM3.keep hW
 clear hsv Gd hS;subst Ip;obtain⟨M,hM⟩:=Kj (a.sts[S]);rw[hM] at s0 Di oX Cd tO;have e0:((pre.length:Int)==(K:Int))=Aw:=by simp;omega
 have av:(S:Int)<(a.sts.length:Int):=by omega
 have cM:(0:Int)<=(S:Int):=by omega
 clear H hB hM hz hf ih hs rB;go_enter func86,ntmps86;go_wp2_with fail;clear r0 a1 s0 e0
 go_loopw [25] (fun i wr=>∃(j:Nat) (V':Au),j<=M.length/\i=O U (j:Int)/\As (FromIn a K (J ⟨bs,os,Z⟩) ks B bR bO bA bF g V' pre (outs++xf pre (yB a k M j)) w0 wr)) (fun i _=>M.length-(Ar i).toNat)
 case atStart=>exact⟨0,V,by omega,rfl,by rw[uo,show xf pre []=[] from rfl,Nk];exact HI.out⟩
 obtain⟨j,V',hj,rfl,HJ⟩:=hrel
 by_cases cc:j<M.length
 case neg=>
  obtain rfl:j=M.length:=by omega
  go_wp2_with fail
  go_end0
  refine⟨⟨.tuple #[],rfl⟩,V',?_⟩;rw[<-oX.out];exact HJ.out
 obtain⟨bm,om,e1,hbm,m0,m1,m2,m3,m4,m5,m6,m7⟩:=(Di.out _ HJ.out.bel).row j cc;subst e1;have DW:(0:Int)<=(j:Int):=by omega
 have BK:(j:Int)<(M.length:Int):=by omega
 have HF:=HJ.out.hF;have f0:=zh HF 0 rfl;have hbFl:bF<wr.heap.size:=zj HF;have iD:=Cd.out M[j] (Lh cc);obtain⟨z1,z2,z3,z4⟩:=HZ.out _ iD;have dy:=zH (qQ a k M cc);have iF:=gx a k M (j+1);rw[qQ a k M cc,Lr,LG] at iF;obtain⟨m,Ms⟩:=Kj (M[j]);rw[Ms] at m0 m1 m2 m3 m4 m5 m6 m7 iD z1 z2 z3 z4 dy iF
 have sW:(outs++xf pre (yB a k M j)).length+(zL a k m.to).length<=5000:=by
  have:=lU.out;rw[<-oX.out] at this;rw[Lr,behind_len];omega
 have HL5:=zH sW;have HZ3:=zH z3;have HZ4:=zH z4;clear Ms iF z1 z2 z3 z4 sW iD Cd HZ lU HI Di oX;go_wp2_with fail;clear m0 m1 m2 m3 m4 m5 m6 m7;obtain⟨W1,dj,g0,eh,aV⟩:=zn wr m.cells 78;unfold Mv.cells at dj;rw[dj];clear dj;have f1:=(aV.cell (p:=⟨bF,0,Z⟩) hbFl).trans f0;have dC:=(HJ.out.buf.lt g rfl).2;have WE:=cj.out.gf;have hpK:pre.length+1<=K:=by omega
 have VG:(pre++[m.r]).length+k=K:=by rw[Lr,Nm];omega
 have hGN:wr.heap.size<W1.heap.size:=by omega
 have hD:=zH g0
 refine zr [(0,Av),(1,Av),(2,Av),(3,Av),(4,Av),(5,Av),(6,Aw),(7,Aw),(8,Aw)]
  (fun W=>W.cell? ⟨bF,0,Z⟩=J (.func (.func 86) #[] #[Aj (J ⟨bR,0,Z⟩),Aj (J ⟨bO,0,Z⟩),Aj (J ⟨bA,0,Z⟩),Aj (J ⟨bF,0,Z⟩)])/\W.heap[wr.heap.size]?=J (Ag m.cells 78 (0,0)))
  (by kernel_rfl) (by kernel_rfl) ⟨f1,g0⟩ ?_
 clear f0
 repeat
  apply zk rfl
  . rintro K' aa W ⟨y0,y1⟩
    have g1:W.cell? ⟨wr.heap.size,0,Z⟩=J (O U m.r.n):=zh y1 0 rfl;have g2:W.cell? ⟨wr.heap.size,1,Z⟩=J (O U m.r.h0):=zh y1 1 rfl;have g3:W.cell? ⟨wr.heap.size,2,Z⟩=J (O U m.r.h1):=zh y1 2 rfl;have g4:W.cell? ⟨wr.heap.size,3,Z⟩=J (O U m.r.h2):=zh y1 3 rfl;have g5:W.cell? ⟨wr.heap.size,4,Z⟩=J (O U m.r.h3):=zh y1 4 rfl;have g6:W.cell? ⟨wr.heap.size,5,Z⟩=J (O U m.r.h4):=zh y1 5 rfl;have g7:W.cell? ⟨wr.heap.size,6,Z⟩=J (O U m.r.f):=zh y1 6 rfl;have g8:W.cell? ⟨wr.heap.size,7,Z⟩=J (O U m.to):=zh y1 7 rfl;clear y1;go_simp;exact aa
 refine zu rfl ?_;intro K' aa;go_simp;obtain⟨W2,dZ,d0,ee,Gg⟩:=Zy W1 m.r.cells 76;unfold Rd.cells at dZ;rw[dZ];have g2:=Lb Gg hGN hD.out;have f2:=(Gg.cell (p:=⟨bF,0,Z⟩) (by show bF<W1.heap.size;omega)).trans f1;refine aa _ _ ⟨f2,g2⟩ ?_;have hBW:Am wr.heap.size wr W2:=aV.trans (Gg.mono (by omega));refine zu rfl ?_;intro K' aa;rw[Lj (by rfl)];refine wp_fitR Qo (.tmp 32) (.tmp 35) (by rfl) B g pre.length K (yQ pre) (by rfl) (HJ.out.buf.below hBW (Ld _)) (wr.heap.size+1) m.r.cells (by rfl) (eh▸d0) rfl (by simp[Rd.cells,Value.oneCell']) hpK ?_;intro W3 hr iH;have HX:=zH (HJ.out.ext cj.out hBW hr iH);have g3:=(iH.block _ (by omega) (fun e=>by cases e;omega)).trans g2;have f3:=(LL (iH.block bF (by omega) (fun e=>by cases e;exact WE rfl))).trans f2;refine aa _ _ ⟨f3,g3⟩ ?_;refine yd rfl (by kernel_rfl) ?_;intro K' aa;go_simp;have HC:=HIH.out m.to (pre++[m.r]) (outs++xf pre (yB a k M j)) V' B bR bO bA bF g w0 W3 VG (.inr ⟨HZ3.out,HZ4.out⟩) HL5.out cj.out cW.out HX.out;rw[Lr,Nm] at HC;refine HC.mono ?_;rintro e w4 ⟨⟨v4,rfl⟩,V4,H4⟩;have H5:=zH H4.cut;rw[L6,<-JS,<-YY,<-dy.out] at H5;refine aa (fun _=>True) _ _ trivial ?_;refine zz ?_;go_wp2_with fail
 go_roundw
 case rel=>exact⟨j+1,V4,by omega,by go_num,H5⟩
 simp[Ar];omega
theorem JC(a:Ad)(K:Nat)(hK:K<=6)(SV:Bb)(ks:Nat)(hz:zJ a a.sts=0)(hf:FewA a):∀k,we a K SV ks k
 | 0=>from_zero a K hK SV ks
 | k+1=>from_succ a K SV ks k hz hf (JC a K hK SV ks hz hf k)
theorem grow_grow{W w w':Ba}{r r':Option Nat}(h:W.grownBy w r)(hg:w.grownBy w' r')(hr:∀k,r'=J k->k<W.heap.size->r=J k):W.grownBy w' r:=
 ⟨hg.os.trans h.os,hg.tape.trans h.tape,hg.output.trans h.output,Lu h.size hg.size,fun k hk hn=>(hg.block k (LH hk h.size) (fun e=>hn (hr k e.symm hk).symm)).trans (h.block k hk hn)⟩
theorem grow_below{W w w':Ba}{r:Option Nat}(h:W.grownBy w r)(hb:Am w.heap.size w w'):W.grownBy w' r:=
 ⟨hb.os.trans h.os,hb.tape.trans h.tape,hb.output.trans h.output,Lu h.size hb.size,fun k hk hn=>(hb.block k (LH hk h.size)).trans (h.block k hk hn)⟩
def jt(a:Ad)(SV:Bb)(ks k:Nat):Prop:=∀(s:Int) (w:Ba),(k=0\/(0<=s/\s<a.sts.length))->(zL a k s).length<=5000->SAt w w.heap.size SV a.sts ->
 An Al 137 #[Ai #[O U a.n,I SV a.sts.length ks],O U s,O U k] w fun e w'=>∃v,e=Ak v/\OwnX cWd (fun b=>w.heap.size<=b) w' w.heap.size v (zL a k s)/\Am w.heap.size w w'
theorem fromR_zero(a:Ad)(SV:Bb)(ks:Nat):jt a SV ks 0:=by
 intro s w _ _ _;go_enter func137,ntmps137;go_wp2_with fail;obtain⟨w1,ab,d0,d1,av,lj⟩:=yI w #[O U a.n,I SV a.sts.length ks] #[I Z 0 0] 27 124;rw[ab];go_ret;refine⟨_,rfl,⟨[[I Z 0 0]],rfl,?_,?_⟩,lj⟩
 . exact OwnR.of_block (K:=kWd) (n:=1) d1 (by omega) rfl (by unfold maxLen;omega)
 intro i h1 h2;obtain rfl:i=0:=by simp at h1;omega
 exact⟨Z,0,rfl,RAtS.nil _ _ _,Ld _⟩
theorem fromR_succ(a:Ad)(SV:Bb)(ks k:Nat)(CK:k<=6)(hz:zJ a a.sts=0)(hf:FewA a)(ih:jt a SV ks k):jt a SV ks (k+1):=by
 intro s w rB ay hS;have hs:0<=s/\s<a.sts.length:=rB.resolve_left (by omega);obtain⟨S,rfl⟩:=Lp hs.1;have pW:S<a.sts.length:=by omega
 have HIH:=zH ih;have HZ:=zH (@xL a hz);have tO:=hf.each (Lh pW);have oX:=zH (gz a k pW);have lU:=zH ay;have Cd:=zH (fun (m:Mv) (hm:m∈a.sts[S])=>(NG.2 ⟨_,Lh pW,hm⟩:m∈a.mvs));have HS:=zH hS;obtain⟨bs,os,A',rf,Ip,aO,s0,Gd⟩:=hS.at_ S pW;subst Ip;have Di:=zH Gd;obtain⟨M,hM⟩:=Kj (a.sts[S]);rw[hM] at s0 Di oX Cd tO;have e0:(((k+1:Nat):Int)==0)=Aw:=by simp;omega
 have ab:IntKind.i64.wrap (((k+1:Nat):Int)-1)=(k:Int):=by rw[Lo];omega
 have av:(S:Int)<(a.sts.length:Int):=by omega
 have cM:(0:Int)<=(S:Int):=by omega
 obtain⟨K,hK⟩:∃K:Int,((k+1:Nat):Int)=K:=⟨_,rfl⟩;rw[hK] at e0 ab ⊢;go_enter func137,ntmps137;go_wp2_with fail;obtain⟨w1,dj,d0,eh,aV⟩:=zn w #[O U a.n,I (J ⟨bs,os,Z⟩) a.sts.length ks] 27;rw[dj];have du:=zH d0;have ib:=zH aV;clear d0 aV e0
 go_loopw [7,8] (fun o i wr=>∃j:Nat,j<=M.length/\i=O U (j:Int)/\As (OwnX cWd (fun b=>w.heap.size<b) wr (w.heap.size+1) o (yB a k M j))/\As (Am w1.heap.size w1 wr)) (fun _ i _=>M.length-(Ar i).toNat)
 case atStart=>exact⟨0,by omega,rfl,by rw[uo];exact OwnX.nil _ _ _ _,Ll _ _⟩
 obtain⟨j,hj,rfl,HO,fg⟩:=hrel;have D0:=Lb fg.out (by omega) du.out;have q1:=zh D0 1 rfl;have aY:=fg.out.size;have s1:wr.cell? ⟨bs,os+S,Z⟩=J (I A' M.length rf):=((ib.out.trans (fg.out.mono (by omega))).cell (p:=⟨bs,os+S,Z⟩) aO).trans s0
 by_cases cc:j<M.length
 case neg=>
  obtain rfl:j=M.length:=by omega
  go_wp2_with fail;go_ret;refine⟨_,rfl,?_,ib.out.trans (fg.out.mono (by omega))⟩;rw[<-oX.out];exact(HO.out.mono qz fun b _ hb=>by omega).low (by omega)
 obtain⟨bm,om,e1,hbm,m0,m1,m2,m3,m4,m5,m6,m7⟩:=(Di.out.keep (ib.out.trans (fg.out.mono (by omega)))).row j cc;subst e1;have DW:(0:Int)<=(j:Int):=by omega
 have BK:(j:Int)<(M.length:Int):=by omega
 have q0:=zh D0 0 rfl;have pQ:w.heap.size<wr.heap.size:=by omega
 have iD:=Cd.out M[j] (Lh cc);obtain⟨z1,z2,z3,z4⟩:=HZ.out _ iD;have cW:=zH (qQ a k M cc);have iF:=gx a k M (j+1);rw[qQ a k M cc,Lr,LG] at iF;obtain⟨m,Ms⟩:=Kj (M[j]);rw[Ms] at m0 m1 m2 m3 m4 m5 m6 m7 iD z1 z2 z3 z4 cW iF
 have sW:(yB a k M j).length+(zL a k m.to).length<=5000:=by
  have:=lU.out;rw[<-oX.out] at this;omega
 have HC:=zH (fun (W:Ba) (hW:Am wr.heap.size wr W)=>HIH.out m.to W (.inr ⟨z3,z4⟩) (by omega) (((HS.out.keep (ib.out.trans ((fg.out.trans (hW.mono aY)).mono (by omega)))).more (by have:=hW.size;omega))));clear Ms iF z1 z2 z3 z4 iD Cd HZ lU Di oX;go_wp2_with fail;clear m0 m1 m2 m3 m4 m5 m6 m7 q0 q1 s1;obtain⟨W1,dj,g0,ee,bE⟩:=zn wr m.cells 78;unfold Mv.cells at dj;rw[dj];refine(HC.out W1 bE).mono ?_;rintro e w3 ⟨rv,rfl,rH,ak⟩;obtain⟨AR,cR,rfl,hcR,hmR,hWR⟩:=YI rH;have G0:=Lb ak (by omega) g0;have aC:As (Am wr.heap.size wr w3):=bE.trans (ak.mono (by omega));have mO:=zH (HO.out.below qz aC.out (Ld _));have iE:=HO.out.lt;have lP:=zH (rH.mono (S':=fun b=>wr.heap.size<b) qz fun b _ hb=>by omega);have SJ:=zH G0;have lB:=ak.size;obtain⟨R,hR⟩:=Kj (zL a k m.to);have HRK:=zH (xy a k m.to);rw[hR] at sW cW lP HRK ⊢;go_wp2_with fail;obtain⟨Ab,rfl⟩:∃Ab,Ab=u7:=⟨_,rfl⟩;obtain⟨wo,rfl⟩:∃x,x=wr:=⟨_,rfl⟩
 go_loopw [7,11] (fun o i wx=>∃l:Nat,l<=R.length/\i=O U (l:Int)/\As (OwnX cWd (fun b=>w.heap.size<b) wx (w.heap.size+1) o (yB a k M j++(R.take l).map (m.r::·)))/\As (w3.grownBy wx (Value.ownBlock Ab))/\As (o.ownBlock=Value.ownBlock Ab\/∀b,o.ownBlock=J b->w3.heap.size<=b)) (fun _ i _=>R.length-(Ar i).toNat)
 case atStart=>exact⟨0,by omega,rfl,by rw[Pu,Nd,Nk];exact mO.out,R9 _ _,.inl rfl⟩
 obtain⟨l,hl,rfl,HX,HG,HW⟩:=hrel;have bD:As (Am w1.heap.size w1 wr):=(fg.out.trans (aC.out.mono aY)).grown HG.out (by omega) (fun b hb=>by have:=(iE b hb).1;omega)
 by_cases aJ:l<R.length
 case neg=>
  obtain rfl:l=R.length:=by omega
  rw[LK,<-cW.out] at HX;go_wp2_with fail
  go_roundw
  case rel=>exact⟨j+1,by omega,by go_num,HX,bD⟩
  simp[Ar];omega
 have C2:OwnX cWd (fun b=>wo.heap.size<b) wr W1.heap.size (I AR R.length cR) R:=lP.out.kept qz HG.out (by
  cases hAR:(I AR R.length cR).ownBlock with
  | none=>exact .inl rfl
  | some b=>exact .inr fun e=>by have h1:=(lP.out.lt b hAR).1;have h2:=(iE b e.symm).2;omega) (fun b hb=>.inl fun h=>by have:=(iE b hb).2;omega)
 obtain⟨A9,c9,e9,_,_,hWX⟩:=YI C2
 cases e9
 obtain⟨br,or_,A2,c2,er,aK,r0,fi⟩:=hWX.at_ l aJ;subst er;have G1:=(HG.out.block wo.heap.size (by omega) (fun e=>by have:=(iE _ e.symm).2;omega)).trans SJ.out;have sa:=zj G1;have Ez:=zH fi;have HOX:=zH HX.out;have V9:(yB a k M j++(R.take l).map (m.r::·)).length=(yB a k M j).length+l:=by simp;omega
 have KZ:As (yB a k M j++(R.take (l+1)).map (m.r::·)=(yB a k M j++(R.take l).map (m.r::·))++[m.r::R[l]]):=by
  show _=_;rw[Ls aJ,LF,L6];rfl
 have dS:=HRK.out _ (Lh aJ);have Wa:R[l].length<=6:=by omega
 clear dS;have oQ:(0:Int)<=(l:Int):=by omega
 have iG:(l:Int)<(R.length:Int):=by omega
 obtain⟨x,hx⟩:=Kj (R[l]);rw[hx] at r0 Ez KZ Wa;have Fi:As (Raw (wr.alloc (Ag m.r.cells 76)) A2 x.length (yQ x)):=Yb ((Ez.out.keep (zW wr _)).more (by simp));have g0:wr.cell? ⟨wo.heap.size,0,Z⟩=J (O U m.r.n):=zh G1 0 rfl;have g1:wr.cell? ⟨wo.heap.size,1,Z⟩=J (O U m.r.h0):=zh G1 1 rfl;have g2:wr.cell? ⟨wo.heap.size,2,Z⟩=J (O U m.r.h1):=zh G1 2 rfl;have g3:wr.cell? ⟨wo.heap.size,3,Z⟩=J (O U m.r.h2):=zh G1 3 rfl;have g4:wr.cell? ⟨wo.heap.size,4,Z⟩=J (O U m.r.h3):=zh G1 4 rfl;have g5:wr.cell? ⟨wo.heap.size,5,Z⟩=J (O U m.r.h4):=zh G1 5 rfl;have g6:wr.cell? ⟨wo.heap.size,6,Z⟩=J (O U m.r.f):=zh G1 6 rfl;have hbr2:br<wr.heap.size:=aK;have DF:w.heap.size+1<=wr.heap.size:=by have:=HG.out.size;omega
 clear hx C2 hWX fi G1 HX;have SJ:=zH (zx wr (Ag m.r.cells 76));obtain⟨N,hN⟩:=Kj ((yB a k M j++(R.take l).map (m.r::·)).length);have Oz:N<=5000:=by omega
 have HN:=zH hN;clear hN V9
 go_wp2_with (at_builtin;(first
  | ((refine QC Qo rfl (.tmp 50) (.tmp 54) rfl wr.heap.size (I (J ⟨wr.heap.size, 0, Z⟩) 1 1) 1 m.r.cells.toList rfl (OwnR.of_block SJ.out (Nat.le_refl _) rfl (by unfold maxLen; omega)) A2 x.length c2 (yQ x) rfl (xJ _) Fi.out (vY _) (by omega) (by simp) ?_)
     intro v1 w5 iA nC _;have Mc:OwnR kRd w5 wr.heap.size v1 (m.r::x).length (yQ (m.r::x)):=by rw[Lx,Nat.add_comm];exact iA
     obtain⟨A5,c5,rfl,hc5,_,sW⟩:=vX Mc;have ea:Am wr.heap.size wr w5:=(zW wr _).grown nC (by simp) (fun b hb=>by cases hb;exact Ld _);have iN:=zH (ea.alloc ea.size (Ag #[.slice A5 (m.r::x).length c5] 124));have nm:=zH (zx w5 (Ag #[.slice A5 (m.r::x).length c5] 124));have EF:=zH (sW.keep (KeepB.alloc _ w5 (Ag #[.slice A5 (m.r::x).length c5] 124)));have rm:=zH (HOX.out.below qz iN.out (Ld _));have hsz6:wr.heap.size<=w5.heap.size:=ea.size
     clear iA Mc nC sW ea)
  | (obtain ⟨aW, aA, l', bN⟩ := rm.out
     rw[HN.out] at l';refine yE kWd_ok rfl (.tmp 49) (.tmp 56) rfl (w.heap.size+1) u7 N aW.flatten rfl l' w5.heap.size #[.slice A5 (m.r::x).length c5] rfl nm.out rfl (by simp[Value.oneCell']) (by omega) (by simp;omega) _ rfl ?_;intro g' cap w7 pJ iW dO tP;have hX:cWd.lies (fun b=>(fun b=>w.heap.size<b) b/\Value.ownBlock u7≠J b) _ [.slice A5 (m.r::x).length c5] (m.r::x):=⟨A5,c5,rfl,EF.out.mono fun b _ hb=>⟨by have:wr.heap.size<=b:=hb;show w.heap.size<b;omega,fun e=>by have:=(HOX.out.lt b e).2;have:wr.heap.size<=b:=hb;omega⟩,hc5⟩;have nu:=pJ;rw[<-HN.out] at nu;have tk:=zH (OwnX.app qz aA bN hX nu iW dO);rw[<-KZ.out,HN.out] at tk
     have EJ:As (w3.grownBy w7 Ab.ownBlock):=grow_grow (grow_below HG.out iN.out) iW (fun b hb hlt=>by
      rcases HW.out with h | h
      . rw[<-h];exact hb
      . have:=h b hb;omega)
     have Eu:As ((I (J ⟨g',0,Z⟩) (N+1) cap).ownBlock=Ab.ownBlock\/∀b,(I (J ⟨g',0,Z⟩) (N+1) cap).ownBlock=J b->w3.heap.size<=b):=by
      have cz:=HG.out.size;rcases dO with e | e
      . rcases HW.out with h | h
        . exact .inl (by rw[<-h,e];rfl)
        . exact .inr fun b hb=>h b (by rw[e];exact hb)
      . refine .inr fun b hb=>?_
        have h9:g'=b:=by simpa[Value.ownBlock] using hb
        simp at e;omega
     clear pJ nu iW dO hX bN l' aA)
  ))
 go_roundw
 case rel=>exact⟨l+1,by omega,by go_num,tk,EJ,Eu⟩
 simp[Ar];omega
theorem XC(a:Ad)(SV:Bb)(ks:Nat)(hz:zJ a a.sts=0)(hf:FewA a):∀k,k<=6->jt a SV ks k
 | 0,_=>fromR_zero a SV ks
 | k+1,h=>fromR_succ a SV ks k (by omega) hz hf (XC a SV ks hz hf k (by omega))
structure Wrote(R:Nat->Prop)(w w':Ba):Prop where
 os:w'.os=w.os
 tape:w'.tape=w.tape
 output:w'.output=w.output
 size:w.heap.size<=w'.heap.size
 block:∀k,k<w.heap.size->¬R k->w'.heap[k]?=w.heap[k]?
theorem Wrote.refl(R:Nat->Prop)(w:Ba):Wrote R w w:=⟨rfl,rfl,rfl,Ld _,fun _ _ _=>rfl⟩
theorem Wrote.trans{R R':Nat->Prop}{a b c:Ba}(h:Wrote R a b)(k:Wrote R' b c)(hr:∀k,k<a.heap.size->R' k->R k):Wrote R a c:=
 ⟨k.os.trans h.os,k.tape.trans h.tape,k.output.trans h.output,Lu h.size k.size,fun i hi hn=>(k.block i (LH hi h.size) (fun h'=>hn (hr i hi h'))).trans (h.block i hi hn)⟩
theorem Wrote.of_below{R:Nat->Prop}{a b:Ba}(h:Am a.heap.size a b):Wrote R a b:=⟨h.os,h.tape,h.output,h.size,fun k hk _=>h.block k hk⟩
theorem Wrote.of_grown{R:Nat->Prop}{a b:Ba}{row:Option Nat}(h:a.grownBy b row)(hr:∀k,row=J k->k<a.heap.size->R k):Wrote R a b:=⟨h.os,h.tape,h.output,h.size,fun k hk hn=>h.block k hk (fun e=>hn (hr k e.symm hk))⟩
theorem Wrote.below{R:Nat->Prop}{a b:Ba}{B:Nat}(h:Wrote R a b)(hB:B<=a.heap.size)(hr:∀k,k<B->¬R k):Am B a b:=⟨h.os,h.tape,h.output,h.size,fun k hk=>h.block k (by omega) (hr k hk)⟩
theorem Wrote.keep{R S:Nat->Prop}{a b:Ba}(h:Wrote R a b)(hr:∀k,k<a.heap.size->S k->¬R k):KeepB S a b:=⟨h.size,fun k hs hk=>h.block k hk (hr k hk hs)⟩
theorem Wrote.more{R R':Nat->Prop}{a b:Ba}(h:Wrote R a b)(hr:∀k,k<a.heap.size->R k->R' k):Wrote R' a b:=⟨h.os,h.tape,h.output,h.size,fun k hk hn=>h.block k hk (fun h'=>hn (hr k hk h'))⟩
def uD(vs:List Vw):Vw->Option Au:=fun v=>if v∈vs then J (O U (kJ vs v)) else Z
theorem numF_nil:uD []=fun _=>Z:=by funext v;simp[uD]
theorem numF_put{vs:List Vw}{v:Vw}(h:v∉vs):xg (uD vs) v (O U vs.length)=uD (vs++[v]):=by
 funext x
 unfold xg uD
 by_cases e:x=v
 . subst e
   rw[Lj rfl,Lj (by simp)]
   congr 2
   exact(Jv (k:=vs.length) (by simp) (by simp) (by rw[List.take_left];exact h)).symm
 rw[Lg e]
 by_cases hx:x∈vs
 . rw[Lj hx,Lj (by simp[hx])]
   congr 2
   unfold kJ;rw[Lj hx,Lj (by simp[hx]),NI,Lj hx]
 rw[Lg hx,Lg (by simp[hx,e])]
structure BdIn(B bB bM:Nat)(n:Int)(V:Au)(vs:List Vw)(w:Ba):Prop where
 hB:w.heap[bB]?=J (Ag #[O U n,V,.map (J bM)] 120 (0,0))
 num:∃m,MapOf (fun v:Vw=>.agg v.cells) w bM m (uD vs)
 own:OwnV w B V vs
 ne:∀k,V.ownBlock=J k->k≠bB/\k≠bM
 bm:bB≠bM
 lo:B<=bB/\B<=bM
def Bk(bB bM:Nat)(V:Au)(k:Nat):Prop:=k=bB\/k=bM\/V.ownBlock=J k
def BdOn(bB bM:Nat)(V:Au)(w:Ba)(V':Au)(w':Ba):Prop:=Wrote (Bk bB bM V) w w'/\∀k,V'.ownBlock=J k->V.ownBlock=J k\/w.heap.size<=k
theorem BdOn.refl(bB bM:Nat)(V:Au)(w:Ba):BdOn bB bM V w V w:=⟨Wrote.refl _ _,fun _ h=>.inl h⟩
theorem BdOn.trans{bB bM:Nat}{V V1 V2:Au}{w w1 w2:Ba}(h:BdOn bB bM V w V1 w1)(k:BdOn bB bM V1 w1 V2 w2):BdOn bB bM V w V2 w2:=by
 refine⟨h.1.trans k.1 fun j hj hr=>?_,fun j hj=>?_⟩
 . rcases hr with e | e | e
   . exact .inl e
   . exact .inr (.inl e)
   rcases h.2 j e with e | e
   . exact .inr (.inr e)
   omega
 rcases k.2 j hj with e | e
 . exact h.2 j e
 exact .inr (Lu h.1.size e)
theorem BdOn.after{bB bM:Nat}{V V1:Au}{w w1 w2:Ba}(h:BdOn bB bM V w V1 w1)(k:Am w1.heap.size w1 w2):BdOn bB bM V w V1 w2:=⟨h.1.trans (Wrote.of_below (R:=fun _=>False) k) (fun _ _ h=>h.elim),h.2⟩
theorem BdIn.on{B bB bM:Nat}{n:Int}{V:Au}{vs:List Vw}{w w':Ba}(h:BdIn B bB bM n V vs w)(hb:Am w.heap.size w w'):BdIn B bB bM n V vs w':=by
 obtain⟨m,hm⟩:=h.num;exact⟨La hb h.hB,⟨m,hm.same (hb.block _ hm.lt)⟩,h.own.below hb (Ld _),h.ne,h.bm,h.lo⟩
theorem BdIn.push{B bB bM m:Nat}{n:Int}{A:Bb}{cap:Nat}{vs:List Vw}{v:Vw}{w w2 W w4:Ba}{g' ap:Nat}(H:BdIn B bB bM n (I A vs.length cap) vs w)(fm:w.grownBy w2 (J bM))
  (fL:MapOf (fun v:Vw=>.agg v.cells) w2 bM m (uD (vs++[v]))) (hW:Am w2.heap.size w2 W)
  (hr:OwnR kVw w4 B (I (J ⟨g',0,Z⟩) (vs.length+1) ap) (vs.length+1) (yP vs++v.cells.toList)) (hg:W.grownBy w4 (I A vs.length cap).ownBlock)
  (aI:(I A vs.length cap).ownBlock=J g'\/g'=W.heap.size) :
  BdIn B bB bM n (I (J ⟨g',0,Z⟩) (vs.length+1) ap) (vs++[v]) (w4.setCell ⟨bB,1,Z⟩ (I (J ⟨g',0,Z⟩) (vs.length+1) ap)) /\
   BdOn bB bM (I A vs.length cap) w (I (J ⟨g',0,Z⟩) (vs.length+1) ap) (w4.setCell ⟨bB,1,Z⟩ (I (J ⟨g',0,Z⟩) (vs.length+1) ap)):=by
 have Ic:=zj H.hB;obtain⟨m0,oo⟩:=H.num;have V8:=oo.lt;have cM:=fm.size;have Tv:=hW.size;have iE:=H.own.lt;have ae:=(fm.block bB Ic (fun e=>by cases e;exact H.bm rfl)).trans H.hB;have aD:=(hg.block bB (by omega) (fun e=>(H.ne bB e.symm).1 rfl)).trans ((hW.block bB (by omega)).trans ae);have Ib:=((fL.same (hW.block bM (by omega))).same (hg.block bM (by omega) (fun e=>(H.ne bM e.symm).2 rfl)));have dC:=hr.lt g' rfl
 have az:g'≠bB/\g'≠bM:=by
  rcases aI with e | e
  . exact H.ne g' e
  exact⟨by omega,by omega⟩
 refine⟨⟨?_,⟨m,Ib.same (Le w4 _ _ bM (fun e=>H.bm e.symm))⟩,?_,?_,H.bm,H.lo⟩,?_,?_⟩
 . rw[Lk w4 bB 1 _ _ _ aD];rfl
 . have h5:OwnR kVw (w4.setCell ⟨bB,1,Z⟩ (I (J ⟨g',0,Z⟩) (vs.length+1) ap)) B (I (J ⟨g',0,Z⟩) (vs.length+1) ap) (vs.length+1) (yP vs++v.cells.toList):=hr.kept (zV w4 bB 1 _) (.inr (fun e=>az.1 (by simpa[Value.ownBlock] using e)))
   unfold OwnV;rw[Lr,vI,show yP [v]=v.cells.toList by simp[yP]];exact h5
 . intro k hk
   have:g'=k:=by simpa[Value.ownBlock] using hk
   subst this;exact az
 . have h1:Wrote (Bk bB bM (I A vs.length cap)) w w2:=Wrote.of_grown fm (fun k hk _=>by cases hk;exact .inr (.inl rfl))
   have h2:Wrote (Bk bB bM (I A vs.length cap)) w2 W:=Wrote.of_below hW;have h3:Wrote (Bk bB bM (I A vs.length cap)) W w4:=Wrote.of_grown hg (fun k hk _=>.inr (.inr hk));have h4:Wrote (Bk bB bM (I A vs.length cap)) w4 (w4.setCell ⟨bB,1,Z⟩ (I (J ⟨g',0,Z⟩) (vs.length+1) ap)):=Wrote.of_grown (zV w4 bB 1 _) (fun k hk _=>by cases hk;exact .inl rfl);exact((h1.trans h2 (fun _ _ h=>h)).trans h3 (fun _ _ h=>h)).trans h4 (fun _ _ h=>h)
 intro k hk;have:g'=k:=by simpa[Value.ownBlock] using hk
 subst this;rcases aI with e | e
 . exact .inl e
 exact .inr (by omega)
theorem JU(B bB bM:Nat)(n:Int)(V:Au)(vs:List Vw)(v:Vw)(hl:vs.length<=50000)(w:Ba)(H:BdIn B bB bM n V vs w) :
  An Al 92 #[Aj (J ⟨bB,0,Z⟩),.agg v.cells] w fun e w'=>e=Ak (O U (qd vs v).2)/\∃V',BdIn B bB bM n V' (qd vs v).1 w'/\BdOn bB bM V w V' w':=by
 obtain⟨A,cap,rfl⟩:=H.own.lit;obtain⟨w1,ab,d0,eh,aV⟩:=zn w v.cells 133;have H1:=H.on aV;have HI:=zH H1;have ag:=zH ab;have ib:=zH aV;have du:=zH d0;have HV:=zH (show uD vs v=if v∈vs then J (O U (kJ vs v)) else Z from rfl);have Ic:=zj H.hB;have lk:=zH (fun (k:Nat) (e:(I A vs.length cap).ownBlock=J k)=>(H.own.lt k e).2);have hbMw:bM<w.heap.size:=by obtain⟨_,hm⟩:=H.num;exact hm.lt
 have b0:=H1.hB;obtain⟨m,hm⟩:=H1.num;have HM:=zH hm;have hz:∀W:Ba,(zeroValue 3).run Al W=.ok (O U 0) W:=fun W=>by kernel_rfl
 have ht:Al.underlying 118=J (.map 133 3):=underlying118;have Ec:bB≠w.heap.size:=by omega
 clear ab H1 H;go_enter func92,ntmps92;unfold Vw.cells at ag ⊢;go_wp2_with fail;rw[ag.out]
 by_cases hv:v∈vs
 case pos=>
  have hf:uD vs v=J (O U (kJ vs v)):=Lj hv;have Cz:=QZ hv;have HPW:=zH Cz;have HF:=zH hf;have hid:=Ju hv;clear Cz hf hv HV;refine zr [(0,Av),(1,Av),(2,Av),(3,Av),(4,Av),(5,Av),(6,Av),(7,Av),(8,Av),(9,Av),(10,Av)] (fun W=>W.heap[bB]?=J (Ag #[O U n,I A vs.length cap,.map (J bM)] 120 (0,0))/\MapOf (fun v:Vw=>.agg v.cells) W bM m (uD vs)/\W.heap[w.heap.size]?=J (Ag v.cells 133 (0,0))) (by kernel_rfl) (by kernel_rfl) ⟨b0,hm,d0⟩ ?_
  repeat
   apply zk rfl
   . rintro K' aa W ⟨y0,y1,y2⟩
     have g0:W.cell? ⟨w.heap.size,0,Z⟩=J (O U v.p):=zh y2 0 rfl;have g1:W.cell? ⟨w.heap.size,1,Z⟩=J (O U v.r):=zh y2 1 rfl;have g2:W.cell? ⟨w.heap.size,2,Z⟩=J (O U v.i):=zh y2 2 rfl;have g3:W.cell? ⟨w.heap.size,3,Z⟩=J (O U v.h0):=zh y2 3 rfl;have g4:W.cell? ⟨w.heap.size,4,Z⟩=J (O U v.h1):=zh y2 4 rfl;have g5:W.cell? ⟨w.heap.size,5,Z⟩=J (O U v.h2):=zh y2 5 rfl;have g6:W.cell? ⟨w.heap.size,6,Z⟩=J (O U v.h3):=zh y2 6 rfl;have g7:W.cell? ⟨w.heap.size,7,Z⟩=J (O U v.h4):=zh y2 7 rfl;have b0:W.cell? ⟨bB,0,Z⟩=J (O U n):=zh y0 0 rfl;have b1:W.cell? ⟨bB,1,Z⟩=J (I A vs.length cap):=zh y0 1 rfl;have b2:W.cell? ⟨bB,2,Z⟩=J (.map (J bM)):=zh y0 2 rfl;have dS:=y1.look2 ZK ht (hz W) v;rw[HF.out] at dS;simp only[Option.getD_some,Option.isSome_some,Vw.cells] at dS;clear y0 y1 y2;go_simp;exact aa
  refine zz ?_;clear b0 hm d0;go_wp2_with fail;go_ret;rw[HPW.out];exact⟨rfl,_,HI.out.on (Ll _ _).drew,(BdOn.refl bB bM _ w).after (ib.out.drew)⟩
 have hf:uD vs v=Z:=Lg hv;have Cz:=putW_no hv;have HPW:=zH Cz;have HF:=zH hf;have UA:As (v∉vs):=hv;clear Cz hf hv HV;refine zr [(0,Av),(1,Av),(2,Av),(3,Av),(4,Av),(5,Av),(6,Av),(7,Av),(8,Av),(9,Av),(10,Av)] (fun W=>W.heap[bB]?=J (Ag #[O U n,I A vs.length cap,.map (J bM)] 120 (0,0))/\MapOf (fun v:Vw=>.agg v.cells) W bM m (uD vs)/\W.heap[w.heap.size]?=J (Ag v.cells 133 (0,0))) (by kernel_rfl) (by kernel_rfl) ⟨b0,hm,d0⟩ ?_
 repeat
  apply zk rfl
  . rintro K' aa W ⟨y0,y1,y2⟩
    have g0:W.cell? ⟨w.heap.size,0,Z⟩=J (O U v.p):=zh y2 0 rfl;have g1:W.cell? ⟨w.heap.size,1,Z⟩=J (O U v.r):=zh y2 1 rfl;have g2:W.cell? ⟨w.heap.size,2,Z⟩=J (O U v.i):=zh y2 2 rfl;have g3:W.cell? ⟨w.heap.size,3,Z⟩=J (O U v.h0):=zh y2 3 rfl;have g4:W.cell? ⟨w.heap.size,4,Z⟩=J (O U v.h1):=zh y2 4 rfl;have g5:W.cell? ⟨w.heap.size,5,Z⟩=J (O U v.h2):=zh y2 5 rfl;have g6:W.cell? ⟨w.heap.size,6,Z⟩=J (O U v.h3):=zh y2 6 rfl;have g7:W.cell? ⟨w.heap.size,7,Z⟩=J (O U v.h4):=zh y2 7 rfl;have b0:W.cell? ⟨bB,0,Z⟩=J (O U n):=zh y0 0 rfl;have b1:W.cell? ⟨bB,1,Z⟩=J (I A vs.length cap):=zh y0 1 rfl;have b2:W.cell? ⟨bB,2,Z⟩=J (.map (J bM)):=zh y0 2 rfl;have dS:=y1.look2 ZK ht (hz W) v;rw[HF.out] at dS;simp only[Option.getD_none,Option.isSome_none,Vw.cells] at dS;clear y0 y1 y2;go_simp;exact aa
 refine zz ?_;clear hm;have b1:w1.cell? ⟨bB,1,Z⟩=J (I A vs.length cap):=zh HI.out.hB 1 rfl;go_wp2_with fail;obtain⟨w2,dm,fL,sj⟩:=MapOf.put (w:=w1.drew.drew) (P:=Al) (show MapOf (fun v:Vw=>.agg v.cells) w1.drew.drew bM m (uD vs) from HM.out) ZK ht v (O U vs.length);rw[numF_put UA.out] at fL;have HM2:=zH fL;have Bn:As (w1.grownBy w2 (J bM)):=⟨sj.os,sj.tape,sj.output,sj.size,sj.block⟩;have V8:=HM.out.lt;have N1:=HI.out.bm;have WZ:w.heap.size≠bM:=by omega
 simp only[Vw.cells] at dm;have d2:=(Bn.out.block _ (zj du.out) (fun e=>by cases e;exact WZ rfl)).trans du.out;have b2:=(Bn.out.block _ (zj HI.out.hB) (fun e=>by cases e;exact N1 rfl)).trans HI.out.hB;clear fL sj;refine zr [(0,Av),(1,Av),(2,Av),(3,Av),(4,Av),(5,Av),(6,Aw)] (fun W=>W.heap[bB]?=J (Ag #[O U n,I A vs.length cap,.map (J bM)] 120 (0,0))/\W.heap[w.heap.size]?=J (Ag v.cells 133 (0,0))) (by kernel_rfl) (by kernel_rfl) ⟨HI.out.hB,d0⟩ ?_;clear b0 b1 d0
 repeat
  apply zk rfl
  . rintro K' aa W ⟨y0,y2⟩
    have g0:W.cell? ⟨w.heap.size,0,Z⟩=J (O U v.p):=zh y2 0 rfl;have g1:W.cell? ⟨w.heap.size,1,Z⟩=J (O U v.r):=zh y2 1 rfl;have g2:W.cell? ⟨w.heap.size,2,Z⟩=J (O U v.i):=zh y2 2 rfl;have g3:W.cell? ⟨w.heap.size,3,Z⟩=J (O U v.h0):=zh y2 3 rfl;have g4:W.cell? ⟨w.heap.size,4,Z⟩=J (O U v.h1):=zh y2 4 rfl;have g5:W.cell? ⟨w.heap.size,5,Z⟩=J (O U v.h2):=zh y2 5 rfl;have g6:W.cell? ⟨w.heap.size,6,Z⟩=J (O U v.h3):=zh y2 6 rfl;have g7:W.cell? ⟨w.heap.size,7,Z⟩=J (O U v.h4):=zh y2 7 rfl;have b2:W.cell? ⟨bB,2,Z⟩=J (.map (J bM)):=zh y0 2 rfl;clear y0 y2;go_simp;exact aa
 refine zu rfl ?_;intro K' aa;go_simp;refine aa _ _ ⟨b2,d2⟩ ?_;refine zz ?_;clear aa K' dm;go_wp2_with fail;have cM:=Bn.out.size;have N6:bB<w2.heap.size:=by omega
 have lq:=zH d2;have cj:=zH b2;refine zr [(0,Av),(1,Av),(2,Av),(3,Av),(4,Av),(5,Av),(6,Aw),(7,Aw),(8,Aw),(9,Aw),(10,Aw)] (fun W=>W.heap[bB]?=J (Ag #[O U n,I A vs.length cap,.map (J bM)] 120 (0,0))/\W.heap[w.heap.size]?=J (Ag v.cells 133 (0,0))) (by kernel_rfl) (by kernel_rfl) ⟨b2,d2⟩ ?_;clear b2 d2
 repeat
  apply zk rfl
  . rintro K' aa W ⟨y0,y2⟩
    have g0:W.cell? ⟨w.heap.size,0,Z⟩=J (O U v.p):=zh y2 0 rfl;have g1:W.cell? ⟨w.heap.size,1,Z⟩=J (O U v.r):=zh y2 1 rfl;have g2:W.cell? ⟨w.heap.size,2,Z⟩=J (O U v.i):=zh y2 2 rfl;have g3:W.cell? ⟨w.heap.size,3,Z⟩=J (O U v.h0):=zh y2 3 rfl;have g4:W.cell? ⟨w.heap.size,4,Z⟩=J (O U v.h1):=zh y2 4 rfl;have g5:W.cell? ⟨w.heap.size,5,Z⟩=J (O U v.h2):=zh y2 5 rfl;have g6:W.cell? ⟨w.heap.size,6,Z⟩=J (O U v.h3):=zh y2 6 rfl;have g7:W.cell? ⟨w.heap.size,7,Z⟩=J (O U v.h4):=zh y2 7 rfl;have b1:W.cell? ⟨bB,1,Z⟩=J (I A vs.length cap):=zh y0 1 rfl;clear y0 y2;go_simp;exact aa
 refine zu rfl ?_;intro K' aa;go_simp;obtain⟨W3,ii,e3,cz,aG⟩:=Zy w2 v.cells 133;simp only[Vw.cells] at ii;rw[ii];clear ii;refine aa _ _ ⟨Lb aG N6 cj.out,Lb aG (by omega) lq.out⟩ ?_;clear aa K';refine zu rfl ?_;intro K' aa;rw[Lj (by rfl)]
 have hOw:OwnR kVw W3 B (I A vs.length cap) vs.length (yP vs):=by
  have h0:OwnR kVw w1 B (I A vs.length cap) vs.length (yP vs):=HI.out.own;refine(h0.kept Bn.out ?_).below aG (Ld _);rcases hA:(I A vs.length cap).ownBlock with _ | k
  . exact .inl rfl
  exact .inr fun e=>(HI.out.ne k hA).2 (by simpa using e)
 have iE:=HI.out.lo;refine qP kVw_ok (.tmp 33) (.tmp 35) (by rfl) B (I A vs.length cap) vs.length (yP vs) (by rfl) hOw w2.heap.size v.cells (by rfl) e3 rfl (wX v) (by omega) (by omega) _ rfl ?_;intro g' ap w4 hr hg aI hlt;have HP:=zH (BdIn.push HI.out Bn.out HM2.out aG hr hg aI);have z0:=(hg.block bB (by omega) (fun e=>(HI.out.ne bB e.symm).1 rfl)).trans (Lb aG N6 cj.out);have z1:=(hg.block w.heap.size (by omega) (fun e=>by have:=lk.out _ e.symm;omega)).trans (Lb aG (by omega) lq.out);refine aa _ _ ⟨z0,z1⟩ ?_;clear aa K' hr hg aI hOw e3 aG;refine zu rfl ?_;intro K' aa;go_simp;refine aa _ _ ⟨z0,z1⟩ ?_;clear aa K';refine zu rfl ?_;intro K' aa;go_simp;refine aa _ _ ⟨z0,z1⟩ ?_;clear aa K';have b1:w4.cell? ⟨bB,1,Z⟩=J (I A vs.length cap):=zh z0 1 rfl;have f1:=zi z0 1;clear z0 z1;refine yd rfl (by kernel_rfl) ?_;intro K' aa;go_simp;refine aa (fun _=>True) _ _ trivial ?_;refine zz ?_;clear aa K' b1 f1;go_wp2_with fail;go_ret;rw[HPW.out];exact⟨rfl,_,HP.out.1,(BdOn.refl bB bM _ w).after ib.out |>.trans HP.out.2⟩
def Yj(k:Nat):Array Au:=#[O U (if 0<k then -1 else 0),O U (if 1<k then -1 else 0),O U (if 2<k then -1 else 0),O U (if 3<k then -1 else 0),O U (if 4<k then -1 else 0)]
theorem minus_set(k:Nat)(hk:k<5):(Yj k).setIfInBounds k (O U (-1))=Yj (k+1):=by
 match k,hk with
 | 0,_=>rfl
 | 1,_=>rfl
 | 2,_=>rfl
 | 3,_=>rfl
 | 4,_=>rfl
theorem minus_at(k:Nat)(hk:k<5):(Yj k)[k]?=J (O U 0):=by
 match k,hk with
 | 0,_=>rfl
 | 1,_=>rfl
 | 2,_=>rfl
 | 3,_=>rfl
 | 4,_=>rfl
theorem gK(w:Ba):An Al 93 #[] w fun e w'=>e=Ak (Ai #[O U (-1),O U (-1),O U (-1),O U (-1),O U (-1)])/\Am w.heap.size w w':=by
 obtain⟨w1,ab,d0,d1,av,hB⟩:=yI w (Yj 0) (Yj 0) 72 72;have ag:=zH ab;go_enter func93,ntmps93;go_wp2_with fail;rw[show((w.alloc (Ag #[O U 0,O U 0,O U 0,O U 0,O U 0] 72)).alloc (Ag #[O U 0,O U 0,O U 0,O U 0,O U 0] 72))=w1 from ag.out];have H0:=zH d0;have H1:=zH d1;have HB:=zH hB
 go_loopw [3] (fun i wr=>∃k:Nat,k<=5/\i=O U (k:Int)/\As (wr.heap[w.heap.size]?=J (Ag (Yj 0) 72 (0,0)))/\As (wr.heap[w.heap.size+1]?=J (Ag (Yj k) 72 (0,0)))/\As (Am w.heap.size w wr)) (fun i _=>5-(Ar i).toNat)
 case atStart=>exact⟨0,by omega,rfl,H0.out,H1.out,HB.out⟩
 obtain⟨k,hk,rfl,H0,H1,Bx⟩:=hrel
 by_cases sh:k<5
 case neg=>
  obtain rfl:k=5:=by omega
  have x0:wr.cell? ⟨w.heap.size+1,0,Z⟩=J (O U (-1)):=zh H1.out 0 rfl;have x1:wr.cell? ⟨w.heap.size+1,1,Z⟩=J (O U (-1)):=zh H1.out 1 rfl;have x2:wr.cell? ⟨w.heap.size+1,2,Z⟩=J (O U (-1)):=zh H1.out 2 rfl;have x3:wr.cell? ⟨w.heap.size+1,3,Z⟩=J (O U (-1)):=zh H1.out 3 rfl;have x4:wr.cell? ⟨w.heap.size+1,4,Z⟩=J (O U (-1)):=zh H1.out 4 rfl;have y0:wr.cell? ⟨w.heap.size,0,Z⟩=J (O U 0):=zh H0.out 0 rfl;have y1:wr.cell? ⟨w.heap.size,1,Z⟩=J (O U 0):=zh H0.out 1 rfl;have y2:wr.cell? ⟨w.heap.size,2,Z⟩=J (O U 0):=zh H0.out 2 rfl;have y3:wr.cell? ⟨w.heap.size,3,Z⟩=J (O U 0):=zh H0.out 3 rfl;have y4:wr.cell? ⟨w.heap.size,4,Z⟩=J (O U 0):=zh H0.out 4 rfl;have f0:=zi H0.out 0;have f1:=zi H0.out 1;have f2:=zi H0.out 2;have f3:=zi H0.out 3;have f4:=zi H0.out 4;go_wp2_with fail;refine LP (v:=Ai #[O U (-1),O U (-1),O U (-1),O U (-1),O U (-1)]) (by simp[results,results93,go_sem,y0,y1,y2,y3,y4]) rfl ⟨rfl,?_⟩;exact((((Bx.out.setCell (Ld _) _).setCell (Ld _) _).setCell (Ld _) _).setCell (Ld _) _).setCell (Ld _) _
 have x0:=zh H1.out k (minus_at k sh);have f0:=zi H1.out k;have dg:(0:Int)<=(k:Int):=by omega
 have aM:(k:Int)<5:=by omega
 go_wp2_with fail
 go_roundw
 case rel=>exact⟨k+1,by omega,by go_num,(Le wr _ _ w.heap.size (by show w.heap.size≠w.heap.size+1;omega)).trans H0.out,by show _=_;rw[Lk wr _ k _ _ _ H1.out,minus_set k sh],Bx.out.setCell (by show w.heap.size<=w.heap.size+1;omega) _⟩
 simp[Ar];omega
end
section
open Go.RowKit
theorem wO(n:Nat)(h1:1<=n)(h5:n<=8)(W:Ba):(Instr.makeSlice 50 (O U n) (O U n)).run Al W=.ok (I (J ⟨W.heap.size,0,Z⟩) n n) (W.alloc (Ag ((List.replicate n 0).map (O U)).toArray 3)):=by
 obtain rfl | rfl | rfl | rfl | rfl | rfl | rfl | rfl:n=1\/n=2\/n=3\/n=4\/n=5\/n=6\/n=7\/n=8:=by omega
 all_goals kernel_rfl
theorem qu{cur:List Au}{x:Au}{k m n:Nat}(hl:cur.length=n)(h:cur.take k=List.replicate k x)(hk:k+m<=n):(splice cur k (List.replicate m x)).take (k+m)=List.replicate (k+m) x/\(splice cur k (List.replicate m x)).length=n:=by
 constructor
 . unfold splice
   rw[h,<-L6,Sn (by simp),NQ (by simp)];exact List.replicate_append_replicate
 rw[length_splice _ _ _ (by simp;omega),hl]
theorem Qb{w:Ba}{b o:Nat}{x:Au}(h:w.cell? ⟨b,o,Z⟩=J x):∀j v,[x][j]?=J v->w.cell? ((⟨b,o,Z⟩:Addr).add j)=J v:=by
 intro j v hj;have h0:j=0:=by have:=(Lq.1 hj).1;simp at this;omega
 subst h0;simp at hj;subst hj;rw[NR];exact h
theorem ur:(Al.info? 3).map (·.size)=J 1:=by kernel_rfl
theorem QW(n b:Nat)(h1:1<=n)(h5:n<=8)(u:Int)(w:Ba)(hb:w.heap[b]?=J (Ag #[O U u] 3 (0,0))) :
  An Al 40 #[I (J ⟨b,0,Z⟩) 1 1,O U n] w fun e w'=>∃g,e=Ak (I (J ⟨g,0,Z⟩) n n)/\w.heap.size<=g/\RowAt w' g (List.replicate n u)/\Am w.heap.size w w':=by
 have fl:=wO n h1 h5;obtain⟨ar,oz⟩:∃ar:List Au,(List.replicate n 0).map (O U)=ar:=⟨_,rfl⟩;rw[oz] at fl;have CX:ar.length=n:=by rw[<-oz];simp
 have hc:=zh hb 0 rfl;have aY:=zj hb;have hm:=Tryz.bits_Mul 1 n (by omega) (by omega) w;have e1:(1*n / 18446744073709551616:Nat)=0:=by omega
 have e2:(1*n % 18446744073709551616:Nat)=n:=by omega
 rw[e1,e2] at hm;have H':¬(n:Int)<0:=by omega
 go_enter func40,ntmps40;go_wp2_with fail;refine hm.mono ?_;rintro e w1 ⟨rfl,ab⟩;obtain rfl:=ab;obtain⟨W0,dT,b0,aP,bG⟩:=zn w1 ar.toArray 3;have hx:W0.cell? ⟨b,0,Z⟩=J (O U u):=(bG.cell (p:=⟨b,0,Z⟩) aY).trans hc;have BB:=zH bG;have BX:=zH b0;have HX:=zH hx;go_wp2_with ((refine R7 rfl (.tmp 31) (.tmp 32) 50 50 rfl 3 Nn ur (J ⟨w1.heap.size,0,Z⟩) (J ⟨b,0,Z⟩) n n 1 1 rfl rfl w1.heap.size 0 ar 3 BX.out [O U u] (by simp[Nat.min_def];omega) (fun _=>⟨rfl,_,rfl,Qb HX.out⟩) (by simp;omega) (by simp[Value.oneCell']) w1.heap.size w1 BB.out (Ld _) ?_);intro w2 fi ae);obtain⟨g,hg⟩:=Kj w1.heap.size;have s1:=qu (cur:=ar) (x:=O U u) (k:=0) (m:=1) (n:=n) CX (by simp) (by omega);have S1:=zH s1;have EI:=zH hg;rw[hg] at fi ae ⊢
 go_loopw [8] (fun l wr=>∃(k:Nat) (cur:List Au),1<=k/\k<=n/\l=O U k/\As (cur.length=n)/\As (cur.take k=List.replicate k (O U u))/\As (wr.heap[g]?=J (Ag cur.toArray 3 (0,0)))/\Am g w1 wr) (fun l _=>n-(Ar l).toNat)
 case atStart=>exact⟨1,splice ar 0 [O U u],by omega,h1,rfl,S1.out.2,S1.out.1,fi,ae⟩
 obtain⟨k,cur,aM,Wg,rfl,aA,tW,al,fu⟩:=hrel
 by_cases hlt:k<n
 . clear S1 fi ae
   have dg:(0:Int)<=(k:Int):=by omega
   have fU:(k:Int)<=(n:Int):=by omega
   have az:¬n=k:=by omega
   go_upto_region 9 with fail
   obtain⟨d,hd⟩:=Kj (n-k);obtain⟨m,hm⟩:=Kj (Nat.min k d);have oo:min k d=m:=hm;have sV:1<=m:=by omega
   have fL:k+m<=n:=by omega
   have sf:m<=k:=by omega
   have oL:∀j v,(List.replicate m (O U u))[j]?=J v->wr.cell? ((⟨g,0,Z⟩:Addr).add j)=J v:=by
    intro j v hj;have MM:j<m:=by have:=(Lq.1 hj).1;simpa using this
    rw[NN,Lj MM] at hj
    cases hj
    rw[NR,LI];refine zh al.out j ?_;rw[PC];have h2:=congrArg (fun l=>l[j]?) tW.out;simp only[List.getElem?_take,List.getElem?_replicate] at h2;rwa[Lj (by omega),Lj (by omega)] at h2
   have SP:=zH (qu (cur:=cur) (x:=O U u) (k:=k) (m:=m) (n:=n) aA.out tW.out fL);have Bc:=zH oL;have HM:=zH hm;have ip:=zH fu;have av:IntKind.i64.wrap ((k:Int)+(m:Int))=(k:Int)+(m:Int):=Sz _ (by omega);have nh:=zH av;clear oL hm fu av
   go_region_law ((refine Si (by rfl) (.tmp 41) (.tmp 44) 50 50 (by rfl) 3 Nn ur (J ⟨g,k,Z⟩) (J ⟨g,0,Z⟩) d d k n (by simp[go_sem]) (by simp[go_sem]) g k cur 3 al.out (List.replicate m (O U u)) (by rw[LO];exact HM.out.symm) (fun _=>⟨rfl,_,rfl,Bc.out⟩) (by rw[LO,aA.out];exact fL) (by intro v hv;rw[Rw hv];rfl) g w1 ip.out.drew (Ld _) ?_;intro w3 iR ak;rw[LO]))
   all_goals
    rw[nh.out];go_wp2_with fail
    go_frame
    go_roundw
    case rel=>
     (repeat apply Exists.intro)
     exact⟨⟨k+m,splice cur k (List.replicate m (O U u)),by omega,by omega,rfl,SP.out.2,SP.out.1,iR,ak⟩,by first | rfl | (go_frame;rfl) | (simp[Act.put];done)⟩
    case measure=>simp[Ar];omega
 obtain rfl:k=n:=by omega
 go_wp2_with fail;go_ret;refine⟨g,rfl,by have:=EI.out;omega,?_,by have:=EI.out;rw[this];exact fu⟩;unfold RowAt;have e:=tW.out;rw[NQ (by have:=aA.out;omega)] at e;rw[al.out,e];simp
theorem BdIn.set{B bB bM:Nat}{n:Int}{V:Au}{vs:List Vw}{w:Ba}(h:BdIn B bB bM n V vs w){g:Nat}(h1:g≠bB)(h2:g≠bM)(h3:V.ownBlock≠J g)(o:Nat)(u:Au):BdIn B bB bM n V vs (w.setCell ⟨g,o,Z⟩ u):=by
 obtain⟨m,hm⟩:=h.num;exact⟨(Le w _ _ bB (fun e=>h1 e.symm)).trans h.hB,⟨m,hm.same (Le w _ _ bM (fun e=>h2 e.symm))⟩,h.own.kept (zV w g o _) (.inr h3),h.ne,h.bm,h.lo⟩
theorem BdIn.grown{B bB bM:Nat}{n:Int}{V:Au}{vs:List Vw}{w w':Ba}{row:Option Nat}(h:BdIn B bB bM n V vs w)(hg:w.grownBy w' row)(h1:row≠J bB)(h2:row≠J bM)(h3:∀k,V.ownBlock=J k->row≠J k):BdIn B bB bM n V vs w':=by
 obtain⟨m,hm⟩:=h.num;refine⟨(hg.block _ (zj h.hB) (fun e=>h1 e.symm)).trans h.hB,⟨m,hm.same (hg.block _ hm.lt (fun e=>h2 e.symm))⟩,h.own.kept hg ?_,h.ne,h.bm,h.lo⟩
 cases hv:V.ownBlock with
 | none=>exact .inl rfl
 | some k=>exact .inr fun e=>h3 k hv e.symm
theorem BdIn.lts{B bB bM:Nat}{n:Int}{V:Au}{vs:List Vw}{w:Ba}(h:BdIn B bB bM n V vs w):bB<w.heap.size/\bM<w.heap.size/\∀k,V.ownBlock=J k->B<=k/\k<w.heap.size:=by
 obtain⟨m,hm⟩:=h.num;exact⟨zj h.hB,hm.lt,h.own.lt⟩
theorem BdOn.bel{B bB bM:Nat}{n:Int}{V V':Au}{vs:List Vw}{w w':Ba}(h:BdIn B bB bM n V vs w)(k:BdOn bB bM V w V' w'):Am B w w':=by
 obtain⟨h1,h2,h3⟩:=h.lts;have h4:=h.lo;refine k.1.below (by omega) fun j hj hr=>?_
 rcases hr with e | e | e
 . omega
 . omega
 have:=(h3 j e).1;omega
theorem BdOn.set{bB bM:Nat}{V V':Au}{w w':Ba}(k:BdOn bB bM V w V' w'){g:Nat}(hg:w.heap.size<=g)(o:Nat)(u:Au):BdOn bB bM V w V' (w'.setCell ⟨g,o,Z⟩ u):=
 ⟨k.1.trans (Wrote.of_grown (R:=fun k=>k=g) (zV w' g o u) (fun k e _=>by cases e;rfl)) (fun k hk e=>by subst e;omega),k.2⟩
theorem BdOn.grown{bB bM:Nat}{V V':Au}{w w' w2:Ba}{row:Option Nat}(k:BdOn bB bM V w V' w')(hg:w'.grownBy w2 row)(hr:∀j,row=J j->w.heap.size<=j):BdOn bB bM V w V' w2:=
 ⟨k.1.trans (Wrote.of_grown (R:=fun k=>row=J k) hg (fun _ e _=>e)) (fun j hj e=>by have:=hr j e;omega),k.2⟩
theorem row_set{xs:List Int}{N p:Nat}(hx:xs.length=p)(hp:p<N)(u:Int):(xs++List.replicate (N-p) 0).set p u=(xs++[u])++List.replicate (N-(p+1)) 0:=by
 subst hx;rw[List.set_append_right _ _ (Ld _),Nq,show N-xs.length=(N-(xs.length+1))+1 by omega,List.replicate_succ,List.set_cons_zero];simp
structure RwIn(B bB bM N:Nat)(V0:Au)(w0:Ba)(gN:Nat)(f:Nat->Vw)(vs:List Vw)(p:Nat)(V1:Au)(W:Ba):Prop where
 bd:BdIn B bB bM N V1 (yx f vs p).1 W
 row:RowAt W gN ((yx f vs p).2++List.replicate (N-p) 0)
 on:BdOn bB bM V0 w0 V1 W
 ne:V1.ownBlock≠J gN
 ng:w0.heap.size<=gN
 nb:gN≠bB/\gN≠bM
theorem RwIn.on_{B bB bM N:Nat}{V0:Au}{w0:Ba}{gN:Nat}{f:Nat->Vw}{vs:List Vw}{p:Nat}{V1:Au}{W W':Ba}(H:RwIn B bB bM N V0 w0 gN f vs p V1 W)(hb:Am W.heap.size W W'):RwIn B bB bM N V0 w0 gN f vs p V1 W':=
 ⟨H.bd.on hb,Lb hb H.row.lt H.row,H.on.after hb,H.ne,H.ng,H.nb⟩
theorem RwIn.mid{B bB bM N:Nat}{V0:Au}{w0:Ba}{gN:Nat}{f:Nat->Vw}{vs:List Vw}{p:Nat}{V1 V':Au}{W W':Ba}(H:RwIn B bB bM N V0 w0 gN f vs p V1 W)(ho:BdOn bB bM V1 W V' W') :
  RowAt W' gN ((yx f vs p).2++List.replicate (N-p) 0)/\V'.ownBlock≠J gN:=by
 refine⟨(ho.1.block gN H.row.lt fun hr=>?_).trans H.row,fun e=>?_⟩
 . rcases hr with e | e | e
   . exact H.nb.1 e
   . exact H.nb.2 e
   exact H.ne e
 rcases ho.2 gN e with e | e
 . exact H.ne e
 have:=H.row.lt;omega
theorem RwIn.step{B bB bM N:Nat}{V0:Au}{w0:Ba}{gN:Nat}{f:Nat->Vw}{vs:List Vw}{p:Nat}{V1 V':Au}{W W':Ba}(H:RwIn B bB bM N V0 w0 gN f vs p V1 W)(hp:p<N)
  (hb:BdIn B bB bM N V' (qd (yx f vs p).1 (f p)).1 W') (ho:BdOn bB bM V1 W V' W') :
  RwIn B bB bM N V0 w0 gN f vs (p+1) V' (W'.setCell ⟨gN,p,Z⟩ (O U (qd (yx f vs p).1 (f p)).2)):=by
 obtain⟨h1,h2⟩:=H.mid ho;refine⟨hb.set H.nb.1 H.nb.2 h2 p _,?_,(H.on.trans ho).set H.ng p _,h2,H.ng,H.nb⟩;have h3:=h1.set p (qd (yx f vs p).1 (f p)).2;rw[row_set (xI f vs p) hp] at h3;exact h3
end
section
open Go.RowKit
attribute [local go_sem] Oper.semAt_some
theorem Jq{w:Ba}{A:Bb}{xs:List Int}(h:IAt w w.heap.size A xs):Raw w A xs.length (xs.map (O U)):=fun h0=>by
 obtain⟨b,off,e,hlt,hc⟩:=h h0;refine⟨b,off,e,hlt,fun j u hj=>?_⟩;obtain⟨x,hx,rfl⟩:∃x,xs[j]?=J x/\O U x=u:=by simpa using hj
 obtain⟨cc,rfl⟩:=Lq.1 hx;exact hc j cc
theorem Jr(xs:List Int):∀u∈xs.map (O U),u.oneCell'=Av:=fun u hu=>by obtain⟨x,_,rfl⟩:=LS.1 hu;rfl
theorem ints_own{w:Ba}{base:Nat}{v:Au}{xs:List Int}(h:OwnR kIn w base v xs.length (xs.map (O U))):∃A cap,v=I A xs.length cap/\xs.length<=cap/\cap<=maxLen/\IAtS (fun k=>base<=k) w A xs:=by
 have hlt:=h.lt;obtain⟨A,cap,rfl,hc,hm,hr⟩:=h.form;refine⟨A,cap,rfl,hc,hm,fun h0=>?_⟩;obtain⟨g,rfl,hg,dC,aA⟩:=hr h0;refine⟨g,0,rfl,(hlt g hg).1,dC,fun i hi=>?_⟩;rw[LI];exact aA i _ (by simp[hi])
theorem YE(A:Bb)(cap:Nat)(xs:List Int)(w:Ba)(hA:IAt w w.heap.size A xs)(hl:xs.length<=1000000) :
  An Al 80 #[I A xs.length cap] w fun e w'=>∃A' c,e=Ak (I A' xs.length c)/\IAtS (fun k=>w.heap.size<=k) w' A' xs/\Am w.heap.size w w':=
 (XH A xs.length cap (xs.map (O U)) w (by simp) (Jq hA) (Jr xs) hl).mono fun e w' ⟨v,h1,h2,h3⟩=>by
  obtain⟨A',c,h4,_,_,h5⟩:=ints_own h2;exact⟨A',c,by rw[h1,h4],h5,h3⟩
theorem gB(A:Bb)(cap:Nat)(xss:List (List Int))(w:Ba)(hA:LAt w w.heap.size A xss)(hl:xss.length<=100000)(aJ:∀v∈xss,v.length<=100000) :
  An Al 88 #[I A xss.length cap] w fun e w'=>∃v,e=Ak v/\OwnX cIs (fun k=>w.heap.size<=k) w' w.heap.size v xss/\Am w.heap.size w w':=by
 have HA:=zH hA;have fY:=zH aJ;go_enter func88,ntmps88;go_wp2_with fail
 go_loopw [3,8] (fun o i wr=>∃k:Nat,k<=xss.length/\i=O U (k:Int)/\As (OwnX cIs (fun b=>w.heap.size<=b) wr w.heap.size o (xss.take k))/\As (Am w.heap.size w wr)) (fun _ i _=>xss.length-(Ar i).toNat)
 case atStart=>exact⟨0,by omega,rfl,by rw[Pu];exact OwnX.nil _ _ _ _,Ll _ _⟩
 obtain⟨k,hk,rfl,HO,HB⟩:=hrel
 by_cases cJ:k<xss.length
 case neg=>
  obtain rfl:k=xss.length:=by omega
  rw[LK] at HO;go_wp2_with fail;go_ret;exact⟨_,rfl,HO.out,HB.out⟩
 obtain⟨b,off,A',c',e1,hb,c0,hI⟩:=(HA.out.keep HB.out).at_ k cJ;subst e1;have eZ:As (xss.take (k+1)=xss.take k++[xss[k]]):=Ls cJ;have rI:=fY.out _ (Lh cJ);have aO:=HB.out.size;have dg:(0:Int)<=(k:Int):=by omega
 have aM:(k:Int)<(xss.length:Int):=by omega
 have lA:(xss.take k).length=k:=by rw[PV];omega
 have HTL:=zH lA;obtain⟨x,hx⟩:=Kj (xss[k]);rw[hx] at c0 hI eZ rI;have HC:=zH (YE A' c' x wr (hI.more aO) (by omega));go_wp2_with fail;refine HC.out.mono ?_;rintro e w2 ⟨A2,c2,rfl,rK,ae⟩;have au:As (Am wr.heap.size wr (w2.alloc (Ag #[I A2 x.length c2] 50))):=ae.alloc ae.size _;have SG:As (IAtS (fun b=>wr.heap.size<=b) (w2.alloc (Ag #[I A2 x.length c2] 50)) A2 x):=rK.keep (KeepB.alloc _ _ _);have Bn:=zH (zx w2 (Ag #[I A2 x.length c2] 50));have Bi:=zH (HO.out.below yV au.out (Ld _));have ee:=ae.size;have RP:=zH HO.out.lt;go_wp2_with (at_builtin;obtain⟨aW,aA,l',bN⟩:=Bi.out;rw[HTL.out] at l';refine yE Qp rfl (.tmp 12) (.tmp 15) rfl w.heap.size u3 k aW.flatten rfl l' w2.heap.size #[I A2 x.length c2] rfl Bn.out rfl (by simp[Value.oneCell']) (by omega) (by simp;omega) _ rfl ?_;intro g' cap w7 pJ iW dO tP);have hX:cIs.lies (fun b=>(fun b=>w.heap.size<=b) b/\Value.ownBlock u3≠J b) _ [I A2 x.length c2] x:=⟨A2,c2,rfl,SG.out.mono fun b _ hb=>⟨by show w.heap.size<=b;omega,fun e=>by have:=(RP.out b e).2;omega⟩⟩;have nu:=pJ;rw[<-HTL.out] at nu;have tk:=zH (OwnX.app yV aA bN hX nu iW dO);rw[<-eZ.out,HTL.out] at tk;have pD:As (Am w.heap.size w w7):=(HB.out.trans (au.out.mono aO)).grown iW (by simp;omega) (fun b hb=>(RP.out b hb).1)
 go_roundw
 case rel=>exact⟨k+1,by omega,by go_num,tk,pD⟩
 simp[Ar];omega
end
section
open Go.RowKit
def f0(inp:List Int):Nat->Vw:=fun p=>yR p (inp.getD p 0)
def fk(word:List Rd)(k:Nat)(row:List Int):Nat->Vw:=fun p=>qn (word.getD k default) (k+1) p row
structure PlIn(B bB bM N:Nat)(V0:Au)(w0:Ba)(vs:List Vw)(inp:List Int)(word:List Rd)(k:Nat)(V1 o:Au)(gk:Nat)(W:Ba):Prop where
 bd:BdIn B bB bM N V1 (zC vs N inp word k).1 W
 on:BdOn bB bM V0 w0 V1 W
 out:OwnX cIs (fun b=>w0.heap.size<=b/\V1.ownBlock≠J b) W w0.heap.size o (zC vs N inp word k).2
 no:∀b,V1.ownBlock=J b->o.ownBlock≠J b
 row:RowAt W gk ((zC vs N inp word k).2.getD k [])
 gl:w0.heap.size<=gk
 ng:V1.ownBlock≠J gk
 og:o.ownBlock≠J gk
 lt:bB<w0.heap.size/\bM<w0.heap.size
theorem rowk_len(vs:List Vw)(N:Nat)(inp:List Int)(word:List Rd)(k:Nat):((zC vs N inp word k).2.getD k []).length=N:=by
 have hl:=yH vs N inp word k;rw[Lf,Li (by omega)];exact ko vs N inp word k _ (Lh _)
section
variable {B bB bM N:Nat} {V0:Au} {w0:Ba} {vs:List Vw} {inp:List Int} {word:List Rd}
theorem PlIn.start{V1:Au}{gN:Nat}{W:Ba}(_hN:N<=5)(h:RwIn B bB bM N V0 w0 gN (f0 inp) vs N V1 W)(hl:bB<w0.heap.size/\bM<w0.heap.size) :
  PlIn B bB bM N V0 w0 vs inp word 0 V1 (I (J ⟨W.heap.size,0,Z⟩) 1 1) gN (W.alloc (Ag #[I (J ⟨gN,0,Z⟩) N N] 50)):=by
 have eM:=xI (f0 inp) vs N;have dC:=h.row.lt;have hb:=zW W (Ag #[I (J ⟨gN,0,Z⟩) N N] 50);have ah:=h.row;rw[Nq,List.replicate_zero,Nk] at ah;refine⟨h.bd.on hb,h.on.after hb,⟨[[I (J ⟨gN,0,Z⟩) N N]],rfl,?_,fun i i1 i2=>?_⟩,fun b e e2=>?_,Lb hb dC ah,h.ng,h.ne,fun e=>?_,hl⟩
 . refine OwnR.of_block (K:=kIs) (n:=1) (zx W _) ?_ rfl (by unfold maxLen;omega)
   have:=h.on.1.size;omega
 . obtain rfl:i=0:=by simp at i1;omega
   refine⟨J ⟨gN,0,Z⟩,N,?_,?_⟩
   . show [I (J ⟨gN,0,Z⟩) N N]=[.slice (J ⟨gN,0,Z⟩) (yx (f0 inp) vs N).2.length N]
     rw[eM]
   intro _;refine⟨gN,0,rfl,⟨⟨h.ng,h.ne⟩,fun e=>?_⟩,by simp;omega,fun j hj=>?_⟩
   . have:W.heap.size=gN:=by simpa[Value.ownBlock] using e
     omega
   rw[LI];exact RowAt.cell (Lb hb dC ah) j hj
 . have h1:W.heap.size=b:=by simpa[Value.ownBlock] using e2
   have:=(h.bd.own.lt b e).2;omega
 have h1:W.heap.size=gN:=by simpa[Value.ownBlock] using e
 omega
theorem PlIn.outn{k:Nat}{V1 o:Au}{gk:Nat}{W Wx:Ba}{gX:Nat}{f:Nat->Vw}{V3:Au}{p:Nat}{W3:Ba}(h:PlIn B bB bM N V0 w0 vs inp word k V1 o gk W)(hx:Am W.heap.size W Wx)
  (r:RwIn B bB bM N V1 Wx gX f (zC vs N inp word k).1 p V3 W3) :
  OwnX cIs (fun b=>w0.heap.size<=b/\V3.ownBlock≠J b) W3 w0.heap.size o (zC vs N inp word k).2/\(∀b,V3.ownBlock=J b->o.ownBlock≠J b):=by
 have hsx:=hx.size;have iU:=h.out.lt
 have h1:OwnX cIs (fun b=>(w0.heap.size<=b/\V1.ownBlock≠J b)/\V3.ownBlock≠J b) Wx w0.heap.size o (zC vs N inp word k).2:=
  (h.out.below yV hx (Ld _)).mono yV fun b hb hs=>⟨hs,fun e=>by
   rcases r.on.2 b e with e | e
   . exact hs.2 e
   . omega⟩
 refine⟨(h1.keep yV (r.on.1.keep fun b _ hs hr=>?_) fun b hb=>r.on.1.block b (by have:=(iU b hb).2;omega) fun hr=>?_).mono yV fun b _ hs=>⟨hs.1.1,hs.2⟩,fun b e e2=>?_⟩
 . rcases hr with e | e | e
   . have:=h.lt.1;have:=hs.1.1;omega
   . have:=h.lt.2;have:=hs.1.1;omega
   exact hs.1.2 e
 . have:=(iU b hb).1
   rcases hr with e | e | e
   . have:=h.lt.1;omega
   . have:=h.lt.2;omega
   exact h.no b e hb
 rcases r.on.2 b e with e | e
 . exact h.no b e e2
 have:=(iU b e2).2;omega
theorem PlIn.rown{k:Nat}{V1 o:Au}{gk:Nat}{W Wx:Ba}{gX:Nat}{f:Nat->Vw}{V3:Au}{p:Nat}{W3:Ba}(h:PlIn B bB bM N V0 w0 vs inp word k V1 o gk W)(hx:Am W.heap.size W Wx)
  (r:RwIn B bB bM N V1 Wx gX f (zC vs N inp word k).1 p V3 W3):RowAt W3 gk ((zC vs N inp word k).2.getD k []):=by
 have hsx:=hx.size;have dC:=h.row.lt;refine(r.on.1.block gk (by omega) fun hr=>?_).trans (Lb hx dC h.row);have:=h.gl;rcases hr with e | e | e
 . have:=h.lt.1;omega
 . have:=h.lt.2;omega
 exact h.ng e
theorem PlIn.next{k:Nat}{V1 o:Au}{gk:Nat}{W Wx:Ba}{gX:Nat}{V3:Au}{W3 W4 w5:Ba}{aW:List (List Au)}{g' cap:Nat}(h:PlIn B bB bM N V0 w0 vs inp word k V1 o gk W)(hx:Am W.heap.size W Wx)
  (r:RwIn B bB bM N V1 Wx gX (fk word k ((zC vs N inp word k).2.getD k [])) (zC vs N inp word k).1 N V3 W3) (h4:Am W3.heap.size W3 W4)
  (aA:aW.length=(zC vs N inp word k).2.length) (bN:∀(i:Nat) (h1:i<aW.length) (h2:i<(zC vs N inp word k).2.length),cIs.lies (fun b=>(w0.heap.size<=b/\V3.ownBlock≠J b)/\o.ownBlock≠J b) W4 aW[i] (zC vs N inp word k).2[i])
  (hr:OwnR kIs w5 w0.heap.size (I (J ⟨g',0,Z⟩) ((zC vs N inp word k).2.length+1) cap) ((zC vs N inp word k).2.length+1) (aW.flatten++[I (J ⟨gX,0,Z⟩) N N]))
  (hg:W4.grownBy w5 o.ownBlock) (aI:o.ownBlock=J g'\/g'=W4.heap.size) :
  PlIn B bB bM N V0 w0 vs inp word (k+1) V3 (I (J ⟨g',0,Z⟩) ((zC vs N inp word k).2.length+1) cap) gX w5:=by
 obtain⟨rH,nc⟩:=h.outn hx r;have eM:=xI (fk word k ((zC vs N inp word k).2.getD k [])) (zC vs N inp word k).1 N;have dC:=r.row.lt;have iy:=h4.size;have hsx:=hx.size;have iU:=rH.lt;have hlW:=h.on.1.size;have hxg:=r.ng
 have Fr:o.ownBlock≠J gX:=fun e=>by
  have:=(h.out.lt gX e).2;omega
 have ah:=r.row;rw[Nq,List.replicate_zero,Nk] at ah;have LR:RowAt w5 gX (yx (fk word k ((zC vs N inp word k).2.getD k [])) (zC vs N inp word k).1 N).2:=(hg.block gX (by omega) (fun e=>Fr e.symm)).trans (Lb h4 dC ah);have e1:(zC vs N inp word (k+1)).2=(zC vs N inp word k).2++[(yx (fk word k ((zC vs N inp word k).2.getD k [])) (zC vs N inp word k).1 N).2]:=rfl;have ay:=yH vs N inp word k
 have y':V3.ownBlock≠J g':=fun e=>by
  rcases aI with e2 | e2
  . exact nc g' e e2
  . have:=(r.bd.own.lt g' e).2;omega
 have hX:cIs.lies (fun b=>(w0.heap.size<=b/\V3.ownBlock≠J b)/\o.ownBlock≠J b) W4 [I (J ⟨gX,0,Z⟩) N N] (yx (fk word k ((zC vs N inp word k).2.getD k [])) (zC vs N inp word k).1 N).2:=by
  refine⟨J ⟨gX,0,Z⟩,N,by rw[eM],fun _=>⟨gX,0,rfl,⟨⟨by omega,r.ne⟩,Fr⟩,by omega,fun j hj=>?_⟩⟩;rw[LI];exact RowAt.cell (Lb h4 dC ah) j hj
 refine⟨?_,?_,?_,?_,?_,by omega,r.ne,?_,h.lt⟩
 . refine(r.bd.on h4).grown hg (fun e=>?_) (fun e=>?_) (fun b hb e=>nc b hb e)
   . have:=(iU bB e).1;have:=h.lt.1;omega
   have:=(iU bM e).1;have:=h.lt.2;omega
 . exact((h.on.after hx).trans (r.on.after h4)).grown hg (fun j hj=>(iU j hj).1)
 . rw[e1]
   exact OwnX.app yV aA bN hX hr hg aI
 . intro b hb e
   have:g'=b:=by simpa[Value.ownBlock] using e
   subst this;exact y' hb
 . rw[e1,Lf,Ly (by omega),ay,Nq]
   exact LR
 intro e;have:g'=gX:=by simpa[Value.ownBlock] using e
 subst this;rcases aI with e2 | e2
 . exact Fr e2
 omega
end
def xS(r:Rd)(p:Nat)(row:List Int)(q j:Nat):Int:=if j<q then yh r p row j else -1
def jc(r:Rd)(k p:Nat)(row:List Int)(q:Nat):Vw:=⟨p,k,0,xS r p row q 0,xS r p row q 1,xS r p row q 2,xS r p row q 3,xS r p row q 4⟩
theorem heardQ_end(r:Rd)(p:Nat)(row:List Int)(j:Nat):xS r p row row.length j=yh r p row j:=by
 unfold xS yh
 split
 . rfl
 rename_i h;rw[Lg (fun h2=>h h2.1)]
theorem seenQ_end(r:Rd)(k p:Nat)(row:List Int):jc r k p row row.length=qn r k p row:=by
 unfold jc qn;simp only[heardQ_end]
theorem Zd(r:Rd)(p:Nat)(row:List Int)(q j:Nat)(h:j≠q):xS r p row (q+1) j=xS r p row q j:=by
 unfold xS
 by_cases h1:j<q
 . rw[Lj h1,Lj (by omega)]
 rw[Lg h1,Lg (by omega)]
theorem seenQ_no(r:Rd)(k p:Nat)(row:List Int)(q:Nat)(h:(r.h p).toNat.testBit q=Aw):jc r k p row (q+1)=jc r k p row q:=by
 have key:∀j,xS r p row (q+1) j=xS r p row q j:=fun j=>by
  by_cases e:j=q
  . subst e
    have h1:yh r p row j=-1:=by unfold yh;rw[Lg (fun h2=>by rw[h] at h2;cases h2.2)]
    unfold xS;rw[Lj (by omega),Lg (by omega),h1]
  . exact Zd r p row q j e
 unfold jc;simp only[key]
theorem seenQ_yes(r:Rd)(k p:Nat)(row:List Int)(q:Nat)(hq:q<row.length)(h5:q<5)(h:(r.h p).toNat.testBit q=Av):(jc r k p row q).cells.setIfInBounds (3+q) (O U row[q])=(jc r k p row (q+1)).cells:=by
 have e:xS r p row (q+1) q=row[q]:=by
  unfold xS;rw[Lj (by omega)];unfold yh;rw[Lj ⟨hq,h⟩,Lf,Li hq];rfl
 have key:=fun j (h:j≠q)=>Zd r p row q j h
 unfold jc Vw.cells
 match q,h5 with
 | 0,_=>simp only[key 1 (by decide),key 2 (by decide),key 3 (by decide),key 4 (by decide),e];rfl
 | 1,_=>simp only[key 0 (by decide),key 2 (by decide),key 3 (by decide),key 4 (by decide),e];rfl
 | 2,_=>simp only[key 1 (by decide),key 0 (by decide),key 3 (by decide),key 4 (by decide),e];rfl
 | 3,_=>simp only[key 1 (by decide),key 2 (by decide),key 0 (by decide),key 4 (by decide),e];rfl
 | 4,_=>simp only[key 1 (by decide),key 2 (by decide),key 3 (by decide),key 0 (by decide),e];rfl
theorem Rd.cells_h(r:Rd)(p:Nat)(hp:p<5):r.cells[1+p]?=J (O U (r.h p)):=by
 match p,hp with
 | 0,_=>rfl
 | 1,_=>rfl
 | 2,_=>rfl
 | 3,_=>rfl
 | 4,_=>rfl
theorem JQ{h j:Nat}(hh:h<32)(hj:j<5):(bits BinOp.and U ((h:Int) / 2^j) 1==1)=h.testBit j:=by
 match j,hj with
 | 0,_=>exact LA (kr (p:=fun h=>decide ((bits BinOp.and U ((h:Int) / 2^0) 1==1)=h.testBit 0)) (by decide +kernel) hh)
 | 1,_=>exact LA (kr (p:=fun h=>decide ((bits BinOp.and U ((h:Int) / 2^1) 1==1)=h.testBit 1)) (by decide +kernel) hh)
 | 2,_=>exact LA (kr (p:=fun h=>decide ((bits BinOp.and U ((h:Int) / 2^2) 1==1)=h.testBit 2)) (by decide +kernel) hh)
 | 3,_=>exact LA (kr (p:=fun h=>decide ((bits BinOp.and U ((h:Int) / 2^3) 1==1)=h.testBit 3)) (by decide +kernel) hh)
 | 4,_=>exact LA (kr (p:=fun h=>decide ((bits BinOp.and U ((h:Int) / 2^4) 1==1)=h.testBit 4)) (by decide +kernel) hh)
theorem Zc{r:Rd}(h:yN r=0)(p:Nat)(hp:p<5):0<=r.h p/\r.h p<32:=by
 unfold yN at h
 split at h
 . cases h
 rename_i hn
 have key:∀k,k<=5->yJ r (5-k) k=0->∀q,k<=q->q<5->xE r.n q (r.h q)=0:=by
  intro k hk
  induction hm:5-k generalizing k with
  | zero=>intro _ q h1 h2;omega
  | succ m ih=>
   intro hz q h1 h2;unfold yJ at hz
   split at hz
   . rename_i az;exact absurd hz az
   . rename_i az
     by_cases e:q=k
     . subst e;simpa using az
     . exact ih (k+1) (by omega) (by omega) hz q (by omega) h2
 have h1:=key 0 (by omega) h p (by omega) hp;unfold xE at h1
 split at h1
 . split at h1
   . cases h1
   rename_i h2;have:r.h p=0:=by simpa using h2
   omega
 split at h1
 . cases h1
 rename_i h2
 have h3:(2^r.n.toNat-1:Nat)<32:=by
  have:2^r.n.toNat<=2^5:=Nt (by omega) (by omega);omega
 omega
end
section
open Go.RowKit
attribute [local go_sem] Oper.semAt_some
theorem play_any(B bB bM N:Nat)(h1:1<=N)(h5:N<=5)(V:Au)(vs:List Vw)(mV:vs.length<=40000)(inp:List Int)(cx:inp.length=N)(word:List Rd)(CK:word.length<=6)(oe:∀r∈word,yu r=0/\r.n=N)
  (A AW:Bb) (ci cw:Nat) (w:Ba) (lj:B<=w.heap.size) (H:BdIn B bB bM N V vs w) (hI:IAt w B A inp) (hW:RAt w B AW word) :
  An Al 53 #[Aj (J ⟨bB,0,Z⟩),I A inp.length ci,I AW word.length cw] w fun e w'=>∃v V',e=Ak v/\BdIn B bB bM N V' (zC vs N inp word word.length).1 w'/\BdOn bB bM V w V' w' /\
   OwnX cIs (fun b=>w.heap.size<=b/\V'.ownBlock≠J b) w' w.heap.size v (zC vs N inp word word.length).2/\∀b,V'.ownBlock=J b->v.ownBlock≠J b:=by
 have HI:=zH hI;have HW:=zH hW;have Uy:=zH oe;have HH:=zH H;have fl:=wO N h1 (by omega);have HM:=zH fl;obtain⟨ar,oz⟩:=Kj (((List.replicate N 0).map (O U)).toArray);rw[oz] at fl;have ry:=zH oz;have b0:=zh H.hB 0 rfl;have mP:=zH cx;rw[cx];obtain⟨l1,l2,l3⟩:=H.lts;clear oz hI hW oe H cx l3;go_enter func53,ntmps53;go_wp2_with fail;obtain⟨w1,ab,d0,av,aV⟩:=zn w ar 3;rw[ab]
 have R1:As (RwIn B bB bM N V w w.heap.size (f0 inp) vs 0 V w1):=
  ⟨HH.out.on aV,by show w1.heap[w.heap.size]?=_;rw[d0,<-ry.out];rfl,(BdOn.refl _ _ _ _).after aV,fun e=>by have:=(HH.out.own.lt _ e).2;omega,Ld _,by omega,by omega⟩
 go_loopw [24] (fun i wr=>∃(p:Nat) (V1:Au),p<=N/\i=O U (p:Int)/\As (RwIn B bB bM N V w w.heap.size (f0 inp) vs p V1 wr)) (fun i _=>N-(Ar i).toNat)
 case atStart=>exact⟨0,V,by omega,rfl,R1.out⟩
 obtain⟨p,V1,hp,rfl,HR⟩:=hrel
 by_cases Mi:p<N
 case neg=>
  obtain rfl:N=p:=by omega
  go_wp2_with fail;have P0:=zH (PlIn.start (word:=word) h5 HR.out ⟨l1,l2⟩);obtain⟨W1,dj⟩:=Kj (wr.alloc (Ag #[I (J ⟨w.heap.size,0,Z⟩) N N] 50));rw[dj] at P0 ⊢;obtain⟨g0,sn⟩:=Kj wr.heap.size;rw[sn] at P0 ⊢;obtain⟨gn,hgn⟩:=Kj w.heap.size;rw[hgn];have P0:As (PlIn B bB bM N V w vs inp word 0 V1 (I (J ⟨g0,0,Z⟩) 1 1) gn W1):=by rw[<-hgn];exact P0.out
  go_loopw [7,9,44] (fun nw o i wr=>∃(k:Nat) (V1:Au) (gk:Nat),k<=word.length/\nw=I (J ⟨gk,0,Z⟩) N N/\i=O U (k:Int)/\As (PlIn B bB bM N V w vs inp word k V1 o gk wr)) (fun _ _ i _=>word.length-(Ar i).toNat)
  case atStart=>exact⟨0,V1,gn,by omega,rfl,rfl,P0.out⟩
  obtain⟨k,V2,gk,hk,rfl,rfl,HP⟩:=hrel
  by_cases cJ:k<word.length
  case neg=>
   obtain rfl:k=word.length:=by omega
   go_wp2_with fail;go_ret;exact⟨_,V2,rfl,HP.out.bd,HP.out.on,HP.out.out,HP.out.no⟩
  obtain⟨bw,ow,e1,bz,c0,c1,c2,c3,c4,c5,c6⟩:=(HW.out.keep (HP.out.on.bel HH.out)).row k cJ;subst e1;have rC:=Uy.out _ (Lh cJ);have iI:word.getD k default=word[k]:=by rw[Lf,Li cJ];rfl
  obtain⟨r,hr⟩:=Kj (word[k]);rw[hr] at c0 c1 c2 c3 c4 c5 c6 rC iI;have HGD:=zH iI;have HRD:=zH (kh rC.1).2.2.1;have dg:(0:Int)<=(k:Int):=by omega
  have aM:(k:Int)<(word.length:Int):=by omega
  have hkw:IntKind.i64.wrap ((k:Int)+1)=(k:Int)+1:=by rw[Lo];omega
  have b0:wr.cell? ⟨bB,0,Z⟩=J (O U (N:Int)):=zh HP.out.bd.hB 0 rfl;have hbBw:bB<wr.heap.size:=HP.out.bd.lts.1;have hbww:bw<wr.heap.size:=by have:=HP.out.on.1.size;omega
  clear hr rC iI;go_wp2_with fail;clear c0 c1 c2 c3 c4 c5 c6;obtain⟨W1,dj,g0,eh,Ue⟩:=zn wr r.cells 76;unfold Rd.cells at dj;rw[dj];obtain⟨W2,dZ,x0,ee,hBy⟩:=zn W1 ar 3;rw[dZ];rw[eh] at x0;have SJ:=zH g0;have bD:=zH Ue;obtain⟨row,ah⟩:=Kj ((zC vs N inp word k).2.getD k []);have cF:=zH ah;have cX:As (row.length=N):=by rw[<-ah];exact rowk_len vs N inp word k
  have DF:=HP.out.on.1.size
  have R0:As (RwIn B bB bM N V2 W1 (wr.heap.size+1) (fk word k row) (zC vs N inp word k).1 0 V2 W2):=
   ⟨(HP.out.bd.on Ue).on hBy,by show W2.heap[_]?=_;rw[x0,<-ry.out];rfl,(BdOn.refl _ _ _ _).after hBy,fun e=>by have:=(HP.out.bd.own.lt _ e).2;omega,by omega,by omega,by omega⟩
  have HPF:=zH (jf vs N inp word k)
  have hNk:(k+1)*N<=35:=by
   have:=LU (show k+1<=7 by omega) h5;omega
  obtain⟨wo,rfl⟩:∃x,x=wr:=⟨_,rfl⟩
  go_loopw [56] (fun i wx=>∃(q:Nat) (V3:Au),q<=N/\i=O U (q:Int)/\As (RwIn B bB bM N V2 W1 (wo.heap.size+1) (fk word k row) (zC vs N inp word k).1 q V3 wx)) (fun i _=>N-(Ar i).toNat)
  case atStart=>exact⟨0,V2,by omega,rfl,R0.out⟩
  obtain⟨q,V3,hq,rfl,HR⟩:=hrel
  by_cases hqN:q<N
  case neg=>
   obtain rfl:N=q:=by omega
   have rH:=HP.out.outn bD.out HR.out;have ay:=yH vs N inp word k;have hgX:=HR.out.row.lt;have rW:=zH (zx wr (Ag #[I (J ⟨wo.heap.size+1,0,Z⟩) N N] 50));have mN:=zH (rH.1.below yV (zW wr (Ag #[I (J ⟨wo.heap.size+1,0,Z⟩) N N] 50)) (Ld _));have HL:=zH ay;have KH:w.heap.size<=wr.heap.size:=by have:=HR.out.on.1.size;omega
   go_wp2_with (at_builtin;obtain⟨aW,aA,l',bN⟩:=mN.out;rw[HL.out] at l';refine yE Qp rfl (.tmp 92) (.tmp 94) rfl w.heap.size u9 (k+1) aW.flatten rfl l' wr.heap.size #[I (J ⟨wo.heap.size+1,0,Z⟩) N N] rfl rW.out rfl (by simp[Value.oneCell']) (by omega) (by simp;omega) _ rfl ?_;intro g' cap w7 pJ iW dO tP);have Ez:=HR.out;rw[<-cF.out] at Ez;have nu:=pJ;rw[<-HL.out] at nu;have lQ:=zH (PlIn.next HP.out bD.out Ez (zW wr _) aA bN nu iW dO);rw[HL.out] at lQ
   go_roundw
   case rel=>exact⟨k+1,V3,wo.heap.size+1,by omega,rfl,by go_num,lQ⟩
   simp[Ar];omega
  go_wp2_with fail;refine(gK wr).mono ?_;rintro e w3 ⟨rfl,ak⟩;have R3:=zH (HR.out.on_ ak);go_wp2_with fail;obtain⟨W4,oA,v0,Fc,fG⟩:=zn w3 (jc r (k+1) q row 0).cells 133;have sv:w3.alloc (Ag #[O U (q:Int),O U ((k:Int)+1),O U 0,O U (-1),O U (-1),O U (-1),O U (-1),O U (-1)] 133)=W4:=by rw[<-oA];rfl
  rw[sv];have cz:=ak.size;have WL:wo.heap.size<w3.heap.size:=by have:=HR.out.on.1.size;omega
  have SI:As (w3.heap[wo.heap.size]?=J (Ag r.cells 76 (0,0))):=by
   refine(R3.out.on.1.block wo.heap.size (by omega) fun hr=>?_).trans SJ.out;have:=HP.out.bd.lts;rcases hr with e | e | e
   . omega
   . omega
   have:=(this.2.2 _ e).2;omega
  have EB:As (RowAt w3 gk row):=by have:=HP.out.rown bD.out R3.out;rw[cF.out] at this;exact this
  obtain⟨wp,rfl⟩:∃x,x=wr:=⟨_,rfl⟩
  go_loopw [66] (fun i wy=>∃j:Nat,j<=N/\i=O U (j:Int)/\As (wy.heap[w3.heap.size]?=J (Ag (jc r (k+1) q row j).cells 133 (0,0)))/\As (Am w3.heap.size w3 wy)) (fun i _=>N-(Ar i).toNat)
  case atStart=>exact⟨0,by omega,rfl,v0,fG⟩
  clear v0 fG Fc;obtain⟨j,hj,rfl,HV,SZ⟩:=hrel
  by_cases hjN:j<N
  case neg=>
   obtain rfl:N=j:=by omega
   have nF:fk word k row q=jc r (k+1) q row N:=by
    have:=seenQ_end r (k+1) q row;rw[cX.out] at this;rw[this];show qn (word.getD k default) (k+1) q row=_;rw[HGD.out]
   obtain⟨vw,hvw⟩:=Kj (jc r (k+1) q row N);rw[hvw] at HV nF;have x0:wr.cell? ⟨w3.heap.size,0,Z⟩=J (O U vw.p):=zh HV.out 0 rfl;have x1:wr.cell? ⟨w3.heap.size,1,Z⟩=J (O U vw.r):=zh HV.out 1 rfl;have x2:wr.cell? ⟨w3.heap.size,2,Z⟩=J (O U vw.i):=zh HV.out 2 rfl;have x3:wr.cell? ⟨w3.heap.size,3,Z⟩=J (O U vw.h0):=zh HV.out 3 rfl;have x4:wr.cell? ⟨w3.heap.size,4,Z⟩=J (O U vw.h1):=zh HV.out 4 rfl;have x5:wr.cell? ⟨w3.heap.size,5,Z⟩=J (O U vw.h2):=zh HV.out 5 rfl;have x6:wr.cell? ⟨w3.heap.size,6,Z⟩=J (O U vw.h3):=zh HV.out 6 rfl;have x7:wr.cell? ⟨w3.heap.size,7,Z⟩=J (O U vw.h4):=zh HV.out 7 rfl;have R4:=R3.out.on_ SZ.out;have hsq:=jd (fk word k row) (zC vs N inp word k).1 q;have HAD:=zH (JU B bB bM N V3 (yx (fk word k row) (zC vs N inp word k).1 q).1 vw (by have:=HPF.out;omega) wr R4.bd);have mL:=zH R4;have rX:=zH nF;have sS:(0:Int)<=(q:Int):=by omega
   have mZ:(q:Int)<(N:Int):=by omega
   go_wp2_with fail;refine HAD.out.mono ?_;rintro e w5 ⟨rfl,V5,TS,na⟩;have pk:=mL.out.mid na;rw[<-rX.out] at TS;have Ey:=zH (mL.out.step hqN TS na);rw[rX.out] at Ey;obtain⟨u5,c5⟩:∃u:Int,w5.cell? ⟨wo.heap.size+1,q,Z⟩=J (O U u):=⟨_,pk.1.cell q (by rw[Lr,xI,LO];omega)⟩;have y5:=pk.1.froz q;go_wp2_with fail
   go_roundw
   case rel=>exact⟨q+1,V5,by omega,by go_num,Ey⟩
   simp[Ar];omega
  have WC:=EB.out.lt;have hjr:j<row.length:=by have:=cX.out;omega
  have n0:=(SZ.out.cell (p:=⟨gk,j,Z⟩) WC).trans (EB.out.cell j hjr);have m0:wr.cell? ⟨wo.heap.size,1+q,Z⟩=J (O U (r.h q)):=(SZ.out.cell (p:=⟨wo.heap.size,1+q,Z⟩) WL).trans (zh SI.out (1+q) (Rd.cells_h r q (by omega)));obtain⟨y,hy⟩:=Kj (row[j]);rw[hy] at n0;have rA:=Zc HRD.out q (by omega);obtain⟨h,hh⟩:=Lp rA.1;have Wz:h<32:=by omega
  rw[hh] at m0;have DW:(0:Int)<=(j:Int):=by omega
  have BK:(j:Int)<(N:Int):=by omega
  have TM:(j:Int)<5:=by omega
  have sS:(0:Int)<=(q:Int):=by omega
  have Md:(q:Int)<5:=by omega
  have pU:=JQ Wz (show j<5 by omega);have hrt:(r.h q).toNat=h:=by rw[hh];rfl
  have HNO:=zH (seenQ_no r (k+1) q row j);have OY:=zH (seenQ_yes r (k+1) q row j hjr (by omega));rw[hrt,hy] at OY;rw[hrt] at HNO;have z0:wr.cell? ⟨w3.heap.size,3+j,Z⟩=J (O U ((jc r (k+1) q row j).h j)):=zh HV.out (3+j) (Vw.cells_h _ j (by omega));have zf:=zi HV.out (3+j)
  by_cases hb:h.testBit j=Av
  case pos=>
   rw[hb] at pU;have HS:=zH (OY.out hb);go_wp2_with fail
   go_roundw
   case rel=>exact⟨j+1,by omega,by go_num,by show _=_;rw[Lk wr _ (3+j) _ _ _ HV.out,HS.out],SZ.out.setCell (Ld _) _⟩
   simp[Ar];omega
  have ae:h.testBit j=Aw:=by simpa using hb
  rw[ae] at pU;have HS:=zH (HNO.out ae);go_wp2_with fail
  go_roundw
  case rel=>exact⟨j+1,by omega,by go_num,by show _=_;rw[HS.out];exact HV.out,SZ.out⟩
  simp[Ar];omega
 have cx:=mP.out;obtain⟨bi,oi,e1,hbi,i0⟩:=(HI.out.keep (HR.out.on.bel HH.out)).at_ p (by omega);subst e1;have Wt:As ((f0 inp) p=yR p inp[p]):=by show yR p (inp.getD p 0)=_;rw[Lf,Li (by omega)];rfl
 obtain⟨x,hx⟩:=Kj (inp[p]);rw[hx] at i0 Wt;have iB:(0:Int)<=(p:Int):=by omega
 have iS:(p:Int)<(N:Int):=by omega
 have aY:bi<wr.heap.size:=by have:=HR.out.row.lt;omega
 go_wp2_with fail;have nf:=zH (jd (f0 inp) vs p)
 refine zr [(0,Av),(1,Av),(2,Av),(3,Av),(4,Av),(5,Av),(6,Av),(7,Av),(8,Aw),(9,Aw),(10,Aw),(11,Aw),(12,Aw)]
  (fun W=>W.cell? ⟨bi,oi+p,Z⟩=J (O U x)) (by kernel_rfl) (by kernel_rfl) (by exact i0) ?_
 repeat
  apply zk rfl
  . rintro K' aa W y0
    go_simp;exact aa
 refine zu rfl ?_;intro K' aa;go_simp;refine(gK wr.drew).mono ?_;rintro e w3 ⟨rfl,ak⟩;have ak:Am wr.heap.size wr w3:=JR ak;have R3:=HR.out.on_ ak;have i3:=(ak.cell (p:=⟨bi,oi+p,Z⟩) aY).trans i0;refine aa _ _ i3 ?_;refine zu rfl ?_;intro K' aa;go_simp;refine aa _ _ i3 ?_;refine zu rfl ?_;intro K' aa;go_simp;refine(JU B bB bM N V1 (yx (f0 inp) vs p).1 (yR p x) (by have:=nf.out;omega) w3 R3.bd).mono ?_;rintro e w4 ⟨rfl,V4,hd4,CC⟩;have Ib:=R3.mid CC;rw[<-Wt.out] at hd4;have Bd:=zH (R3.step Mi hd4 CC);rw[Wt.out] at Bd
 have i4:w4.cell? ⟨bi,oi+p,Z⟩=J (O U x):=by
  refine(LL (CC.1.block bi (by have:=ak.size;omega) fun hr=>?_)).trans i3;have iE:=HR.out.bd.lo;rcases hr with e | e | e
  . omega
  . omega
  have:=(R3.bd.own.lt bi e).1;omega
 refine aa _ _ i4 ?_;obtain⟨u4,c4⟩:∃u:Int,w4.cell? ⟨w.heap.size,p,Z⟩=J (O U u):=⟨_,Ib.1.cell p (by rw[Lr,xI,LO];omega)⟩;have y4:=Ib.1.froz p;refine zu rfl ?_;intro K' aa;go_simp;refine aa _ _ i4 ?_;refine yd rfl (by kernel_rfl) ?_;intro K' aa;go_simp;refine aa (fun _=>True) _ _ trivial ?_;refine zz ?_;go_wp2_with fail
 go_roundw
 case rel=>exact⟨p+1,V4,by omega,by go_num,Bd⟩
 simp[Ar];omega
end
section
open Go.RowKit Go.Shelf
attribute [local go_sem] Oper.semAt_some
def zt(n:Nat):Nat->Nat->List (Nat×Nat)
 | _,0=>[]
 | i,m+1=>(List.range n).map (fun j=>(i,j))++zt n (i+1) m
def yS(n i j:Nat):List (Nat×Nat):=((List.range n).drop j).map fun j=>(i,j)
theorem uy{n i j:Nat}(h:j<n):yS n i j=(i,j)::yS n i (j+1):=by
 unfold yS;rw[Lz (by simpa using h)];simp
theorem gM(n i:Nat):yS n i n=[]:=by unfold yS;simp
theorem xX{n:Nat}:∀(m i:Nat) (x:Nat×Nat),x∈zt n i m->i<=x.1/\x.1<i+m/\x.2<n
 | 0,_,_,h=>by cases h
 | m+1,i,x,h=>by
  rcases LX.1 h with h | h
  . obtain⟨j,hj,rfl⟩:=LS.1 h
    exact⟨Ld _,by show i<_;omega,by simpa using hj⟩
  . obtain⟨a,b,c⟩:=xX m (i+1) x h
    exact⟨by omega,by omega,c⟩
theorem execs_any(p:Pb)(A:Bb)(kc:Nat)(SV:Bb)(ks:Nat)(V:Bb)(nw cw:Nat)(w:Ba):An Al 51 #[.agg (p.vs A kc SV ks),I V nw cw] w fun e w'=>
  e=Ak (.func (.func 91) #[] #[Aj (J ⟨w.heap.size,0,Z⟩),Aj (J ⟨w.heap.size+1,0,Z⟩)])/\(w.alloc (Ag (p.vs A kc SV ks) 29)).alloc (Ag #[I V nw cw] 113)=w':=by
 unfold Pb.vs;go_enter func51,ntmps51;go_wp2;go_ret;exact⟨rfl,rfl⟩
def SlAt(w:Ba)(B:Nat)(AW:Bb)(nw:Nat)(sl:Nat->Au):Prop:=∀j,j<nw->∃b off,AW=J ⟨b,off,Z⟩/\b<B/\w.cell? ⟨b,off+j,Z⟩=J (sl j)
theorem SlAt.same{w w':Ba}{B:Nat}{AW:Bb}{nw:Nat}{sl:Nat->Au}(h:SlAt w B AW nw sl)(hk:∀k,k<B->w'.heap[k]?=w.heap[k]?):SlAt w' B AW nw sl:=fun j hj=>by
 obtain⟨b,off,e,hb,hc⟩:=h j hj;exact⟨b,off,e,hb,(LL (hk b hb)).trans hc⟩
theorem JI(C:Array Au)(M:Nat)(hf:M<=30)(A:Bb)(kc:Nat)(hC:C[3]?=J (I A M kc))(AW:Bb)(nw cw:Nat)(iC:nw<=5000)(sl:Nat->Au)(B bp bw:Nat)(w:Ba)(hp:w.heap[bp]?=J (Ag C 29))(hw:w.heap[bw]?=J (Ag #[I AW nw cw] 113))
  (hS:SlAt w B AW nw sl) (hB:B<=w.heap.size) :
  Y1 Al 91 #[Aj (J ⟨bp,0,Z⟩),Aj (J ⟨bw,0,Z⟩)] (fun x:Nat×Nat=>#[O U x.1,sl x.2]) (fun k=>k<B\/k=bp\/k=bw) (zt nw 0 M) w:=fun n hn l Af Jx W hW hJ OG hY h0=>by
 have my:bp<w.heap.size:=(Ln.1 hp).1;have bz:bw<w.heap.size:=(Ln.1 hw).1;have iB:=(hW.block bp my).trans hp;have DF:=(hW.block bw bz).trans hw;have Be:=zH (hS.same (w':=W) fun k hk=>hW.block k (by omega));have HY:=zH hY;have c3:=zh iB 3 hC;have H0:=zH h0;have ti:=zH iB;have Ew:=zH DF;have Uf:B<=W.heap.size:=Lu hB hW.size;have VI:bp<W.heap.size:=LH my hW.size;have hwW:bw<W.heap.size:=LH bz hW.size;refine Ru func91 rfl trivial ?_ rfl;simp only[ntmps91,List.size_toArray,List.length_cons,List.length_nil,Nat.reduceAdd,Nat.reduceSub,Array.replicate_succ,Array.replicate_zero,List.push_toArray,List.append_toArray,List.nil_append,List.cons_append];gi_wp2
 gi_loopw [11] (fun q wr=>∃s:Nat,s<=M/\q=O U (s:Int)/\∃pre:List { x:Nat×Nat // x∈zt nw 0 M },As (pre.map (·.1)++zt nw s (M-s)=zt nw 0 M)/\As (Af pre wr)/\As (SlAt wr B AW nw sl)/\As (wr.heap[bp]?=J (Ag C 29))/\As (wr.heap[bw]?=J (Ag #[I AW nw cw] 113))/\W.heap.size<=wr.heap.size) (fun q _=>M-(Ar q).toNat)
 case atStart=>exact⟨0,by omega,rfl,[],by simp[As],H0,Be,ti,Ew,Ld _⟩
 case round=>
  obtain⟨s,hs,rfl,pre,fa,eS,mB,nO,me,aP⟩:=hrel
  by_cases hlt:s<M
  · have BO : zt nw s (M - s) = yS nw s 0 ++ zt nw (s + 1) (M - (s + 1)) := by
     rw[show M-s=(M-(s+1))+1 by omega,zt];unfold yS;rw[Nl]
    have HP:As (pre.map (·.1)++(yS nw s 0++zt nw (s+1) (M-(s+1)))=zt nw 0 M):=by rw[<-BO];exact fa.out
    have q0:=zh me.out 0 rfl;gi_wp2_with fail
    gi_loopw [16] (fun q wr=>∃j:Nat,j<=nw/\q=O U (j:Int)/\∃pre:List { x:Nat×Nat // x∈zt nw 0 M },As (pre.map (·.1)++(yS nw s j++zt nw (s+1) (M-(s+1)))=zt nw 0 M)/\As (Af pre wr)/\As (SlAt wr B AW nw sl)/\As (wr.heap[bp]?=J (Ag C 29))/\As (wr.heap[bw]?=J (Ag #[I AW nw cw] 113))/\W.heap.size<=wr.heap.size) (fun q _=>nw-(Ar q).toNat)
    case atStart=>exact⟨0,by omega,rfl,pre,HP,eS,mB,nO,me,aP⟩
    case round=>
     obtain⟨j,hj,rfl,pre,fa,eS,mB,nO,me,aP⟩:=hrel
     by_cases cc:j<nw
     . obtain⟨b2,o2,rfl,ae,m0⟩:=mB.out j cc
       have mr:pre.map (·.1)++((s,j)::(yS nw s (j+1)++zt nw (s+1) (M-(s+1))))=zt nw 0 M:=by
        have:=fa.out;rw[uy cc,L3] at this;exact this
       have cS:(s,j)∈zt nw 0 M:=by rw[<-mr];simp
       have ay:pre.length<(zt nw 0 M).length:=by
        have:=congrArg List.length mr;simp only[List.length_append,List.length_map,List.length_cons] at this;omega
       obtain⟨fn,tmps,assign,body,hy,hR⟩:=HY.out pre ⟨(s,j),cS⟩ _ eS.out ay;dsimp only at hy
       have rU:As ((pre++[(⟨(s,j),cS⟩:{ x:Nat×Nat // x∈zt nw 0 M })]).map (·.1)++(yS nw s (j+1)++zt nw (s+1) (M-(s+1)))=zt nw 0 M):=by
        rw[LF,L6];exact mr
       have HR:=zH hR;gi_wp2_with fail;refine HR.out.mono ?_;rintro e W3 (⟨rfl,BS,mu⟩ | ⟨rfl,nQ⟩)
       . have av:wr.heap.size<=W3.heap.size:=mu.size
         have S3:=zH (mB.out.same (fun k hk=>mu.same k (.inl hk) (by omega)));have P3:=zH ((mu.same bp (.inr (.inl rfl)) (by omega)).trans nO.out);have B3:=zH ((mu.same bw (.inr (.inr rfl)) (by omega)).trans me.out);have J3:=zH BS;have lB:W.heap.size<=W3.heap.size:=by omega
         gi_wp2_with fail
         go_roundw
         case rel=>exact⟨j+1,by omega,by go_num,_,rU,J3,S3,P3,B3,lB⟩
         case measure=>simp[Ar];omega
       . gi_wp2_with fail
         refine LP (P8 rfl _ _ _) rfl ?_;refine⟨⟨_,rfl⟩,.inr ⟨_,?_,nQ⟩⟩;exact⟨_,rU.out⟩
     . obtain rfl:nw=j:=by omega
       have HP:As (pre.map (·.1)++zt nw (s+1) (M-(s+1))=zt nw 0 M):=by have:=fa.out;rwa[gM,LW] at this
       gi_wp2_with fail
       go_roundw
       case rel=>exact⟨s+1,by omega,by go_num,pre,HP,eS,mB,nO,me,aP⟩
       case measure=>simp[Ar];omega
  . obtain rfl:M=s:=by omega
    have HP:As (pre.map (·.1)=zt nw 0 M):=by have:=fa.out;rwa[Nq,zt,Nk] at this
    gi_wp2_with fail
    go_end0
    exact⟨⟨_,rfl⟩,.inl ⟨pre,HP.out,eS.out⟩⟩
end
section
open Go.RowKit
theorem Yh:∀(j:Nat) (xss:List (List Mv)) (x:Int×Mv),x∈zO j xss->∃s,j<=s/\s<j+xss.length/\x.1=(s:Int)
 | _,[],x,h=>by cases h
 | j,l::r,x,h=>by
  rw[zO] at h;rcases LX.1 h with h | h
  . obtain⟨m,_,rfl⟩:=LS.1 h
    exact⟨j,Ld _,by simp,rfl⟩
  . obtain⟨s,h1,h2,h3⟩:=Yh (j+1) r x h
    exact⟨s,by omega,by simp;omega,h3⟩
def kP(a:Ad)(k s:Nat)(xs:List (Int×Mv)):Nat:=(xs.map fun x=>if x.1=(s:Int) then yj a k x.2.to else 0).sum
theorem sumF_snoc(a:Ad)(k s:Nat)(xs:List (Int×Mv))(x:Int×Mv):kP a k s (xs++[x])=kP a k s xs+if x.1=(s:Int) then yj a k x.2.to else 0:=by
 unfold kP;rw[LF,Sp];simp
theorem ZS(a:Ad)(k s j:Nat)(h:s≠j):∀l:List Mv,kP a k s (l.map fun m=>((j:Int),m))=0
 | []=>rfl
 | m::l=>by
  have:=ZS a k s j h l;unfold kP at this ⊢;rw[L4,L4,Rv,this,Lg (by intro e;apply h;omega)]
theorem Xc(a:Ad)(k s:Nat):∀l:List Mv,kP a k s (l.map fun m=>((s:Int),m))=(l.map fun m=>yj a k m.to).sum
 | []=>rfl
 | m::l=>by
  have:=Xc a k s l;unfold kP at this ⊢;rw[L4,L4,Rv,this,Lj rfl,L4,Rv]
theorem sumF_app(a:Ad)(k s:Nat)(xs ys:List (Int×Mv)):kP a k s (xs++ys)=kP a k s xs+kP a k s ys:=by
 unfold kP;rw[LF,Sp]
theorem Xd(a:Ad)(k s:Nat):∀(j:Nat) (xss:List (List Mv)),kP a k s (zO j xss)=if j<=s then ((xss.getD (s-j) []).map fun m=>yj a k m.to).sum else 0
 | j,[]=>by simp[zO,kP]
 | j,l::r=>by
  rw[zO,sumF_app,Xd a k s (j+1) r]
  by_cases e:s=j
  . subst e
    rw[Xc,Lg (by omega),Lj (Ld _),Nq];rfl
  . rw[ZS a k s j e,LI]
    by_cases h:j<=s
    . rw[Lj (by omega),Lj h,show s-j=(s-(j+1))+1 by omega,RY]
    . rw[Lg (by omega),Lg h]
theorem sumF_all(a:Ad)(k s:Nat):kP a k s (zO 0 a.sts)=yj a (k+1) (s:Int):=by
 rw[Xd,Lj (Ni _),Po,yj];unfold Ad.at_;rw[Lm]
def qJ(a:Ad)(L k sl:Nat)(pre:List (Int×Mv)):List Int:=(List.range sl).map fun (j:Nat)=>((xa L (kP a k j pre):Nat):Int)
theorem nextL_len(a:Ad)(L k sl:Nat)(pre:List (Int×Mv)):(qJ a L k sl pre).length=sl:=by unfold qJ;simp
theorem nextL_nil(a:Ad)(L k sl:Nat):qJ a L k sl []=List.replicate sl 0:=by
 refine NO (by simp[qJ]) fun j h1 h2=>?_
 simp[qJ,kP,QO]
theorem wI(a:Ad)(L k sl:Nat)(pre:List (Int×Mv))(j:Nat)(h:j<(qJ a L k sl pre).length):(qJ a L k sl pre)[j]=((xa L (kP a k j pre):Nat):Int):=by simp[qJ]
theorem nextL_step(a:Ad)(L k sl:Nat)(pre:List (Int×Mv))(x:Int×Mv)(s:Nat)(hx:x.1=(s:Int)):qJ a L k sl (pre++[x])=(qJ a L k sl pre).set s ((xa L (kP a k s pre+yj a k x.2.to):Nat):Int):=by
 refine NO (by simp[qJ]) fun j h1 h2=>?_
 rw[RF,wI,sumF_snoc,hx]
 by_cases e:s=j
 . subst e;rw[Lj rfl,Lj rfl]
 rw[Lg (by omega),Lg e,Py,wI]
theorem nextL_all(a:Ad)(L k sl:Nat):qJ a L k sl (zO 0 a.sts)=cl a L (k+1) sl:=by
 unfold qJ cl;refine Ps fun j _=>?_
 rw[sumF_all]
theorem cl_first(a:Ad)(L sl:Nat):cl a L 0 sl=List.replicate sl 1:=by
 refine NO (by simp[cl]) fun j h1 h2=>?_
 rw[YF];simp[yj,sat_one]
end
end Go.Proofs.YtkmbdfdaffmhjaaGreat
