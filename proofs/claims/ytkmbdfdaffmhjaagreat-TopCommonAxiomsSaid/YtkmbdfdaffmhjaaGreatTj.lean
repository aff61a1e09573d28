/- Merged. -/
import Derived.Test.YtkmbdfdaffmhjaaGreatTg
open Go.Value renaming int->O,slice->I
open Go.IntKind renaming i64->U
open Option renaming none->Z,some->J
open Go.Obj renaming cells->Ag
open Go.RowKit renaming Below->Am
open Go renaming Value->Ar
open Bool renaming true->Au,false->Aw
namespace Go.Proofs.YtkmbdfdaffmhjaaGreat
open Go.RowKit
structure GA where
 v:Nat->Ar
 b:Nat->Nat
def kK(As:List (Nat×Nat×Nat))(l:Nat->Bool)(g:GA)(k:Nat):Prop:=∀x∈As,l x.1=Au->k≠g.b x.1
def z6A:Array Ar:=#[O U 0,O U 0,O U 0,O U 0,O U 0,I Z 0 0]
structure JA(v0:Ba)(Cs:List (Nat×Fm))(As:List (Nat×Nat×Nat))(l:Nat->Bool)(g:GA)(W:Ba):Prop where
 low:Am v0.heap.size v0 W
 val:∀x∈Cs,l x.1=Au->FmX W (kK As l g) x.2 (g.v x.1)
 ord:∀x∈As,l x.2.2=Au->l x.1=Au/\l x.2.1=Au
 blk:∀x∈As,l x.1=Au->v0.heap.size<=g.b x.1/\g.b x.1<W.heap.size/\(l x.2.2=Aw->W.heap[g.b x.1]?=J (Ag z6A 32 (0,0)))/\(l x.2.2=Au->∃vs,g.v x.2.1=.agg vs/\W.heap[g.b x.1]?=J (Ag vs 32 (0,0)))
 inj:∀x∈As,∀y∈As,l x.1=Au->l y.1=Au->x.1≠y.1->g.b x.1≠g.b y.1
def okA(Cs:List (Nat×Fm))(As:List (Nat×Nat×Nat)):Bool:=
 As.all fun x=>(Cs.all fun c=>c.1 != x.1&&c.1 != x.2.2)&&x.1 != x.2.2&&x.1 != x.2.1&&x.2.1 != x.2.2&&As.all fun y=>x.1 != y.2.2&&x.1 != y.2.1&&x.2.2 != y.2.1&&((x.1==y.1)==(x.2.2==y.2.2))&&(x.1 != y.1||x==y)
section
variable {v0:Ba} {Cs:List (Nat×Fm)} {As:List (Nat×Nat×Nat)} {l:Nat->Bool} {g:GA} {W w':Ba}
theorem okA.at_(h:okA Cs As=Au){x:Nat×Nat×Nat}(hx:x∈As):(∀c∈Cs,c.1≠x.1/\c.1≠x.2.2)/\x.1≠x.2.2/\x.1≠x.2.1/\x.2.1≠x.2.2/\∀y∈As,x.1≠y.2.2/\x.1≠y.2.1/\x.2.2≠y.2.1/\(x.1=y.1↔x.2.2=y.2.2)/\(x.1=y.1->x=y):=by
 have h1:=LH.1 h x hx;simp only[Bool.and_eq_true,bne_iff_ne,ne_eq] at h1;obtain⟨⟨⟨⟨h1,h2⟩,h3⟩,h4⟩,h5⟩:=h1;refine⟨fun c hc=>?_,h2,h3,h4,fun y hy=>?_⟩
 . have:=LH.1 h1 c hc
   simp only[Bool.and_eq_true,bne_iff_ne,ne_eq] at this;exact this
 have:=LH.1 h5 y hy;simp only[Bool.and_eq_true,bne_iff_ne,ne_eq] at this;obtain⟨⟨⟨⟨a,b⟩,c⟩,d⟩,f⟩:=this;refine⟨a,b,c,?_,fun e=>?_⟩
 rotate_left
 . rw[PM] at f
   rcases f with f | f
   . simp[e] at f
   exact eq_of_beq f
 have d:=eq_of_beq d
 by_cases e:x.1=y.1
 . simp only[e,beq_self_eq_true] at d
   exact⟨fun _=>(eq_of_beq d.symm),fun _=>e⟩
 simp only[show(x.1==y.1)=Aw by simpa using e] at d;exact⟨fun h=>absurd h e,fun h=>by rw[h] at d;simp at d⟩
theorem wl(l:Nat->Bool)(i:Nat):upd l i i=Au:=by simp[upd]
theorem zP{l:Nat->Bool}{i j:Nat}(h:j≠i):upd l i j=l j:=by simp[upd,h]
theorem JA.start(h:Am v0.heap.size v0 W):JA v0 Cs As (fun _=>Aw) g W:=⟨h,fun _ _ h=>(by cases h),fun _ _ h=>(by cases h),fun _ _ h=>(by cases h),fun _ _ _ _ h=>(by cases h)⟩
theorem JA.idle{i:Nat}(h:JA v0 Cs As l g W)(hC:Cs.all (fun c=>c.1 != i)=Au)(hA:As.all (fun x=>x.1 != i&&x.2.1 != i&&x.2.2 != i)=Au):JA v0 Cs As (upd l i) g W:=by
 have hC:∀c∈Cs,c.1≠i:=fun c hc=>by simpa using LH.1 hC c hc
 have hA:∀x∈As,x.1≠i/\x.2.1≠i/\x.2.2≠i:=fun x hx=>by
  have:=LH.1 hA x hx;simp only[Bool.and_eq_true,bne_iff_ne,ne_eq] at this;exact⟨this.1.1,this.1.2,this.2⟩
 have hs:∀k,kK As l g k->kK As (upd l i) g k:=fun k hk x hx hl=>hk x hx (by rwa[zP (hA x hx).1] at hl)
 refine⟨h.low,fun c hc hl=>?_,fun x hx hl=>?_,fun x hx hl=>?_,fun x hx y hy h1 h2=>?_⟩
 . rw[zP (hC c hc)] at hl
   exact(h.val c hc hl).keep (Ld _) fun k _ hk=>⟨hs k hk,rfl⟩
 . rw[zP (hA x hx).2.2] at hl
   rw[zP (hA x hx).1,zP (hA x hx).2.1];exact h.ord x hx hl
 . rw[zP (hA x hx).1] at hl
   rw[zP (hA x hx).2.2];exact h.blk x hx hl
 rw[zP (hA x hx).1] at h1;rw[zP (hA y hy).1] at h2;exact h.inj x hx y hy h1 h2
theorem JA.call{i:Nat}{F:Fm}{v:Ar}(ok:okA Cs As=Au)(h:JA v0 Cs As l g W)(hi:l i=Aw)(hC:∀c∈Cs,c.1=i->c.2=F)(hCi:Cs.any (fun c=>c.1==i)=Au)(hv:FmX w' (fun k=>kK As l g k\/W.heap.size<=k) F v)(hb:Am W.heap.size W w') :
  JA v0 Cs As (upd l i) { g with v:=fun j=>if j=i then v else g.v j } w':=by
 obtain⟨c0,CD,e0⟩:=List.any_eq_true.1 hCi;have e0:c0.1=i:=by simpa using e0
 have hA:∀x∈As,x.1≠i/\x.2.2≠i:=fun x hx=>by
  have:=(okA.at_ ok hx).1 c0 CD;exact⟨fun e=>this.1 (e0.trans e.symm),fun e=>this.2 (e0.trans e.symm)⟩
 have hs:∀k,k<W.heap.size\/W.heap.size<=k->kK As l g k\/W.heap.size<=k->kK As (upd l i) { g with v:=fun j=>if j=i then v else g.v j } k:=fun k _ hk x hx hl=>by
  rw[zP (hA x hx).1] at hl;rcases hk with hk | hk
  . exact hk x hx hl
  . have:=(h.blk x hx hl).2.1
    show k≠g.b x.1;omega
 refine⟨Lc h.low hb,fun c hc hl=>?_,fun x hx hl=>?_,fun x hx hl=>?_,fun x hx y hy h1 h2=>?_⟩
 . by_cases e:c.1=i
   . have e2:=hC c hc e
     show FmX w' _ c.2 (if c.1=i then v else g.v c.1);rw[Lj e,e2];exact hv.keep (Ld _) fun k _ hk=>⟨hs k (by omega) hk,rfl⟩
   rw[zP e] at hl;show FmX w' _ c.2 (if c.1=i then v else g.v c.1);rw[Lg e];exact(h.val c hc hl).keep hb.size fun k aW hk=>⟨hs k (.inl aW) (.inl hk),hb.block k aW⟩
 . rw[zP (hA x hx).2] at hl
   obtain⟨h1,h2⟩:=h.ord x hx hl;rw[zP (hA x hx).1];refine⟨h1,?_⟩
   by_cases e:x.2.1=i
   . rw[e];exact wl _ _
   rw[zP e];exact h2
 . rw[zP (hA x hx).1] at hl
   rw[zP (hA x hx).2];obtain⟨b1,b2,b3,b4⟩:=h.blk x hx hl;refine⟨b1,LE b2 hb.size,fun ew=>Lb hb b2 (b3 ew),fun ew=>?_⟩;obtain⟨vs,e1,e2⟩:=b4 ew
   have hn:x.2.1≠i:=fun e=>by
    have:=(h.ord x hx ew).2;rw[e,hi] at this;cases this
   exact⟨vs,by show(if x.2.1=i then v else g.v x.2.1)=_;rw[Lg hn];exact e1,Lb hb b2 e2⟩
 rw[zP (hA x hx).1] at h1;rw[zP (hA y hy).1] at h2;exact h.inj x hx y hy h1 h2
theorem JA.alloc{i:Nat}(ok:okA Cs As=Au)(h:JA v0 Cs As l g W)(hi:l i=Aw){x0:Nat×Nat×Nat}(iT:x0∈As)(e0:x0.1=i)(hd:w'.heap[W.heap.size]?=J (Ag z6A 32 (0,0)))(hb:Am W.heap.size W w') :
  JA v0 Cs As (upd l i) { g with b:=fun j=>if j=i then W.heap.size else g.b j } w':=by
 have hC:∀c∈Cs,c.1≠i:=fun c hc e=>((okA.at_ ok iT).1 c hc).1 (e.trans e0.symm)
 have hS:∀x∈As,x.2.2≠i/\x.2.1≠i:=fun x hx=>by
  have:=(okA.at_ ok iT).2.2.2.2 x hx;exact⟨fun e=>this.1 (e0.trans e.symm),fun e=>this.2.1 (e0.trans e.symm)⟩
 have hs:∀k,k<W.heap.size->kK As l g k->kK As (upd l i) { g with b:=fun j=>if j=i then W.heap.size else g.b j } k:=fun k aW hk x hx hl=>by
  show k≠if x.1=i then W.heap.size else g.b x.1
  by_cases e:x.1=i
  . rw[Lj e];omega
  . rw[Lg e];rw[zP e] at hl;exact hk x hx hl
 have ac:=zk hd;refine⟨Lc h.low hb,fun c hc hl=>?_,fun x hx hl=>?_,fun x hx hl=>?_,fun x hx y hy h1 h2 bC=>?_⟩
 . rw[zP (hC c hc)] at hl
   exact(h.val c hc hl).keep hb.size fun k aW hk=>⟨hs k aW hk,hb.block k aW⟩
 . rw[zP (hS x hx).1] at hl
   obtain⟨h1,h2⟩:=h.ord x hx hl;rw[zP (hS x hx).2];refine⟨?_,h2⟩
   by_cases e:x.1=i
   . rw[e];exact wl _ _
   rw[zP e];exact h1
 . rw[zP (hS x hx).1]
   show _<=(if x.1=i then W.heap.size else g.b x.1)/\(if x.1=i then W.heap.size else g.b x.1)<_/\(_->w'.heap[if x.1=i then W.heap.size else g.b x.1]?=_)/\(_->∃vs,_/\w'.heap[if x.1=i then W.heap.size else g.b x.1]?=_)
   by_cases e:x.1=i
   . rw[Lj e]
     refine⟨h.low.size,ac,fun _=>hd,fun ew=>?_⟩;have:=(h.ord x hx ew).1;rw[e,hi] at this;cases this
   rw[Lg e];rw[zP e] at hl;obtain⟨b1,b2,b3,b4⟩:=h.blk x hx hl;refine⟨b1,LE b2 hb.size,fun ew=>Lb hb b2 (b3 ew),fun ew=>?_⟩;obtain⟨vs,e1,e2⟩:=b4 ew;exact⟨vs,e1,Lb hb b2 e2⟩
 show(if x.1=i then W.heap.size else g.b x.1)≠if y.1=i then W.heap.size else g.b y.1
 by_cases e:x.1=i
 . have e2:y.1≠i:=fun e3=>bC (e.trans e3.symm)
   rw[Lj e,Lg e2];rw[zP e2] at h2;have:=(h.blk y hy h2).2.1;omega
 rw[Lg e];rw[zP e] at h1
 by_cases e2:y.1=i
 . rw[Lj e2]
   have:=(h.blk x hx h1).2.1;omega
 rw[Lg e2];rw[zP e2] at h2;exact h.inj x hx y hy h1 h2 bC
theorem JA.store{i:Nat}{vs:Array Ar}(ok:okA Cs As=Au)(h:JA v0 Cs As l g W)(_hi:l i=Aw){x0:Nat×Nat×Nat}(iT:x0∈As)(e0:x0.2.2=i)(ha:l x0.1=Au)(hc:l x0.2.1=Au)(hv:g.v x0.2.1=.agg vs)
  (hd:w'.heap[g.b x0.1]?=J (Ag vs 32 (0,0))) (ho:∀k,k≠g.b x0.1->w'.heap[k]?=W.heap[k]?) (hb:∀B,B<=g.b x0.1->Am B W w') (hz:w'.heap.size=W.heap.size) :
  JA v0 Cs As (upd l i) g w':=by
 have hC:∀c∈Cs,c.1≠i:=fun c hc e=>((okA.at_ ok iT).1 c hc).2 (e.trans e0.symm)
 have hS:∀x∈As,x.1≠i/\x.2.1≠i:=fun x hx=>by
  have h1:=(okA.at_ ok hx).2.2.2.2 x0 iT;have h2:=(okA.at_ ok iT).2.2.2.2 x hx;exact⟨fun e=>h1.1 (e.trans e0.symm),fun e=>h2.2.2.1 (e0.trans e.symm)⟩
 have hs:∀k,kK As l g k->kK As (upd l i) g k:=fun k hk x hx hl=>hk x hx (by rwa[zP (hS x hx).1] at hl)
 refine⟨h.low.trans (hb _ (h.blk x0 iT ha).1),fun c hc hl=>?_,fun x hx hl=>?_,fun x hx hl=>?_,fun x hx y hy h1 h2=>?_⟩
 . rw[zP (hC c hc)] at hl
   exact(h.val c hc hl).keep (by omega) fun k _ hk=>⟨hs k hk,ho k (hk x0 iT ha)⟩
 . rw[zP (hS x hx).1,zP (hS x hx).2]
   by_cases e:x.2.2=i
   . have e2:=((okA.at_ ok hx).2.2.2.2 x0 iT).2.2.2.1.2 (e.trans e0.symm)
     have e3:=((okA.at_ ok hx).2.2.2.2 x0 iT).2.2.2.2 e2;rw[e3];exact⟨ha,hc⟩
   rw[zP e] at hl;exact h.ord x hx hl
 . rw[zP (hS x hx).1] at hl
   obtain⟨b1,b2,b3,b4⟩:=h.blk x hx hl
   by_cases e:x.1=x0.1
   . have e3:=((okA.at_ ok hx).2.2.2.2 x0 iT).2.2.2.2 e
     subst e3;rw[e0,wl];exact⟨b1,by omega,fun ew=>(by cases ew),fun _=>⟨vs,hv,hd⟩⟩
   have bC:=h.inj x hx x0 iT hl ha e;have e2:x.2.2≠i:=fun e3=>e (((okA.at_ ok hx).2.2.2.2 x0 iT).2.2.2.1.2 (e3.trans e0.symm))
   rw[zP e2];refine⟨b1,by omega,fun ew=>(ho _ bC).trans (b3 ew),fun ew=>?_⟩;obtain⟨BU,e1,e3⟩:=b4 ew;exact⟨BU,e1,(ho _ bC).trans e3⟩
 rw[zP (hS x hx).1] at h1;rw[zP (hS y hy).1] at h2;exact h.inj x hx y hy h1 h2
end
end Go.Proofs.YtkmbdfdaffmhjaaGreat
