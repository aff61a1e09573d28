/- Merged. -/
import Derived.Test.YtkledihebeidlaaGreatDoorVf
open Go.Proofs.Tryz
open Go.Value renaming int->O,slice->I,bool->Ai,agg->Aj,pointer->Ak
open Go.IntKind renaming i64->U
open Option renaming none->Z,some->J
open Go.Obj renaming cells->Ah
open Go.Ending renaming returned->Am
open Go.Proofs.Tryz renaming prog->An,func106->Rw
open Go.RowKit renaming Below->Ao,intOf->Aq,Hid->As
open Go renaming Calls->Ap,Value->Au
open Bool renaming true->Av,false->Ax
namespace Go.Proofs.YtkledihebeidlaaGreatDoor
abbrev PJ:=@List.mem_of_find?_eq_some
set_option maxRecDepth 100000
set_option maxHeartbeats 4000000
section
open Go.RowKit
structure DfsInv(vs:List Vw)(fs au bP:List Nat):Prop where
 from_:∀c,c∈fs->c∈au\/c∈bP
 kids_:∀x,x∈au->∀c,c∈zY (zv vs x)->c∈au\/c∈bP
 good:∀x,x∈au\/x∈bP->x<vs.length/\∃c,c∈fs/\qW vs c x=Av
 nodup:au.Nodup
 len:bP.length<=5*au.length+fs.length
theorem xP(v:Vw):(zY v).length<=5:=by
 unfold zY yy yv;rw[LE]
 split
 . exact Lz (List.length_filterMap_le _ _) (by simp)
 simp
theorem uZ:∀(n:Nat) (l:List Nat),l.Nodup->(∀x,x∈l->x<n)->l.length<=n
 | 0,l,_,h=>by
  cases l with
  | nil=>simp
  | cons a l=>have:=h a (by simp);omega
 | n+1,l,hd,h=>by
  have h1:(l.erase n).length<=n:=uZ n (l.erase n) (hd.erase n) fun x hx=>by
   have h2:=h x (List.mem_of_mem_erase hx);have h3:x≠n:=fun e=>by subst e;exact(List.Nodup.not_mem_erase hd) hx
   omega
  have:=List.le_length_erase (l:=l) (a:=n);omega
theorem DfsInv.start{vs:List Vw}{fs:List Nat}(h:∀c,c∈fs->c<vs.length):DfsInv vs fs [] fs:=
 ⟨fun c hc=>.inr hc,fun x hx=>absurd hx (by simp),fun x hx=>⟨h x (by simpa using hx),x,by simpa using hx,uT vs x⟩,List.nodup_nil,by simp⟩
theorem DfsInv.skip{vs:List Vw}{fs au bP:List Nat}{i:Nat}(h:DfsInv vs fs au (bP++[i]))(hi:i∈au):DfsInv vs fs au bP where
 from_:=fun c hc=>by
  rcases h.from_ c hc with h1 | h1
  . exact .inl h1
  . rcases LR.1 h1 with h2 | h2
    . exact .inr h2
    . obtain rfl:c=i:=by simpa using h2
      exact .inl hi
 kids_:=fun x hx c hc=>by
  rcases h.kids_ x hx c hc with h1 | h1
  . exact .inl h1
  . rcases LR.1 h1 with h2 | h2
    . exact .inr h2
    . obtain rfl:c=i:=by simpa using h2
      exact .inl hi
 good:=fun x hx=>h.good x (by rcases hx with h1 | h1<;>simp[h1])
 nodup:=h.nodup
 len:=by have:=h.len;simp at this;omega
theorem DfsInv.push{vs:List Vw}(ha:wW vs){fs au bP:List Nat}{i:Nat}(hf:∀c,c∈fs->c<vs.length)(h:DfsInv vs fs au (bP++[i]))(hi:i∉au):DfsInv vs fs (i::au) (bP++zY (zv vs i)) where
 from_:=fun c hc=>by
  rcases h.from_ c hc with h1 | h1
  . exact .inl (by simp[h1])
  . rcases LR.1 h1 with h2 | h2
    . exact .inr (by simp[h2])
    . obtain rfl:c=i:=by simpa using h2
      exact .inl (by simp)
 kids_:=fun x hx c hc=>by
  rcases LQ.1 hx with rfl | hx
  . exact .inr (by simp[hc])
  . rcases h.kids_ x hx c hc with h1 | h1
    . exact .inl (by simp[h1])
    . rcases LR.1 h1 with h2 | h2
      . exact .inr (by simp[h2])
      . obtain rfl:c=i:=by simpa using h2
        exact .inl (by simp)
 good:=fun x hx=>by
  have MO:=h.good i (by simp);rcases hx with h1 | h1
  . rcases LQ.1 h1 with rfl | h1
    . exact MO
    . exact h.good x (.inl h1)
  . rcases LR.1 h1 with h1 | h1
    . exact h.good x (.inr (by simp[h1]))
    . obtain⟨hl,c,hc,hr⟩:=MO
      exact⟨by have:=ha i hl x h1;omega,c,hc,Xe ha (hf c hc) hr h1⟩
 nodup:=Pz.2 ⟨hi,h.nodup⟩
 len:=by have:=h.len;have:=xP (zv vs i);simp at *;omega
theorem DfsInv.small{vs:List Vw}{fs au bP:List Nat}(h:DfsInv vs fs au bP):au.length<=vs.length/\bP.length<=5*vs.length+fs.length:=by
 have h1:=uZ vs.length au h.nodup fun x hx=>(h.good x (.inl hx)).1
 have:=h.len;omega
theorem DfsInv.room{vs:List Vw}{fs au bP:List Nat}{i:Nat}(h:DfsInv vs fs au (bP++[i]))(hi:i∉au):au.length<vs.length:=by
 have:=uZ vs.length (i::au) (Pz.2 ⟨hi,h.nodup⟩) fun x hx=>by
  rcases LQ.1 hx with rfl | hx
  . exact(h.good _ (by simp)).1
  . exact(h.good x (.inl hx)).1
 simp at this;omega
theorem DfsInv.done{vs:List Vw}(ha:wW vs){fs au:List Nat}(hf:∀c,c∈fs->c<vs.length)(h:DfsInv vs fs au [])(x:Nat)(_hx:x<vs.length):decide (x∈au)=fs.any fun c=>qW vs c x:=by
 rw[Nq];simp only[decide_eq_true_eq,List.any_eq_true];constructor
 . intro hs
   obtain⟨_,c,hc,hr⟩:=h.good x (.inl hs);exact⟨c,hc,hr⟩
 rintro⟨c,hc,hr⟩;have bj:c∈au:=by simpa using h.from_ c hc
 exact Zo ha (S:=fun y=>y∈au) (fun y _ hy k hk=>by simpa using h.kids_ y hy k hk) (hf c hc) bj hr
def xE(au:List Nat)(k:Nat):List Int:=zB ((List.range k).filter fun x=>decide (x∈au))
theorem Y4{au:List Nat}{k:Nat}(h:k∈au):xE au (k+1)=xE au k++[(k:Int)]:=by simp[xE,zB,List.range_succ,List.filter_append,h]
theorem Jg{au:List Nat}{k:Nat}(h:k∉au):xE au (k+1)=xE au k:=by simp[xE,zB,List.range_succ,List.filter_append,h]
theorem wY(au:List Nat)(k:Nat):(xE au k).length<=k:=by
 unfold xE;rw[zF];exact Lz (Pr _ _) (by simp)
theorem DfsInv.result{vs:List Vw}(ha:wW vs){fs au:List Nat}(hf:∀c,c∈fs->c<vs.length)(h:DfsInv vs fs au []):xE au vs.length=zB (qX vs fs):=by
 unfold xE qX
 congr 1
 exact List.filter_congr fun x hx=>h.done ha hf x (by simpa using hx)
structure Non(B:Nat)(w W:Ba):Prop where
 below:Ao B w W
 same:∀(k:Nat) (o:Obj),w.heap[k]?=J o->o.isCells=Ax->W.heap[k]?=J o
theorem Non.refl(B:Nat)(w:Ba):Non B w w:=⟨Lp _ _,fun _ _ h _=>h⟩
theorem Non.trans{B:Nat}{w W X:Ba}(h:Non B w W)(k:Non B W X):Non B w X:=⟨h.below.trans k.below,fun i o hi ho=>k.same i o (h.same i o hi ho) ho⟩
theorem Non.of_grown{B:Nat}{w W:Ba}{row:Option Nat}(hg:w.grownBy W row)(hB:B<=w.heap.size)(hr:∀r,row=J r->B<=r/\∀o,w.heap[r]?=J o->o.isCells=Av):Non B w W:=
 ⟨(Lp B w).grown hg hB fun k hk=>(hr k hk).1,fun k o hk ho=>(hg.block k (Li.1 hk).1 (fun e=>by have:=(hr k e.symm).2 o hk;rw[ho] at this;cases this)).trans hk⟩
theorem Non.turn{B:Nat}{w W X:Ba}{row:Option Nat}(h:Non B w W)(hg:W.grownBy X row)(hB:B<=w.heap.size)(hr:∀r,row=J r->w.heap.size<=r):Non B w X:=
 ⟨h.below.grown hg (by have:=h.below.size;omega) (fun k hk=>by have:=hr k hk;omega),fun k o hk ho=>(hg.block k (Li.1 (h.same k o hk ho)).1 (fun e=>by have:=hr k e.symm;have:=(Li.1 hk).1;omega)).trans (h.same k o hk ho)⟩
theorem Non.marks{B B':Nat}{w W:Ba}{ds:List Deferred}(h:Marks B' ds w)(hn:Non B w W):Marks B' ds W:=by
 obtain⟨rs,rfl,hd,hk⟩:=h;exact⟨rs,rfl,hd,fun r hr=>⟨(hk r hr).1,hn.same r _ (hk r hr).2 rfl⟩⟩
end
section
open Go.RowKit Go.Shelf
theorem qD{w:Ba}{aa:Nat}{v:Au}{xs:List Int}(h:Own w aa v xs){k:Nat}{cs:Array Au}{t:TypeId}(hk:w.heap[k]?=J (Ah cs t (0,0)))(ht:t≠3):v.ownBlock≠J k:=by
 intro e;rcases h.2 with ⟨rfl,_⟩ | ⟨g,cap,cur,rfl,_,hg,_⟩
 . cases e
 simp only[Value.ownBlock,Option.some.injEq] at e;subst e;rw[hk] at hg
 cases hg
 exact ht rfl
theorem kG{w:Ba}{aa:Nat}{v:Au}{xs:List Int}(h:Own w aa v xs):∀r,v.ownBlock=J r->aa<=r/\∀o,w.heap[r]?=J o->o.isCells=Av:=by
 intro r hr;refine⟨(h.lt r hr).1,fun o ho=>?_⟩;rcases h.2 with ⟨rfl,_⟩ | ⟨g,cap,cur,rfl,_,hg,_⟩
 . cases hr
 simp only[Value.ownBlock,Option.some.injEq] at hr;subst hr;rw[hg] at ho
 cases ho
 rfl
theorem SetAt.non{w W:Ba}{B b:Nat}{S:List Int}(h:SetAt (O U) w b S)(hn:Non B w W):SetAt (O U) W b S:=by
 obtain⟨m,h⟩:=h;obtain⟨es,co,hb,r⟩:=id h;exact⟨m,h.same ((hn.same b _ hb rfl).trans hb.symm)⟩
theorem Qs{w:Ba}{g:Nat}{v:Au}{t:TypeId}(h:w.heap[g]?=J (Ah #[v] t (0,0)))(v':Au) :
  (w.setCell ⟨g,0,Z⟩ v').heap[g]?=J (Ah #[v'] t (0,0))/\(w.setCell ⟨g,0,Z⟩ v').heap.size=w.heap.size/\∀k,k≠g->(w.setCell ⟨g,0,Z⟩ v').heap[k]?=w.heap[k]?:=by
 have hg:=(Li.1 h).1;refine⟨?_,by simp[World.setCell],fun k hk=>Le w ⟨g,0,Z⟩ v' k hk⟩;have tW:=(Li.1 h).2;rw[World.setCell,N6,Ln rfl,h]
 rfl
theorem gP{w:Ba}{g:Nat}{v:Au}{t:TypeId}(_h:w.heap[g]?=J (Ah #[v] t (0,0)))(v':Au):w.grownBy (w.setCell ⟨g,0,Z⟩ v') (J g):=
 ⟨rfl,rfl,rfl,by simp[World.setCell],fun k _ hk=>Le w ⟨g,0,Z⟩ v' k (fun e=>hk (by rw[e]))⟩
theorem own_cut{w:Ba}{aa:Nat}{A:Bb}{n c:Nat}{xs:List Nat}{i:Nat}(h:Own w aa (I A (n+1) c) (zB (xs++[i]))):Own w aa (I A n c) (zB xs):=by
 obtain⟨h0,h⟩:=h
 have hn:xs.length=n:=by
  rcases h with ⟨e,_⟩ | ⟨g,cap,cur,e,_⟩
  . cases e
  simp only[Value.slice.injEq] at e;simp[zB] at e;omega
 subst hn;refine⟨by simp,?_⟩;rcases h with ⟨e,_⟩ | ⟨g,cap,cur,e,h1,h2,h3,h4,h5,h6⟩
 . cases e
 simp only[Value.slice.injEq] at e;obtain⟨rfl,_,rfl⟩:=e;refine .inr ⟨g,c,cur,by simp[zB],h1,h2,by simp[zB] at h3 ⊢;omega,h4,h5,?_⟩;have:=congrArg (List.take xs.length) h6;simp[zB,List.take_take] at this ⊢;rw[<-this]
theorem Marks.keep{B:Nat}{w W:Ba}{ds:List Deferred}(h:Marks B ds w)(hk:∀k:Nat,w.heap[k]?=J (Obj.deferred (J []))->W.heap[k]?=J (Obj.deferred (J []))):Marks B ds W:=by
 obtain⟨rs,rfl,hd,hr⟩:=h;exact⟨rs,rfl,hd,fun r h=>⟨(hr r h).1,hk r (hr r h).2⟩⟩
theorem kA(w:Ba):(zeroValue 4).run An w=.ok (Ai Ax) w:=by kernel_rfl
structure BoxW(B g:Nat)(xs:List Int)(w2 W:Ba):Prop where
 box:∃P c,W.heap[g]?=J (Ah #[I P xs.length c] 49 (0,0))/\Own W B (I P xs.length c) xs
 non:Non B w2 W
 rest:∀(k:Nat) (cs:Array Au) (t:TypeId),w2.heap[k]?=J (Ah cs t (0,0))->t≠3->k≠g->W.heap[k]?=J (Ah cs t (0,0))
theorem BoxW.start{B g:Nat}{xs:List Int}{w2:Ba}{P:Bb}{c:Nat}(hb:w2.heap[g]?=J (Ah #[I P xs.length c] 49 (0,0)))(ho:Own w2 B (I P xs.length c) xs):BoxW B g xs w2 w2:=
 ⟨⟨P,c,hb,ho⟩,Non.refl _ _,fun _ _ _ h _ _=>h⟩
theorem BoxW.turn{B g:Nat}{xs:List Int}{w2 W W':Ba}{row:Option Nat}(h:BoxW B g xs w2 W)(hB:B<=w2.heap.size)(hg:W.grownBy W' row)(hr:∀r,row=J r->w2.heap.size<=r/\∃o:Obj,W.heap[r]?=J o/\o.isCells=Ax):BoxW B g xs w2 W':=by
 obtain⟨⟨P,c,hb,ho⟩,hn,pH⟩:=h;refine⟨⟨P,c,(LP hg (fun r e=>(hr r e).2) hb rfl).trans hb,ho.kept hg ?_⟩,hn.turn hg hB fun r e=>(hr r e).1,fun k cs t hk ht B9=>(LP hg (fun r e=>(hr r e).2) (pH k cs t hk ht B9) rfl).trans (pH k cs t hk ht B9)⟩
 by_cases e:(I P xs.length c).ownBlock=Z
 . exact .inl e
 obtain⟨r,e⟩:=Option.ne_none_iff_exists'.1 e;right;rw[e];intro e2;obtain⟨o,Em,cC⟩:=(hr r e2.symm).2;have:=(kG ho r e).2 o Em;rw[this] at cC;cases cC
theorem BoxW.own{B g:Nat}(iS:List Int){β:Type}{xs:List β}(f:β->Int){w2:Ba}(hB:B<=w2.heap.size):OwnFrom w2.heap.size (fun (pre:List { x:β // x∈xs }) W=>BoxW B g (iS++pre.map fun x=>f x.1) w2 W):=
 fun _ _ _ _ h hg hr=>h.turn hB hg hr
theorem BoxW.push{B g:Nat}{xs:List Int}{w2 W w1:Ba}{P:Bb}{c:Nat}{v':Au}{u:Int}(h:BoxW B g xs w2 W)(hB:B<=g)(hb:W.heap[g]?=J (Ah #[I P xs.length c] 49 (0,0)))
  (ho:Own W B (I P xs.length c) xs) (Em:Own w1 B v' (xs++[u])) (hg:W.grownBy w1 (I P xs.length c).ownBlock) (bx:Nat) (cs:Array Au) (BQ:bx≠g) (aL:w2.heap[bx]?=J (Ah cs 100 (0,0))) :
  KeepsFrom w2.heap.size W (w1.setCell ⟨g,0,Z⟩ v')/\KeepB (·=bx) W (w1.setCell ⟨g,0,Z⟩ v')/\BoxW B g (xs++[u]) w2 (w1.setCell ⟨g,0,Z⟩ v'):=by
 have oW:B<=W.heap.size:=by have:=(Li.1 hb).1;omega
 have ot:w1.heap[g]?=J (Ah #[I P xs.length c] 49 (0,0)):=(hg.block g (Li.1 hb).1 (fun e=>qD ho hb (by decide) e.symm)).trans hb;obtain⟨x6,xs',xo⟩:=Qs ot v';have su:=gP ot v';have n1:Non B W w1:=Non.of_grown hg oW (kG ho);have n2:Non B w1 (w1.setCell ⟨g,0,Z⟩ v'):=Non.of_grown su (by have:=hg.size;omega) (fun r e=>by cases e;exact⟨hB,fun o ho=>by rw[ot] at ho;cases ho;rfl⟩);have n3:=n1.trans n2
 have rest:∀(k:Nat) (cs:Array Au) (t:TypeId),w2.heap[k]?=J (Ah cs t (0,0))->t≠3->k≠g->(w1.setCell ⟨g,0,Z⟩ v').heap[k]?=J (Ah cs t (0,0)):=fun k cs t hk ht B9=>by
  have h1:=h.rest k cs t hk ht B9;rw[xo k B9];exact(hg.block k (Li.1 h1).1 (fun e=>qD ho h1 ht e.symm)).trans h1
 refine⟨⟨n3.below.size,fun k o _ hk ho=>n3.same k o hk ho⟩,⟨n3.below.size,fun k e hl=>?_⟩,?_,h.non.trans n3,rest⟩
 . subst e
   have h1:=h.rest k cs _ aL (by decide) BQ;rw[rest k cs _ aL (by decide) BQ,h1]
 have cC:=Em.kept su (.inr (qD Em ot (by decide)));obtain⟨A2,c2,rfl,h1,h2,_⟩:=cC.form;exact⟨A2,c2,x6,cC⟩
end
section
open Go.RowKit Go.Shelf
attribute [local go_sem] Oper.semAt_some
theorem tablemap(w:Ba)(c1:Array Au)(t1:TypeId):∃W0,(w.alloc (Ah c1 t1)).alloc (.map #[] 0)=W0/\W0.heap[w.heap.size]?=J (Ah c1 t1)/\SetAt (O U) W0 (w.heap.size+1) []/\W0.heap.size=w.heap.size+2/\Ao w.heap.size w W0:=
 ⟨_,rfl,zw (zg _ _) _,by have:=SetAt.made (O U) (w.alloc (Ah c1 t1));rwa[LW] at this,by simp,(zt w _).trans ((Lp _ _).alloc (by simp) _)⟩
structure PastRel(w:Ba)(n:Int)(A:Bb)(cap:Nat)(vs:List Vw)(fs:List Nat)(g6:Nat)(m:Nat)(ds:List Deferred)(w':Ba)(au bP:List Nat)(P:Bb)(c:Nat):Prop where
 num:m=6*(vs.length-au.length)+bP.length
 box:w'.heap[g6]?=J (Ah #[I P bP.length c] 49 (0,0))
 own:Own w' w.heap.size (I P bP.length c) (zB bP)
 tab:w'.heap[w.heap.size]?=J (Ah #[O U n,I A vs.length cap] 33 (0,0))
 set_:SetAt (O U) w' (w.heap.size+1) (zB au)
 below:Ao w.heap.size w w'
 marks:Marks w.heap.size ds w'
 inv:DfsInv vs fs au bP
theorem past_any(n:Int)(A F:Bb)(cap pc:Nat)(vs:List Vw)(fs:List Nat)(w:Ba)(hT:TArg w A cap vs)(ha:wW vs)(hF:IAt w w.heap.size F (zB fs))(Ey:∀c,c∈fs->c<vs.length)(M4:fs.length<=100) :
  Ap An 28 #[Aj #[O U n,I A vs.length cap],I F fs.length pc] w (QW (zB (qX vs fs)) w):=by
 have fr:=@run_makeMap An;refine zV func28 rfl ?_;simp only[ntmps28,List.size_toArray,List.length_cons,List.length_nil,Nat.reduceAdd,Nat.reduceSub,Array.replicate_succ,Array.replicate_zero,List.push_toArray,List.append_toArray,List.nil_append,List.cons_append];have HF:=zH hF;clear hF;go_wp2_with fail;obtain⟨W0,bD,b0,b1,aZ,bH⟩:=tablemap w #[O U n,I A vs.length cap] 33;rw[bD];clear bD;have c0:=J4 F pc (zB fs) W0 ((HF.out.keep bH).more (by omega)) (by rw[zF];omega);rw[zF] at c0;refine c0.mono ?_;rintro e W1 ⟨v0,rfl,aq,hb⟩;have d0:=Lb hb (by omega) b0;have d1:SetAt (O U) W1 (w.heap.size+1) []:=b1.kept hb (by omega);have cF:=aq.low (base':=w.heap.size) (by omega);have cA:Ao w.heap.size w W1:=bH.trans (hb.mono (by omega));have bq:=hb.size;obtain⟨A0,k0,rfl,mG,lR,_⟩:=aq.form;clear c0 aq b0 b1 bH hb;go_wp2_with fail;obtain⟨g6,GF⟩:∃g6,g6=W1.heap.size:=⟨_,rfl⟩;have Ud:w.heap.size+2<=g6:=by omega
 have e6:(W1.alloc (Ah #[.slice A0 (zB fs).length k0] 49)).heap[g6]?=J (Ah #[.slice A0 (zB fs).length k0] 49 (0,0)):=by rw[GF];exact zg _ _
 have dY:PastRel w n A cap vs fs g6 (6*vs.length+fs.length) [] (W1.alloc (Ah #[.slice A0 (zB fs).length k0] 49)) [] fs A0 k0:=by
  rw[zF] at e6 cF ⊢;exact⟨by simp,e6,cF.alloc _,zw d0 _,d1.same (NR _ _ _ d1.lt),cA.trans ((Lp _ _).alloc (by have:=cA.size;omega) _),Marks.nil _ _,DfsInv.start Ey⟩
 rw[<-GF];have HT:=zH hT;clear e6 hT d0 d1 cA cF;refine wp_loop_ghost (fun (m:Nat) (a':Act) (w':Ba)=>∃(ds:List Deferred) (u7 u9 LU LT LL LC Bn Bm Bl Bj Bi Bh LB Lt K8 K7 K6 KZ KY KX KW KV KU KT KS KR KQ KP KO KN Bg Bf KM KL:Au),(∃au bP P c,PastRel w n A cap vs fs g6 m ds w' au bP P c)/\a'={ tmps:=#[Aj #[O U n,I A vs.length cap],I F fs.length pc,Ak (J ⟨w.heap.size,0,Z⟩),undef,I Z 0 0,.map (J (w.heap.size+1)),Ak (J ⟨g6,0,Z⟩),u7,undef,u9,undef,undef,.map (J (w.heap.size+1)),I F fs.length pc,LU,LT,LL,LC,Bn,Bm,Bl,Bj,Bi,Bh,LB,Lt,K8,K7,K6,KZ,KY,KX,KW,KV,KU,KT,KS,KR,KQ,KP,KO,KN,Bg,Bf,KM,KL,undef,undef,undef,undef,undef,undef,undef,undef,undef,undef,undef,undef,undef,undef,undef],defers:=ds }) (6*vs.length+fs.length) ?_ ?_
 . exact⟨[],_,_,_,_,_,_,_,_,_,_,_,_,_,_,_,_,_,_,_,_,_,_,_,_,_,_,_,_,_,_,_,_,_,_,⟨[],fs,A0,k0,dY⟩,rfl⟩
 clear dY GF;rintro m a' wr ⟨ds,u7,u9,LU,LT,LL,LC,Bn,Bm,Bl,Bj,Bi,Bh,LB,Lt,K8,K7,K6,KZ,KY,KX,KW,KV,KU,KT,KS,KR,KQ,KP,KO,KN,Bg,Bf,KM,KL,⟨au,bP,P,c,R⟩,rfl⟩;rcases List.eq_nil_or_concat bP with rfl | ⟨aT,i,rfl⟩
 . obtain⟨num,box,own,tab,set_,below,marks,inv⟩:=R
   simp only[List.length_nil] at box own num;have c6:=za box 0 rfl;have ct:=za tab 1 rfl;have BX:=zH box;have OW:=zH own;have TB:=zH tab;have BL:=zH below;have MK:=zH marks;have NU:=zH num;clear box own tab below marks num;go_wp2_with fail;have aC:=(inv.small).1;have dt:=HT.out.few
   go_loopw [10,49] (fun o i Be=>∃k:Nat,k<=vs.length/\i=O U k/\Own Be w.heap.size o (xE au k)/\Non w.heap.size wr Be) (fun _ i _=>vs.length-(Aq i).toNat)
   case atStart => exact ⟨0, by omega, rfl, by have : xE au 0 = [] := by simp [xE, zB]
                                               rw[this];exact Own.nil _ _,Non.refl _ _⟩
   obtain⟨k,hk,rfl,aq,sd⟩:=hrel;clear c6 ct;have HO:=zH aq;have HN:=zH sd;have dj:=set_.non sd;have nv:=wY au k;clear aq sd
   by_cases ac:k<vs.length
   . have cj:=dj.look (t:=52) ZD underlying52 kA (k:Int)
     by_cases bV:k∈au
     . have hy:=zH (Y4 bV)
       rw[Lm (kI.2 bV)] at cj;clear bV;go_wp2_with (at_builtin;go_must (refine kb rfl _ _ rfl w.heap.size u10 _ (k:Int) rfl HO.out rfl (by omega) (Lz BL.out.size HN.out.below.size) ?_);intro v' w1 bL ex aJ)
       go_roundw
       case rel=>exact⟨k+1,by omega,by go_num,by rw[hy.out];exact bL,HN.out.trans (Non.of_grown ex (Lz BL.out.size HN.out.below.size) (kG HO.out))⟩
       simp[Aq];omega
     have hy:=zH (Jg bV);rw[Ll (fun h=>bV (kI.1 h))] at cj;clear bV;go_wp2_with fail
     go_roundw
     case rel=>exact⟨k+1,by omega,by go_num,by rw[hy.out];exact HO.out,HN.out⟩
     simp[Aq];omega
   obtain rfl:k=vs.length:=by omega
   have aS:=zH (inv.result ha Ey);go_wp2_with fail;refine zS (HN.out.marks MK.out) (v:=u10) (fun W=>by kernel_rfl) ?_;intro W hS;refine⟨_,rfl,?_,(BL.out.trans HN.out.below).trans hS.below⟩;rw[<-aS.out];exact HO.out.shut hS
 simp only[List.concat_eq_append] at R;obtain⟨num,box,own,tab,set_,below,marks,inv⟩:=R;have tT:=(inv.good i (by simp)).1;obtain⟨A',c',e,hc1,hc2,CT⟩:=own.form;simp only[Value.slice.injEq] at e;obtain⟨rfl,_,rfl⟩:=e;obtain⟨b,off,rfl,cZ,aQ⟩:=CT.at_ aT.length (by simp[zB]);have Cl:(zB (aT++[i]))[aT.length]'(by simp[zB])=(i:Int):=by simp[zB]
 rw[Cl] at aQ;clear Cl CT;rw[zF] at hc1;simp only[List.length_append,List.length_cons,List.length_nil,Nat.zero_add] at box own num hc1;have lj:=inv.small;have dt:=HT.out.few;simp only[List.length_append,List.length_cons,List.length_nil,Nat.zero_add] at lj;unfold maxLen at hc2;have c6:=za box 0 rfl;have ct:=za tab 1 rfl;have f6:=zb box 0;have l6:=zd box;have BX:=zH box;have OW:=zH own;have TB:=zH tab;have BL:=zH below;have MK:=zH marks;have NU:=zH num;have HI:=zH inv;clear box own tab below marks num inv;obtain⟨X,hX⟩:∃X,X=wr.setCell ⟨g6,0,Z⟩ (I (J ⟨b,off,Z⟩) aT.length c):=⟨_,rfl⟩;obtain⟨x6,xs,xo⟩:=Qs BX.out (I (J ⟨b,off,Z⟩) aT.length c);rw[<-hX] at x6 xs xo;have eD:=set_.same (w':=X) (xo _ (by omega));have cj:=eD.look (t:=52) ZD underlying52 kA (i:Int);have X6:=zH x6;have XS:=zH xs;have XO:=zH xo;have su:wr.grownBy X (J g6):=by rw[hX];exact gP BX.out _
 have nX:Own X w.heap.size (I (J ⟨b,off,Z⟩) aT.length c) (zB aT):=by
  have h1:=OW.out.kept su (.inr (qD OW.out BX.out (by decide)));exact own_cut h1
 have DX:Ao w.heap.size w X:=BL.out.grown su (by omega) (fun k hk=>by cases hk;omega);have DW:Marks w.heap.size ds X:=MK.out.keep fun k hk=>(XO.out k (fun e=>by subst e;rw[BX.out] at hk;cases hk)).trans hk
 have nW:=(XO.out _ (by omega)).trans TB.out;clear x6 xs xo set_ su
 by_cases bV:i∈au
 . rw[Lm (kI.2 bV),hX] at cj
   have Tg:=zH (HI.out.skip bV);have HX:=zH hX;have XR:As (PastRel w n A cap vs fs g6 (6*(vs.length-au.length)+aT.length) ds X au aT (J ⟨b,off,Z⟩) c):=⟨rfl,X6.out,nX,nW,eD,DX,DW,Tg.out⟩;clear bV hX eD nX DX DW nW;go_wp2_with fail;exact⟨6*(vs.length-au.length)+aT.length,by have:=NU.out;omega,ds,_,_,_,_,_,_,_,_,_,_,_,_,_,_,_,_,_,_,_,_,_,_,_,_,_,_,_,_,_,_,_,_,_,_,⟨au,aT,_,c,by rw[<-HX.out];exact XR.out⟩,rfl⟩
 have Mr:=HI.out.room bV;have Tx:=zH (HI.out.push ha Ey bV);rw[Ll (fun h=>bV (kI.1 h)),hX] at cj;have XN:=zH nX;have XT:=zH nW;have XM:=zH DW;have XB:=zH DX;have XE:=zH eD;have HX:=zH hX;clear bV hX eD nX DX DW nW
 go_wp2_with (at_mapUpdate; refine jg _ rfl _ _ _ _ _ rfl ZD underlying52 (w.heap.size + 1) (zB au) (by rw [← HX.out]; exact XE.out) (i : Int) rfl rfl rfl ?_; intro w1 pG ex
              rw[<-HX.out] at ex;have Va:=za ((ex.block w.heap.size (zd XT.out) (by simp)).trans XT.out) 1 rfl;obtain⟨b',eF,rfl,aJ,r0,r1,r2,r3,r4,r5,r6,r7⟩:=(HT.out.rows.keep (XB.out.grown ex (by have:=XB.out.size;omega) (fun k e=>by cases e;omega))).row i tT;have re:=zH pG;have sY:=zH ex
              clear pG ex cj)
 have hh:=kJ vs[i] w1;have aL:=zg w1 (Ah vs[i].cells 100)
 have W2:=zH (BoxW.start (B:=w.heap.size) (g:=g6) (xs:=zB aT) (w2:=w1.alloc (Ah vs[i].cells 100)) (P:=J ⟨b,off,Z⟩) (c:=c) (by
  rw[zF];exact zw ((sY.out.block g6 (zd X6.out) (by simp;omega)).trans X6.out) _) (by
  rw[zF];exact(XN.out.kept sY.out (by
   right;intro e;obtain⟨_,h⟩:=kG XN.out _ e;obtain⟨m,es,ck,hm,_⟩:=XE.out;have:=h _ hm;cases this)).alloc _))
 have M2:As (Marks w.heap.size ds (w1.alloc (Ah vs[i].cells 100))):=XM.out.keep fun k hk=>by
  obtain⟨m,es,ck,hm,_⟩:=XE.out;exact zw ((sY.out.block k (Li.1 hk).1 (fun e=>by cases e;rw[hm] at hk;cases hk)).trans hk) _
 have B2:As (Ao w.heap.size w (w1.alloc (Ah vs[i].cells 100))):=(XB.out.grown sY.out (by have:=XB.out.size;omega) (fun k e=>by cases e;omega)).trans ((Lp _ _).alloc (by have:=XB.out.size;have:=sY.out.size;omega) _);have S2:As (SetAt (O U) (w1.alloc (Ah vs[i].cells 100)) (w.heap.size+1) (zB (i::au))):=re.out.same (NR _ _ _ re.out.lt);have T2:=zH (zw ((sY.out.block w.heap.size (zd XT.out) (by simp)).trans XT.out) (Ah vs[i].cells 100));have b9:w1.heap.size<(w1.alloc (Ah vs[i].cells 100)).heap.size:=by simp
 have dZ:=kh vs[i] w1.heap.size _ aL;have Uc:g6<w1.heap.size:=LF (zd X6.out) sY.out.size;unfold Vw.cells at hh;refine hh.mono ?_;rintro e w2 ⟨rfl,cx⟩;have Bv:w1.alloc (Ah vs[i].cells 100)=w2:=cx;rw[Bv] at W2 M2 B2 S2 T2 b9 dZ aL;clear cx Bv;have aO:w.heap.size<=w2.heap.size:=B2.out.size;have XX:=zH dZ;have XY:=zH aL;clear hh dZ aL r0 r1 r2 r3 r4 r5 r6 r7 Va c6 f6 l6 ct aQ;go_wp2_with fail
 refine ka rfl (PD Rw (by kernel_rfl) rfl) XX.out (by rintro k rfl;exact b9) (fun _=>rfl)
  (fun pre W=>BoxW w.heap.size g6 (zB aT++pre.map fun x=>x.1.2) w2 W) (fun _ _ _=>False) (BoxW.own (zB aT) (fun x:Int×Int=>x.2) aO) (fun _ _ _ _ _ h _ _=>h)
  (by rw[Nt,Nf];exact W2.out) ?a1 ?assign ?body ?done ?stop
 case assign=>
  intro l x W K hK;gi_wp2;exact hK
 case body=>
  intro l pre x W hI ac;have iq:(yy vs[i]).length<=5:=by have:=xP vs[i];simpa[zY] using this
  have fL:(zB aT++pre.map fun x=>x.1.2).length<=1000000:=by
   rw[Lq,zF,LE];omega
  have dF:zB aT++(pre++[x]).map (fun x=>x.1.2)=(zB aT++pre.map fun x=>x.1.2)++[x.1.2]:=by simp
  obtain⟨xs,iU⟩:∃xs,zB aT++pre.map (fun x=>x.1.2)=xs:=⟨_,rfl⟩;rw[iU] at hI fL;obtain⟨P2,c2,cY,cC⟩:=hI.box;have q6:=za cY 0 rfl;have Kq:=zH hI;have HO:=zH cC;have aU:=zH cY;have HS:=zH dF;have It:=zH iU;clear hI cC cY dF iU
  gi_wp2_with (gi_at_builtin; go_must (refine kQ rfl _ _ rfl w.heap.size (I P2 xs.length c2) _ x.1.2 rfl HO.out rfl (by omega) (by have := zd aU.out; omega) ?_); intro v' w3 bL pQ ap
               have pb:=(pQ.block g6 (zd aU.out) (fun e=>qD HO.out aU.out (by decide) e.symm)).trans aU.out;have q7:=za pb 0 rfl;have f7:=zb pb 0;have l7:=zd pb;obtain⟨A3,k3,rfl,ER,Ht,_⟩:=bL.form;have pj:=zH bL;have DH:=zH pQ
               clear pb bL pQ ap)
  obtain⟨r1,r2,r3⟩:=Kq.out.push (by omega) aU.out HO.out pj.out DH.out w1.heap.size _ (by omega) XY.out;simp only[List.length_append,List.length_cons,List.length_nil,Nat.zero_add] at r1 r2 r3;exact⟨r1,r2,by dsimp only;rw[HS.out,It.out];exact r3⟩
 case done=>
  intro D ys W hD eo hI dI;have hv:zv vs i=vs[i]:=kK tT
  have hl:zB aT++ys.map (fun x=>x.1.2)=zB (aT++zY (zv vs i)):=by
   rw[hv,show zB (aT++zY vs[i])=zB aT++zB (zY vs[i]) from by simp[zB],wK]
   have h2:ys.map (fun x=>x.1.2)=(yy vs[i]).map (·.2):=by
    have:=congrArg (List.map (fun x:Int×Int=>x.2)) eo;rw[<-this,Pc];rfl
   rw[h2]
  simp only[hl] at hI;obtain⟨P2,c2,cY,cC⟩:=hI.box;rw[zF] at cY cC;have dM:=xP (zv vs i);refine⟨6*(vs.length-(i::au).length)+(aT++zY (zv vs i)).length,by have:=NU.out;simp only[List.length_cons,List.length_append];omega,_,_,_,_,_,_,_,_,_,_,_,_,_,_,_,_,_,_,_,_,_,_,_,_,_,_,_,_,_,_,_,_,_,_,_,⟨i::au,aT++zY (zv vs i),P2,c2,⟨rfl,cY,cC,hI.rest _ _ _ T2.out (by decide) (by omega),S2.out.non hI.non,B2.out.trans hI.non.below,M2.out.cons (hI.non.same · _ · rfl) aO hD dI,Tx.out⟩⟩,rfl⟩
 intro D c pre W _ _ h;exact h.elim
end
section
open Go.RowKit Go.Shelf
theorem wJ{n:Int}{vs:List Vw}{v:Vw}(h:xd n v≠0\/v.r=0):zU n vs v=xd n v:=by unfold zU;rw[Ln h]
theorem qu{n:Int}{vs:List Vw}{v:Vw}(h1:xd n v=0)(h2:v.r≠0)(h:yD (yu vs v) 5≠0):zU n vs v=yD (yu vs v) 5:=by
 unfold zU;rw[Lj (by simp[h1,h2]),Ln h]
theorem X5{n:Int}{vs:List Vw}{v:Vw}(h1:xd n v=0)(h2:v.r≠0)(h:yD (yu vs v) 5=0)(hg:v.h v.p.toNat=-1):zU n vs v=20:=by
 unfold zU;rw[Lj (by simp[h1,h2]),Lj (by simp[h]),Ln hg]
theorem YG{n:Int}{vs:List Vw}{v:Vw}(h1:xd n v=0)(h2:v.r≠0)(h:yD (yu vs v) 5=0)(hg:v.h v.p.toNat≠-1):zU n vs v=if jQ vs (qX vs (zY v))=Av then 0 else 22:=by
 unfold zU;rw[Lj (by simp[h1,h2]),Lj (by simp[h]),Lj hg]
theorem ZB{vs:List Vw}{v:Vw}(h:yD (yu vs v) 5=0):∀c,c∈zY v->c<vs.length:=fun c hc=>by
 obtain⟨_,q,hq,h0,rfl⟩:=wg.1 hc;exact(wj (qG.1 h q hq) (by omega)).2.1
def xW(vs:List Vw)(i:Nat):Int×Int:=((zv vs i).p,(zv vs i).r)
structure PlaceInv(vs:List Vw)(l:List Nat)(k:Nat)(S:List (Int×Int)):Prop where
 mem:∀p,p∈S↔∃j,j<k/\p=xW vs (l.getD j 0)
 apart:∀a b,b<a->a<k->gY vs (l.getD b 0) (l.getD a 0)=Ax
theorem PlaceInv.start(vs:List Vw)(l:List Nat):PlaceInv vs l 0 []:=⟨fun p=>by simp,fun a b _ h=>by omega⟩
theorem gW{vs:List Vw}{a b:Nat}:gY vs a b=Av↔xW vs a=xW vs b:=by
 unfold gY xW;simp[Prod.ext_iff]
theorem PlaceInv.step{vs:List Vw}{l:List Nat}{k:Nat}{S:List (Int×Int)}(h:PlaceInv vs l k S)(hn:xW vs (l.getD k 0)∉S):PlaceInv vs l (k+1) (xW vs (l.getD k 0)::S) where
 mem:=fun p=>by
  simp only[List.mem_cons,h.mem];constructor
  . rintro(rfl | ⟨j,hj,rfl⟩)
    . exact⟨k,by omega,rfl⟩
    . exact⟨j,by omega,rfl⟩
  . rintro⟨j,hj,rfl⟩
    by_cases e:j=k
    . subst e;exact .inl rfl
    . exact .inr ⟨j,by omega,rfl⟩
 apart:=fun a b hb ha=>by
  by_cases e:a=k
  . subst e
    cases hc:gY vs (l.getD b 0) (l.getD a 0) with
    | false=>rfl
    | true=>exact absurd ((h.mem _).2 ⟨b,hb,(gW.1 hc).symm⟩) hn
  . exact h.apart a b hb (by omega)
theorem PlaceInv.bad{vs:List Vw}{l:List Nat}{k:Nat}{S:List (Int×Int)}(h:PlaceInv vs l k S)(hk:k<l.length)(hn:xW vs (l.getD k 0)∈S):¬jQ vs l=Av:=by
 intro hc;obtain⟨j,hj,e⟩:=(h.mem _).1 hn;have:=vr.1 hc k j hj hk;rw[gW.2 e.symm] at this
 cases this
theorem PlaceInv.fine{vs:List Vw}{l:List Nat}{S:List (Int×Int)}(h:PlaceInv vs l l.length S):jQ vs l=Av:=vr.2 fun a b hb ha=>h.apart a b hb ha
end
section
open Go.RowKit Go.Shelf
attribute [local go_sem] Oper.semAt_some
theorem ki{w w':Ba}(h:Ao w.heap.size w w'){row:Option Nat}:w.grownBy w' row:=⟨h.os,h.tape,h.output,h.size,fun k hk _=>h.block k hk⟩
theorem X7(n:Nat)(A:Bb)(cap:Nat)(vs:List Vw)(v:Vw)(w:Ba)(hT:TArg w A cap vs)(hw:Wf (n:Int) vs) :
  Ap An 105 #[Aj #[O U n,I A vs.length cap],.agg v.cells] w fun e w'=>e=Am (O U (zU n vs v))/\Ao w.heap.size w w':=by
 have fr:=@run_makeMap An;have HT:=zH hT;have HW:=zH hw;have dt:=hT.few;have GL:=v.cells_h;have sC:=gj n v;clear hT hw;refine zV func105 rfl ?_;simp only[ntmps105,List.size_toArray,List.length_cons,List.length_nil,Nat.reduceAdd,Nat.reduceSub,Array.replicate_succ,Array.replicate_zero,List.push_toArray,List.append_toArray,List.nil_append,List.cons_append];unfold Vw.cells at GL sC ⊢;have Wi:=zH GL;clear GL;go_wp2_with fail;obtain⟨W0,bD,b0,b1,aZ,bH⟩:=ZQ w #[O U n,I A vs.length cap] v.cells 33 100;unfold Vw.cells at bD b1;rw[bD];clear bD;refine(sC W0).mono ?_;rintro e w1 ⟨rfl,hb⟩;have d0:=Lb hb (by omega) b0;have d1:=Lb hb (by omega) b1;have B1:As (Ao w.heap.size w w1):=bH.trans (hb.mono (by omega));have l1:w.heap.size+1<w1.heap.size:=by have:=hb.size;omega
 clear sC b0 b1 aZ bH hb;have c0:=za d0 1 rfl;have c1:=za d1 1 rfl;have D0:=zH d0;have D1:=zH d1;clear d0 d1
 by_cases cZ:xd n v=0
 . have e0:(xd n v != 0)=Ax:=by simp[cZ]
   by_cases hr:v.r=0
   . have e1:(v.r==0)=Av:=by simp[hr]
     have hz:=zH (wJ (n:=n) (vs:=vs) (v:=v) (.inr hr));clear cZ hr;go_wp2_with fail
     (try simp only[Exit.inBlock,Exit.then])
     refine zS (Marks.nil w.heap.size _) (v:=O U (xd n v)) (fun W=>by kernel_rfl) ?_;intro W hS;exact⟨zc hz.out.symm,B1.out.trans (hS.below)⟩
   have e1:(v.r==0)=Ax:=by simp[hr]
   have bI:=jT cZ;have HB:=zH cZ;have HR:=zH hr;clear cZ hr;have c3:=za D1.out 3 rfl;have c4:=za D1.out 4 rfl;have c5:=za D1.out 5 rfl;have c6:=za D1.out 6 rfl;have c7:=za D1.out 7 rfl;go_wp2_with fail
   go_loopw [29] (fun i wr=>∃k m:Nat,k<=5/\i=O U k/\wr=w1.drewN m/\As (yD (yu vs v) k=0)) (fun i _=>5-(Aq i).toNat)
   case atStart=>exact⟨0,0,by omega,rfl,rfl,rfl⟩
   obtain⟨k,m,hk,rfl,rfl,aj⟩:=hrel
   by_cases ac:k<5
   . have tS:=vy v k ac
     by_cases hm:v.h k=-1
     . have e2:(v.h k==-1)=Av:=by simp[hm]
       have hz:As (yD (yu vs v) (k+1)=0):=by show yD (yu vs v) (k+1)=0;rw[kL aj.out];simp[yu,hm]
       clear hm;go_wp2_with fail
       go_roundw
       case rel=>exact⟨k+1,_,by omega,by go_num,rfl,hz⟩
       simp[Aq];omega
     have e2:(v.h k==-1)=Ax:=by simpa using hm
     by_cases hb:v.h k<0\/(vs.length:Int)<=v.h k
     · have hz : As (yD (yu vs v) 5 = 6) := by
        show yD (yu vs v) 5=6;have cA:yu vs v k=6:=by unfold yu;rw[Lj hm,Ln hb]
        rw[kk aj.out (by rw[cA];decide) ac,cA]
       clear hm;rcases hb with hb | hb
       . go_wp2_with fail
         (try simp only[Exit.inBlock,Exit.then])
         refine zS (Marks.nil w.heap.size _) (v:=O U 6) (fun W=>by kernel_rfl) ?_;intro W hS;exact⟨zc (by rw[qu HB.out HR.out (by rw[hz.out];decide),hz.out]),by first | exact(zu B1.out _).trans hS.below | exact(zu (zu B1.out _) _).trans hS.below⟩
       have aJ:¬v.h k<0:=by omega
       go_wp2_with fail
       (try simp only[Exit.inBlock,Exit.then])
       refine zS (Marks.nil w.heap.size _) (v:=O U 6) (fun W=>by kernel_rfl) ?_;intro W hS;exact⟨zc (by rw[qu HB.out HR.out (by rw[hz.out];decide),hz.out]),by first | exact(zu B1.out _).trans hS.below | exact(zu (zu B1.out _) _).trans hS.below⟩
     obtain⟨j,hj⟩:=Lr (show 0<=v.h k by omega);have bg:j<vs.length:=by omega
     rw[hj] at tS e2
     have cj:yu vs v k=if vs[j].p≠(k:Int)\/vs[j].r≠v.r-1 then 22 else 0:=by
      unfold yu;rw[Lj hm,Lj (by omega),hj,Lv,kK bg]
     obtain⟨b,off,rfl,aJ,r0,r1,_⟩:=(HT.out.rows.keep B1.out).row j bg;have ae:b<w1.heap.size:=by omega
     clear hb hm hj c3 c4 c5 c6 c7
     by_cases eH:vs[j].p=(k:Int)
     . by_cases ah:vs[j].r=v.r-1
       · have hz : As (yD (yu vs v) (k + 1) = 0) := by
          show yD (yu vs v) (k+1)=0;rw[kL aj.out,cj,Lj (by omega)]
         have e3:(vs[j].p != (k:Int))=Ax:=by simp[eH]
         have e4:(vs[j].r != v.r-1)=Ax:=by simp[ah]
         clear cj eH ah;go_wp2_with fail;go_quiet (fail);go_wp2_with fail
         go_roundw
         case rel=>exact⟨k+1,_,by omega,by go_num,rfl,hz⟩
         simp[Aq];omega
       have hz : As (yD (yu vs v) 5 = 22) := by
        show yD (yu vs v) 5=22;have cA:yu vs v k=22:=by rw[cj,Ln (.inr ah)]
        rw[kk aj.out (by rw[cA];decide) ac,cA]
       have e3:(vs[j].p != (k:Int))=Ax:=by simp[eH]
       have e4:(vs[j].r != v.r-1)=Av:=by simpa using ah
       clear cj eH ah;go_wp2_with fail;go_quiet (fail);go_wp2_with fail
       (try simp only[Exit.inBlock,Exit.then])
       refine zS (Marks.nil w.heap.size _) (v:=O U 22) (fun W=>by kernel_rfl) ?_;intro W hS;exact⟨zc (by rw[qu HB.out HR.out (by rw[hz.out];decide),hz.out]),by first | exact(zu B1.out _).trans hS.below | exact(zu (zu B1.out _) _).trans hS.below⟩
     have hz : As (yD (yu vs v) 5 = 22) := by
      show yD (yu vs v) 5=22;have cA:yu vs v k=22:=by rw[cj,Ln (.inl eH)]
      rw[kk aj.out (by rw[cA];decide) ac,cA]
     have e3:(vs[j].p != (k:Int))=Av:=by simpa using eH
     clear cj eH;go_wp2_with fail;go_quiet (fail);go_wp2_with fail
     (try simp only[Exit.inBlock,Exit.then])
     refine zS (Marks.nil w.heap.size _) (v:=O U 22) (fun W=>by kernel_rfl) ?_;intro W hS;exact⟨zc (by rw[qu HB.out HR.out (by rw[hz.out];decide),hz.out]),by first | exact(zu B1.out _).trans hS.below | exact(zu (zu B1.out _) _).trans hS.below⟩
   obtain rfl:k=5:=by omega
   obtain⟨wa,pC⟩:=Kh (w1.drewN m);have A0:As (wa.heap[w.heap.size]?=J (Ah #[O U n,I A vs.length cap] 33 (0,0))):=by rw[<-pC];exact D0.out
   have A1:As (wa.heap[w.heap.size+1]?=J (Ah v.cells 100 (0,0))):=by rw[<-pC];exact D1.out
   have AB:As (Ao w.heap.size w wa):=by rw[<-pC];exact zu B1.out m
   have la:w.heap.size+1<wa.heap.size:=by rw[<-pC];exact l1
   rw[pC];clear pC c0 c1 c3 c4 c5 c6 c7 D0 D1 B1 l1;obtain⟨q,lQ⟩:=Lr bI.1;have tL:q<5:=by have:=bI.2.1;have:=HW.out.2.1;omega
   have hq:=za A1.out (3+q) (v.cells_h q tL);have c0:wa.cell? ⟨w.heap.size+1,0,Z⟩=J (O U (q:Int)):=by rw[<-lQ];exact za A1.out 0 rfl
   have HQ:=zH lQ;have Mt:v.p.toNat=q:=by omega
   by_cases hg:v.h q=-1
   . have e2:(v.h q==-1)=Av:=by simp[hg]
     have hz:=zH (X5 HB.out HR.out aj.out (by rw[Mt];exact hg));clear hg lQ bI;go_wp2_with fail
     (try simp only[Exit.inBlock,Exit.then])
     refine zS (Marks.nil w.heap.size _) (v:=O U 20) (fun W=>by kernel_rfl) ?_;intro W hS;exact⟨zc (hz.out.symm),AB.out.trans hS.below⟩
   have e2:(v.h q==-1)=Ax:=by simpa using hg
   have hz:=zH (YG HB.out HR.out aj.out (by rw[Mt];exact hg));have cj:=aj.out;have hp:v.p=(q:Int):=lQ;have dM:=zH (ZB aj.out);have hh:=kJ v;have v0:wa.cell? ⟨w.heap.size+1,0,Z⟩=J (O U v.p):=za A1.out 0 rfl;have v1:=za A1.out 1 rfl;have v2:=za A1.out 2 rfl;have v3:=za A1.out 3 rfl;have v4:=za A1.out 4 rfl;have v5:=za A1.out 5 rfl;have v6:=za A1.out 6 rfl;have v7:=za A1.out 7 rfl;have VV:=zH (And.intro v0 (And.intro v1 (And.intro v2 (And.intro v3 (And.intro v4 (And.intro v5 (And.intro v6 v7)))))));clear v0 v1 v2 v3 v4 v5 v6 v7 hh hp cj;clear hg lQ bI;go_upto_region 16 with fail
   obtain⟨v0,v1,v2,v3,v4,v5,v6,v7⟩:=VV.out;clear hq c0 Wi;go_wp2_with fail;obtain⟨g8,MU⟩:∃g8,g8=wa.heap.size:=⟨_,rfl⟩;have hh:=kJ v (wa.alloc (Ah #[I Z 0 0] 49));have o8:=zw (zg wa (Ah #[I Z 0 0] 49)) (Ah v.cells 100);have o9:=zg (wa.alloc (Ah #[I Z 0 0] 49)) (Ah v.cells 100);have oB:Ao w.heap.size w ((wa.alloc (Ah #[I Z 0 0] 49)).alloc (Ah v.cells 100)):=AB.out.trans ((xT wa _ _).mono AB.out.size);have o0:=zw (zw A0.out (Ah #[I Z 0 0] 49)) (Ah v.cells 100);simp only[World.size_alloc] at hh o9;rw[<-MU] at hh o8 o9 la ⊢;refine hh.mono ?_;rintro e wb ⟨rfl,iW⟩;rw[iW] at o8 o9 oB o0;have b9:g8+1<wb.heap.size:=zd o9;clear iW hh MU v0 v1 v2 v3 v4 v5 v6 v7 VV A0 A1 AB;have XX:=zH (kh v (g8+1) wb o9);have XY:=zH o9;have X0:=zH o0;have XB:=zH oB;have Oz:w.heap.size<=wb.heap.size:=oB.size;have W2:=zH (BoxW.start (B:=w.heap.size) (g:=g8) (xs:=[]) (w2:=wb) o8 (Own.nil _ _));clear o8 o9 o0 oB;go_wp2_with fail
   refine ka rfl (PD Rw (by kernel_rfl) rfl) XX.out (by rintro k rfl;exact b9) (fun _=>rfl)
    (fun pre W=>BoxW w.heap.size g8 (([]:List Int)++pre.map fun x:{ x // x∈yy v }=>x.1.2) wb W) (fun _ _ _=>False) (BoxW.own [] (fun x:Int×Int=>x.2) Oz) (fun _ _ _ _ _ h _ _=>h)
    W2.out ?a1 ?assign ?body ?done ?stop
   case assign=>
    intro l x W K hK;gi_wp2;exact hK
   case body=>
    intro l pre x W hI ac;have iq:(yy v).length<=5:=by have:=xP v;simpa[zY] using this
    have fL:(([]:List Int)++pre.map fun x:{ x // x∈yy v }=>x.1.2).length<=1000000:=by
     rw[Lq,LE];simp;omega
    have dF:([]:List Int)++(pre++[x]).map (fun x:{ x // x∈yy v }=>x.1.2)=(([]:List Int)++pre.map fun x:{ x // x∈yy v }=>x.1.2)++[x.1.2]:=by simp
    obtain⟨xs,iU⟩:∃xs,([]:List Int)++pre.map (fun x:{ x // x∈yy v }=>x.1.2)=xs:=⟨_,rfl⟩;rw[iU] at hI fL;obtain⟨P2,c2,cY,cC⟩:=hI.box;have q6:=za cY 0 rfl;have Kq:=zH hI;have HO:=zH cC;have aU:=zH cY;have HS:=zH dF;have It:=zH iU;clear hI cC cY dF iU
    gi_wp2_with (gi_at_builtin; go_must (refine kQ rfl _ _ rfl w.heap.size (I P2 xs.length c2) _ x.1.2 rfl HO.out rfl (by omega) (by have := zd aU.out; omega) ?_); intro v' w3 bL pQ ap
                 have pb:=(pQ.block g8 (zd aU.out) (fun e=>qD HO.out aU.out (by decide) e.symm)).trans aU.out;have q7:=za pb 0 rfl;have f7:=zb pb 0;have l7:=zd pb;obtain⟨A3,k3,rfl,ER,Ht,_⟩:=bL.form;have pj:=zH bL;have DH:=zH pQ
                 clear pb bL pQ ap)
    obtain⟨r1,r2,r3⟩:=Kq.out.push (by omega) aU.out HO.out pj.out DH.out (g8+1) _ (by omega) XY.out;simp only[List.length_append,List.length_cons,List.length_nil,Nat.zero_add] at r1 r2 r3;exact⟨r1,r2,by dsimp only;rw[HS.out,It.out];exact r3⟩
   case stop=>
    intro D c pre W _ _ h;exact h.elim
   intro D ys W hD eo hI dI
   have hl:([]:List Int)++ys.map (fun x:{ x // x∈yy v }=>x.1.2)=zB (zY v):=by
    rw[wK];have:=congrArg (List.map (fun x:Int×Int=>x.2)) eo;rw[<-this,Pc];rfl
   simp only[hl] at hI;obtain⟨P2,c2,cY,cC⟩:=hI.box;obtain⟨WB,Ic,e,hc1,hc2,CT⟩:=cC.form;simp only[Value.slice.injEq] at e;obtain⟨rfl,_,rfl⟩:=e;rw[zF] at cY cC;have M1:=zH ((Marks.nil w.heap.size wb).cons (hI.non.same · _ · rfl) Oz hD dI);have T1:=hI.rest _ _ _ X0.out (by decide) (by omega);have q8:=za cY 0 rfl;obtain⟨q0,q1,_⟩:=Ka T1;have B2:=zH (XB.out.trans hI.non.below);have SG:=zd T1;have SF:=zd cY;have TT:=zH T1;have IA:=zH CT;clear hI cY cC CT T1 W2;go_wp2_with fail;obtain⟨gm,pP⟩:∃gm,gm=W.heap.size:=⟨_,rfl⟩;have m0:=SetAt.made jI W;have mB:Ao w.heap.size w (W.alloc (.map #[] 0)):=B2.out.trans ((Lp _ _).alloc B2.out.size _);have mT:=zw TT.out (.map #[] 0);have mI:=IA.out.up ((Lp _ W).alloc (Lh _) (.map #[] 0));have mM:Marks w.heap.size _ (W.alloc (.map #[] 0)):=M1.out.keep fun k hk=>zw hk _
   have aZ:(W.alloc (.map #[] 0)).heap.size=gm+1:=by simp[pP]
   obtain⟨Wm,EI⟩:=Kh (W.alloc (.map #[] 0));rw[<-pP,EI] at m0;rw[EI] at mB mT mI mM aZ;rw[<-pP] at SG SF ⊢;rw[EI];have pK:=past_any n A P2 cap c2 vs (zY v) Wm (HT.out.keep mB) HW.out.acyc mI dM.out (by have:=xP v;omega);refine pK.mono ?_;rintro e W3 ⟨v3,rfl,lp,ap⟩;obtain⟨P3,c3,rfl,Cp,Uk,fF⟩:=lp.form;rw[zF] at Cp lp;have s3:=m0.kept ap (by omega);have T3:=zH (Lb ap (by omega) mT);have B3:=zH (mB.trans (ap.mono (by omega)));have M3:As (Marks w.heap.size [{ target:=Target.collected D,args:=#[] }] W3):=mM.keep fun k hk=>(ap.block k (Li.1 hk).1).trans hk
   have O3:=zH lp;have I3:=zH fF;have L8:gm+1<=W3.heap.size:=by have:=ap.size;omega
   have aN:(qX vs (zY v)).length<=vs.length:=by have:=past_len vs (zY v);rwa[zF] at this
   have cW:=zH (fun x (hx:x∈qX vs (zY v))=>(Jz.1 hx).1);obtain⟨ls,Gi⟩:=Kh (qX vs (zY v));rw[zF,Gi];rw[Gi] at Cp hz I3 O3 aN cW;have lZ:=zH aZ;clear Gi pK m0 mB mT mI mM ap lp fF EI pP aZ q0 q1 q8;go_wp2_with fail
   go_loopw [87] (fun i wr=>∃(k:Nat) (S:List (Int×Int)),k<=ls.length/\i=O U k/\SetAt jI wr gm S/\As (PlaceInv vs ls k S)/\W3.grownBy wr (J gm)) (fun i _=>ls.length-(Aq i).toNat)
   case atStart=>exact⟨0,[],by omega,rfl,s3,PlaceInv.start _ _,Pj _ _⟩
   obtain⟨k,S,hk,rfl,dj,oL,cM⟩:=hrel;have BW:As (Ao w.heap.size w wr):=B3.out.grown cM (by have:=B3.out.size;omega) (fun k e=>by cases e;omega)
   have MW:As (Marks w.heap.size [{ target:=Target.collected D,args:=#[] }] wr):=M3.out.keep fun k hk=>by
    obtain⟨_,es,ck,hm,_⟩:=s3;exact(cM.block k (Li.1 hk).1 (fun e=>by cases e;rw[hm] at hk;cases hk)).trans hk
   by_cases ac:k<ls.length
   . have hx:=cW.out ls[k] (Ld ac)
     obtain⟨x,dE⟩:=Kh (ls[k]);rw[dE] at hx;have aC:(zB ls).length=ls.length:=zF ls;obtain⟨b3,SE,rfl,ap,GO⟩:=I3.out.at_ k (by omega);have Ch:gm+1<=b3:=by have:=(O3.out.lt b3 rfl).1;have:=lZ.out;omega
     have M':(zB ls)[k]'(by omega)=(x:Int):=by simp[zB,dE]
     rw[M'] at GO;have r3:=(L6 (cM.block b3 ap (by simp;omega))).trans GO;obtain⟨b,off,rfl,aI,c0,c1,_⟩:=(HT.out.rows.keep BW.out).row x hx;have t1:=za ((cM.block w.heap.size (zd T3.out) (by simp;omega)).trans T3.out) 1 rfl;have aL:b<wr.heap.size:=by have:=BW.out.size;omega
     have iy:w.heap.size<wr.heap.size:=by have:=cM.size;omega
     have lk:(0:Int)<=(x:Int):=by omega
     have bq:(x:Int)<(vs.length:Int):=by omega
     have lI:=zH dj;have nM:=zH cM;have S3:=zH s3;have dU:ls.getD k 0=x:=by rw[Lf,Lg ac];exact dE
     have AQ:=zH dU;have Vi:=zH dE;have HV:=zH (kK hx);clear dj cM s3 dU dE aC M' GO;go_upto_region 23 with fail
     go_cut [14] from 91 to 103 (fun Sx wx=>∃g:Nat,Sx=Ak (J ⟨g,0,Z⟩)/\wx.cell? ⟨g,0,Z⟩=J (O U vs[x].p)/\wx.cell? ⟨g,1,Z⟩=J (O U vs[x].r)/\Ao wr.heap.size wr wx)
     case first=>
      clear r3 HT HW HR HB M1 B2 TT IA T3 B3 M3 O3 I3 cW lI nM S3 AQ Vi HV oL BW MW hz dM XX XY X0 XB aj HQ;have L7:wr.cell? ⟨w.heap.size,1,Z⟩=J (I (J ⟨b,off,Z⟩) vs.length cap):=t1;clear t1
      go_region_held3 (fun w'=>w'.cell? ⟨w.heap.size,1,Z⟩=J (I (J ⟨b,off,Z⟩) vs.length cap)/\w'.cell? ⟨b,off+x*8,Z⟩=J (O U vs[x].p)/\w'.cell? ⟨b,off+x*8+1,Z⟩=J (O U vs[x].r))
       (first | exact⟨L7,c0,c1⟩ | exact⟨(Pw _ _ _ iy).trans L7,(Pw _ _ _ aL).trans c0,(Pw _ _ _ aL).trans c1⟩)
       (fail)
      all_goals
       go_wp2_with fail
       go_meet
      all_goals
       exact⟨wr.heap.size,rfl,by simp[go_sem],by simp[go_sem],(zt wr _).drew⟩
     obtain⟨g,rfl,x0,x1,oR⟩:=hcut;have eD:=lI.out.kept oR lI.out.lt;have cj:=eD.look (t:=212) gE underlying212 kA (vs[x].p,vs[x].r);unfold jI at cj;dsimp only at cj;have fL:xW vs (ls.getD k 0)=(vs[x].p,vs[x].r):=by rw[AQ.out];unfold xW;rw[HV.out]
     have BX:As (Ao w.heap.size w wc):=Lc BW.out oR;have MX:As (Marks w.heap.size [{ target:=Target.collected D,args:=#[] }] wc):=MW.out.keep fun k hk=>(oR.block k (Li.1 hk).1).trans hk
     have Wo:=zH oR
     by_cases bV:(vs[x].p,vs[x].r)∈S
     · have hy : As (zU (n : Int) vs v = 22) := by
        show zU (n:Int) vs v=22;rw[hz.out,Lj (oL.out.bad ac (by rw[fL];exact bV))]
       simp only[bV,decide_true] at cj;clear bV fL oR eD c0 c1 t1 r3;go_wp2_with fail
       (try simp only[Exit.inBlock,Exit.then])
       refine zS MX.out (v:=O U 22) (fun W=>by kernel_rfl) ?_;intro W hS;exact⟨zc hy.out.symm,BX.out.trans hS.below⟩
     have dY : As (PlaceInv vs ls (k + 1) ((vs[x].p, vs[x].r) :: S)) := by
      have:=oL.out.step (by rw[fL];exact bV);rw[fL] at this;exact this
     simp only[bV,decide_false] at cj;have Ie:=zH eD;clear bV fL oR eD c0 c1 t1 r3;go_wp2_with (at_mapUpdate;refine jg _ rfl _ _ _ _ _ rfl gE underlying212 gm S Ie.out (vs[x].p,vs[x].r) rfl rfl rfl ?_;intro w5 mr sv)
     go_roundw
     case rel=>exact⟨k+1,(vs[x].p,vs[x].r)::S,by omega,by go_num,mr,dY,nM.out.trans ((ki Wo.out).trans sv)⟩
     simp[Aq];omega
   obtain rfl:k=ls.length:=by omega
   have hy:As (zU (n:Int) vs v=0):=by show zU (n:Int) vs v=0;rw[hz.out,Ln oL.out.fine]
   have BW':=BW;go_wp2_with fail
   (try simp only[Exit.inBlock,Exit.then])
   refine zS MW.out (v:=O U 0) (fun W=>by kernel_rfl) ?_;intro W hS;exact⟨zc hy.out.symm,BW.out.trans hS.below⟩
 have e0:(xd n v != 0)=Av:=by simpa using cZ
 have hz:=zH (wJ (n:=n) (vs:=vs) (v:=v) (.inl cZ));clear cZ;go_wp2_with fail
 (try simp only[Exit.inBlock,Exit.then])
 refine zS (Marks.nil w.heap.size _) (v:=O U (xd n v)) (fun W=>by kernel_rfl) ?_;intro W hS;exact⟨zc (hz.out.symm),B1.out.trans hS.below⟩
end
section
open Go.RowKit
theorem TArg.take{w:Ba}{A:Bb}{cap:Nat}{vs:List Vw}(h:TArg w A cap vs)(k:Nat):TArg w A cap (vs.take k):=
 ⟨h.rows.take k,by have:=h.lec;simp;omega,h.lem,by have:=h.few;simp;omega⟩
theorem X4(n:Nat)(A:Bb)(cap:Nat)(vs:List Vw)(k:Nat)(hk:k<=vs.length)(v:Vw)(w:Ba)(hT:TArg w A cap vs)(hw:Wf (n:Int) (vs.take k)) :
  Ap An 105 #[Aj #[O U n,I A k cap],.agg v.cells] w fun e w'=>e=Am (O U (zU n (vs.take k) v))/\Ao w.heap.size w w':=by
 have:=X7 n A cap (vs.take k) v w (hT.take k) hw;rwa[Ps,P8 hk] at this
theorem mem_step{vs S:List Vw}{k:Nat}(ac:k<vs.length)(h:∀x,x∈S↔x∈vs.take k):∀x,x∈vs[k]::S↔x∈vs.take (k+1):=by
 intro x;rw[LQ,h,List.take_add_one,Lg ac];simp only[Option.toList,List.mem_append,List.mem_singleton];exact or_comm
def vEnc(v:Vw):Au:=.agg v.cells
theorem gt:KeyOk An 100 vEnc:=jA
theorem Q8(w:Ba):∃W0,w.alloc (.map #[] 0)=W0/\SetAt vEnc W0 w.heap.size []/\W0.heap.size=w.heap.size+1/\Ao w.heap.size w W0:=
 ⟨_,rfl,SetAt.made vEnc w,by simp,(Lp _ _).alloc (Lh _) _⟩
theorem YV(n:Int)(A:Bb)(cap:Nat)(vs:List Vw)(w:Ba)(hT:TArg w A cap vs) :
  Ap An 65 #[Aj #[O U n,I A vs.length cap]] w fun e w'=>e=Am (O U (yt n vs))/\Ao w.heap.size w w':=by
 have HT:=zH hT;have dt:=hT.few;have fr:=@run_makeMap An;have HB:=zt w;clear hT
 by_cases hn:n<1\/5<n
 . have hz:As (yt n vs=1):=by show yt n vs=1;unfold yt;rw[Ln hn]
   go_enter func65,ntmps65
   by_cases h1:n<1
   . clear hn
     go_wp2_with fail;go_ret;exact⟨zc hz.out.symm,HB _⟩
   have h5:5<n:=by omega
   clear hn;go_wp2_with fail;go_ret;exact⟨zc hz.out.symm,HB _⟩
 have h1:¬n<1:=by omega
 have h5:¬5<n:=by omega
 by_cases hm:8192<vs.length
 . have hz:As (yt n vs=5):=by show yt n vs=5;unfold yt;rw[Lj hn,Ln hm]
   clear hn;go_enter func65,ntmps65;go_wp2_with fail;go_ret;exact⟨zc hz.out.symm,HB _⟩
 have hz:As (yt n vs=yD (j9 n vs) vs.length):=by show yt n vs=_;unfold yt;rw[Lj hn,Lj hm]
 obtain⟨N,rfl⟩:=Lr (show 0<=n by omega);have fE:1<=N:=by omega
 have nu:N<=5:=by omega
 clear hn;go_enter func65,ntmps65;go_wp2_with fail;obtain⟨gm,pP⟩:∃gm,gm=w.heap.size+1:=⟨_,rfl⟩;obtain⟨W0,bD,m0,aZ,bH⟩:=Q8 (w.alloc (Ah #[O U N,I A vs.length cap] 33));have b0:=(bH.block w.heap.size (by simp)).trans (zg w (Ah #[O U N,I A vs.length cap] 33));have B0:=zH ((HB (Ah #[O U N,I A vs.length cap] 33)).trans (bH.mono (by simp)));rw[bD];simp only[World.size_alloc] at m0 aZ;rw[<-pP] at m0 aZ ⊢;clear bD bH;have oN:w.heap.size<gm:=by omega
 have Te:gm<W0.heap.size:=by omega
 have HGM:=zH pP;clear pP aZ HB
 go_loopw [25] (fun i wr=>∃(k:Nat) (S:List Vw),k<=vs.length/\i=O U k/\As (yD (j9 N vs) k=0)/\SetAt vEnc wr gm S/\As (∀x,x∈S↔x∈vs.take k)/\W0.grownBy wr (J gm)) (fun i _=>vs.length-(Aq i).toNat)
 case atStart=>exact⟨0,[],by omega,rfl,rfl,m0,by show ∀x,x∈[]↔x∈vs.take 0;simp,Pj _ _⟩
 obtain⟨k,S,hk,rfl,aj,dj,hS,cM⟩:=hrel;have BW:As (Ao w.heap.size w wr):=B0.out.grown cM (by omega) (fun k e=>by cases e;omega);have d0:=(cM.block w.heap.size (by omega) (by simp;omega)).trans b0;obtain⟨t0,t1,_⟩:=Ka d0;have sr:w.heap.size<wr.heap.size:=by have:=cM.size;omega
 have nM:=zH cM;have D0:=zH d0;have lI:=zH dj;clear cM d0 dj
 by_cases ac:k<vs.length
 · have np : Wf (N : Int) (vs.take k) := ⟨by omega, by omega, fun j hj => by
    simp at hj;rw[Jj (by omega)]
    exact qG.1 aj.out j (by omega)⟩
   have EL:=HT.out.keep BW.out;have Cn:k<=cap:=by have:=EL.lec;omega
   have cK:(0:Int)<=(k:Int):=by omega
   have bY:(k:Int)<=(cap:Int):=by omega
   have ib:(k:Int)<(vs.length:Int):=by omega
   obtain⟨b,off,rfl,aJ,c0,c1,c2,c3,c4,c5,c6,c7⟩:=EL.rows.row k ac;have Vq:=zH EL;have iJ:=zH np;clear EL np;go_upto_region 9 with fail
   refine wp_one ?_;intro W1 e0 ch aw;obtain⟨g,hg⟩:∃g,g=wr.heap.size:=⟨_,rfl⟩;rw[<-hg] at e0 ⊢;have ex:g<W1.heap.size:=by omega
   have s0:=(aw.cell (p:=⟨w.heap.size,0,Z⟩) sr).trans t0;have s1:=(aw.cell (p:=⟨w.heap.size,1,Z⟩) sr).trans t1;have Cf:w.heap.size<W1.heap.size:=by omega
   have Bo:=lI.out.kept aw lI.out.lt;have EN:=Vq.out.keep aw;have mW:As (∀X:Ba,Ao W1.heap.size W1 X->TArg X (J ⟨b,off,Z⟩) cap vs):=fun X hX=>EN.keep hX
   obtain⟨q0,q1,q2,q3,q4,q5,q6,q7,_⟩:=Ke e0;have CA:As (Ao wr.heap.size wr W1):=aw;have MS:=zH Bo;have Vs:=zH ch;have Fe:=zH hg;clear c0 c1 c2 c3 c4 c5 c6 c7 t0 t1 EN aw e0 sr aJ Bo ch hg
   go_region_held3 (fun w'=>w'.cell? ⟨w.heap.size,0,Z⟩=J (O U N)/\w'.cell? ⟨w.heap.size,1,Z⟩=J (I (J ⟨b,off,Z⟩) vs.length cap) /\
     w'.cell? ⟨g,0,Z⟩=J (O U vs[k].p)/\w'.cell? ⟨g,1,Z⟩=J (O U vs[k].r)/\w'.cell? ⟨g,2,Z⟩=J (O U vs[k].i) /\
     w'.cell? ⟨g,3,Z⟩=J (O U vs[k].h0)/\w'.cell? ⟨g,4,Z⟩=J (O U vs[k].h1)/\w'.cell? ⟨g,5,Z⟩=J (O U vs[k].h2) /\
     w'.cell? ⟨g,6,Z⟩=J (O U vs[k].h3)/\w'.cell? ⟨g,7,Z⟩=J (O U vs[k].h4))
    (first
     | exact⟨s0,s1,q0,q1,q2,q3,q4,q5,q6,q7⟩
     | exact keep10 (W0:=W1) (B:=W1.heap.size) (vx ae) Cf ex ⟨s0,s1,q0,q1,q2,q3,q4,q5,q6,q7⟩)
    ((go_at_call 105;refine(X4 N _ cap vs k (Nat.le_of_lt ac) vs[k] _ (mW.out _ (Lp _ _).drew) iJ.out).mono ?_;rintro e w2 ⟨rfl,ae⟩))
   have aR:j9 N vs k=if zU N (vs.take k) vs[k]≠0 then zU N (vs.take k) vs[k] else if vs[k]∈vs.take k then 7 else 0:=by
    unfold j9;rw[kK ac]
   have fT:=zH aR;clear aR;have aO:Ao W1.heap.size W1 w2:=vx ae;have x2:As (Ao w.heap.size w w2):=BW.out.trans (CA.out.trans (aO.mono (by have:=Fe.out;omega)) |>.mono BW.out.size);have G2:As (W0.grownBy w2 (J gm)):=nM.out.trans ((ki CA.out).trans (ki aO));have Ij:=MS.out.kept aO MS.out.lt;obtain⟨y0,y1,r0,r1,r2,r3,r4,r5,r6,r7⟩:=keep10 aO Cf ex ⟨s0,s1,q0,q1,q2,q3,q4,q5,q6,q7⟩;have cj:=Ij.look (t:=183) gt underlying183 kA vs[k];unfold vEnc Vw.cells at cj;have M2:=zH Ij;clear ae aO s0 s1 q0 q1 q2 q3 q4 q5 q6 q7 Ij
   by_cases hc:zU N (vs.take k) vs[k]=0
   . have e2:(zU N (vs.take k) vs[k] != 0)=Ax:=by simp[hc]
     have HC:=zH hc;clear hc
     by_cases bV:vs[k]∈S
     · have rI : As (yD (j9 N vs) vs.length = 7) := by
        have En:=(hS.out _).1 bV;show _=_;rw[kk aj.out (by rw[fT.out,Lj (by rw[HC.out];simp),Ln En];decide) ac,fT.out,Lj (by rw[HC.out];simp),Ln En]
       simp only[bV,decide_true] at cj;clear bV;go_wp2_with fail;go_ret;exact⟨zc (by rw[hz.out,rI.out]),x2.out⟩
     have rI : As (yD (j9 N vs) (k + 1) = 0) := by
      have En:=fun h=>bV ((hS.out _).2 h)
      show _=_;rw[kL aj.out,fT.out,Lj (by rw[HC.out];simp),Lj En]
     simp only[bV,decide_false] at cj;clear bV;go_wp2_with (at_mapUpdate;refine jg _ rfl _ _ _ _ _ rfl gt underlying183 gm S M2.out vs[k] rfl rfl rfl ?_;intro w5 mr sv)
     go_roundw
     case rel=>exact⟨k+1,vs[k]::S,by omega,by go_num,rI,mr,mem_step ac hS.out,G2.out.trans sv⟩
     simp[Aq];omega
   have e2:(zU N (vs.take k) vs[k] != 0)=Av:=by simpa using hc
   have HC:=zH hc;clear hc;go_wp2_with fail;go_ret;exact⟨zc (by rw[hz.out,kk aj.out (by rw[fT.out,Ln HC.out];exact HC.out) ac,fT.out,Ln HC.out]),x2.out⟩
 obtain rfl:k=vs.length:=by omega
 go_wp2_with fail;go_ret;exact⟨zc (by rw[hz.out,aj.out]),BW.out⟩
def inB(vs:List Vw)(i:Int):Bool:=decide (0<=i/\i<(vs.length:Int))
def atE(n:Int)(vs:List Vw)(l:List Int):Int:=if yt n vs≠0 then yt n vs else if l.all (inB vs)=Av then 0 else 6
theorem atE_bad{n:Int}{vs:List Vw}{l:List Int}(h:yt n vs≠0):atE n vs l=yt n vs:=by unfold atE;rw[Ln h]
theorem atE_all{n:Int}{vs:List Vw}{l:List Int}(h:yt n vs=0)(ha:l.all (inB vs)=Av):atE n vs l=0:=by unfold atE;rw[Lj (by simp[h]),Ln ha]
theorem QR{n:Int}{vs:List Vw}{l:List Int}(h:yt n vs=0)(ha:l.all (inB vs)≠Av):atE n vs l=6:=by unfold atE;rw[Lj (by simp[h]),Lj ha]
theorem QU{vs:List Vw}{l:List Int}{k:Nat}(hk:k<l.length)(h:inB vs l[k]=Ax):l.all (inB vs)≠Av:=fun ha=>by
 have:=LK.1 ha _ (Ld hk);rw[h] at this;cases this
theorem all_stepA{vs:List Vw}{l:List Int}{k:Nat}(hk:k<l.length)(ha:(l.take k).all (inB vs)=Av)(h:inB vs l[k]=Av):(l.take (k+1)).all (inB vs)=Av:=by
 rw[List.take_add_one,Lg hk,List.all_append,ha];simp[h]
theorem vat_any(n:Int)(A L:Bb)(cap Fz:Nat)(vs:List Vw)(l:List Int)(w:Ba)(hT:TArg w A cap vs)(hL:IAt w w.heap.size L l)(hl:l.length<=1000) :
  Ap An 27 #[Aj #[O U n,I A vs.length cap],I L l.length Fz] w fun e w'=>e=Am (O U (atE n vs l))/\Ao w.heap.size w w':=by
 have HT:=zH hT;have HL:=zH hL;have dt:=hT.few;clear hT hL;go_enter func27,ntmps27;go_wp2_with fail;obtain⟨W0,bD,b0,aZ,bH⟩:=zq w #[O U n,I A vs.length cap] 33;rw[bD];clear bD;refine(YV n A cap vs W0 (HT.out.keep bH)).mono ?_;rintro e w1 ⟨rfl,hb⟩;have d0:=Lb hb (by omega) b0;have B1:As (Ao w.heap.size w w1):=bH.trans (hb.mono (by omega));have l1:w.heap.size<w1.heap.size:=by have:=hb.size;omega
 have t1:=za d0 1 rfl;clear b0 aZ bH hb d0
 by_cases hc:yt n vs=0
 . have e0:(yt n vs != 0)=Ax:=by simp[hc]
   have HC:=zH hc;clear hc;go_wp2_with fail
   go_loop [15] (fun i=>∃k:Nat,k<=l.length/\i=O U k/\As ((l.take k).all (inB vs)=Av)) (fun i=>l.length-(Aq i).toNat)
   case atStart=>exact⟨0,by omega,rfl,by show(l.take 0).all (inB vs)=Av;simp⟩
   obtain⟨k,hk,rfl,aj⟩:=hrel
   by_cases ac:k<l.length
   . obtain⟨b,off,rfl,aB,r0⟩:=HL.out.at_ k ac
     have r1:=(B1.out.cell (p:=⟨b,off+k,Z⟩) aB).trans r0;have ae:b<w1.heap.size:=by omega
     obtain⟨i,hi⟩:=Kh (l[k]);rw[hi] at r1;clear r0
     by_cases h1:i<0
     . have hz:=zH (QR HC.out (QU ac (by unfold inB;rw[hi];simp;omega)))
       clear hi;go_wp2_with fail;go_ret;exact⟨zc hz.out.symm,B1.out⟩
     by_cases h2:(vs.length:Int)<=i
     . have hz:=zH (QR HC.out (QU ac (by unfold inB;rw[hi];simp;omega)))
       clear hi;go_wp2_with fail;go_ret;exact⟨zc hz.out.symm,B1.out⟩
     have hz:=zH (all_stepA ac aj.out (by unfold inB;rw[hi];simp;omega));clear hi;go_wp2_with fail
     go_round
     case rel=>exact⟨k+1,by omega,by go_num,hz⟩
     simp[Aq];omega
   obtain rfl:k=l.length:=by omega
   have hz:=zH (atE_all HC.out (by have:=aj.out;rwa[LJ] at this));go_wp2_with fail;go_ret;exact⟨zc hz.out.symm,B1.out⟩
 have e0:(yt n vs != 0)=Av:=by simpa using hc
 have hz:=zH (atE_bad (l:=l) hc);clear hc;go_wp2_with fail;go_ret;exact⟨zc hz.out.symm,B1.out⟩
theorem inB_iff{vs:List Vw}{i:Int}:inB vs i=Av↔0<=i/\i<(vs.length:Int):=by unfold inB;simp
theorem atE_ok{n:Int}{vs:List Vw}{l:List Int}(h:atE n vs l=0):Wf n vs/\vs.length<=8192/\∀i,i∈l->0<=i/\i<(vs.length:Int):=by
 unfold atE at h
 split at h
 . rename_i h1;exact absurd h h1
 rename_i h1
 split at h
 . rename_i h2
   have:=Wf.of_CheckE (by simpa using h1);exact⟨this.1,this.2,fun i hi=>inB_iff.1 (LK.1 h2 i hi)⟩
 cases h
theorem Wf.beg{n:Int}{vs:List Vw}(h:Wf n vs){i:Nat}(hi:i<vs.length):xd n vs[i]=0:=by
 have:=(kM (Zm (h.2.2 i hi)).1).1;rwa[kK hi] at this
end
section
open Go.RowKit Go.Shelf
attribute [local go_sem] Oper.semAt_some
theorem BldAt.belowAll{B b:Nat}{l:List UInt8}{w w':Ba}(h:BldAt B b l w)(hb:Ao w.heap.size w w'):BldAt B b l w':=h.same fun k _ hk _=>(hb.block k (zd hk)).trans hk
theorem yM{b k:Nat}{w w':Ba}{cs:Array Au}{t:TypeId}(h:Kept b w w')(hk:w.heap[k]?=J (Ah cs t (0,0)))(hb:k≠b)(ht:t≠5):w'.heap[k]?=J (Ah cs t (0,0)):=
 h k _ hk (by simpa using hb) (fun c fz e=>by cases e;exact ht rfl)
theorem Kept.of_below{b:Nat}{w w':Ba}(h:Ao w.heap.size w w'):Kept b w w':=fun k _ hk _ _=>(h.block k (zd hk)).trans hk
theorem Kept.trans{b:Nat}{w w' pz:Ba}(h:Kept b w w')(h':Kept b w' pz):Kept b w pz:=Lib.OthersKept.trans h h'
theorem Kept.shut{b:Nat}{w w' W:Ba}(h:Kept b w w')(hs:Ao w.heap.size w' W):Kept b w W:=fun k o hk h1 h2=>(hs.block k (zd hk)).trans (h k o hk h1 h2)
theorem Kept.drewL{b:Nat}{w w':Ba}(h:Kept b w.drew w'):Kept b w w':=h
def RetWrite(B b:Nat)(l s:List UInt8)(w:Ba)(e:Ending)(w':Ba):Prop:=e=Am (.tuple #[])/\BldAt B b (l++s) w'/\Ao B w w'/\Kept b w w'
def vA(vs:List Vw)(i:Nat):Prop:=∀(n:Int) (A:Bb) (cap B b:Nat) (l:List UInt8) (w:Ba),TArg w A cap vs->VAt w B A vs->BldAt B b l w->B<=w.heap.size->l.length+qo (zv vs i).r.toNat<=65536 ->
 Ap An 39 #[Ak (J ⟨b,0,Z⟩),Aj #[O U n,I A vs.length cap],O U i] w (RetWrite B b l (zi vs i) w)
theorem Yr(x:Int)(h0:0<=x)(h1:x<10)(w:Ba):Ap An 76 #[O U x] w fun e w'=>e=Am (.string ⟨#[dgt x]⟩)/\w'=w:=by
 obtain⟨k,rfl⟩:=Lr h0;refine(Tryz.strconv_Itoa_small k (by omega) w).mono ?_;rintro e w' ⟨rfl,rfl⟩;refine⟨?_,rfl⟩;rw[Lib.decDigits_one (by omega)]
 rfl
theorem wsz1{l:List UInt8}(a:UInt8)(h:l.length+3<=65536):l.length+(⟨#[a]⟩:ByteArray).size<=140737488355328:=by
 have h1:(⟨#[a]⟩:ByteArray).size=1:=rfl;omega
theorem wsz2{l:List UInt8}(a b c:UInt8)(h:l.length+3<=65536):(l++[a]).length+((⟨#[b]⟩:ByteArray)++⟨#[c]⟩).size<=140737488355328:=by
 have h1:((⟨#[b]⟩:ByteArray)++⟨#[c]⟩).size=2:=by rw[ByteArray.size_append];rfl
 rw[h1,Lq];simp only[List.length_cons,List.length_nil];omega
theorem wsz3{l:List UInt8}{m:Nat}(a:UInt8)(h:l.length+1+m<=65536):l.length+(⟨#[a]⟩:ByteArray).size<=140737488355328:=by
 have h1:(⟨#[a]⟩:ByteArray).size=1:=rfl;omega
theorem TArg.of_vat{w W:Ba}{A:Bb}{cap B:Nat}{vs:List Vw}(h:TArg w A cap vs)(hV:VAt w B A vs)(hb:Ao B w W)(hB:B<=w.heap.size):TArg W A cap vs:=
 ⟨(hV.keep hb).more (by have:=hb.size;omega),h.lec,h.lem,h.few⟩
theorem part_len{vs:List Vw}{l:List UInt8}{p:UInt8}{pre:List Nat}{r M:Nat}(h:∀c,c∈pre->(zi vs c).length<=qo r)(hp:pre.length<5)(hl:l.length+qo (r+1)<=M)(s:UInt8) :
  (l++p::sep s (pre.map (zi vs))).length+1+qo r<=M:=by
 have h1:=jj s (pre.map (zi vs)) (qo r) (by
  intro x hx;obtain⟨c,hc,rfl⟩:=LG.1 hx
  exact h c hc)
 rw[LE] at h1;have h2:pre.length*(qo r+1)<=4*(qo r+1):=N8 _ (by omega);simp only[qo] at hl;simp only[List.length_append,List.length_cons];omega
theorem write_of{m:Int}{vs:List Vw}(hw:Wf m vs){i:Nat}(hi:i<vs.length)(ih:∀c,c∈zY (zv vs i)->vA vs c):vA vs i:=by
 intro n A cap B b l w hT hV hB hBw aC;have HT:=zH hT;have HV:=zH hV;have HB:=zH hB;have dt:=hT.few;have Ut:=hB.lt;have aB:(Lib.byteCells l).length=l.length:=by simp[Lib.byteCells]
 have dr:(Lib.byteCells l).length<=65536:=by omega
 have bX:=zH aB;have HW:=zH hw;have IH:=zH ih;clear hT hV hB aB hw ih;refine zV func39 rfl ?_;simp only[ntmps39,List.size_toArray,List.length_cons,List.length_nil,Nat.reduceAdd,Nat.reduceSub,Array.replicate_succ,Array.replicate_zero,List.push_toArray,List.append_toArray,List.nil_append,List.cons_append];go_wp2_with fail;obtain⟨W0,bD,b0,b1,aZ,bH⟩:=ZQ w #[Ak (J ⟨b,0,Z⟩)] #[O U n,I A vs.length cap] 88 33;rw[bD];clear bD;have B0:As (BldAt B b l W0):=HB.out.belowAll bH;refine(Tryz.Builder_Len_f B b _ W0 B0.out).mono ?_;rintro e w1 ⟨rfl,rfl⟩;have t0:=za b0 0 rfl;have t1:w1.cell? ⟨w.heap.size+1,1,Z⟩=J (I A vs.length cap):=za b1 1 rfl;have K0:=zH b0;have K1:=zH b1;have BL:=zH bH;obtain⟨b',off,rfl,aJ,c0,c1,c2,c3,c4,c5,c6,c7⟩:=(HT.out.keep bH).rows.row i hi;have sq:(0:Int)<=(i:Int):=by omega
 have Gy:(i:Int)<(vs.length:Int):=by omega
 have t':=jT (HW.out.beg hi);have tQ:=HW.out.2.1;have BO:vs[i].p<10:=by omega
 have oH:0<=vs[i].p:=t'.1;clear b0 b1 bH;go_upto_region 3 with fail
 refine wp_one ?_;intro W2 g0 dX aO;have g1:W2.heap[w1.heap.size]?=J (Ah vs[i].cells 100 (0,0)):=g0;have q0:W2.cell? ⟨w1.heap.size,0,Z⟩=J (O U vs[i].p):=za g1 0 rfl;have s0:W2.cell? ⟨w.heap.size,0,Z⟩=J (Ak (J ⟨b,0,Z⟩)):=za (Lb aO (by omega) K0.out) 0 rfl;have B2:As (BldAt B b l W2):=B0.out.belowAll aO;have OT:As (W2.heap[w.heap.size]?=J (Ah #[Ak (J ⟨b,0,Z⟩)] 88 (0,0))):=Lb aO (by omega) K0.out;have OS:As (W2.heap[w.heap.size+1]?=J (Ah #[O U n,I (J ⟨b',off,Z⟩) vs.length cap] 33 (0,0))):=Lb aO (by omega) K1.out;have G1:=zH g1;have BW:As (Ao w.heap.size w W2):=BL.out.trans (aO.mono (by omega));have L':w.heap.size+3<=W2.heap.size:=by omega
 obtain⟨g,dl⟩:=Kh (w.heap.size+2);rw[aZ,dl] at q0 G1;rw[dl];have HG:=zH dl;clear g0 g1 c0 c1 c2 c3 c4 c5 c6 c7 t0 t1 dX aO dl K0 K1 BL B0 aZ;refine wp_region_still_tail 4 (by kernel_rfl) (by kernel_rfl) ?_;simp only[List.take_succ_cons,List.take_zero,List.drop_succ_cons,List.drop_zero]
 still_step
 still_step
 still_step
 still_call (Yr vs[i].p oH BO _)
 refine RH ?_;have hlw:=gq (Nl (zv vs i).r.toNat);have Er:l.length+3<=65536:=by have e3:qo 0=3:=rfl;omega
 have Ev:zv vs i=vs[i]:=kK hi;have pp:=zH Ev;clear Ev
 by_cases hr:vs[i].r=0
 . have e1:(vs[i].r==0)=Av:=by simp[hr]
   have hz:As (zi vs i=[dgt vs[i].p,58,dgt vs[i].i]):=by show _=_;rw[uB (by rw[pp.out];exact hr),pp.out]
   have Gu:=(t'.2.2.2.2.1 hr).1;have Gt:vs[i].i<10:=by have:=(t'.2.2.2.2.1 hr).2;omega
   clear hr t'
   go_wp2_with (go_at_call 75; refine (qK B b l ⟨#[dgt vs[i].p]⟩ _ B2.out.drew (wsz1 _ Er) (Nat.le_trans hBw BW.out.size)).mono ?_; rintro e w3 ⟨L8, rfl, ap, aW, eM⟩; clear q0 s0
                have L1:=zH (yM eM.drewL G1.out (by have:=HG.out;omega) (by decide));have L2:=zH (yM eM.drewL OT.out (by omega) (by decide));have L3:=zH (yM eM.drewL OS.out (by omega) (by decide));have x0:w3.cell? ⟨g,1,Z⟩=J (O U vs[i].r):=za L1.out 1 rfl;have B3:=zH ap;have Bc:=zH (vx aW);have Ik:=zH eM.drewL
                clear ap aW eM)
   have s0:w3.cell? ⟨w.heap.size,0,Z⟩=J (Ak (J ⟨b,0,Z⟩)):=za L2.out 0 rfl;have q2:w3.cell? ⟨g,2,Z⟩=J (O U vs[i].i):=za L1.out 2 rfl;refine wp_region_still_tail 5 (by kernel_rfl) (by kernel_rfl) ?_;simp only[List.take_succ_cons,List.take_zero,List.drop_succ_cons,List.drop_zero]
   still_step
   still_step
   still_step
   still_call (Yr vs[i].i Gu Gt _)
   still_step
   refine RH ?_;go_wp2_with fail;refine(qK B b (l++[dgt vs[i].p]) _ _ B3.out.drew (wsz2 _ _ _ Er) (Lz (Lz hBw BW.out.size) Bc.out.size)).mono ?_;rintro e w4 ⟨sz4,rfl,be,cD,MI⟩;have fB:=zH be;have WA:=zH cD;have VU:=zH MI;clear be cD MI;go_wp2_with fail;refine zS (Marks.nil w.heap.size _) (v:=.tuple #[]) (fun W=>by kernel_rfl) ?_;intro W hS;refine⟨rfl,?_,?_,?_⟩
   . have:=fB.out.same (w':=W) hS.same
     rw[hz.out];simpa using this
   . exact((BW.out.mono hBw).trans (Bc.out.trans (vx WA.out))).trans (hS.below.mono hBw)
   exact((Kept.of_below BW.out).trans (Ik.out.trans VU.out.drewL)).shut hS.below
 have e1:(vs[i].r==0)=Ax:=by simp[hr]
 have fm:(zv vs i).r≠0:=by rw[pp.out];exact hr
 have hz:=zH (vD HW.out.acyc hi fm);have HR:=zH fm;have tJ:0<vs[i].r:=by have:=t'.2.2.1;omega
 clear hr t' fm
 go_wp2_with (go_at_call 75; refine (qK B b l ⟨#[dgt vs[i].p]⟩ _ B2.out.drew (wsz1 _ Er) (Nat.le_trans hBw BW.out.size)).mono ?_; rintro e w3 ⟨L8, rfl, ap, aW, eM⟩; clear q0 s0
              have L1:=zH (yM eM.drewL G1.out (by have:=HG.out;omega) (by decide));have L2:=zH (yM eM.drewL OT.out (by omega) (by decide));have L3:=zH (yM eM.drewL OS.out (by omega) (by decide));have x0:w3.cell? ⟨g,1,Z⟩=J (O U vs[i].r):=za L1.out 1 rfl;have B3:=zH ap;have Bc:=zH (vx aW);have Ik:=zH eM.drewL;have q0:w3.cell? ⟨g,0,Z⟩=J (O U vs[i].p):=za L1.out 0 rfl;have q2:w3.cell? ⟨g,2,Z⟩=J (O U vs[i].i):=za L1.out 2 rfl;have q3:w3.cell? ⟨g,3,Z⟩=J (O U vs[i].h0):=za L1.out 3 rfl;have q4:w3.cell? ⟨g,4,Z⟩=J (O U vs[i].h1):=za L1.out 4 rfl;have q5:w3.cell? ⟨g,5,Z⟩=J (O U vs[i].h2):=za L1.out 5 rfl;have q6:w3.cell? ⟨g,6,Z⟩=J (O U vs[i].h3):=za L1.out 6 rfl;have q7:w3.cell? ⟨g,7,Z⟩=J (O U vs[i].h4):=za L1.out 7 rfl;have pQ:g<w3.heap.size:=zd L1.out
              clear ap aW eM)
 obtain⟨W4,lD,s4,lg,cD⟩:=zq w3 #[.string ⟨#[40]⟩] 9;rw[lD];obtain⟨gs,nA⟩:=Kh w3.heap.size;rw[nA] at s4 ⊢;have hh:=kJ vs[i] W4;have aL:=zg W4 (Ah vs[i].cells 100);have dZ:=kh vs[i] W4.heap.size _ aL;have lgs:gs<W4.heap.size:=by omega
 have SX:w.heap.size+3<=gs:=by have h1:=BW.out.size;have h2:=Bc.out.size;omega
 have DU:BldAt B b (l++[dgt vs[i].p]) W4:=B3.out.belowAll cD;have S5:=zw s4 (Ah vs[i].cells 100);have tz:=DU.alloc (Ah vs[i].cells 100);have A0:=zw (Lb cD (by omega) L2.out) (Ah vs[i].cells 100);have A1:=zw (Lb cD (by omega) L3.out) (Ah vs[i].cells 100);have B5:Ao B w (W4.alloc (Ah vs[i].cells 100)):=((BW.out.mono hBw).trans (Bc.out.trans (cD.mono (by have h1:=BW.out.size;have h2:=Bc.out.size;omega)))).trans ((zt W4 _).mono (by have h1:=BW.out.size;omega));have Il:Kept b w (W4.alloc (Ah vs[i].cells 100)):=((Kept.of_below BW.out).trans (Ik.out.trans (Kept.of_below cD))).trans (Kept.of_below (zt W4 _));have b9:W4.heap.size<(W4.alloc (Ah vs[i].cells 100)).heap.size:=by simp
 unfold Vw.cells at hh;clear q0 q2 q3 q4 q5 q6 q7 x0 lD cD s4;refine hh.mono ?_;rintro e w5 ⟨rfl,nr⟩;have Bu:W4.alloc (Ah vs[i].cells 100)=w5:=nr;rw[Bu] at aL dZ S5 tz A0 A1 B5 Il b9;clear nr Bu;have XX:=zH dZ;have XS:=zH S5;have XB:=zH tz;have Ig:=zH A0;have EV:=zH A1;have XV:=zH aL;have XW:=zH B5;have XK:=zH Il;have HGS:=zH nA;have l8:=zH lg;clear dZ S5 tz A0 A1 aL B5 Il hh nA lg DU;have dO:B<=w5.heap.size:=by have h1:=XW.out.size;omega
 go_wp2_with fail
 refine ka rfl (PD Rw (by kernel_rfl) rfl) XX.out (by rintro k rfl;exact b9) (fun _=>rfl)
  (fun pre W=>WrIn B b gs (l++dgt vs[i].p::sep 40 (pre.map fun x=>zi vs x.1.2.toNat)) (if pre=[] then 40 else 44) w5 W) (fun _ _ _=>False) (fun _ _ _ _ h hg hr=>h.turn dO hg hr) (fun _ _ _ _ _ h _ _=>h)
  ⟨XB.out,XS.out,Lp _ _,fun _ _ h _ _ _=>h⟩ ?a1 ?assign ?body ?done ?stop
 case assign=>
  intro l x W K hK;gi_wp2;exact hK
 case body=>
  intro l' pre x W hI ac;have iq:(yy vs[i]).length<=5:=by have:=gK vs[i];simpa[zY] using this
  obtain⟨nn,q,tL,Mg,SR⟩:=qg.1 x.2;have dE:x.1.2.toNat∈zY (zv vs i):=by rw[pp.out];exact LG.2 ⟨x.1,x.2,rfl⟩
  obtain⟨c,hc⟩:=Lr (show 0<=x.1.2 by rw[Mg];exact SR);have sx:x.1.2.toNat=c:=by omega
  rw[sx] at dE;have TW:=HW.out.kid hi dE;have bk:c<vs.length:=by omega
  obtain⟨r,Ei⟩:∃r,(zv vs i).r.toNat=r+1:=⟨(zv vs i).r.toNat-1,by have:=pp.out;rw[this];omega⟩;have Ms:(zv vs c).r.toNat=r:=by have:=TW.2;omega
  have eH:∀y,y∈pre.map (fun x=>x.1.2.toNat)->(zi vs y).length<=qo r:=by
   intro y hy;obtain⟨z,_,rfl⟩:=LG.1 hy;have SJ:z.1.2.toNat∈zY (zv vs i):=by rw[pp.out];exact LG.2 ⟨z.1,z.2,rfl⟩
   have hz:=HW.out.kid hi SJ;have:=jX HW.out z.1.2.toNat (by omega);rwa[show(zv vs z.1.2.toNat).r.toNat=r from by have:=hz.2;omega] at this
  have fr:pre.map (fun x=>zi vs x.1.2.toNat)=(pre.map fun x=>x.1.2.toNat).map (zi vs):=by rw[Pc];rfl
  have sA:=part_len (l:=l) (p:=dgt vs[i].p) eH (by rw[LE];omega) (by rw[<-Ei];exact aC) 40;have dF:(pre++[x]).map (fun x=>zi vs x.1.2.toNat)=pre.map (fun x=>zi vs x.1.2.toNat)++[zi vs c]:=by simp[sx]
  rw[<-fr] at sA;obtain⟨ws,oh⟩:∃ws,pre.map (fun x=>zi vs x.1.2.toNat)=ws:=⟨_,rfl⟩;have fM:(pre=[])↔(ws=[]):=by rw[<-oh,List.map_eq_nil_iff]
  obtain⟨sg,FT⟩:∃sg:UInt8,(if pre=[] then 40 else 44)=sg:=⟨_,rfl⟩
  have BP:l++dgt vs[i].p::sep 40 (ws++[zi vs c])=((l++dgt vs[i].p::sep 40 ws)++[sg])++zi vs c:=by
   rw[ZV,<-FT];simp only[fM];simp
  rw[oh,FT] at hI;rw[oh] at sA;have e0:=za (hI.rest _ _ Ig.out (by omega) (by omega) (fun c fz e=>by cases e)) 0 rfl;have U':W.cell? ⟨w.heap.size+1,0,Z⟩=J (O U n):=za (hI.rest _ _ EV.out (by omega) (by omega) (fun c fz e=>by cases e)) 0 rfl;have e2:W.cell? ⟨w.heap.size+1,1,Z⟩=J (I (J ⟨b',off,Z⟩) vs.length cap):=za (hI.rest _ _ EV.out (by omega) (by omega) (fun c fz e=>by cases e)) 1 rfl;have e3:W.cell? ⟨gs,0,Z⟩=J (.string ⟨#[sg]⟩):=za hI.sign 0 rfl;have oW:B<=W.heap.size:=by have:=hI.below.size;omega
  have HI:=zH hI;have HN:=zH BP;have HS:=zH dF;have Dg:=zH oh;have HXV:=zH hc;have te:=zH Ms;have pB:(x.1.2:Int)=(c:Int):=hc;clear hI BP dF oh hc sx FT fM fr eH Ei Mg Ms;gi_wp2_with fail;refine⟨trivial,(RN l' ((Rr (n:=6)).2 (qK B b _ _ W HI.out.bld (wsz3 _ sA) oW))).mono ?_⟩;rintro e W1 ⟨k1,rfl,iB,aw,bY⟩;have f0:=za (yM bY (HI.out.rest _ _ Ig.out (by omega) (by omega) (fun c fz e=>by cases e)) (by omega) (by decide)) 0 rfl;have f1:W1.cell? ⟨w.heap.size+1,0,Z⟩=J (O U n):=za (yM bY (HI.out.rest _ _ EV.out (by omega) (by omega) (fun c fz e=>by cases e)) (by omega) (by decide)) 0 rfl;have f2:W1.cell? ⟨w.heap.size+1,1,Z⟩=J (I (J ⟨b',off,Z⟩) vs.length cap):=za (yM bY (HI.out.rest _ _ EV.out (by omega) (by omega) (fun c fz e=>by cases e)) (by omega) (by decide)) 1 rfl;have dp:=zH iB;have DQ:=zH aw;have mb:=zH bY;have Hs:B<=W1.heap.size:=Lz oW aw.size;have Ss:As (Ao B w W1):=XW.out.trans (HI.out.below.trans aw);clear e0 U' e2 e3 iB aw bY;gi_wp2_with fail;refine⟨trivial,(RN l' ((Rr (n:=6)).2 (IH.out c dE n _ cap B b _ W1 (TArg.of_vat HT.out HV.out Ss.out hBw) (HV.out.keep Ss.out) dp.out Hs (by have h1:=te.out;rw[h1,Lq];simp only[List.length_cons,List.length_nil];omega)))).mono ?_⟩;rintro e EW ⟨rfl,ae,aO,ib⟩
  have oA:EW.heap[gs]?=J (Ah #[.string ⟨#[sg]⟩] 9 (0,0)):=yM ib (yM mb.out HI.out.sign (by omega) (by decide)) (by omega) (by decide);have g0:=za oA 0 rfl;have g1:=zb oA 0;have O9:=zH oA;have aU:=zH ae;have DP:=zH aO;have iP:=zH ib;clear f0 f1 f2 oA ae aO ib;gi_wp2_with fail;have TX:Kept b W (EW.setCell ⟨gs,0,Z⟩ (.string ⟨#[44]⟩))->True:=fun _=>trivial
  have rest:∀(k:Nat) (o:Obj),W.heap[k]?=J o->k≠b->k≠gs->(∀c fz,o≠.cells c 5 fz)->(EW.setCell ⟨gs,0,Z⟩ (.string ⟨#[44]⟩)).heap[k]?=J o:=fun k o hk h1 h2 h3=>
   (Le _ _ _ _ h2).trans (iP.out k o (mb.out k o hk (by simpa using h1) h3) (by simpa using h1) h3)
  have pF:W.heap.size<=(EW.setCell ⟨gs,0,Z⟩ (.string ⟨#[44]⟩)).heap.size:=by have h1:=DQ.out.size;have h2:=DP.out.size;simp;omega
  refine⟨⟨pF,fun k o hk TO bk=>rest k o TO (by omega) (by omega) (fun c fz e=>by rw[e] at bk;cases bk)⟩,⟨pF,fun k hk _=>?_⟩,?_⟩
  . subst hk
    have h1:=HI.out.rest _ _ XV.out (by omega) (by omega) (fun c fz e=>by cases e);rw[rest _ _ h1 (by omega) (by omega) (fun c fz e=>by cases e),h1]
  dsimp only;rw[HS.out,Dg.out,HN.out,Lj (by simp)];refine⟨aU.out.set O9.out (by decide) (by omega) 0 _,?_,(HI.out.below.trans (DQ.out.trans DP.out)).setCell (by simp;omega) _,fun k o hk h1 h2 h3=>rest k o (HI.out.rest k o hk h1 h2 h3) h1 h2 h3⟩;simp[World.setCell,Array.getElem?_modify,O9.out]
 case done=>
  intro D ys W hD eo hI dI
  have cu:ys.map (fun x=>zi vs x.1.2.toNat)=(zY (zv vs i)).map (zi vs):=by
   have:=congrArg (List.map (fun x:Int×Int=>zi vs x.2.toNat)) eo;rw[Pc] at this;rw[pp.out];unfold zY;rw[Pc];exact this
  rw[cu] at hI;have cK:(zY (zv vs i))≠[]:=fun e=>by have:=HW.out.own_kid hi HR.out;rw[e] at this;cases this
  have e0:=za (hI.rest _ _ Ig.out (by omega) (by omega) (fun c fz e=>by cases e)) 0 rfl;have oW:B<=W.heap.size:=by have:=hI.below.size;omega
  have cI:=jX HW.out i hi;rw[hz.out] at cI
  have oP:(l++dgt vs[i].p::sep 40 ((zY (zv vs i)).map (zi vs))).length+1+0<=65536:=by
   rw[pp.out] at cI aC ⊢;simp only[List.length_append,List.length_cons,List.length_nil] at cI ⊢;omega
  have dG:l++zi vs i=(l++dgt vs[i].p::sep 40 ((zY (zv vs i)).map (zi vs)))++[41]:=by
   rw[hz.out,pp.out];simp
  obtain⟨L,hL⟩:=Kh (l++dgt vs[i].p::sep 40 ((zY (zv vs i)).map (zi vs)));rw[hL] at hI oP dG;have HI:=zH hI;have ff:=zH dG;have Wg:=zH dI;clear cu hI cK cI dG hL dI eo;go_wp2_with fail;refine(qK B b L _ _ HI.out.bld (wsz3 _ oP) oW).mono ?_;rintro e W9 ⟨k9,rfl,lV,OA,MG⟩;have KE:=zH lV;have KC:=zH OA;have RF:=zH MG;clear e0 lV OA MG;go_wp2_with fail;have Hr:W9.heap[D]?=J (.deferred (J [])):=RF.out D _ Wg.out (by simp;omega) (fun c fz e=>by cases e);have eK:Marks w.heap.size [{ target:=.collected D,args:=#[] }] W9:=⟨[D],rfl,by simp,fun r hr=>by simp at hr;subst hr;exact⟨by omega,Hr⟩⟩;refine JT eK (v:=.tuple #[]) (fun W=>by kernel_rfl) ?_;intro X hS;refine⟨rfl,?_,?_,?_⟩
  . rw[ff.out]
    exact KE.out.same hS.same
  . exact(XW.out.trans (HI.out.below.trans KC.out)).trans (hS.below.mono hBw)
  refine Kept.shut (w':=W9) ?_ hS.below;intro k o hk h1 h2;have oK:k≠b:=by simpa using h1
  have dM:=zd hk;exact RF.out k o (HI.out.rest k o (XK.out k o hk h1 h2) oK (by omega) h2) h1 h2
 intro D c pre W _ _ h;exact h.elim
end
section
open Go.RowKit
def Lows(vs:List Vw):Prop:=∀i,i<vs.length->¬(4<(zv vs i).r/\(zv vs i).r<=6)
theorem Lows.len{n:Int}{vs:List Vw}(hw:Wf n vs)(hl:Lows vs){i:Nat}(hi:i<vs.length):qo (zv vs i).r.toNat<=2967:=by
 have hb:=jT (hw.begv hi);have:=hl i hi;have h4:(zv vs i).r.toNat<=4:=by omega
 exact gq h4
def FitsV(n:Int)(vs:List Vw)(i:Int):Prop:=∀j:Nat,i=(j:Int)->j<vs.length->Wf n vs->qo (zv vs j).r.toNat<=65536
theorem Lows.fits{n:Int}{vs:List Vw}(hl:Lows vs)(i:Int):FitsV n vs i:=fun j _ hj hw=>Lz (hl.len hw hj) (by decide)
def uE(n:Int)(vs:List Vw)(i:Int):List UInt8×Int:=if atE n vs [i]≠0 then ([],atE n vs [i]) else (zi vs i.toNat,0)
def RetText(r:List UInt8×Int)(w:Ba)(e:Ending)(w':Ba):Prop:=e=Am (.tuple #[.string ⟨r.1.toArray⟩,O U r.2])/\Ao w.heap.size w w'
theorem Q7{n:Int}{vs:List Vw}{i:Int}(h:atE n vs [i]≠0):uE n vs i=([],atE n vs [i]):=by unfold uE;rw[Ln h]
theorem Q5{n:Int}{vs:List Vw}{i:Nat}(h:atE n vs [(i:Int)]=0):uE n vs i=(zi vs i,0):=by unfold uE;rw[Lj (by simp[h]),Lv]
theorem RetText.of{r:List UInt8×Int}{w w':Ba}{l:List UInt8}{s:ByteArray}{c:Int}(h:r=(l,c))(hs:s=⟨l.toArray⟩)(hb:Ao w.heap.size w w'):RetText r w (Am (.tuple #[.string s,O U c])) w':=by subst h;subst hs;exact⟨rfl,hb⟩
theorem Q1{n:Int}{vs:List Vw}(hw:Wf n vs):∀i,i<vs.length->vA vs i:=by
 intro i
 induction i using Nat.strongRecOn with
 | _ i ih=>
  intro hi
  exact write_of hw hi fun c hc=>by
   have:=hw.acyc i hi c hc;exact ih c this (by omega)
theorem YS(n:Int)(A:Bb)(cap:Nat)(vs:List Vw)(i:Int)(lS:FitsV n vs i)(w:Ba)(hT:TArg w A cap vs) :
  Ap An 13 #[Aj #[O U n,I A vs.length cap],O U i] w (RetText (uE n vs i) w):=by
 have HT:=zH hT;have dt:=hT.few;have VP:=zH lS;clear hT lS;go_enter func13,ntmps13;go_wp2_with fail;obtain⟨W0,bD,b0,aZ,bH⟩:=zq w #[O U n,I A vs.length cap] 33;rw[bD];clear bD;have hI:IAt (W0.alloc (Ah #[O U i] 3)) (W0.alloc (Ah #[O U i] 3)).heap.size (J ⟨w.heap.size+1,0,Z⟩) [i]:=by have:=IAt.box W0 i 3;rwa[aZ] at this
 have aL:=zt W0 (Ah #[O U i] 3);refine(vat_any n A (J ⟨w.heap.size+1,0,Z⟩) cap 1 vs [i] (W0.alloc (Ah #[O U i] 3)) (HT.out.keep (bH.trans (aL.mono (by omega)))) hI (by simp)).mono ?_;rintro e w1 ⟨rfl,hb⟩;have d0:=Lb hb (by simp;omega) (Lb aL (by omega) b0);have B1:As (Ao w.heap.size w w1):=bH.trans ((aL.trans (hb.mono (by simp))).mono (by omega));have l1:w.heap.size<w1.heap.size:=by have:=hb.size;simp at this;omega
 clear hI aL;obtain⟨t0,t1,_⟩:=Ka d0;have HD:=zH d0;clear b0 aZ bH hb d0
 by_cases hc:atE n vs [i]=0
 . have e0:(atE n vs [i] != 0)=Ax:=by simp[hc]
   obtain⟨np,_,bV⟩:=atE_ok hc;obtain⟨h0,h1⟩:=bV i (by simp);obtain⟨j,rfl⟩:=Lr h0;have hj:j<vs.length:=by omega
   have hz:=zH (Q5 hc);have aC:=VP.out j rfl hj np;have HW:=zH np;clear hc bV np;go_wp2_with fail;refine(Q1 HW.out j hj n A cap w1.heap.size w1.heap.size [] _ (HT.out.keep (B1.out.trans ((zt w1 _).mono B1.out.size))) ((HT.out.rows.keep (B1.out.trans ((zt w1 _).mono B1.out.size))).more B1.out.size) (BldAt.fresh w1) (by simp) (by simp only[List.length_nil];omega)).mono ?_;rintro e w2 ⟨rfl,ae,aO,_⟩;have mO:As (Ao w.heap.size w w2):=(B1.out.trans ((zt w1 _).mono B1.out.size)).trans (aO.mono B1.out.size);have cI:=jX HW.out j hj;rw[L4] at ae;have aB:(Lib.byteCells (zi vs j)).length<=65536:=by simp only[Lib.byteCells,List.length_map];omega
   have aU:=zH ae;have L':w1.heap.size<=w2.heap.size:=by have:=aO.size;simp at this;omega
   clear ae aO t0 t1;go_wp2_with fail;refine(Tryz.Builder_Len_f w1.heap.size w1.heap.size _ w2 aU.out).mono ?_;rintro e w3 ⟨rfl,rfl⟩;go_wp2_with fail;refine(Tryz.Builder_String_any_k w1.heap.size w1.heap.size _ w3 aU.out L').mono ?_;rintro e w4 ⟨rfl,_,cD,_⟩;have B4:As (Ao w.heap.size w w4):=mO.out.trans (cD.mono B1.out.size);clear cD;go_wp2_with fail
   go_ret2
   exact RetText.of hz.out rfl B4.out
 have e0:(atE n vs [i] != 0)=Av:=by simpa using hc
 have hz:=zH (Q7 hc);clear hc;go_wp2_with fail
 go_ret2
 exact RetText.of hz.out rfl B1.out
theorem Q4(n:Int)(A:Bb)(cap:Nat)(vs:List Vw)(lS:Lows vs)(i:Int)(w:Ba)(hT:TArg w A cap vs) :
  Ap An 13 #[Aj #[O U n,I A vs.length cap],O U i] w (RetText (uE n vs i) w):=YS n A cap vs i (lS.fits i) w hT
end
section
def jt:Sy:=(zD wE).1
theorem ex_few:xp wE=Av:=by decide +kernel
theorem jN:qn wE:=(few_x ex_few).1
theorem ex_ok:(zD wE).2=0:=by decide +kernel
theorem ex_low:wV wE:=by
 refine⟨⟨by decide,fun c hc=>?_⟩,by decide,fun l hl=>?_⟩
 . have:c=exC1\/c=exC2:=by simpa[wE] using hc
   rcases this with rfl | rfl
   . refine⟨by decide,by decide,by decide,fun v hv=>?_,fun v hv=>?_⟩
     . have:v=[0,0]:=by simpa[exC1] using hv
       subst this;decide
     simp[exC1] at hv
   refine⟨by decide,by decide,by decide,fun v hv=>?_,fun v hv=>?_⟩
   . have:v=[0,0]:=by simpa[exC2] using hv
     subst this;decide
   simp[exC2] at hv
 have:l=[exMv 1,exMv 3]:=by simpa[wE] using hl
 subst this;decide
theorem ux:LowS jt:=qL ex_low jN
theorem QJ:jt.p=wE:=by decide +kernel
theorem uy:jt.vs.length=8/\jt.xs.length=4/\jt.n=2:=by decide +kernel
theorem exs_ver:yQ jt=0:=by decide +kernel
theorem YB:yW jt 2=0/\yW jt 0=0:=by decide +kernel
theorem exs_have:havE jt 2=[0,2]:=by decide +kernel
theorem exs_relv:Qy jt=[2,3,4,6,7]:=by decide +kernel
theorem exs_cont:clE jt 0=[2,4,7]:=by decide +kernel
theorem exs_text:uE jt.n jt.vs 3=([49,40,48,58,48,44,49,58,48,41],0):=by decide +kernel
theorem exs_lows:Lows jt.vs:=fun i hi=>by
 have h:(jt.vs.all fun v=>decide (¬(4<v.r/\v.r<=6)))=Av:=by decide +kernel
 have h1:=LI (LK.1 h _ (Ld hi));unfold zv;rw[Lf,Lg hi];exact h1
def exW(k:Nat):List Int:=[[2,3],[4,3],[2,6],[7,6]].getD k []
theorem exs_x:∀k,k<4->∃h:k<jt.xs.length,jt.xs[k].views.length=2/\jt.xs[k].views.getD 1 []=exW k:=by decide +kernel
end
section
open Go.RowKit
attribute [local go_sem] Oper.semAt_some
def yI:List (List Int):=[[2,3],[4,3],[2,6],[7,6]]
theorem wants_at{W:Ba}{g b1 b2 b3 b4:Nat}(h:W.heap[g]?=J (Ah #[I (J ⟨b1,0,Z⟩) 2 2,I (J ⟨b2,0,Z⟩) 2 2,I (J ⟨b3,0,Z⟩) 2 2,I (J ⟨b4,0,Z⟩) 2 2] 49 (0,0)))
  (h1:W.heap[b1]?=J (Ah #[O U 2,O U 3] 3 (0,0))) (h2:W.heap[b2]?=J (Ah #[O U 4,O U 3] 3 (0,0))) (h3:W.heap[b3]?=J (Ah #[O U 2,O U 6] 3 (0,0))) (h4:W.heap[b4]?=J (Ah #[O U 7,O U 6] 3 (0,0))) :
  LAt W W.heap.size (J ⟨g,0,Z⟩) yI:=fun _=>⟨g,0,rfl,zd h,fun i hi=>by
 have h5:i<4:=by simpa[yI] using hi
 obtain rfl | rfl | rfl | rfl:i=0\/i=1\/i=2\/i=3:=by omega
 . exact⟨_,2,za h 0 rfl,xm (xs:=[2,3]) h1⟩
 . exact⟨_,2,za h 1 rfl,xm (xs:=[4,3]) h2⟩
 . exact⟨_,2,za h 2 rfl,xm (xs:=[2,6]) h3⟩
 . exact⟨_,2,za h 3 rfl,xm (xs:=[7,6]) h4⟩⟩
theorem Zf(w:Ba):Ap An 11 #[] w fun e w'=>e=Am (Ai Av)/\Ao w.heap.size w w':=by
 go_enter func11,ntmps11;go_wp2_with fail;refine(YD w).mono ?_;rintro e w1 ⟨A,kc,SV,ks,rfl,hA,hS,aJ⟩;have fY:=zH (Zb wE jN A kc SV ks w1 hA hS);have dp:=zH aJ;clear aJ hA hS;obtain⟨P,hP⟩:=Kh wE;unfold Pb.vs at fY ⊢;have HR:As (zD wE=(jt,0)):=Prod.ext rfl ex_ok;rw[HR.out] at fY;rw[hP] at fY ⊢;clear hP HR;go_wp2_with fail;refine fY.out.mono ?_;rintro e w2 ⟨A2,dD,db,dC,AV,kv,AX,kx,rfl,iD,fi,fH,ae⟩;have P9:=zH uy;have Dx:=zH ux;have E9:=zH QJ;have DG:=zH (fun (X:Ba) (h:SyAt X X.heap.size A2 db AV AX jt)=>XF jt ux (by rw[QJ];exact jN) 2 A2 db AV AX dD dC kv kx X h);have Dm:=zH (fun (X:Ba) (h:SyAt X X.heap.size A2 db AV AX jt)=>Zn jt ux (by rw[QJ];exact jN) A2 db AV AX dD dC kv kx X h);have nS:=zH (fun (X:Ba) (h:SyAt X X.heap.size A2 db AV AX jt)=>wG jt ux (by rw[QJ];exact jN) 0 A2 db AV AX dD dC kv kx X h);have mW:=zH (fun (X:Ba) (h:VAt X X.heap.size AV jt.vs)=>Q4 jt.n AV kv jt.vs exs_lows 3 X ⟨h,fi,fH,by rw[uy.1];decide⟩);have pf:=zH exs_x;unfold RetText at mW;rw[exs_text] at mW;rw[exs_have,YB.1] at DG;rw[exs_relv,exs_ver] at Dm;rw[exs_cont,YB.2] at nS;have h8:((jt.vs.length:Int) != 8)=Ax:=by rw[uy.1];decide
 have h4:((jt.xs.length:Int) != 4)=Ax:=by rw[uy.2.1];decide
 obtain⟨T,hT⟩:=Kh jt;rw[hT] at P9 Dx DG Dm nS mW pf h8 h4 iD fi ⊢;clear hT E9 fi fH fY;obtain⟨W3,bU,b3,fj,aW⟩:=zq w2 (T.vs_ A2 dD db dC AV kv AX kx) 36;have dz:=zH (iD.up aW);have bE:=zH (dp.out.trans ((Lc ae aW).mono dp.out.size));have dq:=ae.size;unfold Sy.vs_ at bU b3 DG Dm nS ⊢;have ez:=zH bU;have lL:=zH b3;clear ae iD aW bU;go_simp;rename_i eN;refine eN _ _ ?_;clear eN;refine LM rfl fun K5 aX=>?_
 go_simp;refine aX _ _ ?_;clear aX K5;refine LM rfl fun K5 aX=>?_
 go_simp;refine aX _ _ ?_;clear aX K5;refine LM rfl fun K5 aX=>?_
 go_simp;refine aX _ _ ?_;clear aX K5;refine LM rfl fun K5 aX=>?_
 go_simp;refine aX _ _ ?_;clear aX K5;refine LM rfl fun K5 aX=>?_
 go_simp;rw[ez.out];refine aX _ _ ?_;clear aX K5 ez;have x8:W3.cell? ⟨w2.heap.size,8,Z⟩=J (I AV T.vs.length kv):=za b3 8 rfl;have x9:W3.cell? ⟨w2.heap.size,9,Z⟩=J (I AX T.xs.length kx):=za b3 9 rfl;clear b3;go_wp2_with fail;obtain⟨a1,dN,e1,z1,g1⟩:=zq W3 #[O U 2,O U 3] 3;obtain⟨a2,fu,e2,z2,g2⟩:=zq a1 #[O U 4,O U 3] 3;obtain⟨a3,CF,e3,z3,g3⟩:=zq a2 #[O U 2,O U 6] 3;obtain⟨a4,CE,e4,z4,g4⟩:=zq a3 #[O U 7,O U 6] 3;obtain⟨a5,CD,e5,z5,g5⟩:=zq a4 #[I (J ⟨w2.heap.size+1,0,Z⟩) 2 2,I (J ⟨w2.heap.size+1+1,0,Z⟩) 2 2,I (J ⟨w2.heap.size+1+1+1,0,Z⟩) 2 2,I (J ⟨w2.heap.size+1+1+1+1,0,Z⟩) 2 2] 49;rw[dN,fu,CF,CE,CD];rw[fj] at e1 z1;rw[z1] at e2 z2;rw[z2] at e3 z3;rw[z3] at e4 z4;rw[z4] at e5 z5;have f1:=Lb g5 (by omega) (Lb g4 (by omega) (Lb g3 (by omega) (Lb g2 (by omega) e1)));have f2:=Lb g5 (by omega) (Lb g4 (by omega) (Lb g3 (by omega) e2));have f3:=Lb g5 (by omega) (Lb g4 (by omega) e3);have f4:=Lb g5 (by omega) e4;have O0:=zH (wants_at e5 f1 f2 f3 f4);have eC:=zH ((((g1.trans (g2.mono (by omega))).trans (g3.mono (by omega))).trans (g4.mono (by omega))).trans (g5.mono (by omega)));have AF:=zH (dz.out.up eC.out);have Fi:=zH (Lc bE.out eC.out)
 have d5:=Lb eC.out (by omega:w2.heap.size<W3.heap.size) lL.out;have DM:=zH d5;clear dN e1 g1 fu e2 g2 CF e3 g3 CE e4 g4 CD e5 g5 f1 f2 f3 f4 x8 x9 eC dz bE lL d5
 go_loopw [38] (fun i wr=>∃k m:Nat,k<=4/\i=O U (k:Int)/\wr=a5.drewN m) (fun i _=>4-(Aq i).toNat)
 case atStart=>exact⟨0,0,by omega,rfl,rfl⟩
 obtain⟨k,m,hk,rfl,rfl⟩:=hrel
 by_cases ac:k<4
 . have TN:k<T.xs.length:=by rw[P9.out.2.1];exact ac
   obtain⟨Gl,fH,fi⟩:=pf.out k ac;obtain⟨x,hx⟩:=Kh (T.xs[k]);have hkI:(k:Int)<(T.xs.length:Int):=by omega
   obtain⟨bx,ox,A1,c1,B2,c2,eX,aL,x0,x1,x2,nF,sQ⟩:=AF.out.fx.row k TN;subst eX;rw[hx] at fH fi x0 x1 x2 nF sQ;obtain⟨bl,ol,C1,c3,eL,aB,y1,cH⟩:=sQ.at_ 1 (by omega);subst eL;obtain⟨bw,ow,D1,c4,eW,b9,u1,iE⟩:=O0.out.at_ k (by simpa[yI] using ac)
   cases eW
   have lO:x.views[1]'(by omega)=yI[k]'(by simpa[yI] using ac):=by
    rw[Lf,Lg (by omega)] at fi
    have h5:exW k=yI[k]'(by simpa[yI] using ac):=by
     unfold exW yI;rw[Lf,Lg (by simpa using ac)];rfl
    rw[<-h5];exact fi
   rw[fH] at x2;have x9:(a5.drewN m).cell? ⟨w2.heap.size,9,Z⟩=J (I (J ⟨bx,ox,Z⟩) T.xs.length kx):=za DM.out 9 rfl;have DY:(a5.drewN m).cell? ⟨bx,ox+k*3+2,Z⟩=J (I (J ⟨bl,ol,Z⟩) 2 c2):=x2;have Sv:(a5.drewN m).cell? ⟨bl,ol+1,Z⟩=J (.slice C1 (x.views[1]'(by omega)).length c3):=y1;have Sw:(a5.drewN m).cell? ⟨w2.heap.size+1+1+1+1+1,0+k,Z⟩=J (.slice D1 (yI[k]'(by simpa[yI] using ac)).length c4):=u1
   have dK:(x.views[1]'(by omega)).length=2:=by
    rw[lO];obtain rfl | rfl | rfl | rfl:k=0\/k=1\/k=2\/k=3:=by omega
    all_goals rfl
   have ew:(yI[k]'(by simpa[yI] using ac)).length=2:=by rw[<-lO];exact dK
   have HQ:=zH (fun p=>jO C1 D1 c3 c4 _ _ (a5.drewN p) a5.heap.size (cH.keep (zu (Lp _ _) p)) (iE.keep (zu (Lp _ _) p)) (by omega) (by omega));have fa:decide (x.views[1]'(by omega)=yI[k]'(by simpa[yI] using ac))=Av:=Lm lO;rw[fa,dK,ew] at HQ;rw[dK] at Sv;rw[ew,LN] at Sw;have Hv:(0:Int)<=(k:Int):=by omega
   have h4i:(k:Int)<4:=by omega
   clear x0 x1 x2 nF sQ y1 cH u1 iE lO fi fH fa dK ew hx Gl;go_wp2_with fail;refine(HQ.out m).mono ?_;rintro e w4 ⟨rfl,n,rfl⟩;go_wp2_with fail
   go_roundw
   case rel=>exact⟨k+1,m+n,by omega,by go_num,by first | rfl | rw[Pn]⟩
   simp[Aq];omega
 obtain rfl:k=4:=by omega
 clear ac;obtain⟨w5,nr⟩:=Kh (a5.drewN m);have H7:(a5.drewN m).heap[w2.heap.size]?=a5.heap[w2.heap.size]?:=rfl;rw[nr] at H7;have d5:=H7.trans DM.out;clear H7;have S5:As (SyAt w5 w5.heap.size A2 db AV AX T):=by rw[<-nr];exact AF.out.up (zu (Lp _ _) m)
 have C5:As (Ao w.heap.size w w5):=by rw[<-nr];exact zu Fi.out m
 rw[nr];have Mc:w2.heap.size<w5.heap.size:=zd d5;have G5:=zH d5;clear nr DM AF Fi O0;have x7:=za d5 7 rfl;have x8:=za d5 8 rfl;clear d5;go_wp2_with fail;refine(mW.out w5 S5.out.fv).mono ?_;rintro e w6 ⟨rfl,cS⟩;have d6:=Lb cS Mc G5.out;have S6:=zH (S5.out.up cS);have C6:=zH (Lc C5.out cS);have G6:=zH d6;have SM:w2.heap.size<w6.heap.size:=zd d6;clear cS mW S5 C5 G5 x7 x8;obtain⟨x0,x1,x2,x3,x4,x5,x6,x7,x8,x9⟩:=ya d6;clear d6;go_wp2_with fail;refine(DG.out w6 S6.out).mono ?_;rintro e w7 ⟨Al,cl,rfl,Ou,dv⟩;have d7:=Lb dv SM G6.out;have S7:=zH (S6.out.up dv);have C7:=zH (Lc C6.out dv);have G7:=zH d7;have rI:w2.heap.size<w7.heap.size:=zd d7;have I7:=zH Ou;clear dv Ou DG S6 C6 G6 x0 x1 x2 x3 x4 x5 x6 x7 x8 x9;obtain⟨x0,x1,x2,x3,x4,x5,x6,x7,x8,x9⟩:=ya d7;clear d7;go_wp2_with fail;refine(Dm.out w7 S7.out).mono ?_;rintro e w8 ⟨Ar,cr,rfl,Ot,ed⟩;have d8:=Lb ed rI G7.out;have S8:=zH (S7.out.up ed);have C8:=zH (Lc C7.out ed);have I8:=zH ((I7.out.keep ed).more ed.size);have J8:=zH Ot;clear ed Ot Dm S7 C7 G7 I7 x0 x1 x2 x3 x4 x5 x6 x7 x8 x9;obtain⟨x0,x1,x2,x3,x4,x5,x6,x7,x8,x9⟩:=ya d8;clear d8;go_wp2_with fail;refine(nS.out w8 S8.out).mono ?_;rintro e w9 ⟨Ac,cc,rfl,Ov,lV⟩;have C9:=zH (Lc C8.out lV);have I9:=zH ((I8.out.keep lV).more lV.size);have J9:=zH ((J8.out.keep lV).more lV.size);have K9:=zH Ov
 clear lV Ov nS S8 C8 I8 J8 x0 x1 x2 x3 x4 x5 x6 x7 x8 x9;go_wp2_with fail;obtain⟨b1,aJ,e1,z1,g1⟩:=zq w9 #[O U 0,O U 2] 3;rw[aJ];have ay:=zH (jO Al (J ⟨w9.heap.size,0,Z⟩) cl 2 [0,2] [0,2] b1 b1.heap.size ((I9.out.keep g1).more g1.size) (xm (xs:=[0,2]) e1) (by decide) (by decide));refine ay.out.mono ?_;rintro e t1 ⟨rfl,n1,rfl⟩;obtain⟨v1,ag⟩:=Kh (b1.drewN n1);have A8:=zH (zu g1 n1);rw[ag] at A8 ⊢;have OU:=zH ((J9.out.keep A8.out).more A8.out.size);clear J9;have J9:=OU;clear OU;have C':=zH ((K9.out.keep A8.out).more A8.out.size);clear K9;have K9:=C';clear C';have Sn:=zH (Lc C9.out A8.out);clear C9;have C9:=Sn;clear Sn ay aJ e1 z1 g1 ag I9;go_wp2_with fail;obtain⟨b2,ae,e2,z2,g2⟩:=zq v1 #[O U 2,O U 3,O U 4,O U 6,O U 7] 3;rw[ae];have am:=zH (jO Ar (J ⟨v1.heap.size,0,Z⟩) cr 5 [2,3,4,6,7] [2,3,4,6,7] b2 b2.heap.size ((J9.out.keep g2).more g2.size) (xm (xs:=[2,3,4,6,7]) e2) (by decide) (by decide));refine am.out.mono ?_;rintro e t2 ⟨rfl,n2,rfl⟩;obtain⟨v2,cx⟩:=Kh (b2.drewN n2);have Fp:=zH (zu g2 n2);rw[cx] at Fp ⊢;have C':=zH ((K9.out.keep Fp.out).more Fp.out.size);clear K9;have K9:=C';clear C';have Sm:=zH (Lc C9.out Fp.out);clear C9;have C9:=Sm;clear Sm am ae e2 z2 g2 cx J9;go_wp2_with fail;obtain⟨b3,ap,e3,z3,g3⟩:=zq v2 #[O U 2,O U 4,O U 7] 3;rw[ap]
 have az:=zH (jO Ac (J ⟨v2.heap.size,0,Z⟩) cc 3 [2,4,7] [2,4,7] b3 b3.heap.size ((K9.out.keep g3).more g3.size) (xm (xs:=[2,4,7]) e3) (by decide) (by decide));refine az.out.mono ?_;rintro e t3 ⟨rfl,n3,rfl⟩;obtain⟨v3,oq⟩:=Kh (b3.drewN n3);have Sp:=zH (zu g3 n3);rw[oq] at Sp ⊢;have Sl:=zH (Lc C9.out Sp.out);clear C9;have C9:=Sl;clear Sl az ap e3 z3 g3 oq K9;go_wp2_with fail;go_ret;exact⟨by first | rfl | (apply ze;decide),C9.out⟩
end
section
theorem vS:∀ {a b c:List Int},zh a b=-1->zh b c=-1->zh a c=-1
 | [],[],_,h,_=>by cases h
 | [],_::_,[],_,h=>by cases h
 | [],_::_,_::_,_,_=>rfl
 | _::_,[],_,h,_=>by cases h
 | _::_,_::_,[],_,h=>by cases h
 | x::a,y::b,z::c,h1,h2=>by
  rw[zh] at h1 h2 ⊢
  split at h1
  . split at h2
    . rw[Ln (by omega)]
    . split at h2
      . cases h2
      . rw[Ln (by omega)]
  . split at h1
    . cases h1
    . split at h2
      . rw[Ln (by omega)]
      . split at h2
        . cases h2
        . rw[Lj (by omega),Lj (by omega)]
          exact vS h1 h2
theorem vU{a:Ad}:∀ {q:Option Mv} {l:List Mv},xO a q l=0->l.Pairwise (fun m k=>zh m.r.l k.r.l=-1)/\∀u,q=J u->∀m∈l,zh u.r.l m.r.l=-1
 | _,[],_=>⟨List.Pairwise.nil,fun _ _ m hm=>by cases hm⟩
 | q,m::l,h=>by
  rw[xO] at h
  split at h
  . rename_i h1;exact absurd h h1
  . rename_i h1
    have h2:yV a q m=0:=by simpa using h1
    obtain⟨g1,g2⟩:=vU h;have g3:=g2 m rfl;refine⟨List.pairwise_cons.2 ⟨g3,g1⟩,?_⟩;rintro u rfl k hk
    have h4:uo (J u) m=Ax:=by
     unfold yV at h2
     split at h2
     . rename_i h5;exact absurd h2 h5
     . split at h2
       . cases h2
       . split at h2
         . cases h2
         . rename_i h5;simpa using h5
    have h6:zh u.r.l m.r.l=-1:=by
     have h7:¬0<=zh u.r.l m.r.l:=by unfold uo at h4;simpa using h4
     rcases ja u.r.l m.r.l with h | h | h<;>omega
    rcases LQ.1 hk with rfl | hk
    . exact h6
    . exact vS h6 (g3 k hk)
theorem jB{a:Ad}:∀ {l:List (List Mv)},zj a l=0->∀x∈l,x.Pairwise (fun m k=>m.r≠k.r)
 | [],_,x,hx=>by cases hx
 | y::l,h,x,hx=>by
  rw[zj] at h
  split at h
  . rename_i h1;exact absurd h h1
  . rename_i h1
    rcases LQ.1 hx with rfl | hx
    . have h2:xe a x=0:=by simpa using h1
      unfold xe at h2
      split at h2
      . cases h2
      . unfold yT at h2
        rw[LS] at h2;exact(vU h2).1.imp fun {m k} eK e=>by rw[e,yB] at eK;cases eK
    . exact jB h x hx
theorem wU{a:Ad}(h:zj a a.sts=0)(s:Int):(a.at_ s).Pairwise (fun m k=>m.r≠k.r):=by
 unfold Ad.at_;rw[Lf]
 cases hc:a.sts[s.toNat]? with
 | none=>exact List.Pairwise.nil
 | some l=>exact jB h l (N9 hc)
theorem vC{a:Ad}(h:zj a a.sts=0):∀(k:Nat) (s:Int),(zo a k s).Nodup
 | 0,_=>by simp[zo]
 | k+1,s=>by
  rw[zo];refine List.pairwise_flatMap.2 ⟨fun m _=>?_,(wU h s).imp fun {m n} TF x hx y hy e=>?_⟩
  . exact List.pairwise_map.2 ((vC h k m.to).imp fun {x y} tD e=>tD (List.cons.inj e).2)
  . obtain⟨x',_,rfl⟩:=LG.1 hx
    obtain⟨y',_,rfl⟩:=LG.1 hy;exact TF (List.cons.inj e).1
theorem Yi{p:Pb}(h:zj p.a p.a.sts=0):(zl p).Nodup:=by
 unfold zl;refine List.pairwise_flatMap.2 ⟨fun i _=>?_,(List.nodup_range (n:=p.t.cases.length)).imp fun {i j} tU x hx y hy e=>?_⟩
 . exact List.pairwise_map.2 ((vC h _ _).imp fun {x y} tD e=>tD (Prod.ext_iff.1 e).2)
 obtain⟨x',_,rfl⟩:=LG.1 hx;obtain⟨y',_,rfl⟩:=LG.1 hy;exact tU (Prod.ext_iff.1 e).1
def isX(c:Int)(word:List Rd)(x:Exn):Bool:=decide (x.c=c)&&decide (x.word=word)
def findK(s:Sy)(c:Int)(word:List Rd):Nat:=s.xs.findIdx (isX c word)
theorem find_own{s:Sy}{K N:Nat}(h:Sees s K N)(hz:zj s.p.a s.p.a.sts=0){i:Nat}(hi:i<s.xs.length):findK s s.xs[i].c s.xs[i].word=i:=by
 unfold findK;have hn:=Yi (p:=s.p) hz;rw[<-h.prs] at hn;have hp:isX s.xs[i].c s.xs[i].word s.xs[i]=Av:=by unfold isX;simp
 rw[List.findIdx_eq hi];refine⟨hp,fun j hj=>?_⟩;have bg:j<s.xs.length:=by omega
 rw[PT];intro hx;unfold isX at hx;rw[Nu,Nv,Nv] at hx
 have e:(s.xs.map fun x=>(x.c.toNat,x.word))[j]'(by simpa using bg)=(s.xs.map fun x=>(x.c.toNat,x.word))[i]'(by simpa using hi):=by
  simp[hx.1,hx.2]
 have:=Js hn _ _ e;omega
theorem Yj{l:List Mv}(h:l.Pairwise (fun m k=>m.r≠k.r)):∀ {m y:Mv},m∈l->y∈l->m.r=y.r->m=y:=by
 induction l with
 | nil=>intro m y hm;cases hm
 | cons x l ih=>
  obtain⟨h1,h2⟩:=List.pairwise_cons.1 h;intro m y hm hy e;rcases LQ.1 hm with h3 | h3
  . rcases LQ.1 hy with h4 | h4
    . rw[h3,h4]
    . subst h3;exact absurd e (h1 y h4)
  . rcases LQ.1 hy with h4 | h4
    . subst h4;exact absurd e.symm (h1 m h3)
    . exact ih h2 h3 h4 e
def jb(a:Ad)(s:Int)(r:Rd):Option Int:=((a.at_ s).find? fun m=>decide (m.r=r)).map Mv.to
theorem next_of{a:Ad}(h:zj a a.sts=0){s:Int}{m:Mv}(hm:m∈a.at_ s):jb a s m.r=J m.to:=by
 unfold jb
 cases hf:(a.at_ s).find? fun x=>decide (x.r=m.r) with
 | none=>
  have:=List.find?_eq_none.1 hf m hm;simp at this
 | some y=>
  have h1:=PJ hf;have h2:=List.find?_some hf;have h3:y.r=m.r:=LI h2;rw[Yj (wU h s) hm h1 h3.symm];rfl
def yF(a:Ad):Int->List Rd->Option Int
 | s,[]=>J s
 | s,r::l=>match jb a s r with
  | none=>Z
  | some t=>yF a t l
theorem vM{a:Ad}(h:zj a a.sts=0):∀(k:Nat) (s:Int) (w:List Rd),w∈zo a k s->∃t,yF a s w=J t
 | 0,s,w,hw=>by
  have:w=[]:=by simpa[zo] using hw
  subst this;exact⟨s,rfl⟩
 | k+1,s,w,hw=>by
  rw[zo] at hw;obtain⟨m,hm,hw⟩:=Ns.1 hw;obtain⟨w',dR,rfl⟩:=LG.1 hw;obtain⟨t,ht⟩:=vM h k m.to w' dR;exact⟨t,by rw[yF,next_of h hm];exact ht⟩
end
section
open Go.RowKit
attribute [local go_sem] Oper.semAt_some
theorem isX_no{c:Int}{word:List Rd}{x:Exn}(h:x.c≠c):isX c word x=Ax:=by unfold isX;rw[Ll h];rfl
theorem isX_yes{c:Int}{word:List Rd}{x:Exn}(h:x.c=c):isX c word x=decide (x.word=word):=by unfold isX;rw[Lm h];rfl
theorem JP(x:Exn)(hx:x.word.length<=17592186044416)(c:Int)(word:List Rd)(cI:word.length<=17592186044416)(A1 A2 Aw:Bb)(a1 a2 kw bi bw:Nat)(w:Ba)(hA:RAt w w.heap.size A1 x.word)(hW:RAt w w.heap.size Aw word)
  (oS:w.heap[bi]?=J (Ah #[O U c] 3 (0,0))) (b9:w.heap[bw]?=J (Ah #[I Aw word.length kw] 39 (0,0))) :
  Ap An 37 #[Aj #[O U x.c,I A1 x.word.length a1,I A2 x.views.length a2],Ak (J ⟨bi,0,Z⟩),Ak (J ⟨bw,0,Z⟩)] w fun e w'=>e=Am (Ai (isX c word x))/\Ao w.heap.size w w':=by
 obtain⟨w1,ag,d0,bq,hB⟩:=zq w #[O U x.c,I A1 x.word.length a1,I A2 x.views.length a2] 42;have HQ:=zH (QK A1 Aw a1 kw x.word word w1 w1.heap.size (Lh _) ((hA.keep hB).more hB.size) ((hW.keep hB).more hB.size) hx cI);have al:=zH ag;have HB:=zH hB;obtain⟨x0,x1,_⟩:=Ka d0;have ci:=za (La hB oS) 0 rfl;have cw:=za (La hB b9) 0 rfl;have di:=za oS 0 rfl;have dw:=za b9 0 rfl;have li:=zd oS;have lw:=zd b9;have HN:=zH (fun h=>isX_no (c:=c) (word:=word) (x:=x) h);have HY:=zH (fun h=>isX_yes (c:=c) (word:=word) (x:=x) h);obtain⟨r,hr⟩:=Kh (isX c word x);rw[hr] at HN HY ⊢;clear ag d0 hB hA hW oS b9 hr hx cI;go_enter func37,ntmps37
 by_cases h1:x.c=c
 case neg=>
  have hR:=zH (HN.out h1);have e0:(x.c==c)=Ax:=by simpa using h1
  clear HN HY HQ h1;go_wp2_with fail;rw[al.out];go_wp2_with fail
  all_goals
   go_ret;exact⟨ze hR.out.symm,HB.out⟩
 case pos=>
 have hR:=zH (HY.out h1);have e0:(x.c==c)=Av:=by simpa using h1
 clear HN HY h1;go_wp2_with fail;rw[al.out];go_wp2_with fail;refine HQ.out.mono ?_;rintro e w2 ⟨rfl,n,rfl⟩;clear HQ;rw[<-hR.out];go_wp2_with fail
 all_goals
  go_ret;exact⟨rfl,zu HB.out n⟩
def vp(p:Exn->Bool)(xs:List Exn):Int:=if xs.findIdx p<xs.length then (xs.findIdx p:Int) else -1
theorem idxX_at{p:Exn->Bool}{xs:List Exn}{k:Nat}(hk:k<xs.length)(hp:p xs[k]=Av)(h:∀j (hj:j<xs.length),j<k->p xs[j]=Ax):vp p xs=(k:Int):=by
 have e:xs.findIdx p=k:=(List.findIdx_eq hk).2 ⟨hp,fun j hj=>h j (by omega) hj⟩;unfold vp;rw[e,Ln hk]
theorem JE{p:Exn->Bool}{xs:List Exn}(h:∀j (hj:j<xs.length),p xs[j]=Ax):vp p xs=-1:=by
 have e:xs.findIdx p=xs.length:=List.findIdx_eq_length.2 fun x hx=>by
  obtain⟨j,hj,rfl⟩:=Nc hx;exact h j hj
 unfold vp;rw[e,Lj (by omega)]
theorem fidx_any(xs:List Exn)(oI:∀x∈xs,ZH x)(hl:xs.length<=17592186044416)(c:Int)(word:List Rd)(cI:word.length<=17592186044416)(AX Aw:Bb)(cap kw bi bw:Nat)(w:Ba)(hX:XAt w w.heap.size AX xs)(hW:RAt w w.heap.size Aw word)
  (oS:w.heap[bi]?=J (Ah #[O U c] 3 (0,0))) (b9:w.heap[bw]?=J (Ah #[I Aw word.length kw] 39 (0,0))) :
  Ap An 36 #[I AX xs.length cap,.func (.func 37) #[] #[Ak (J ⟨bi,0,Z⟩),Ak (J ⟨bw,0,Z⟩)]] w fun e w'=>e=Am (O U (vp (isX c word) xs))/\Ao w.heap.size w w':=by
 have HX:=zH hX;have HC:=zH (fun (x:Exn) (hx:ZH x) (A1 A2:Bb) (a1 a2:Nat) (X:Ba) (hb:Ao w.heap.size w X) (hA:RAt X X.heap.size A1 x.word)=>JP x hx.1 c word cI A1 A2 Aw a1 a2 kw bi bw X hA ((hW.keep hb).more hb.size) (La hb oS) (La hb b9));have VN:=zH oI;have ii:=zH (fun (k:Nat) (hk:k<xs.length) (hp:isX c word xs[k]=Av) (h:∀j (hj:j<xs.length),j<k->isX c word xs[j]=Ax)=>idxX_at hk hp h);have po:=zH (fun h=>JE (p:=isX c word) (xs:=xs) h);obtain⟨r,hr⟩:=Kh (vp (isX c word) xs);rw[hr] at ii po ⊢;clear hX hW oS b9 oI hr;go_enter func36,ntmps36;go_wp2_with fail
 go_loopw [8] (fun i wr=>∃k:Nat,k<=xs.length/\i=O U (k:Int)/\As (Ao w.heap.size w wr)/\As (∀j (hj:j<xs.length),j<k->isX c word xs[j]=Ax)) (fun i _=>xs.length-(Aq i).toNat)
 case atStart=>exact⟨0,by omega,rfl,Lp _ _,fun j hj h=>by omega⟩
 obtain⟨k,hk,rfl,hb,aj⟩:=hrel
 by_cases ac:k<xs.length
 . obtain⟨b,o,A1,c1,A2,c2,eX,aL,x0,x1,x2,hR,hL⟩:=(HX.out.keep hb.out).row k ac
   subst eX;have hm:=VN.out _ (Ld ac);have Fj:=zH (HC.out xs[k] hm A1 A2 c1 c2 wr hb.out (hR.more hb.out.size));have tp:=zH (ii.out k ac);have dm:=zH (fun (h:isX c word xs[k]=Ax) j (hj:j<xs.length) (Gp:j<k+1)=>if e:j=k then (by subst e;exact h) else aj.out j hj (by omega):isX c word xs[k]=Ax->∀j (hj:j<xs.length),j<k+1->isX c word xs[j]=Ax);obtain⟨bo,bI⟩:=Kh (isX c word xs[k]);rw[bI] at Fj tp dm;obtain⟨x,hx⟩:=Kh (xs[k]);rw[hx] at x0 x1 x2 Fj;have cK:(0:Int)<=(k:Int):=by omega
   have bY:(k:Int)<(xs.length:Int):=by omega
   clear hm hR hL bI hx HC;go_wp2_with fail;refine Fj.out.mono ?_;rintro e w2 ⟨rfl,ae⟩;have aU:=zH (Lc hb.out ae);clear ae Fj x0 x1 x2
   cases bo with
   | true=>
    have hR:=zH (tp.out rfl aj.out);go_wp2_with fail;go_ret;exact⟨zc hR.out.symm,aU.out⟩
   | false=>
    have hn:=zH (dm.out rfl);clear tp dm;go_wp2_with fail
    go_roundw
    case rel=>exact⟨k+1,by omega,by go_num,aU.out,hn.out⟩
    case measure=>simp[Aq];omega
 obtain rfl:k=xs.length:=by omega
 have hR:=zH (po.out fun j hj=>aj.out j hj hj);clear HC ii po;go_wp2_with fail;go_ret;exact⟨zc hR.out.symm,hb.out⟩
def gS(s:Sy)(c:Int)(word:List Rd):Int×Int:=if yQ s≠0 then (0,yQ s) else if vp (isX c word) s.xs<0 then (0,6) else (vp (isX c word) s.xs,0)
theorem QY(s:Sy)(hs:LowS s)(hf:qn s.p)(c:Int)(word:List Rd)(cI:word.length<=17592186044416)(A SV AV AX Aw:Bb)(kc ks kv kx kw:Nat)(w:Ba)(hS:SyAt w w.heap.size A SV AV AX s)(hW:RAt w w.heap.size Aw word) :
  Ap An 12 #[.agg (s.vs_ A kc SV ks AV kv AX kx),O U c,I Aw word.length kw] w fun e w'=>e=Am (.tuple #[O U (gS s c word).1,O U (gS s c word).2])/\Ao w.heap.size w w':=by
 obtain⟨w1,ag,d0,d1,d2,bq,hB⟩:=xD w (s.vs_ A kc SV ks AV kv AX kx) #[O U c] #[I Aw word.length kw] 36 3 39;have HV:=zH (ur s hs hf A SV AV AX kc ks kv kx w1 (hS.up hB));have fA:=zH (hS.up hB);have na:=zH (fun (X:Ba) (hX:XAt X X.heap.size AX s.xs) (EJ:RAt X X.heap.size Aw word) (h1:X.heap[w.heap.size+1]?=_) (h2:X.heap[w.heap.size+1+1]?=_)=>fidx_any s.xs hs.fe (Lz hs.fx (by decide)) c word cI AX Aw kx kw (w.heap.size+1) (w.heap.size+1+1) X hX EJ h1 h2);have HE:As (gS s c word=if yQ s≠0 then (0,yQ s) else if vp (isX c word) s.xs<0 then (0,6) else (vp (isX c word) s.xs,0)):=rfl;obtain⟨R,hR⟩:=Kh (gS s c word);rw[hR] at HE ⊢;obtain⟨E,hE⟩:=Kh (yQ s);rw[hE] at HV HE;obtain⟨Ae,hI⟩:=Kh (vp (isX c word) s.xs);rw[hI] at na HE;have nJ:=zH ((hW.keep hB).more hB.size);unfold Sy.vs_ at ag d0 HV ⊢;have al:=zH ag;have HB:=zH hB;have HD:=zH d0;have bN:=zH d1;have ij:=zH d2;obtain⟨p0,p1,p2,p3,p4,p5,p6,p7,p8,p9⟩:=ya d0;clear ag d0 d1 d2 hB hS hs hf hE hI hR hW;go_enter func12,ntmps12;go_wp2_with fail;rw[al.out];go_wp2_with fail;refine HV.out.mono ?_;rintro e w2 ⟨rfl,ae⟩;have aU:=zH (HB.out.trans (ae.mono (by omega)));have dc:=zH (fA.out.up ae);have Dl:=zH ((nJ.out.keep ae).more ae.size);have tt:=zH (La ae bN.out);have nP:=zH (La ae ij.out);have d0:=Lb ae (by omega:w.heap.size<w1.heap.size) HD.out
 clear p0 p1 p2 p3 p4 p5 p6 p7 p8 p9 ae HV al fA HD bN ij nJ;have p9:=za d0 9 rfl;clear d0
 by_cases h0:E=0
 case neg=>
  have hR:As (R=(0,E)):=HE.out.trans (Ln h0);have e0:(E != 0)=Av:=by simpa using h0
  clear HE na h0;go_wp2_with fail
  go_ret2
  rw[hR.out];exact⟨rfl,aU.out⟩
 case pos=>
 subst h0;have am:As (R=if Ae<0 then (0,6) else (Ae,0)):=HE.out.trans (Lj (by simp));clear HE;go_wp2_with fail;refine(na.out w2 dc.out.fx Dl.out tt.out nP.out).mono ?_;rintro e w3 ⟨rfl,ap⟩;have bE:=zH (Lc aU.out ap);clear ap na dc Dl tt nP p9
 by_cases h1:Ae<0
 . have hR:As (R=(0,6)):=am.out.trans (Ln h1)
   clear am;go_wp2_with fail
   all_goals first | (exfalso;omega) | skip
   go_ret2
   rw[hR.out];exact⟨rfl,bE.out⟩
 have hR:As (R=(Ae,0)):=am.out.trans (Lj h1);clear am;go_wp2_with fail
 all_goals first | (exfalso;omega) | skip
 go_ret2
 rw[hR.out];exact⟨rfl,bE.out⟩
end
section
theorem ct_len{s:Sy}{K N:Nat}(h:Sees s K N):s.xs.length=zA s.p:=by
 have e:=congrArg List.length h.prs;rw[LE] at e;rw[e];unfold zl zA;rw[List.length_flatMap];simp only[List.length_map,yc,List.map_const',List.length_range,List.sum_replicate_nat];exact N2 _ _
theorem ct_find{s:Sy}{K N:Nat}(h:Sees s K N)(hz:zj s.p.a s.p.a.sts=0)(hv:yQ s=0){i:Nat}(hi:i<s.xs.length):gS s s.xs[i].c s.xs[i].word=((i:Int),0):=by
 have hf:=find_own h hz hi;unfold findK at hf;have e:vp (isX s.xs[i].c s.xs[i].word) s.xs=(i:Int):=by unfold vp;rw[hf,Ln hi]
 unfold gS;rw[Lj (by simpa using hv),e,Lj (by omega)]
theorem ct_word{s:Sy}{K N:Nat}(h:Sees s K N)(hF:Fine s K N)(hz:zj s.p.a s.p.a.sts=0){x:Exn}(hx:x∈s.xs):x.word.length<=100/\∃t,yF s.p.a 0 x.word=J t:=by
 obtain⟨c,_,_,hw⟩:=h.cs x hx;refine⟨?_,vM hz K 0 _ hw⟩;have:=(hF.word x hx).1;have:=hF.k6;omega
theorem ct_cut{p:Pb}(h0:zz p=0)(da:zA p<=60)(h1:1<=p.t.cases.length):qS p=((zA p:Int),0)/\qY 1048576 (zI p.a p.k.toNat 0)=((zI p.a p.k.toNat 0:Int),0):=by
 have h3:zI p.a p.k.toNat 0<=zA p:=by unfold zA;exact Pk _ h1
 unfold qS qY;rw[Lj (by simpa using h0),Lj (by omega),Lj (by omega)];exact⟨rfl,rfl⟩
end
section
open Go.RowKit
theorem rd_inj(a b:Rd)(h:Aj a.cells=.agg b.cells):a=b:=by
 injection h with h
 obtain⟨a0,a1,a2,a3,a4,a5,a6⟩:=a;obtain⟨b0,b1,b2,b3,b4,b5,b6⟩:=b;simpa[Rd.cells] using h
theorem YF(w:Ba)(em:Bool)(n:Nat)(x:Rd):(Instr.checkKey em (n+3) 45 (.agg x.gcells)).run An w=.ok () w:=by
 have hu:An.underlying 45=J (.struct (An.fieldsOf 45)):=by kernel_rfl
 have hf : (An.fieldsOf 45).toList.map (fun f => (f.name, f.type, f.offset)) = [("N", 3, 0), ("Hears", 43, 1)] := by kernel_rfl
 have p0:∀x:Rd,(part 3 x.gcells 0).run An w=.ok (O U x.n) w:=fun x=>zC _ 0 _ rfl w
 have p1:∀x:Rd,(part 43 x.gcells 1).run An w=.ok (Aj #[O U x.h0,O U x.h1,O U x.h2,O U x.h3,O U x.h4]) w:=fun x=>by unfold Rd.gcells;kernel_rfl
 unfold Instr.checkKey;simp only[Sem.run_bind,run_underlying hu,Result.andThen_ok];rw[<-PI]
 generalize (An.fieldsOf 45).toList=fs at hf
 obtain⟨f0,f1,rfl⟩:∃f0 f1,fs=[f0,f1]:=by
  have hl:fs.length=2:=by simpa using congrArg List.length hf
  rcases fs with _ | ⟨f0,_ | ⟨f1,_ | ⟨f2,r⟩⟩⟩<;>simp at hl
  exact⟨_,_,rfl⟩
 clear hu;simp only[List.map_cons,List.map_nil,List.cons.injEq,Prod.mk.injEq,and_true] at hf;obtain⟨⟨n0,t0,o0⟩,⟨n1,t1,o1⟩⟩:=hf;simp only[List.forIn_cons,List.forIn_nil,n0,n1,t0,t1,o0,o1,p0,p1,Sem.run_bind,Result.andThen_ok,qI,gZ,ne_eq,String.reduceEq,not_false_eq_true,if_true,Sem.run_pure]
open Classical in
theorem gB:KeyOk An 75 (fun v:Rd=>.agg v.cells) where
 inj:=rd_inj
 check:=fun w em v=>by
  have hu:An.underlying 75=J (.struct (An.fieldsOf 75)):=by kernel_rfl
  have hf : (An.fieldsOf 75).toList.map (fun f => (f.name, f.type, f.offset)) = [("Graph", 45, 0), ("Faulty", 3, 6)] := by kernel_rfl
  have p0:∀x:Rd,(part 45 x.cells 0).run An w=.ok (.agg x.gcells) w:=fun x=>by unfold Rd.cells Rd.gcells;kernel_rfl
  have p1:∀x:Rd,(part 3 x.cells 6).run An w=.ok (O U x.f) w:=fun x=>zC _ 6 _ rfl w
  unfold Instr.checkKey;simp only[Sem.run_bind,run_underlying hu,Result.andThen_ok];rw[<-PI]
  generalize (An.fieldsOf 75).toList=fs at hf
  obtain⟨f0,f1,rfl⟩:∃f0 f1,fs=[f0,f1]:=by
   have hl:fs.length=2:=by simpa using congrArg List.length hf
   rcases fs with _ | ⟨f0,_ | ⟨f1,_ | ⟨f2,r⟩⟩⟩<;>simp at hl
   exact⟨_,_,rfl⟩
  clear hu;simp only[List.map_cons,List.map_nil,List.cons.injEq,Prod.mk.injEq,and_true] at hf;obtain⟨⟨n0,t0,o0⟩,⟨n1,t1,o1⟩⟩:=hf;simp only[List.forIn_cons,List.forIn_nil,n0,n1,t0,t1,o0,o1,p0,p1,Sem.run_bind,Result.andThen_ok,qI,YF,ne_eq,String.reduceEq,not_false_eq_true,if_true,Sem.run_pure]
 equal:=fun w a b=>by
  unfold Op.equal Op.maxDepth;rw[qt 9996 a b w]
  by_cases h:a=b
  . simp[h]
  . have:¬(Aj a.cells=.agg b.cells):=fun e=>h (rd_inj a b e)
    rw[Ll h,Ll this]
 now:=fun d hd=>.inr fun a b=>by
  have hu:An.underlying 75=J (.struct (An.fieldsOf 75)):=by kernel_rfl
  rw[hu] at hd
  cases hd
  simp[Instr.sameNow]
 stays:=fun a=>by simp[Instr.sameBits,Rd.cells]
 kind := ⟨_, by have hu : An.underlying 75 = J (.struct (An.fieldsOf 75)) := by kernel_rfl
                exact hu⟩
end
section
open Go.RowKit Go.Shelf
attribute [local go_sem] Oper.semAt_some
def YY(j:Nat)(F:Rd->Option Au)(x:Int×Mv):Rd->Option Au:=if x.1=(j:Int) then kO F x.2.r (O U x.2.to) else F
def ZS(l:List (Int×Mv))(j:Nat):Rd->Option Au:=l.foldl (YY j) fun _=>Z
theorem Ja(l:List (Int×Mv))(x:Int×Mv)(j:Nat):ZS (l++[x]) j=YY j (ZS l j) x:=by unfold ZS;rw[List.foldl_append];rfl
theorem Qq{j:Nat}{r:Rd}{v:Au}:∀(l:List (Int×Mv)) (F:Rd->Option Au),(∀y∈l,y.1=(j:Int)->y.2.r=r->O U y.2.to=v)->(F r=J v\/∃x∈l,x.1=(j:Int)/\x.2.r=r)->l.foldl (YY j) F r=J v
 | [],F,_,h=>by
  rcases h with h | ⟨x,hx,_⟩
  . exact h
  . cases hx
 | y::l,F,hv,h=>by
  rw[List.foldl_cons];refine Qq l _ (fun z hz=>hv z (by simp[hz])) ?_;unfold YY
  by_cases h1:y.1=(j:Int)
  . rw[Ln h1]
    unfold kO
    by_cases h2:r=y.2.r
    . left;rw[Ln h2,hv y (by simp) h1 h2.symm]
    . rw[Lj h2]
      rcases h with h | ⟨x,hx,h3,h4⟩
      . exact .inl h
      . rcases LQ.1 hx with rfl | hx
        . exact absurd h4.symm h2
        . exact .inr ⟨x,hx,h3,h4⟩
  . rw[Lj h1]
    rcases h with h | ⟨x,hx,h3,h4⟩
    . exact .inl h
    . rcases LQ.1 hx with rfl | hx
      . exact absurd h3 h1
      . exact .inr ⟨x,hx,h3,h4⟩
theorem tab_no{j:Nat}{r:Rd}:∀(l:List (Int×Mv)) (F:Rd->Option Au),(∀y∈l,y.1=(j:Int)->y.2.r≠r)->l.foldl (YY j) F r=F r
 | [],_,_=>rfl
 | y::l,F,hv=>by
  rw[List.foldl_cons,tab_no l _ fun z hz=>hv z (by simp[hz])];unfold YY
  by_cases h1:y.1=(j:Int)
  . rw[Ln h1]
    unfold kO;rw[Lj (fun e=>hv y (by simp) h1 e.symm)]
  . rw[Lj h1]
theorem Xm:∀(j:Nat) (xss:List (List Mv)) (x:Int×Mv),x∈zp j xss↔∃(s:Nat) (h:s<xss.length),x.1=((j+s:Nat):Int)/\x.2∈xss[s]
 | _,[],x=>by simp[zp]
 | j,l::r,x=>by
  rw[zp,LR,LG,Xm (j+1) r x];constructor
  . rintro(⟨m,hm,rfl⟩ | ⟨s,hs,h1,h2⟩)
    . exact⟨0,by simp,rfl,hm⟩
    . exact⟨s+1,by simpa using hs,by rw[h1];congr 1;omega,by simpa using h2⟩
  . rintro⟨s,hs,h1,h2⟩
    cases s with
    | zero=>exact .inl ⟨x.2,by simpa using h2,Prod.ext h1.symm rfl⟩
    | succ s=>exact .inr ⟨s,by simpa using hs,by rw[h1];congr 1;omega,by simpa using h2⟩
theorem tab_next{a:Ad}(h:zj a a.sts=0){j:Nat}(hj:j<a.sts.length)(r:Rd):ZS (zp 0 a.sts) j r=(jb a (j:Int) r).map (O U):=by
 have bz:a.at_ (j:Int)=a.sts[j]:=by unfold Ad.at_;rw[Lf,Lv,Lg hj];rfl
 have bV:∀y∈zp 0 a.sts,y.1=(j:Int)->y.2∈a.at_ (j:Int):=fun y hy e=>by
  obtain⟨s,hs,h1,h2⟩:=(Xm 0 a.sts y).1 hy;obtain rfl:s=j:=by omega
  rw[bz];exact h2
 unfold jb ZS
 cases hf:(a.at_ (j:Int)).find? fun m=>decide (m.r=r) with
 | none=>
  have hn:=List.find?_eq_none.1 hf;rw[tab_no _ _ fun y hy e h2=>hn y.2 (bV y hy e) (by simpa using h2)]
  rfl
 | some m=>
  have h1:=PJ hf;have h2:m.r=r:=by simpa using List.find?_some hf
  refine Qq _ _ (fun y hy e h3=>?_) (.inr ⟨((j:Int),m),(Xm 0 a.sts _).2 ⟨j,hj,by simp,by rw[<-bz];exact h1⟩,rfl,h2⟩);rw[Yj (wU h (j:Int)) (bV y hy e) h1 (h3.trans h2.symm)]
def mkA(m L k:Nat):Array Au:=((List.range L).map fun j=>if j<k then Value.map (J (m+j)) else .map Z).toArray
theorem mkA_zero(m L:Nat):mkA m L 0=Array.replicate L (.map Z):=by
 unfold mkA;apply Array.ext
 . simp
 intro i h1 h2;simp
theorem Xn{m L k j:Nat}(h:j<L):(mkA m L k)[j]?=J (if j<k then .map (J (m+j)) else .map Z):=by
 unfold mkA;simp[h]
theorem mkA_set{m L k:Nat}(_h:k<L):(mkA m L k).set! k (.map (J (m+k)))=mkA m L (k+1):=by
 apply Array.ext
 . simp[mkA]
 intro i h1 h2;have hi:i<L:=by simpa[mkA] using h2
 simp only[mkA,Array.set!_eq_setIfInBounds,List.setIfInBounds_toArray,List.getElem_toArray,List.getElem_set,List.getElem_map,List.getElem_range]
 by_cases e:k=i
 . subst e;simp
 rw[Lj e]
 by_cases e2:i<k
 . rw[Ln e2,Ln (by omega)]
 rw[Lj e2,Lj (by omega)]
theorem set_blk{w:Ba}{g:Nat}{cs:Array Au}{t:TypeId}(h:w.heap[g]?=J (Ah cs t (0,0)))(i:Nat)(v:Au):(w.setCell ⟨g,i,Z⟩ v).heap[g]?=J (Ah (cs.set! i v) t (0,0)):=by
 rw[World.setCell,N6,Ln rfl,h]
 rfl
def kMp:Kd:=⟨159,156,1,8,.map Z⟩
theorem kMp_ok:KdOk An kMp:=⟨underlying156,by kernel_rfl,by rfl,by decide,by decide⟩
theorem JB(n:Nat):madeCells #[.map Z] (n*1)=Array.replicate n (.map Z):=by
 unfold madeCells;apply Array.ext
 . simp
 intro i h1 h2;simp[Nat.mod_one]
theorem JA(n:Nat)(hn:n<=8)(W:Ba):(Instr.makeSlice 156 (O U n) (O U n)).run An W=.ok (I (J ⟨W.heap.size,0,Z⟩) n n) (W.alloc (Ah (Array.replicate n (.map Z)) 159)):=by
 obtain⟨i0,hi,cq,bK,cf⟩:=yx kMp_ok;have hb:i0.bytes=8:=cf;have hs:i0.size=1:=bK;have h:=run_make (P:=An) W 156 159 i0 (.map Z) underlying156 hi cq U U (n:Int) (n:Int) (by omega) (Int.le_refl _) (by rw[hb];omega) (by omega);rw[h,hs];simp only[Int.toNat_natCast];rw[show(Value.map Z).cells=#[.map Z] from rfl,JB]
structure IxIn(B L k:Nat)(C:Array Au)(w W:Ba):Prop where
 below:Ao B w W
 b0:W.heap[B]?=J (Ah C 27 (0,0))
 row:W.heap[B+1]?=J (Ah (mkA (B+3) L k) 159 (0,0))
 box:W.heap[B+1+1]?=J (Ah #[I (J ⟨B+1,0,Z⟩) L L] 156 (0,0))
 size:W.heap.size=B+3+k
 maps:∀j,j<k->W.heap[B+3+j]?=J (.map #[] 0)
theorem IxIn.put{B L k:Nat}{C:Array Au}{w W:Ba}(h:IxIn B L k C w W)(hk:k<L):IxIn B L (k+1) C w ((W.setCell ⟨B+1,k,Z⟩ (.map (J W.heap.size))).alloc (.map #[] 0)):=by
 have hz:=h.size;have hs:(W.setCell ⟨B+1,k,Z⟩ (.map (J W.heap.size))).heap.size=W.heap.size:=by simp[World.setCell]
 have h1:∀x,x≠B+1->x<W.heap.size->((W.setCell ⟨B+1,k,Z⟩ (.map (J W.heap.size))).alloc (.map #[] 0)).heap[x]?=W.heap[x]?:=fun x hx hl=>
  (NR _ _ x (by rw[hs];exact hl)).trans (Le W ⟨B+1,k,Z⟩ _ x hx)
 refine⟨(h.below.setCell (by show B<=B+1;omega) _).trans ((zt _ _).mono (by rw[hs];omega)),(h1 B (by omega) (by omega)).trans h.b0,?_,(h1 _ (by omega) (by omega)).trans h.box,by rw[LW,hs];omega,fun j hj=>?_⟩
 . have:=zw (set_blk h.row k (.map (J W.heap.size))) (.map #[] 0)
   rw[this,hz,mkA_set hk]
 by_cases e:j=k
 . subst e
   have:=RO (W.setCell ⟨B+1,j,Z⟩ (.map (J W.heap.size))) (.map #[] 0);rw[hs,hz] at this;rw[hz];exact this
 exact(h1 _ (by omega) (by omega)).trans (h.maps j (by omega))
structure IyIn(B L n:Nat)(C:Array Au)(l:List (Int×Mv))(w W:Ba):Prop where
 below:Ao B w W
 b0:W.heap[B]?=J (Ah C 27 (0,0))
 row:W.heap[B+1]?=J (Ah (mkA (B+3) L L) 159 (0,0))
 box:W.heap[B+1+1]?=J (Ah #[I (J ⟨B+1,0,Z⟩) L L] 156 (0,0))
 maps:∀j,j<L->MapOf (fun r:Rd=>.agg r.cells) W (B+3+j) n (ZS l j)
 big:B+3+L<=W.heap.size
theorem IyIn.of{B L:Nat}{C:Array Au}{w W:Ba}(h:IxIn B L L C w W):IyIn B L 0 C [] w W:=
 ⟨h.below,h.b0,h.row,h.box,fun j hj=>⟨#[],0,h.maps j hj,Lh _,List.Pairwise.nil,fun e he=>by simp at he,fun k v e=>by cases e⟩,by have:=h.size;omega⟩
theorem IyIn.turn{B L n:Nat}{C:Array Au}{l:List (Int×Mv)}{w W W':Ba}{row:Option Nat}(h:IyIn B L n C l w W)(hg:W.grownBy W' row)(hr:∀r,row=J r->B+3+L<=r):IyIn B L n C l w W':=by
 have hb:=h.big;have k1:∀x,x<B+3+L->W'.heap[x]?=W.heap[x]?:=fun x hx=>hg.block x (by omega) fun e=>by have:=hr x e.symm;omega
 exact⟨h.below.grown hg (by omega) (fun k hk=>by have:=hr k hk;omega),(k1 _ (by omega)).trans h.b0,(k1 _ (by have:=h.big;omega)).trans h.row,(k1 _ (by omega)).trans h.box,fun j hj=>(h.maps j hj).same (k1 _ (by omega)),Lz hb hg.size⟩
theorem IyIn.on{B L n:Nat}{C:Array Au}{l:List (Int×Mv)}{w W W':Ba}(h:IyIn B L n C l w W)(hb:Ao W.heap.size W W'):IyIn B L n C l w W':=by
 have hg:=h.big;exact⟨h.below.trans (hb.mono (by omega)),La hb h.b0,La hb h.row,La hb h.box,fun j hj=>(h.maps j hj).same (hb.block _ (h.maps j hj).lt),Lz hg hb.size⟩
theorem IyIn.put{B L n s:Nat}{C:Array Au}{l:List (Int×Mv)}{w W W':Ba}(h:IyIn B L n C l w W)(hs:s<L){x:Int×Mv}(hx:x.1=(s:Int))(hm:MapOf (fun r:Rd=>.agg r.cells) W' (B+3+s) (n+1) (kO (ZS l s) x.2.r (O U x.2.to)))(hg:W.grownBy W' (J (B+3+s))):IyIn B L (n+1) C (l++[x]) w W':=by
 have hb:=h.big;have k1:∀k,k≠B+3+s->k<W.heap.size->W'.heap[k]?=W.heap[k]?:=fun k hk hl=>hg.block k hl fun e=>hk (NG e)
 refine⟨h.below.grown hg (by omega) (fun k hk=>by cases hk;omega),(k1 _ (by omega) (by omega)).trans h.b0,(k1 _ (by omega) (by omega)).trans h.row,(k1 _ (by omega) (by omega)).trans h.box,fun j hj=>?_,Lz hb hg.size⟩;rw[Ja];unfold YY
 by_cases e:j=s
 . subst e
   rw[Ln hx];exact hm
 rw[Lj (by rw[hx];omega)];obtain⟨es,co,h1,h2,h3⟩:=(h.maps j hj).same (k1 _ (by omega) (by omega));exact⟨es,co,h1,by omega,h3⟩
def Ql(a:Ad)(w:Ba)(e:Ending)(w':Ba):Prop:=
 ∃g m:Nat,e=Am (I (J ⟨g,0,Z⟩) a.sts.length a.sts.length)/\w'.heap[g]?=J (Ah (mkA m a.sts.length a.sts.length) 159 (0,0)) /\
  (∀j,j<a.sts.length->∃n,MapOf (fun r:Rd=>.agg r.cells) w' (m+j) n (ZS (zp 0 a.sts) j))/\Ao w.heap.size w w'
theorem Qk(a:Ad)(hf:FewA a)(SV:Bb)(ks:Nat)(w:Ba)(hS:SAt w w.heap.size SV a.sts) :
  Ap An 81 #[Aj #[O U a.n,I SV a.sts.length ks]] w (Ql a w):=by
 have df:=hf.1;have HI:=zH (fun (bx:Nat) (w':Ba) (hb:w'.heap[bx]?=J (Ah #[O U a.n,I SV a.sts.length ks] 27)) (h:SAt w' w.heap.size SV a.sts) (hB:w.heap.size<=w'.heap.size)=>qr a hf SV ks w.heap.size bx w' hb h hB);have HS:=zH hS;have eK:=JA a.sts.length df;have fr:=@run_makeMap An;obtain⟨L,hL⟩:=Kh a.sts.length;have HL:=zH hL;rw[hL] at df eK HI;unfold Ql;rw[hL];clear hS hf hL;refine zV func81 rfl ?_;simp only[ntmps81,List.size_toArray,List.length_cons,List.length_nil,Nat.reduceAdd,Nat.reduceSub,Array.replicate_succ,Array.replicate_zero,List.push_toArray,List.append_toArray,List.nil_append,List.cons_append];go_upto_region 2 with fail
 obtain⟨w3,oq,b0,b1,b2,rJ,aW⟩:=xD w #[O U a.n,I SV L ks] (Array.replicate L (.map Z)) #[I (J ⟨w.heap.size+1,0,Z⟩) L L] 27 159 156;rw[oq];have H0:As (IxIn w.heap.size L 0 #[O U a.n,I SV L ks] w w3):=⟨aW,b0,by rw[mkA_zero];exact b1,b2,rJ,fun j hj=>absurd hj (by omega)⟩;have q2:=za b2 0 rfl;clear oq b0 b1 b2 aW rJ eK;go_wp2_with fail
 go_loopw [13] (fun i wr=>∃k:Nat,k<=L/\i=O U (k:Int)/\As (IxIn w.heap.size L k #[O U a.n,I SV L ks] w wr)) (fun i _=>L-(Aq i).toNat)
 case atStart=>exact⟨0,by omega,rfl,H0⟩
 obtain⟨k,hk,rfl,HX⟩:=hrel;have oo:IntKind.i64.wrap ((k:Int)+1)=((k+1:Nat):Int):=by rw[Ly];omega
 by_cases ac:k<L
 . have cK:(0:Int)<=(k:Int):=by omega
   have bY:(k:Int)<(L:Int):=by omega
   have q2:=za HX.out.box 0 rfl;have c1:=za HX.out.row k (Xn ac);have f1:=zb HX.out.row k;have hlr:=zd HX.out.row;have HP:=zH (HX.out.put ac);go_wp2_with fail
   go_roundw
   case rel=>exact⟨k+1,by omega,by go_num,HP⟩
   simp[Aq];omega
 obtain rfl:L=k:=by omega
 have bY:¬(L:Int)<(L:Int):=by omega
 have OY:=zH (IyIn.of HX.out);obtain⟨q0,q1,_⟩:=Ka HX.out.b0;have aZ:=HX.out.size;clear fr q2;go_wp2_with fail;refine(kH a.n (I SV L ks) wr).mono ?_;rintro e W2 ⟨rfl,dx⟩;have bb:=zg wr (Ah #[O U a.n,I SV L ks] 27);have aO:Ao wr.heap.size wr W2:=by rw[<-dx];exact zt _ _
 have dq:W2.heap.size=wr.heap.size+1:=by rw[<-dx];simp
 rw[dx] at bb;obtain⟨bx,aL⟩:=Kh wr.heap.size;have OX:=zH (OY.out.on aO);rw[aL] at bb dq aZ ⊢;have fX:=zH (HI.out bx W2 bb (HS.out.keep OX.out.below) (by omega));have lZ:As (bx=w.heap.size+3+L/\W2.heap.size=bx+1):=⟨aZ,dq⟩;clear dx bb aO aL OY q0 q1 aZ dq;go_wp2_with fail
 refine jW rfl (PD P1 (by kernel_rfl) rfl) fX.out (by have:=lZ.out;rintro x (h | rfl)<;>omega) (fun _=>rfl)
  (fun (pre:List { x:Int×Mv // x∈zp 0 a.sts }) (X:Ba)=>(∃n,IyIn w.heap.size L n #[O U a.n,I SV L ks] (pre.map (·.1)) w X)/\W2.heap.size<=X.heap.size)
  (fun _ _ _=>False)
  ?hI (fun _ _ _ _ _ h _ _=>h)
  ⟨⟨_,OX.out⟩,Lh _⟩ (fun x=>x.2.cells) 121 ?a1 ?assign ?body ?done ?stop (fun _ _ h=>h.2)
 case hI=>
  intro s X X' row hX hg hr;obtain⟨⟨n,EH⟩,Ha⟩:=hX;exact⟨⟨n,EH.turn hg fun r e=>by have:=(hr r e).1;have:=lZ.out;omega⟩,Lz Ha hg.size⟩
 case assign=>
  intro l pre x X K' hI hK;obtain⟨g',lr⟩:∃g',g'=X.heap.size:=⟨_,rfl⟩;obtain⟨⟨n,EH⟩,Ha⟩:=hI;have HK:=zH (hK g' lr ⟨⟨n,EH.on (zt X _)⟩,by simp;omega⟩);have HG:=zH lr;unfold Mv.cells at HK ⊢;dsimp only at HK ⊢;clear hK lr EH Ha;gi_wp2;rw[<-HG.out];exact HK.out
 case body=>
  intro l pre x g W3 hg dl hI ac;obtain⟨⟨n,cH⟩,iE⟩:=hI;obtain⟨s,_,fD,iU⟩:=jq 0 a.sts x.1 x.2;have fD:s<L:=by have:=HL.out;omega
  have q2:=za cH.box 0 rfl;have c1:=za cH.row s (Xn fD);rw[Ln fD] at c1;have lk:(0:Int)<=(s:Int):=by omega
  have bq:(s:Int)<(L:Int):=by omega
  have u0:=za dl 0 (u:=O U x.1.2.r.n) rfl;have u1:=za dl 1 (u:=O U x.1.2.r.h0) rfl;have u2:=za dl 2 (u:=O U x.1.2.r.h1) rfl;have u3:=za dl 3 (u:=O U x.1.2.r.h2) rfl;have u4:=za dl 4 (u:=O U x.1.2.r.h3) rfl;have u5:=za dl 5 (u:=O U x.1.2.r.h4) rfl;have u6:=za dl 6 (u:=O U x.1.2.r.f) rfl;have u7:=za dl 7 (u:=O U x.1.2.to) rfl;obtain⟨W5,cV,tQ,sv⟩:=((cH.maps s fD).same (w':=W3.drew) rfl).put gB underlying159 x.1.2.r (O U x.1.2.to);have HP:=zH ((cH.on (Lp _ _).drew).put fD iU tQ sv);have tr:=zH sv;unfold Rd.cells at cV;have hbig:=cH.big;clear cH tQ sv dl ac fX HI HS
  try dsimp only
  rw[iU];gi_wp2_with fail;refine qc 8 (by kernel_rfl) (by kernel_rfl) (by kernel_rfl) (by rintro⟨_,_,h⟩;exact h) ?_;simp only[List.take_succ_cons,List.take_zero,List.drop_succ_cons,List.drop_zero]
  repeat still_step
  try refine RH ?_
  change wpList _ _ _ _ _ W3.drew;go_wp2_with fail;have aZ:=lZ.out;refine⟨⟨tr.out.size,fun k o hk bY _=>(tr.out.block k (zd bY) (fun e=>by cases e;omega)).trans bY⟩,⟨tr.out.size,fun k hk hl=>tr.out.block k hl (fun e=>by cases e;omega)⟩,⟨n+1,?_⟩,Lz iE tr.out.size⟩;rw[LH];exact HP.out
 case done=>
  intro D ys W3 hD eo hI dI;obtain⟨⟨n,cH⟩,iE⟩:=hI;rw[eo] at cH;have q2:=za cH.box 0 rfl;have ii:=zH cH;have HD:=zH dI;clear cH dI eo fX HI HS
  try dsimp only
  go_wp2_with fail;refine zS (B:=W2.heap.size) (qF hD HD.out) (v:=I (J ⟨w.heap.size+1,0,Z⟩) L L) (fun W=>by kernel_rfl) ?_;intro W hX;have aZ:=lZ.out;have hx:∀k,k<W2.heap.size->W.heap[k]?=W3.heap[k]?:=fun k hk=>hX.below.block k hk
  exact⟨w.heap.size+1,w.heap.size+3,rfl,(hx _ (by omega)).trans ii.out.row,fun j hj=>⟨n,(ii.out.maps j hj).same (hx _ (by omega))⟩,ii.out.below.trans (hX.below.mono (by omega))⟩
 intro D c pre W _ _ h;exact h.elim
theorem next_in{a:Ad}(hz:zj a a.sts=0){s u:Int}{r:Rd}(h:jb a s r=J u):0<=u/\u<a.sts.length:=by
 unfold jb at h
 cases hf:(a.at_ s).find? fun m=>decide (m.r=r) with
 | none=>rw[hf] at h;cases h
 | some m=>
  rw[hf] at h;have hm:=PJ hf
  have:m∈a.mvs:=by
   unfold Ad.at_ at hm;rw[Lf] at hm
   cases hc:a.sts[s.toNat]? with
   | none=>rw[hc] at hm;cases hm
   | some l=>rw[hc] at hm;exact Nr.2 ⟨l,N9 hc,hm⟩
  have h2:=xa hz m this;have e:m.to=u:=NG h;rw[<-e];exact h2.2.2
theorem Zj{a:Ad}{s t:Int}{r:Rd}{l:List Rd}(h:yF a s (r::l)=J t):∃u,jb a s r=J u/\yF a u l=J t:=by
 rw[yF] at h
 cases hn:jb a s r with
 | none=>rw[hn] at h;cases h
 | some u=>rw[hn] at h;exact⟨u,rfl,h⟩
theorem Qg(a:Ad)(hf:FewA a)(h:xy a=0)(SV:Bb)(ks:Nat)(word:List Rd)(cI:word.length<=100)(t:Int)(ht:yF a 0 word=J t)(Aw:Bb)(kw:Nat)(w:Ba)(hS:SAt w w.heap.size SV a.sts)(hW:RAt w w.heap.size Aw word) :
  Ap An 48 #[Aj #[O U a.n,I SV a.sts.length ks],I Aw word.length kw] w fun e w'=>e=Am (.tuple #[O U t,O U 0])/\Ao w.heap.size w w':=by
 obtain⟨rH,dK,_⟩:=yj hf h;have df:=hf.1;obtain⟨w1,ag,d0,bq,aw⟩:=zq w #[O U a.n,I SV a.sts.length ks] 27;have AZ:=jy a hf SV ks w1 ((hS.keep aw).more aw.size);rw[h] at AZ;have AZ:=zH AZ;have na:=zH (fun (X:Ba) (hX:Ao w1.heap.size w1 X)=>Qk a hf SV ks X ((((hS.keep aw).more aw.size).keep hX).more hX.size));have Vl:=zH (fun (X:Ba) (hX:Ao w1.heap.size w1 X)=>(((hW.keep aw).more aw.size).keep hX).more hX.size);have O5:=zH (fun (j:Nat) (hj:j<a.sts.length) (r:Rd)=>tab_next rH hj r);have pl:=zH (fun (s u:Int) (r:Rd) (h:jb a s r=J u)=>next_in rH h);have HT:=zH ht;have HB:=zH aw;have al:=zH ag;obtain⟨q0,q1,_⟩:=Ka d0;have D0:=zH d0;obtain⟨n,hn⟩:=Kh word.length;have HN:=zH hn;rw[hn] at cI ⊢;obtain⟨L,hL⟩:=Kh a.sts.length;unfold Ql at na;rw[hL] at dK df ag d0 AZ na O5 pl q1 al D0 ⊢;clear hS hW hf h rH ht aw ag d0 bq hn hL;have hz:∀W,(zeroValue 3).run An W=.ok (O U 0) W:=fun W=>by kernel_rfl
 go_enter func48,ntmps48;go_wp2_with fail;rw[al.out];go_wp2_with fail;refine AZ.out.mono ?_;rintro e w2 ⟨rfl,ae⟩;have G2:=zH ae;have e2:=La ae D0.out;obtain⟨q0,q1,_⟩:=Ka e2;have HC:=zH (na.out w2 ae);clear ae e2 AZ na al;go_wp2_with fail;refine HC.out.mono ?_;rintro e w3 ⟨g,m,rfl,aR,pM,ap⟩;have G3:As (Ao w1.heap.size w1 w3):=Lc G2.out ap;have nJ:=zH aR;have VL:=zH pM;have cy:=zd aR;clear aR pM ap HC q0 q1;go_wp2_with fail
 go_loopw [8,22] (fun s i wr=>∃k t0:Nat,k<=n/\t0<L/\s=O U (t0:Int)/\i=O U (k:Int)/\As (yF a (t0:Int) (word.drop k)=J t)/\As (Ao w3.heap.size w3 wr)) (fun _ i _=>n-(Aq i).toNat)
 case atStart=>exact⟨0,0,by omega,by omega,rfl,rfl,by rw[LS];exact HT.out,Lp _ _⟩
 obtain⟨k,t0,hk,lP,rfl,rfl,dY,b9⟩:=hrel;have oo:IntKind.i64.wrap ((k:Int)+1)=((k+1:Nat):Int):=by rw[Ly];omega
 by_cases ac:k<n
 . have B7:k<word.length:=by have:=HN.out;omega
   have fI:=dY.out;rw[Lw B7] at fI;obtain⟨r,hr⟩:=Kh (word[k]);rw[hr] at fI;obtain⟨u,hu,Bz⟩:=Zj fI;obtain⟨rP,nt⟩:=pl.out _ _ _ hu;obtain⟨t1,rfl⟩:=Lr rP;have rQ:=O5.out t0 lP r;rw[hu] at rQ;obtain⟨b,o,rfl,aB,r0,r1,r2,r3,r4,r5,r6⟩:=(Vl.out wr (Lc G3.out b9.out)).row k B7;rw[hr] at r0 r1 r2 r3 r4 r5 r6;have cK:(0:Int)<=(k:Int):=by omega
   have bY:(k:Int)<(n:Int):=by omega
   have Hw:(0:Int)<=(t0:Int):=by omega
   have h01:(t0:Int)<(L:Int):=by omega
   have SQ:=HT.out;obtain⟨W4,lD,d4,fK,cD⟩:=zq wr r.cells 75;have G4:As (Ao w3.heap.size w3 W4):=Lc b9.out cD;have c1:=za (Lb G4.out cy nJ.out) t0 (Xn lP);rw[Ln lP] at c1;obtain⟨nm,Gc⟩:=VL.out t0 lP;have cj:=(Gc.same (w':=W4.drew) (G4.out.block _ Gc.lt)).look2 gB underlying159 (hz W4.drew) r;rw[rQ] at cj;unfold Rd.cells at lD d4 cj;simp only[Option.map_some,Option.getD_some,Option.isSome_some] at cj;have AD:=zH lD;have dm:=zH Bz;obtain⟨d0,d1,d2,d3,d4',d5,d6,_⟩:=Kf d4;clear lD d4 fK cD Gc rQ hu fI Bz dY hr SQ;go_upto_region 8 with fail
   rw[AD.out];clear r0 r1 r2 r3 r4 r5 r6;refine zE [(0,Av),(1,Av),(2,Av),(3,Av),(4,Av),(5,Av),(6,Av),(7,Av),(8,Av),(9,Av),(10,Av)] (fun X=>X=W4.drew) (by kernel_rfl) (by kernel_rfl) rfl ?_
   repeat (apply zX rfl;rintro K' ai X rfl;go_simp;exact ai)
   refine yh ?_;have tr:As (Ao w3.heap.size w3 W4.drew):=G4.out.drew;go_wp2_with fail
   go_roundw
   case rel=>exact⟨k+1,t1,by omega,by omega,rfl,by go_num,dm,tr⟩
   simp[Aq];omega
 obtain rfl:n=k:=by omega
 have bY:¬(n:Int)<(n:Int):=by omega
 have fI:=dY.out;rw[P6 (by have:=HN.out;omega),yF] at fI;have he:t=(t0:Int):=(NG fI).symm;have DR:=zH (HB.out.trans (((Lc G3.out b9.out)).mono HB.out.size));clear dY fI HT;go_wp2_with fail
 go_ret2
 exact⟨rfl,DR.out⟩
theorem Qj(a:Ad)(hf:FewA a)(h:xy a=0)(SV:Bb)(ks:Nat)(word:List Rd)(cI:word.length<=100)(t:Int)(ht:yF a 0 word=J t)(Aw:Bb)(kw:Nat)(w:Ba)(hS:SAt w w.heap.size SV a.sts)(hW:RAt w w.heap.size Aw word) :
  Ap An 18 #[Aj #[O U a.n,I SV a.sts.length ks],I Aw word.length kw] w fun e w'=>e=Am (.tuple #[Ai Av,O U 0])/\Ao w.heap.size w w':=by
 obtain⟨w1,ag,d0,bq,aw⟩:=zq w #[O U a.n,I SV a.sts.length ks] 27;have HC:=zH (Qg a hf h SV ks word cI t ht Aw kw w1 ((hS.keep aw).more aw.size) ((hW.keep aw).more aw.size));have HB:=zH aw;have al:=zH ag;obtain⟨q0,q1,_⟩:=Ka d0;clear hS hW hf h ht aw ag d0 bq;go_enter func18,ntmps18;go_wp2_with fail;rw[al.out];go_wp2_with fail;refine HC.out.mono ?_;rintro e w2 ⟨rfl,ae⟩;have aU:=zH (Lc HB.out ae);clear ae HC;go_wp2_with fail
 go_ret2
 exact⟨rfl,aU.out⟩
end
section
open Go.RowKit
attribute [local go_sem] Oper.semAt_some
theorem Xu(p:Pb)(hl:wV p)(A:Bb)(kc:Nat)(SV:Bb)(ks:Nat)(w:Ba)(hA:CAt w w.heap.size A p.t.cases)(hS:SAt w w.heap.size SV p.a.sts) :
  Ap An 5 #[.agg (p.vs A kc SV ks)] w fun e w'=>e=Am (Ai Av)/\Ao w.heap.size w w':=by
 obtain⟨w1,ag,d0,bq,aw⟩:=zq w (p.vs A kc SV ks) 29;have eP:=(hA.keep aw).more aw.size;have oV:=(hS.keep aw).more aw.size;have bX:=zH (bld_any p hl A kc SV ks w1 eP oV);have iM:=zH (fun h=>vQ (p:=p) h);have VO:=zH hl;have ph:=zH (fun (X:Ba) (hX:Ao w1.heap.size w1 X)=>(eP.keep hX).more hX.size);have Dp:=zH (fun (X:Ba) (hX:Ao w1.heap.size w1 X)=>(oV.keep hX).more hX.size);obtain⟨r,hr⟩:=Kh (qb p);unfold YQ at bX;rw[hr] at bX;have iL:=zH hr;unfold Pb.vs at ag d0 bX ⊢;have al:=zH ag;have bn:=zH d0;have dp:=zH aw;obtain⟨p0,p1,p2,p3,p4,p5,p6,_⟩:=Kf d0;clear ag d0 aw hA hS eP oV hr hl;go_enter func5,ntmps5;go_wp2_with fail;rw[al.out];go_wp2_with fail;refine bX.out.mono ?_;rintro e w2 ⟨h1,h2,ae⟩;have G2:=zH ae;have B2:=zH (dp.out.trans (ae.mono (by omega)));have dq:=ae.size;have en:=zH (La ae bn.out);clear bX al p0 p1 p2 p3 p4 p5 p6 ae
 cases r with
 | false=>
  obtain rfl:=h1 rfl;clear h1 h2 iM;go_wp2_with fail;refine(Zf _).mono ?_;rintro e w3 ⟨rfl,ap⟩;have B3:=zH (B2.out.trans (((zt w2 _).trans (ap.mono (by simp))).mono B2.out.size));clear ap;go_wp2_with fail;go_ret;exact⟨rfl,B3.out⟩
 | true=>
 obtain⟨A2,dD,db,dC,AV,kv,AX,kx,rfl,iD,fi,fH⟩:=h2 rfl;obtain⟨u',lO,hf,h0,da,F',K,N,hF,p'⟩:=iM.out iL.out;obtain⟨ep,ip,ln,cK,mA⟩:=zK h0;obtain⟨rH,dK,_⟩:=yj hf.1.2 ip;obtain⟨c1,_⟩:=yn ep;have mY:As (LowS (zL p)):=by have:=qL VO.out hf;rw[u'] at this;exact this
 have fg:As (qn (zL p).p):=hf;have aC:(zL p).xs.length=zA p:=ct_len p';obtain⟨Cj,Ci⟩:=ct_cut h0 da c1;have Ff:=zH (fun (i:Nat) (hi:i<(zL p).xs.length)=>ct_find p' rH lO hi);have rg:=zH (fun (i:Nat) (hi:i<(zL p).xs.length)=>ct_word p' hF rH (Ld hi));have Ws:=zH (fun (word:List Rd) (cI:word.length<=100) (t:Int) (ht:yF p.a 0 word=J t) (Aw:Bb) (kw:Nat) (X:Ba) (hX:Ao w1.heap.size w1 X) (hW:RAt X X.heap.size Aw word)=>Qj p.a hf.1.2 ip SV ks word cI t ht Aw kw X (Dp.out X hX) hW);have nC:(p.k.toNat:Int)=p.k:=by omega
 have nT:=zH (fun (X:Ba) (hX:Ao w1.heap.size w1 X)=>wF p hf.1 A kc SV ks X (ph.out X hX) (Dp.out X hX));have tx:=zH (fun (X:Ba) (hX:Ao w1.heap.size w1 X)=>ui p.a hf.1.2 ip p.k.toNat (by omega) SV ks X (Dp.out X hX));rw[Cj] at nT;rw[Ci,nC] at tx;have oI:(zL p).xs.length<=60:=by rw[aC];exact da
 obtain⟨T,hT⟩:=Kh (zL p);have pY:T.p=p:=by rw[<-hT];rfl
 rw[hT] at mY fg Ff rg oI aC lO iD ⊢;rw[pY] at rg;obtain⟨W3,bU,b3,rJ,aW⟩:=zq w2 (T.vs_ A2 dD db dC AV kv AX kx) 36;have dz:=zH (fun (X:Ba) (hX:Ao W3.heap.size W3 X)=>(iD.up aW).up hX);have mU:=zH (fun (X:Ba) (hX:Ao W3.heap.size W3 X)=>ur T mY.out fg.out A2 db AV AX dD dC kv kx X (dz.out X hX));rw[lO] at mU;have rB:=zH (fun (i:Nat) (hi:i<T.xs.length) (cI:T.xs[i].word.length<=100) (Aw:Bb) (kw:Nat) (X:Ba) (hX:Ao W3.heap.size W3 X) (hW:RAt X X.heap.size Aw T.xs[i].word)=>QY T mY.out fg.out T.xs[i].c T.xs[i].word (Lz cI (by decide)) A2 db AV AX Aw dD dC kv kx kw X (dz.out X hX) hW);have G3:As (Ao w1.heap.size w1 W3):=Lc G2.out aW;have E8:As (∀X,Ao W3.heap.size W3 X->X.heap[w.heap.size]?=J (Ah #[O U p.t.n,O U p.t.ins,O U p.t.outs,I A p.t.cases.length kc,O U p.a.n,I SV p.a.sts.length ks,O U p.k] 29 (0,0))):=fun X hX=>Lb hX (LF (zd en.out) aW.size) (La aW en.out)
 unfold Sy.vs_ at bU b3 mU rB ⊢;have ez:=zH bU;have mW:As (∀X,Ao W3.heap.size W3 X->X.heap[w2.heap.size]?=J (Ah #[O U T.p.t.n,O U T.p.t.ins,O U T.p.t.outs,I A2 T.p.t.cases.length dD,O U T.p.a.n,I db T.p.a.sts.length dC,O U T.p.k,O U T.n,I AV T.vs.length kv,I AX T.xs.length kx] 36 (0,0))):=fun X hX=>La hX b3
 obtain⟨c0,mG⟩:=Kh (zI p.a p.k.toNat 0);have BS:(p.t.cases.length:Int)*(c0:Int)=(T.xs.length:Int):=by rw[aC,<-mG];unfold zA;rw[N2];push_cast;rfl
 rw[<-aC] at nT;rw[mG] at tx;have BR:IntKind.i64.wrap ((p.t.cases.length:Int)*(c0:Int))=(T.xs.length:Int):=by rw[BS,Ly];omega
 have Ki:=zH BR;have bE:As (Ao w.heap.size w W3):=dp.out.trans (G3.out.mono (by omega));clear h1 h2 iD bU aW b3 u' lO hf h0 da F' hF p' hT iM fi fH en ep ip ln cK mA rH dK c1 Cj Ci nC mG pY BS aC BR;go_upto_region 2 with fail
 rw[ez.out];go_upto_region 4 with fail
 have Gb:As (Ao W3.heap.size W3 W3):=Lp _ _;have e1:=E8.out _ Gb.out;obtain⟨p0,p1,p2,p3,p4,p5,p6,_⟩:=Kf e1;have HC:=zH (nT.out W3 G3.out);clear e1;unfold Pb.vs at HC;go_wp2_with fail;refine HC.out.mono ?_;rintro e w4 ⟨rfl,be⟩;have G4:=zH be;have e1:=E8.out _ G4.out;clear p0 p1 p2 p3 p4 p5 p6 HC be;have p4:=za e1 4 rfl;have p5:=za e1 5 rfl;have p6:=za e1 6 rfl;have HC:=zH (tx.out w4 (Lc G3.out G4.out));clear e1;go_wp2_with fail;refine HC.out.mono ?_;rintro e w5 ⟨rfl,bZ⟩;have G5:As (Ao W3.heap.size W3 w5):=Lc G4.out bZ;clear p4 p5 p6 HC bZ;go_upto_region 6 with fail
 have hmw:=Ki.out;have e1:=mW.out _ G5.out;obtain⟨y0,y1,y2,y3,y4,y5,y6,y7,y8,y9⟩:=ya (e1);have p3:=za (E8.out _ G5.out) 3 rfl;have HC:=zH (mU.out w5 G5.out);clear e1;go_wp2_with fail;refine HC.out.mono ?_;rintro e w6 ⟨rfl,cS⟩;have GY:As (Ao W3.heap.size W3 w6):=Lc G5.out cS;clear cS HC p3 y0 y1 y2 y3 y4 y5 y6 y7 y8 y9;go_upto_region 8 with fail
 have x9:=za (mW.out _ GY.out) 9 rfl;go_wp2_with fail;clear x9
 go_loopw [76] (fun i wr=>∃k:Nat,k<=T.xs.length/\i=O U (k:Int)/\As (Ao W3.heap.size W3 wr)) (fun i _=>T.xs.length-(Aq i).toNat)
 case atStart=>exact⟨0,by omega,rfl,GY⟩
 obtain⟨k,hk,rfl,b9⟩:=hrel;have oo:IntKind.i64.wrap ((k:Int)+1)=((k+1:Nat):Int):=by rw[Ly];omega
 by_cases ac:k<T.xs.length
 . have cK:(0:Int)<=(k:Int):=by omega
   have bY:(k:Int)<(T.xs.length:Int):=by omega
   obtain⟨cI,t,ht⟩:=rg.out k ac;have M6:=Ff.out k ac;have AT:=zH (rB.out k ac cI);rw[M6] at AT;have Sj:=zH (Ws.out _ cI t ht);obtain⟨b,o,A1,n1,A3,n3,rfl,aB,q0,q1,q2,hW,_⟩:=(dz.out wr b9.out).fx.row k ac;obtain⟨x,hx⟩:=Kh (T.xs[k]);rw[hx] at q0 q1 q2 hW AT Sj;obtain⟨W6,mJ,d6,oD,iG⟩:=zq wr #[O U x.c,I A1 x.word.length n1,I A3 x.views.length n3] 42;have nI:=zH mJ;have G6:As (Ao W3.heap.size W3 W6):=Lc b9.out iG;have rl:=zH (fun (X:Ba) (hX:Ao W6.heap.size W6 X)=>(((hW.keep iG).more iG.size).keep hX).more hX.size);have Sc:As (∀X,Ao W6.heap.size W6 X->X.heap[wr.heap.size]?=J (Ah #[O U x.c,I A1 x.word.length n1,I A3 x.views.length n3] 42 (0,0))):=fun X hX=>La hX d6
   have Gz:As (Ao W6.heap.size W6 W6):=Lp _ _;clear mJ d6 oD iG hW cI ht M6 hx;go_upto_region 11 with fail
   rw[nI.out];have e1:=E8.out _ G6.out;have p4:=za e1 4 rfl;have p5:=za e1 5 rfl;have e2:=Sc.out _ Gz.out;obtain⟨d0,d1,d2,_⟩:=Kc e2;have HC:=zH (Sj.out A1 n1 W6 (Lc G3.out G6.out) (rl.out _ Gz.out));clear q0 q1 q2 e1 e2;go_wp2_with fail;refine HC.out.mono ?_;rintro e w7 ⟨rfl,dv⟩;have G7:As (Ao W3.heap.size W3 w7):=Lc G6.out dv;have e1:=mW.out _ G7.out;have e2:=Sc.out _ dv;have HC:=zH (AT.out A1 n1 w7 G7.out (rl.out _ dv));clear d0 d1 d2 p4 p5;obtain⟨y0,y1,y2,y3,y4,y5,y6,y7,y8,y9⟩:=ya (e1);obtain⟨d0,d1,d2,_⟩:=Kc e2;clear e1 e2 dv;go_wp2_with fail;refine HC.out.mono ?_;rintro e w8 ⟨rfl,ed⟩;have G8:As (Ao W3.heap.size W3 w8):=Lc G7.out ed;clear ed HC d0 d1 d2 y0 y1 y2 y3 y4 y5 y6 y7 y8 y9;go_wp2_with fail
   go_roundw
   case rel=>exact⟨k+1,by omega,by go_num,G8⟩
   simp[Aq];omega
 obtain TR:T.xs.length=k:=by omega
 have bY:¬(k:Int)<(T.xs.length:Int):=by omega
 clear TR;go_wp2_with fail;refine(Zf _).mono ?_;rintro e w9 ⟨rfl,lV⟩;have DR:=zH (bE.out.trans ((Lc b9.out lV).mono bE.out.size));clear lV;go_wp2_with fail;go_ret;exact⟨rfl,DR.out⟩
end
end Go.Proofs.YtkledihebeidlaaGreatDoor
