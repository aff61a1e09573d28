/- Merged. -/
import Derived.Test.YtkledihebeidlaaGreatDoorXd
open Go.Proofs.Tryz
open Go.Value renaming int->O,slice->I,bool->Ah,agg->Ai,pointer->Aj
open Go.IntKind renaming i64->U
open Option renaming none->Z,some->J
open Go.Obj renaming cells->Ag
open Go.Ending renaming returned->Ak
open Go.Proofs.Tryz renaming prog->Al
open Go.RowKit renaming Below->Am,intOf->Ao,Hid->Ap
open Go renaming Calls->An,Value->Aq
open Bool renaming true->Ar,false->As
open Go.World.ownsRow renaming lt->P7
open Go.RowKit.Below renaming setCell->Lv
namespace Go.Proofs.YtkledihebeidlaaGreatDoor
abbrev Ps:=@Nat.mul_comm
abbrev Rp:=@List.mem_of_mem_take
set_option maxRecDepth 100000
set_option maxHeartbeats 8000000
section
open Go.RowKit Go.Shelf
structure BlIn(p:Pb)(D B bB bM b7:Nat)(SC:Aq->Array Aq)(WR:Ba)(l:List (Nat×List Rd))(V E:Aq)(X:Ba):Prop where
 wr:Wrote (fun k=>k=bB\/k=bM\/k=b7) WR X
 bd:BdIn B bB bM p.t.n V (zl p l).1 X
 sys:X.heap[b7]?=J (Ag (SC E) 36 (0,0))
 out:OwnX ZY (fun k=>D<=k/\V.ownBlock≠J k) X D E (zl p l).2
 no:∀k,V.ownBlock=J k->D<=k/\E.ownBlock≠J k
structure BlB(D B bB bM b7:Nat)(WR:Ba):Prop where
 d:WR.heap.size=D
 b:bB<D
 m:bM<D
 s:b7<D
 lo:B<=bB/\B<=bM/\B<=b7
 bs:bB≠b7
 ms:bM≠b7
section
variable {p:Pb} {D B bB bM b7:Nat} {SC:Aq->Array Aq} {WR X:Ba} {l:List (Nat×List Rd)} {V E:Aq}
theorem BlIn.big(h:BlIn p D B bB bM b7 SC WR l V E X)(hb:BlB D B bB bM b7 WR):D<=X.heap.size:=by have:=h.wr.size;have:=hb.d;omega
theorem BlIn.bel(h:BlIn p D B bB bM b7 SC WR l V E X)(hb:BlB D B bB bM b7 WR):Am B WR X:=h.wr.below (by have:=hb.d;have:=hb.lo;have:=hb.b;omega) fun k hk hr=>by
 have:=hb.lo;rcases hr with e | e | e<;>omega
theorem BlIn.same(h:BlIn p D B bB bM b7 SC WR l V E X)(hb:BlB D B bB bM b7 WR){k:Nat}(hk:k<D)(h1:k≠bB)(h2:k≠bM)(h3:k≠b7):X.heap[k]?=WR.heap[k]?:=
 h.wr.block k (by have:=hb.d;omega) fun hr=>by rcases hr with e | e | e<;>contradiction
theorem BlIn.turn(h:BlIn p D B bB bM b7 SC WR l V E X)(hb:BlB D B bB bM b7 WR){X':Ba}{row:Option Nat}(hg:X.grownBy X' row)(hr:∀r,row=J r->D<=r/\∃o:Obj,X.heap[r]?=J o/\o.isCells=As):BlIn p D B bB bM b7 SC WR l V E X':=by
 have hc:∀(k:Nat) (o:Obj),X.heap[k]?=J o->o.isCells=Ar->X'.heap[k]?=J o:=fun k o hk ho=>(LI hg (fun r e=>(hr r e).2) hk ho).trans hk
 obtain⟨m,hm⟩:=h.bd.num;refine⟨h.wr.trans (Wrote.of_grown (R:=fun k=>D<=k) hg (fun k e _=>(hr k e).1)) (fun k hk e=>by have:=hb.d;omega),⟨hc _ _ h.bd.hB rfl,⟨m,hm.same (hg.block bM hm.lt fun e=>by have:=(hr bM e.symm).1;have:=hb.m;omega)⟩,?_,h.bd.ne,h.bd.bm,h.bd.lo⟩,hc _ _ h.sys rfl,h.out.turn zx hg.size hc,h.no⟩;refine⟨h.bd.own.1,?_⟩;rcases h.bd.own.2 with hn | ⟨g,cap,cur,mX,cz,oA,rest⟩
 . exact .inl hn
 exact .inr ⟨g,cap,cur,mX,cz,hc g _ oA rfl,rest⟩
theorem BlIn.outn(h:BlIn p D B bB bM b7 SC WR l V E X)(hb:BlB D B bB bM b7 WR){w2 w3:Ba}{V':Aq}(h2:Am X.heap.size X w2)(ho:BdOn bB bM V w2 V' w3) :
  OwnX ZY (fun k=>D<=k/\V'.ownBlock≠J k) w3 D E (zl p l).2/\∀k,V'.ownBlock=J k->D<=k/\E.ownBlock≠J k:=by
 have hs:=h2.size;have hD:=h.big hb;have ft:=h.out.lt
 have h1:OwnX ZY (fun k=>(D<=k/\V.ownBlock≠J k)/\V'.ownBlock≠J k) w2 D E (zl p l).2:=
  (h.out.mono (S':=fun k=>(D<=k/\V.ownBlock≠J k)/\V'.ownBlock≠J k) zx fun k hk hs=>⟨hs,fun e=>by
   rcases ho.2 k e with e | e
   . exact hs.2 e
   . omega⟩).below zx h2 (Lh _)
 refine⟨(h1.keep zx (ho.1.keep fun k _ hs hr=>?_) fun k hk=>ho.1.block k (by have:=(ft k hk).2;omega) fun hr=>?_).mono zx fun k _ hs=>⟨hs.1.1,hs.2⟩,fun k hk=>?_⟩
 . rcases hr with e | e | e
   . have:=hb.b;have:=hs.1.1;omega
   . have:=hb.m;have:=hs.1.1;omega
   exact hs.1.2 e
 . have:=(ft k hk).1
   rcases hr with e | e | e
   . have:=hb.b;omega
   . have:=hb.m;omega
   exact(h.no k e).2 hk
 rcases ho.2 k hk with e | e
 . exact h.no k e
 exact⟨by omega,fun e2=>by have:=(ft k e2).2;omega⟩
theorem BlIn.lies(h:BlIn p D B bB bM b7 SC WR l V E X)(hb:BlB D B bB bM b7 WR){w2 w3 W4:Ba}{V' v:Aq}{i:Nat}{word:List Rd}{views:List (List Int)}{A2 A3:Bb}{c2 c3:Nat}(h2:Am X.heap.size X w2)(ho:BdOn bB bM V w2 V' w3)(h4:Am w3.heap.size w3 W4)
  (hw:RAtS (fun k=>X.heap.size<=k) w2 A2 word) (hv:LAtS (fun k=>(w2.heap.size<=k/\V'.ownBlock≠J k)\/v.ownBlock=J k) w3 A3 views) (cS:∀k,v.ownBlock=J k->w2.heap.size<=k) (Si:∀k,V'.ownBlock=J k->v.ownBlock≠J k) (BU:word.length<=c2) :
  ZY.lies (fun k=>(D<=k/\V'.ownBlock≠J k)/\E.ownBlock≠J k) W4 [O U i,I A2 word.length c2,I A3 views.length c3] ⟨i,word,views⟩:=by
 have hs:=h2.size;have hD:=h.big hb;have ft:=h.out.lt;have Fe:=h.bd.own.lt;refine⟨A2,c2,A3,c3,rfl,?_,?_,BU⟩
 . have h5:RAtS (fun k=>X.heap.size<=k/\k<w2.heap.size) w2 A2 word:=hw.mono fun k hk hs=>⟨hs,hk⟩
   have h6:=h5.keep (ho.1.keep fun k _ hs hr=>by
    rcases hr with e | e | e
    . have:=hb.b;omega
    . have:=hb.m;omega
    . have:=(Fe k e).2;omega)
   have h7:RAtS (fun k=>(D<=k/\V'.ownBlock≠J k)/\E.ownBlock≠J k) w3 A2 word:=h6.mono fun k _ hs=>⟨⟨by omega,fun e=>by
    rcases ho.2 k e with e | e
    . have:=(Fe k e).2;omega
    . omega⟩,fun e=>by have:=(ft k e).2;omega⟩
   exact h7.on h4
 have h7 : LAtS (fun k => (D <= k /\ V'.ownBlock ≠ J k) /\ E.ownBlock ≠ J k) w3 A3 views := hv.mono fun k _ hs => by
  rcases hs with hs | hs
  . exact⟨⟨by omega,hs.2⟩,fun e=>by have:=(ft k e).2;omega⟩
  . have:=cS k hs
    exact⟨⟨by omega,fun e=>Si k e hs⟩,fun e=>by have:=(ft k e).2;omega⟩
 exact h7.on h4
theorem BlIn.next(h:BlIn p D B bB bM b7 SC WR l V E X)(hb:BlB D B bB bM b7 WR){w2 w3 W4 w5:Ba}{V':Aq}{x:Nat×List Rd}{cs:List Aq}{aC:List (List Aq)}{g' cap:Nat}(h2:Am X.heap.size X w2)(ho:BdOn bB bM V w2 V' w3)(h4:Am w3.heap.size w3 W4)
  (hd:BdIn B bB bM p.t.n V' (zi (zl p l).1 p.t.n.toNat (yf p x.1) x.2 x.2.length).1 w3)
  (Sv:∀E':Aq,(SC E).setIfInBounds 9 E'=SC E')
  (bD:aC.length=(zl p l).2.length) (bl:∀(i:Nat) (h1:i<aC.length) (h2:i<(zl p l).2.length),ZY.lies (fun k=>(D<=k/\V'.ownBlock≠J k)/\E.ownBlock≠J k) W4 aC[i] (zl p l).2[i])
  (hX:ZY.lies (fun k=>(D<=k/\V'.ownBlock≠J k)/\E.ownBlock≠J k) W4 cs ⟨x.1,x.2,(zi (zl p l).1 p.t.n.toNat (yf p x.1) x.2 x.2.length).2⟩)
  (hr:OwnR kXn w5 D (I (J ⟨g',0,Z⟩) ((zl p l).2.length+1) cap) ((zl p l).2.length+1) (aC.flatten++cs)) (hg:W4.grownBy w5 E.ownBlock) (bn:E.ownBlock=J g'\/g'=W4.heap.size) :
  BlIn p D B bB bM b7 SC WR (l++[x]) V' (I (J ⟨g',0,Z⟩) ((zl p l).2.length+1) cap) (w5.setCell ⟨b7,9,Z⟩ (I (J ⟨g',0,Z⟩) ((zl p l).2.length+1) cap)) /\
   KeepsFrom D X (w5.setCell ⟨b7,9,Z⟩ (I (J ⟨g',0,Z⟩) ((zl p l).2.length+1) cap)) /\
   Wrote (fun k=>k=bB\/k=bM\/k=b7\/D<=k) X (w5.setCell ⟨b7,9,Z⟩ (I (J ⟨g',0,Z⟩) ((zl p l).2.length+1) cap)):=by
 have hs:=h2.size;have hD:=h.big hb;have le:=ho.1.size;have fW:=h4.size;have ft:=h.out.lt;have Fe:=h.bd.own.lt;obtain⟨_,eF⟩:=h.outn hb h2 ho;have cI:=hr.lt g' rfl;have aD:=hb.lo;obtain⟨e1,e2,e3⟩:bB<D/\bM<D/\b7<D:=⟨hb.b,hb.m,hb.s⟩;have GG:∀k,k<D->E.ownBlock≠J k:=fun k hk e=>by have:=(ft k e).1;omega
 have Mq:∀k,V'.ownBlock=J k->D<=k:=fun k e=>(eF k e).1
 have hW:Wrote (fun k=>k=bB\/k=bM\/k=b7\/V.ownBlock=J k\/E.ownBlock=J k) X (w5.setCell ⟨b7,9,Z⟩ (I (J ⟨g',0,Z⟩) ((zl p l).2.length+1) cap)):=by
  refine((((Wrote.of_below (R:=fun k=>k=bB\/k=bM\/k=b7\/V.ownBlock=J k\/E.ownBlock=J k) h2).trans ho.1 fun k _ hr=>?_).trans (Wrote.of_below (R:=fun _=>False) h4) fun _ _ h=>h.elim).trans (Wrote.of_grown (R:=fun k=>E.ownBlock=J k) hg fun _ e _=>e) fun k _ e=>?_).trans (Wrote.of_grown (R:=fun k=>k=b7) (yj w5 b7 9 _) fun k e _=>by cases e;rfl) fun k _ e=>?_
  . rcases hr with e | e | e
    . exact .inl e
    . exact .inr (.inl e)
    exact .inr (.inr (.inr (.inl e)))
  . exact .inr (.inr (.inr (.inr e)))
  exact .inr (.inr (.inl e))
 have aK:w5.heap[b7]?=J (Ag (SC E) 36 (0,0)):=by
  refine(hg.block b7 (by omega) fun e=>GG b7 e3 e.symm).trans ((h4.block b7 (by omega)).trans ((ho.1.block b7 (by omega) fun hr=>?_).trans ((h2.block b7 (by omega)).trans h.sys)));rcases hr with e | e | e
  . exact hb.bs e.symm
  . exact hb.ms e.symm
  have:=(h.no b7 e).1;omega
 have DR:=((hd.on h4).grown hg (fun e=>GG bB e1 e) (fun e=>GG bM e2 e) (fun k hk e=>(eF k hk).2 e)).set (g:=b7) (fun e=>hb.bs e.symm) (fun e=>hb.ms e.symm) (fun e=>by have:=Mq b7 e;omega) 9 (I (J ⟨g',0,Z⟩) ((zl p l).2.length+1) cap);have de:=xH p l x;refine⟨⟨?_,?_,?_,?_,?_⟩,?_,hW.more fun k _ hr=>?_⟩
 . refine h.wr.trans hW fun k hk hr=>?_
   have:=hb.d;rcases hr with e | e | e | e | e
   . exact .inl e
   . exact .inr (.inl e)
   . exact .inr (.inr e)
   . have:=(h.no k e).1;omega
   have:=(ft k e).1;omega
 . rw[de];exact DR
 . rw[Li w5 b7 9 _ _ _ aK,Sv]
 . rw[de]
   have h8:=OwnX.app zx bD bl hX hr hg bn;refine h8.kept zx (yj w5 b7 9 _) (.inr (fun e=>?_)) (fun k e=>.inl fun hs=>?_)
   . have:g'=b7:=by simpa[Value.ownBlock] using e
     omega
   cases e;have:=hs.1;omega
 . intro k hk
   refine⟨Mq k hk,fun e=>?_⟩;have:g'=k:=by simpa[Value.ownBlock] using e
   subst this;rcases bn with e | e
   . exact(eF g' hk).2 e
   have:=(hd.own.lt g' hk).2;omega
 . refine⟨hW.size,fun k o hk bW Ma=>(hW.block k (zd bW) fun hr=>?_).trans bW⟩
   rcases hr with e | e | e | e | e
   . omega
   . omega
   . omega
   . rcases h.bd.own.2 with ⟨hn,_⟩ | ⟨g,aZ,cur,mX,_,oA,_⟩
     . rw[hn] at e;cases e
     rw[mX] at e;cases e;rw[oA] at bW;cases bW;cases Ma
   obtain⟨Vc,_,iq,_⟩:=h.out;rcases iq.2 with ⟨hn,_⟩ | ⟨g,aZ,cur,mX,_,oA,_⟩
   . rw[hn] at e;cases e
   rw[mX] at e;cases e;rw[oA] at bW;cases bW;cases Ma
 rcases hr with e | e | e | e | e
 . exact .inl e
 . exact .inr (.inl e)
 . exact .inr (.inr (.inl e))
 . exact .inr (.inr (.inr (h.no k e).1))
 exact .inr (.inr (.inr (ft k e).1))
end
end
section
open Go.RowKit Go.Shelf
attribute [local go_sem] Oper.semAt_some
theorem kK{w X:Ba}{g h B:Nat}{a0 a1 a2 a3 a4 a5 a6 a7 a8 a9 u0:Aq}(v0 v1 v2 v3 v4 v5 v6 v7 v8 v9 u:Aq)(hg:X.heap[g]?=J (Ag #[a0,a1,a2,a3,a4,a5,a6,a7,a8,a9] 36 (0,0)))(hh:X.heap[h]?=J (Ag #[u0] 46 (0,0)))
  (bj:g≠h) (hB:Am B w X) (h1:B<=g) (h2:B<=h) :
  (((((((((((X.setCell ⟨g,0,Z⟩ v0).setCell ⟨g,1,Z⟩ v1).setCell ⟨g,2,Z⟩ v2).setCell ⟨g,3,Z⟩ v3).setCell ⟨g,4,Z⟩ v4).setCell ⟨g,5,Z⟩ v5).setCell ⟨g,6,Z⟩ v6).setCell ⟨g,7,Z⟩ v7).setCell ⟨g,8,Z⟩ v8).setCell ⟨g,9,Z⟩ v9).setCell ⟨h,0,Z⟩ u).heap[g]?=J (Ag #[v0,v1,v2,v3,v4,v5,v6,v7,v8,v9] 36 (0,0))/\(((((((((((X.setCell ⟨g,0,Z⟩ v0).setCell ⟨g,1,Z⟩ v1).setCell ⟨g,2,Z⟩ v2).setCell ⟨g,3,Z⟩ v3).setCell ⟨g,4,Z⟩ v4).setCell ⟨g,5,Z⟩ v5).setCell ⟨g,6,Z⟩ v6).setCell ⟨g,7,Z⟩ v7).setCell ⟨g,8,Z⟩ v8).setCell ⟨g,9,Z⟩ v9).setCell ⟨h,0,Z⟩ u).heap[h]?=J (Ag #[u] 46 (0,0))/\Am B w (((((((((((X.setCell ⟨g,0,Z⟩ v0).setCell ⟨g,1,Z⟩ v1).setCell ⟨g,2,Z⟩ v2).setCell ⟨g,3,Z⟩ v3).setCell ⟨g,4,Z⟩ v4).setCell ⟨g,5,Z⟩ v5).setCell ⟨g,6,Z⟩ v6).setCell ⟨g,7,Z⟩ v7).setCell ⟨g,8,Z⟩ v8).setCell ⟨g,9,Z⟩ v9).setCell ⟨h,0,Z⟩ u) /\
   (((((((((((X.setCell ⟨g,0,Z⟩ v0).setCell ⟨g,1,Z⟩ v1).setCell ⟨g,2,Z⟩ v2).setCell ⟨g,3,Z⟩ v3).setCell ⟨g,4,Z⟩ v4).setCell ⟨g,5,Z⟩ v5).setCell ⟨g,6,Z⟩ v6).setCell ⟨g,7,Z⟩ v7).setCell ⟨g,8,Z⟩ v8).setCell ⟨g,9,Z⟩ v9).setCell ⟨h,0,Z⟩ u).heap.size=X.heap.size/\(∀k,k≠g->k≠h->(((((((((((X.setCell ⟨g,0,Z⟩ v0).setCell ⟨g,1,Z⟩ v1).setCell ⟨g,2,Z⟩ v2).setCell ⟨g,3,Z⟩ v3).setCell ⟨g,4,Z⟩ v4).setCell ⟨g,5,Z⟩ v5).setCell ⟨g,6,Z⟩ v6).setCell ⟨g,7,Z⟩ v7).setCell ⟨g,8,Z⟩ v8).setCell ⟨g,9,Z⟩ v9).setCell ⟨h,0,Z⟩ u).heap[k]?=X.heap[k]?):=by
 have k0:(X.setCell ⟨g,0,Z⟩ v0).heap[g]?=J (Ag #[v0,a1,a2,a3,a4,a5,a6,a7,a8,a9] 36 (0,0)):=Li _ g 0 _ _ v0 hg;have k1:((X.setCell ⟨g,0,Z⟩ v0).setCell ⟨g,1,Z⟩ v1).heap[g]?=J (Ag #[v0,v1,a2,a3,a4,a5,a6,a7,a8,a9] 36 (0,0)):=Li _ g 1 _ _ v1 k0;have k2:(((X.setCell ⟨g,0,Z⟩ v0).setCell ⟨g,1,Z⟩ v1).setCell ⟨g,2,Z⟩ v2).heap[g]?=J (Ag #[v0,v1,v2,a3,a4,a5,a6,a7,a8,a9] 36 (0,0)):=Li _ g 2 _ _ v2 k1;have k3:((((X.setCell ⟨g,0,Z⟩ v0).setCell ⟨g,1,Z⟩ v1).setCell ⟨g,2,Z⟩ v2).setCell ⟨g,3,Z⟩ v3).heap[g]?=J (Ag #[v0,v1,v2,v3,a4,a5,a6,a7,a8,a9] 36 (0,0)):=Li _ g 3 _ _ v3 k2;have k4:(((((X.setCell ⟨g,0,Z⟩ v0).setCell ⟨g,1,Z⟩ v1).setCell ⟨g,2,Z⟩ v2).setCell ⟨g,3,Z⟩ v3).setCell ⟨g,4,Z⟩ v4).heap[g]?=J (Ag #[v0,v1,v2,v3,v4,a5,a6,a7,a8,a9] 36 (0,0)):=Li _ g 4 _ _ v4 k3;have k5:((((((X.setCell ⟨g,0,Z⟩ v0).setCell ⟨g,1,Z⟩ v1).setCell ⟨g,2,Z⟩ v2).setCell ⟨g,3,Z⟩ v3).setCell ⟨g,4,Z⟩ v4).setCell ⟨g,5,Z⟩ v5).heap[g]?=J (Ag #[v0,v1,v2,v3,v4,v5,a6,a7,a8,a9] 36 (0,0)):=Li _ g 5 _ _ v5 k4;have k6:(((((((X.setCell ⟨g,0,Z⟩ v0).setCell ⟨g,1,Z⟩ v1).setCell ⟨g,2,Z⟩ v2).setCell ⟨g,3,Z⟩ v3).setCell ⟨g,4,Z⟩ v4).setCell ⟨g,5,Z⟩ v5).setCell ⟨g,6,Z⟩ v6).heap[g]?=J (Ag #[v0,v1,v2,v3,v4,v5,v6,a7,a8,a9] 36 (0,0)):=Li _ g 6 _ _ v6 k5
 have k7:((((((((X.setCell ⟨g,0,Z⟩ v0).setCell ⟨g,1,Z⟩ v1).setCell ⟨g,2,Z⟩ v2).setCell ⟨g,3,Z⟩ v3).setCell ⟨g,4,Z⟩ v4).setCell ⟨g,5,Z⟩ v5).setCell ⟨g,6,Z⟩ v6).setCell ⟨g,7,Z⟩ v7).heap[g]?=J (Ag #[v0,v1,v2,v3,v4,v5,v6,v7,a8,a9] 36 (0,0)):=Li _ g 7 _ _ v7 k6;have k8:(((((((((X.setCell ⟨g,0,Z⟩ v0).setCell ⟨g,1,Z⟩ v1).setCell ⟨g,2,Z⟩ v2).setCell ⟨g,3,Z⟩ v3).setCell ⟨g,4,Z⟩ v4).setCell ⟨g,5,Z⟩ v5).setCell ⟨g,6,Z⟩ v6).setCell ⟨g,7,Z⟩ v7).setCell ⟨g,8,Z⟩ v8).heap[g]?=J (Ag #[v0,v1,v2,v3,v4,v5,v6,v7,v8,a9] 36 (0,0)):=Li _ g 8 _ _ v8 k7;have k9:((((((((((X.setCell ⟨g,0,Z⟩ v0).setCell ⟨g,1,Z⟩ v1).setCell ⟨g,2,Z⟩ v2).setCell ⟨g,3,Z⟩ v3).setCell ⟨g,4,Z⟩ v4).setCell ⟨g,5,Z⟩ v5).setCell ⟨g,6,Z⟩ v6).setCell ⟨g,7,Z⟩ v7).setCell ⟨g,8,Z⟩ v8).setCell ⟨g,9,Z⟩ v9).heap[g]?=J (Ag #[v0,v1,v2,v3,v4,v5,v6,v7,v8,v9] 36 (0,0)):=Li _ g 9 _ _ v9 k8
 have l9:=(Ld _ ⟨g,9,Z⟩ v9 h (PF bj)).trans ((Ld _ ⟨g,8,Z⟩ v8 h (PF bj)).trans ((Ld _ ⟨g,7,Z⟩ v7 h (PF bj)).trans ((Ld _ ⟨g,6,Z⟩ v6 h (PF bj)).trans ((Ld _ ⟨g,5,Z⟩ v5 h (PF bj)).trans ((Ld _ ⟨g,4,Z⟩ v4 h (PF bj)).trans ((Ld _ ⟨g,3,Z⟩ v3 h (PF bj)).trans ((Ld _ ⟨g,2,Z⟩ v2 h (PF bj)).trans ((Ld _ ⟨g,1,Z⟩ v1 h (PF bj)).trans ((Ld _ ⟨g,0,Z⟩ v0 h (PF bj)).trans (hh))))))))));refine⟨(Ld _ ⟨h,0,Z⟩ u g bj).trans k9,?_,?_,by simp,fun k n1 n2=>?_⟩
 . rw[Li _ h 0 _ _ u l9];rfl
 . refine Lv (p:=⟨h,0,Z⟩) ?_ h2 _
   refine Lv (p:=⟨g,9,Z⟩) ?_ h1 _;refine Lv (p:=⟨g,8,Z⟩) ?_ h1 _;refine Lv (p:=⟨g,7,Z⟩) ?_ h1 _;refine Lv (p:=⟨g,6,Z⟩) ?_ h1 _;refine Lv (p:=⟨g,5,Z⟩) ?_ h1 _;refine Lv (p:=⟨g,4,Z⟩) ?_ h1 _;refine Lv (p:=⟨g,3,Z⟩) ?_ h1 _;refine Lv (p:=⟨g,2,Z⟩) ?_ h1 _;refine Lv (p:=⟨g,1,Z⟩) ?_ h1 _;refine Lv (p:=⟨g,0,Z⟩) ?_ h1 _;exact hB
 refine(Ld _ ⟨h,0,Z⟩ u k n2).trans ?_;refine(Ld _ ⟨g,9,Z⟩ v9 k n1).trans ?_;refine(Ld _ ⟨g,8,Z⟩ v8 k n1).trans ?_;refine(Ld _ ⟨g,7,Z⟩ v7 k n1).trans ?_;refine(Ld _ ⟨g,6,Z⟩ v6 k n1).trans ?_;refine(Ld _ ⟨g,5,Z⟩ v5 k n1).trans ?_;refine(Ld _ ⟨g,4,Z⟩ v4 k n1).trans ?_;refine(Ld _ ⟨g,3,Z⟩ v3 k n1).trans ?_;refine(Ld _ ⟨g,2,Z⟩ v2 k n1).trans ?_;refine(Ld _ ⟨g,1,Z⟩ v1 k n1).trans ?_;exact Ld _ ⟨g,0,Z⟩ v0 k n1
theorem ZG(w:Ba)(o:Obj):∃W0,w.alloc o=W0/\W0.heap[w.heap.size]?=J o/\W0.heap.size=w.heap.size+1/\Am w.heap.size w W0:=⟨_,rfl,ze _ _,by simp,zw w _⟩
theorem jZ{t:Tk}:∀ {q:Option Cs} {l:List Cs},qa t q l=0->∀c∈l,(c.inp.length:Int)=t.n
 | _,[],_,c,hc=>by cases hc
 | q,d::l,h,c,hc=>by
  rw[qa] at h
  split at h
  . rename_i h1;exact absurd h h1
  . rename_i h1
    rcases LF.1 hc with rfl | hc
    . have h2:xB t q c=0:=by simpa using h1
      unfold xB at h2
      split at h2
      . rename_i h3;exact absurd h2 h3
      . rename_i h3
        have h4:zo c.inp t.n t.ins=0:=by simpa using h3
        unfold zo at h4
        split at h4
        . cases h4
        . rename_i h5;simpa using h5
    . exact jZ h c hc
theorem Z6{t:Tk}(h:yz t=0):∀c∈t.cases,(c.inp.length:Int)=t.n:=by
 unfold yz at h
 split at h
 . cases h
 split at h
 . cases h
 exact jZ (by unfold yN at h;rwa[L8] at h)
theorem RowX.turnC{α:Type}{C:Ct α}(ok:CtOk C){S:Nat->Prop}{w w':Ba}{g:Nat}{xs:List α}(h:RowX C S w g xs)(hs:w.heap.size<=w'.heap.size)(hc:∀(k:Nat) (o:Obj),w.heap[k]?=J o->o.isCells=Ar->w'.heap[k]?=J o):RowX C S w' g xs:=by
 obtain⟨cZ,h1,h2⟩:=h;refine⟨cZ,hc _ _ h1 rfl,fun i hi=>?_⟩;obtain⟨cs,h3,h4⟩:=h2 i hi;exact⟨cs,ok.keepC h3 (KeepC.of_cells _ hs hc),h4⟩
theorem OwnV.of_same{w w':Ba}{base:Nat}{v:Aq}{vs:List Vw}(h:OwnV w base v vs)(hk:∀k,v.ownBlock=J k->w'.heap[k]?=w.heap[k]?):OwnV w' base v vs:=by
 refine⟨h.1,?_⟩;rcases h.2 with hn | ⟨g,cap,cur,hv,hb,hg,rest⟩
 . exact .inl hn
 exact .inr ⟨g,cap,cur,hv,hb,(hk g (by rw[hv];rfl)).trans hg,rest⟩
def RetSys(r:Sy×Int)(w:Ba)(e:Ending)(w':Ba):Prop:=∃A kc SV ks AV kv AX kx,e=Ak (.tuple #[.agg (r.1.vs_ A kc SV ks AV kv AX kx),O U r.2])/\SyAt w' w'.heap.size A SV AV AX r.1/\r.1.vs.length<=kv/\kv<=maxLen/\Am w.heap.size w w'
theorem RetSys.zero{w W:Ba}(n:Int)(h:Am w.heap.size w W):RetSys (xC,n) w (Ak (.tuple #[Ai #[O U 0,O U 0,O U 0,I Z 0 0,O U 0,I Z 0 0,O U 0,O U 0,I Z 0 0,I Z 0 0],O U n])) W:=
 ⟨Z,0,Z,0,Z,0,Z,0,rfl,⟨CAt.nil _ _ _,SAt.nil _ _ _,fun h=>absurd h (by simp[xC]),XAt.nil _ _ _⟩,Lh _,Nn _,h⟩
def RetSysFC(L0 B0:Nat)(r:Sy×Int)(w:Ba)(e:Ending)(w':Ba):Prop:=∃A kc SV ks AV kv AX kx,e=Ak (.tuple #[.agg (r.1.vs_ A kc SV ks AV kv AX kx),O U r.2]) /\
 (∀W':Ba,w'.heap.size<=W'.heap.size->(∀k,((L0<=k/\k<B0)\/w.heap.size<=k)->k<w'.heap.size->W'.heap[k]?=w'.heap[k]?)->SyAt W' W'.heap.size A SV AV AX r.1/\XCap W' AX r.1.xs)/\r.1.vs.length<=kv/\kv<=maxLen/\Am w.heap.size w w'
theorem RetSysFC.zero{L0 B0:Nat}{w W:Ba}(n:Int)(h:Am w.heap.size w W):RetSysFC L0 B0 (xC,n) w (Ak (.tuple #[Ai #[O U 0,O U 0,O U 0,I Z 0 0,O U 0,I Z 0 0,O U 0,O U 0,I Z 0 0,I Z 0 0],O U n])) W:=
 ⟨Z,0,Z,0,Z,0,Z,0,rfl,fun W' _ _=>⟨⟨CAt.nil _ _ _,SAt.nil _ _ _,fun h=>absurd h (by simp[xC]),XAt.nil _ _ _⟩,fun _ _ _ e=>by cases e⟩,Lh _,Nn _,h⟩
theorem Y7(p:Pb)(hf:wZ p)(A:Bb)(kc:Nat)(SV:Bb)(ks:Nat)(w:Ba)(L0 B0:Nat)(bh:B0<=w.heap.size)(mC:CAt w B0 A p.t.cases)(Mx:SAt w B0 SV p.a.sts)(sE:CAtL L0 B0 w A p.t.cases)(nt:SAtL L0 B0 w SV p.a.sts) :
  An Al 19 #[.agg (p.vs A kc SV ks)] w (RetSysFC L0 B0 (zK p) w):=by
 have hA:=mC.more bh;have hS:=Mx.more bh;have Dl:=zH sE;have i5:=zH nt;clear sE nt mC Mx;have t6:=zH (fun (W:Ba) (h1:CAt W W.heap.size A p.t.cases) (h2:SAt W W.heap.size SV p.a.sts)=>Qu p hf.1 A kc SV ks W h1 h2);have aA:=zH (@xN p);have al:=zH (@xr p);have az:=zH (@qh p);have ic:=zH hf;obtain⟨w1,af,d0,d1,d2,bk,bE⟩:=xF w (p.vs A kc SV ks) #[O U 0,O U 0,O U 0,I Z 0 0,O U 0,I Z 0 0,O U 0,O U 0,I Z 0 0,I Z 0 0] #[O U 0] 29 36 46;have HA:=zH hA;have HS:=zH hS;have aT:=zH bE;have aX:=zH d0;have bH:=zH d1;have fd:=zH d2;have Df:=t6.out w1 ((hA.keep bE).more bE.size) ((hS.keep bE).more bE.size);have Df:=zH Df;unfold Pb.vs at af d0 Df ⊢;obtain⟨q0,q1,q2,q3,q4,q5,q6,_⟩:=Kf d0;have au:=zH af;clear af d0 d1 d2 bE hA hS hf t6;refine yb func19 rfl ?_;simp only[ntmps19,List.size_toArray,List.length_cons,List.length_nil,Nat.reduceAdd,Nat.reduceSub,Array.replicate_succ,Array.replicate_zero,List.push_toArray,List.append_toArray,List.nil_append,List.cons_append];go_wp2_with fail;rw[au.out];go_wp2_with fail;refine Df.out.mono ?_;rintro e w2 ⟨rfl,ae⟩;clear Df au q0 q1 q2 q3 q4 q5 q6;have D0:=zH (La ae aX.out);have D1:=zH (La ae bH.out);have D2:=zH (La ae fd.out);have B2:=zH (aT.out.trans (ae.mono (by omega)));have eQ:=ae.size;clear ae
 by_cases eS:zD p=0
 case neg=>
  have tD:jy p=(0,zD p):=Lm eS;rw[tD,aA.out eS];have e0:(zD p != 0)=Ar:=by simpa using eS
  obtain⟨pe,Bn⟩:=Kh (zD p);rw[Bn] at e0 ⊢;have x0:w2.cell? ⟨w.heap.size+1,0,Z⟩=J (O U 0):=za D1.out 0 rfl;have f0:=zb D1.out 0;have x1:w2.cell? ⟨w.heap.size+1,1,Z⟩=J (O U 0):=za D1.out 1 rfl;have f1:=zb D1.out 1;have x2:w2.cell? ⟨w.heap.size+1,2,Z⟩=J (O U 0):=za D1.out 2 rfl;have f2:=zb D1.out 2;have x3:w2.cell? ⟨w.heap.size+1,3,Z⟩=J (I Z 0 0):=za D1.out 3 rfl;have f3:=zb D1.out 3;have x4:w2.cell? ⟨w.heap.size+1,4,Z⟩=J (O U 0):=za D1.out 4 rfl;have f4:=zb D1.out 4;have x5:w2.cell? ⟨w.heap.size+1,5,Z⟩=J (I Z 0 0):=za D1.out 5 rfl;have f5:=zb D1.out 5;have x6:w2.cell? ⟨w.heap.size+1,6,Z⟩=J (O U 0):=za D1.out 6 rfl;have f6:=zb D1.out 6;have x7:w2.cell? ⟨w.heap.size+1,7,Z⟩=J (O U 0):=za D1.out 7 rfl;have f7:=zb D1.out 7;have x8:w2.cell? ⟨w.heap.size+1,8,Z⟩=J (I Z 0 0):=za D1.out 8 rfl;have f8:=zb D1.out 8;have x9:w2.cell? ⟨w.heap.size+1,9,Z⟩=J (I Z 0 0):=za D1.out 9 rfl;have f9:=zb D1.out 9;have y0:w2.cell? ⟨w.heap.size+1+1,0,Z⟩=J (O U 0):=za D2.out 0 rfl;have g0:=zb D2.out 0;go_wp2_with fail;obtain⟨k1,k2,k3,_,_⟩:=kK (O U 0) (O U 0) (O U 0) (I Z 0 0) (O U 0) (I Z 0 0) (O U 0) (O U 0) (I Z 0 0) (I Z 0 0) (O U pe) D1.out D2.out (by omega) B2.out (by omega:w.heap.size<=w.heap.size+1) (by omega:w.heap.size<=w.heap.size+1+1);refine yv (B:=w.heap.size) (Marks.nil _ _) ?_
  intro W hX;have c0:W.cell? ⟨w.heap.size+1,0,Z⟩=J (O U 0):=hX.cell (za k1 0 rfl);have c1:W.cell? ⟨w.heap.size+1,1,Z⟩=J (O U 0):=hX.cell (za k1 1 rfl);have c2:W.cell? ⟨w.heap.size+1,2,Z⟩=J (O U 0):=hX.cell (za k1 2 rfl);have c3:W.cell? ⟨w.heap.size+1,3,Z⟩=J (I Z 0 0):=hX.cell (za k1 3 rfl);have c4:W.cell? ⟨w.heap.size+1,4,Z⟩=J (O U 0):=hX.cell (za k1 4 rfl);have c5:W.cell? ⟨w.heap.size+1,5,Z⟩=J (I Z 0 0):=hX.cell (za k1 5 rfl);have c6:W.cell? ⟨w.heap.size+1,6,Z⟩=J (O U 0):=hX.cell (za k1 6 rfl);have c7:W.cell? ⟨w.heap.size+1,7,Z⟩=J (O U 0):=hX.cell (za k1 7 rfl);have c8:W.cell? ⟨w.heap.size+1,8,Z⟩=J (I Z 0 0):=hX.cell (za k1 8 rfl);have c9:W.cell? ⟨w.heap.size+1,9,Z⟩=J (I Z 0 0):=hX.cell (za k1 9 rfl);have sF:W.cell? ⟨w.heap.size+1+1,0,Z⟩=J (O U pe):=hX.cell (za k2 0 rfl);have hR:=RetSysFC.zero (L0:=L0) (B0:=B0) pe (k3.trans hX.below);rw[aA.out eS,Bn];exact⟨_,by simp[results,results19,go_sem,c0,c1,c2,c3,c4,c5,c6,c7,c8,c9,sF],hR⟩
 case pos=>
 have tD:jy p=kS 1048576 (zP p):=Lk (by simpa using eS);rw[tD]
 by_cases hT:4096<zP p
 case pos=>
  have HB:=zH (al.out eS hT)
  by_cases sm:1048576<zP p
  case pos=>
   have pI:kS 1048576 (zP p)=(0,17):=Lm sm;rw[pI];clear aA al az tD hT sm pI ic eS;have x0:w2.cell? ⟨w.heap.size+1,0,Z⟩=J (O U 0):=za D1.out 0 rfl;have f0:=zb D1.out 0;have x1:w2.cell? ⟨w.heap.size+1,1,Z⟩=J (O U 0):=za D1.out 1 rfl;have f1:=zb D1.out 1;have x2:w2.cell? ⟨w.heap.size+1,2,Z⟩=J (O U 0):=za D1.out 2 rfl;have f2:=zb D1.out 2;have x3:w2.cell? ⟨w.heap.size+1,3,Z⟩=J (I Z 0 0):=za D1.out 3 rfl;have f3:=zb D1.out 3;have x4:w2.cell? ⟨w.heap.size+1,4,Z⟩=J (O U 0):=za D1.out 4 rfl;have f4:=zb D1.out 4;have x5:w2.cell? ⟨w.heap.size+1,5,Z⟩=J (I Z 0 0):=za D1.out 5 rfl;have f5:=zb D1.out 5;have x6:w2.cell? ⟨w.heap.size+1,6,Z⟩=J (O U 0):=za D1.out 6 rfl;have f6:=zb D1.out 6;have x7:w2.cell? ⟨w.heap.size+1,7,Z⟩=J (O U 0):=za D1.out 7 rfl;have f7:=zb D1.out 7;have x8:w2.cell? ⟨w.heap.size+1,8,Z⟩=J (I Z 0 0):=za D1.out 8 rfl;have f8:=zb D1.out 8;have x9:w2.cell? ⟨w.heap.size+1,9,Z⟩=J (I Z 0 0):=za D1.out 9 rfl;have f9:=zb D1.out 9;have y0:w2.cell? ⟨w.heap.size+1+1,0,Z⟩=J (O U 0):=za D2.out 0 rfl;have g0:=zb D2.out 0;go_wp2_with fail
   obtain⟨k1,k2,k3,_,_⟩:=kK (O U 0) (O U 0) (O U 0) (I Z 0 0) (O U 0) (I Z 0 0) (O U 0) (O U 0) (I Z 0 0) (I Z 0 0) (O U 17) D1.out D2.out (by omega) B2.out (by omega:w.heap.size<=w.heap.size+1) (by omega:w.heap.size<=w.heap.size+1+1);refine yv (B:=w.heap.size) (Marks.nil _ _) ?_;intro W hX;have c0:W.cell? ⟨w.heap.size+1,0,Z⟩=J (O U 0):=hX.cell (za k1 0 rfl);have c1:W.cell? ⟨w.heap.size+1,1,Z⟩=J (O U 0):=hX.cell (za k1 1 rfl);have c2:W.cell? ⟨w.heap.size+1,2,Z⟩=J (O U 0):=hX.cell (za k1 2 rfl);have c3:W.cell? ⟨w.heap.size+1,3,Z⟩=J (I Z 0 0):=hX.cell (za k1 3 rfl);have c4:W.cell? ⟨w.heap.size+1,4,Z⟩=J (O U 0):=hX.cell (za k1 4 rfl);have c5:W.cell? ⟨w.heap.size+1,5,Z⟩=J (I Z 0 0):=hX.cell (za k1 5 rfl);have c6:W.cell? ⟨w.heap.size+1,6,Z⟩=J (O U 0):=hX.cell (za k1 6 rfl);have c7:W.cell? ⟨w.heap.size+1,7,Z⟩=J (O U 0):=hX.cell (za k1 7 rfl);have c8:W.cell? ⟨w.heap.size+1,8,Z⟩=J (I Z 0 0):=hX.cell (za k1 8 rfl);have c9:W.cell? ⟨w.heap.size+1,9,Z⟩=J (I Z 0 0):=hX.cell (za k1 9 rfl);have sF:W.cell? ⟨w.heap.size+1+1,0,Z⟩=J (O U 17):=hX.cell (za k2 0 rfl);have hR:=RetSysFC.zero (L0:=L0) (B0:=B0) 17 (k3.trans hX.below);rw[HB.out];exact⟨_,by simp[results,results19,go_sem,c0,c1,c2,c3,c4,c5,c6,c7,c8,c9,sF],hR⟩
  have pI:kS 1048576 (zP p)=((zP p:Int),0):=Lk sm;rw[pI];obtain⟨T,mz⟩:=Kh (zP p);rw[mz] at hT sm ⊢;have tL:(4096:Int)<(T:Int):=by omega
  clear aA al az tD pI ic eS mz;have x0:w2.cell? ⟨w.heap.size+1,0,Z⟩=J (O U 0):=za D1.out 0 rfl;have f0:=zb D1.out 0;have x1:w2.cell? ⟨w.heap.size+1,1,Z⟩=J (O U 0):=za D1.out 1 rfl;have f1:=zb D1.out 1;have x2:w2.cell? ⟨w.heap.size+1,2,Z⟩=J (O U 0):=za D1.out 2 rfl;have f2:=zb D1.out 2;have x3:w2.cell? ⟨w.heap.size+1,3,Z⟩=J (I Z 0 0):=za D1.out 3 rfl;have f3:=zb D1.out 3;have x4:w2.cell? ⟨w.heap.size+1,4,Z⟩=J (O U 0):=za D1.out 4 rfl;have f4:=zb D1.out 4;have x5:w2.cell? ⟨w.heap.size+1,5,Z⟩=J (I Z 0 0):=za D1.out 5 rfl;have f5:=zb D1.out 5;have x6:w2.cell? ⟨w.heap.size+1,6,Z⟩=J (O U 0):=za D1.out 6 rfl;have f6:=zb D1.out 6;have x7:w2.cell? ⟨w.heap.size+1,7,Z⟩=J (O U 0):=za D1.out 7 rfl;have f7:=zb D1.out 7;have x8:w2.cell? ⟨w.heap.size+1,8,Z⟩=J (I Z 0 0):=za D1.out 8 rfl;have f8:=zb D1.out 8;have x9:w2.cell? ⟨w.heap.size+1,9,Z⟩=J (I Z 0 0):=za D1.out 9 rfl;have f9:=zb D1.out 9;have y0:w2.cell? ⟨w.heap.size+1+1,0,Z⟩=J (O U 0):=za D2.out 0 rfl;have g0:=zb D2.out 0;go_wp2_with fail;obtain⟨k1,k2,k3,_,_⟩:=kK (O U 0) (O U 0) (O U 0) (I Z 0 0) (O U 0) (I Z 0 0) (O U 0) (O U 0) (I Z 0 0) (I Z 0 0) (O U 17) D1.out D2.out (by omega) B2.out (by omega:w.heap.size<=w.heap.size+1) (by omega:w.heap.size<=w.heap.size+1+1);refine yv (B:=w.heap.size) (Marks.nil _ _) ?_
  intro W hX;have c0:W.cell? ⟨w.heap.size+1,0,Z⟩=J (O U 0):=hX.cell (za k1 0 rfl);have c1:W.cell? ⟨w.heap.size+1,1,Z⟩=J (O U 0):=hX.cell (za k1 1 rfl);have c2:W.cell? ⟨w.heap.size+1,2,Z⟩=J (O U 0):=hX.cell (za k1 2 rfl);have c3:W.cell? ⟨w.heap.size+1,3,Z⟩=J (I Z 0 0):=hX.cell (za k1 3 rfl);have c4:W.cell? ⟨w.heap.size+1,4,Z⟩=J (O U 0):=hX.cell (za k1 4 rfl);have c5:W.cell? ⟨w.heap.size+1,5,Z⟩=J (I Z 0 0):=hX.cell (za k1 5 rfl);have c6:W.cell? ⟨w.heap.size+1,6,Z⟩=J (O U 0):=hX.cell (za k1 6 rfl);have c7:W.cell? ⟨w.heap.size+1,7,Z⟩=J (O U 0):=hX.cell (za k1 7 rfl);have c8:W.cell? ⟨w.heap.size+1,8,Z⟩=J (I Z 0 0):=hX.cell (za k1 8 rfl);have c9:W.cell? ⟨w.heap.size+1,9,Z⟩=J (I Z 0 0):=hX.cell (za k1 9 rfl);have sF:W.cell? ⟨w.heap.size+1+1,0,Z⟩=J (O U 17):=hX.cell (za k2 0 rfl);have hR:=RetSysFC.zero (L0:=L0) (B0:=B0) 17 (k3.trans hX.below);rw[HB.out];exact⟨_,by simp[results,results19,go_sem,c0,c1,c2,c3,c4,c5,c6,c7,c8,c9,sF],hR⟩
 case neg=>
 have pI:kS 1048576 (zP p)=((zP p:Int),0):=Lk (by omega);rw[pI];have HB:=zH (az.out eS (by omega));have dq:zP p<=60:=by have:=ic.out.2 eS;omega
 obtain⟨dF,iM,od,mc,rz⟩:=zM eS;obtain⟨K,hK⟩:=Lq mc;obtain⟨ln,dT,nd⟩:=yG dF;have Cq:K<=6:=by omega
 have lk:zP p=zQ p.a K 0*p.t.cases.length:=by unfold zP;rw[hK];rfl
 have rZ:zQ p.a K 0<=60:=by
  have:=P8 (zQ p.a K 0) ln;omega
 have iB:=B2.out;have Na:=zH (Jk p.a ic.out.1.2 iM K (by omega) (by omega) SV ks w2 ((HS.out.keep iB).more iB.size));have ri:=zH hK;obtain⟨T,mz⟩:=Kh (zP p);rw[mz] at dq lk ⊢;have iY:=zH mz;have Db:=zH lk;have tL:¬(4096:Int)<(T:Int):=by omega
 have q4:=za D0.out 4 rfl;have q5:=za D0.out 5 rfl;have q6:w2.cell? ⟨w.heap.size,6,Z⟩=J (O U (K:Int)):=by rw[<-hK];exact za D0.out 6 rfl
 obtain⟨N,hN⟩:=Lq (show 0<=p.t.n by omega);have ec:=zH hN;have oW:=zH iM;have tU:=zH od;have Hl:=zH (Z6 dF);clear aA al az tD pI hT mz lk hK eS dF iM od mc rz iB hN;go_wp2_with fail;refine Na.out.mono ?_;rintro e w3 ⟨AW,cw,rfl,dV,ak⟩;clear q4 q5 q6 Na;have io:=ak.size;have ID:=zH (La ak D0.out);have OX:=zH (La ak D1.out);have OV:=zH (La ak D2.out);have B3:=zH (B2.out.trans (ak.mono (by omega)));have Eo:=zH dV;have aW:=(yD ic.out.1.2 oW.out).2.1;have Is:=zH (Qv p ic.out.1 ln aW A kc SV ks w3 L0 B0 (LE bh B3.out.size) (Dl.out.keep (B3.out.mono bh)) (i5.out.keep (B3.out.mono bh)));unfold Pb.vs at Is;obtain⟨q0,q1,q2,q3,q4,q5,q6,_⟩:=Kf ID.out;clear ak dV D0 D1 D2 B2;go_wp2_with fail;refine Is.out.mono ?_;rintro e w4 ⟨g4,mW,Ei,mV,rfl,ML,Mw,Lt,Tr,bK⟩;obtain⟨A4,sD⟩:∃A4:Bb,A4=J ⟨g4,0,Z⟩:=⟨_,rfl⟩;obtain⟨ny,sq⟩:∃S4:Bb,S4=J ⟨Ei,0,Z⟩:=⟨_,rfl⟩;rw[<-sD,<-sq];have Iy:=zH sD;have Hq:=zH sq;clear sD sq;have fD:=bK.size;have mR:=zH (La bK ID.out);have EJ:=zH (La bK OX.out);have WK:=zH (La bK OV.out);have B4:=zH (B3.out.trans (bK.mono (by omega)));have t9:=zH ML;have iZ:=zH Mw;have En:=zH ((Eo.out.keep bK).more bK.size);unfold Pb.vs
 have p0:w4.cell? ⟨w.heap.size,0,Z⟩=J (O U p.t.n):=za mR.out 0 rfl;have p1:w4.cell? ⟨w.heap.size,1,Z⟩=J (O U p.t.ins):=za mR.out 1 rfl;have p2:w4.cell? ⟨w.heap.size,2,Z⟩=J (O U p.t.outs):=za mR.out 2 rfl;have p3:w4.cell? ⟨w.heap.size,3,Z⟩=J (I A p.t.cases.length kc):=za mR.out 3 rfl;have p4:w4.cell? ⟨w.heap.size,4,Z⟩=J (O U p.a.n):=za mR.out 4 rfl;have p5:w4.cell? ⟨w.heap.size,5,Z⟩=J (I SV p.a.sts.length ks):=za mR.out 5 rfl;have p6:w4.cell? ⟨w.heap.size,6,Z⟩=J (O U p.k):=za mR.out 6 rfl;have nO:w.heap.size<w4.heap.size:=by omega
 clear ML Mw bK q0 q1 q2 q3 q4 q5 q6 Is ID OX OV Eo;have dU:=@run_makeMap Al;have lH:w.heap.size<w4.heap.size+1:=by omega
 have iL:w.heap.size<w4.heap.size+1+1:=by omega
 have lG:w.heap.size<w4.heap.size+1+1+1:=by omega
 have nN:w.heap.size<w4.heap.size+1+1+1+1:=by omega
 go_wp2_with fail;obtain⟨W5,iV,x5,mb,lB⟩:=ZG w4 (Ag #[O U p.t.n,O U p.t.ins,O U p.t.outs,I A4 p.t.cases.length mW,O U p.a.n,I ny p.a.sts.length mV,O U p.k,O U 0,I Z 0 0,I Z 0 0] 36);rw[iV];obtain⟨W6,pN,x6,tk,nx⟩:=ZG W5 (.map #[] 0);rw[pN];obtain⟨W7,lw,x7,fU,Cx⟩:=ZG W6 (Ag #[O U p.t.n,I Z 0 0,.map (J (w4.heap.size+1))] 111);rw[lw];obtain⟨W8,Mo,x8,tj,tQ⟩:=ZG W7 (Ag #[Aj (J ⟨w4.heap.size+1+1,0,Z⟩)] 108);rw[Mo];have iO:MapOf (fun v:Vw=>.agg v.cells) W6 W5.heap.size 0 (jQ []):=by rw[<-pN,numF_nil];exact MapOf.made W5
 have oO:Am w4.heap.size w4 W8:=lB.trans ((nx.mono (by omega)).trans ((Cx.mono (by omega)).trans (tQ.mono (by omega))));have D08:=zH (Lb oO (by omega) mR.out);clear iV pN lw Mo dU p0 p1 p2 p3 p4 p5 p6 lH iL lG nN;have tA:=execs_any p A kc SV ks AW (zn p.a K 0).length cw W8;unfold Pb.vs at tA;refine tA.mono ?_;rintro e W9 ⟨rfl,lM⟩;have Sx:W9.heap.size=w4.heap.size+6:=by rw[<-lM];simp;omega
 have lA:Am W8.heap.size W8 W9:=by rw[<-lM];exact xk W8 _ _
 have oO:Am w4.heap.size w4 W8:=lB.trans ((nx.mono (by omega)).trans ((Cx.mono (by omega)).trans (tQ.mono (by omega))));have oN:Am w4.heap.size w4 W9:=oO.trans (lA.mono (by omega));have Fr:W9.heap[W8.heap.size]?=J (Ag (p.vs A kc SV ks) 29 (0,0)):=by rw[<-lM];exact zC (ze W8 _) _
 have Fo:W9.heap[W8.heap.size+1]?=J (Ag #[.slice AW (zn p.a K 0).length cw] 104 (0,0)):=by
  rw[<-lM];have:=ze (W8.alloc (Ag (p.vs A kc SV ks) 29)) (Ag #[.slice AW (zn p.a K 0).length cw] 104);rwa[LS] at this
 have y5:=Lb lA (by omega) (Lb tQ (by omega) (Lb Cx (by omega) (Lb nx (by omega) x5)));have y7:=Lb lA (by omega) (Lb tQ (by omega) x7);have y8:=Lb lA (by omega) x8;have ym:=((iO.same (Cx.block _ (by omega))).same (tQ.block _ (by omega))).same (lA.block _ (by omega));rw[mb] at ym;rw[tk,mb] at y7;rw[fU,tk,mb] at y8;have Em:=zH y8;have VR:=zH Fr;have MN:W8.heap.size=w4.heap.size+1+1+1+1:=by omega
 -- the words' slices
 obtain⟨sl,lI⟩:∃sl:Nat->Aq,sl=fun j=>match AW with | some ad=>(w4.cell? ⟨ad.block,ad.off+j,Z⟩).getD undef | none=>undef:=⟨_,rfl⟩
 have VG:Ap (∀(j:Nat) (hj:j<(zn p.a K 0).length),∃A' c,sl j=.slice A' (zn p.a K 0)[j].length c/\RAt w4 w4.heap.size A' (zn p.a K 0)[j]):=fun j hj=>by
  obtain⟨b,off,A',c,e,_,hc,hr⟩:=En.out.at_ j hj;subst e;refine⟨A',c,?_,hr⟩;rw[lI];show(w4.cell? ⟨b,off+j,Z⟩).getD undef=_;rw[hc];rfl
 have iC:SlAt w4 w4.heap.size AW (zn p.a K 0).length sl:=fun j hj=>by
  obtain⟨b,off,A',c,e,hb,hc,hr⟩:=En.out.at_ j hj;subst e;refine⟨b,off,rfl,hb,?_⟩;rw[lI];show _=J ((w4.cell? ⟨b,off+j,Z⟩).getD undef);rw[hc];rfl
 have Sd:(zn p.a K 0).length<=60:=by rw[yu];exact rZ
 have ib:=zH (YV (p.vs A kc SV ks) p.t.cases.length ic.out.1.1.1 A kc rfl AW (zn p.a K 0).length cw (by omega) sl w4.heap.size W8.heap.size (W8.heap.size+1) W9 Fr Fo (iC.same fun k hk=>oN.block k hk) oN.size);obtain⟨SC,sn⟩:∃SC:Aq->Array Aq,SC=fun E=>#[O U p.t.n,O U p.t.ins,O U p.t.outs,I A4 p.t.cases.length mW,O U p.a.n,I ny p.a.sts.length mV,O U p.k,O U 0,I Z 0 0,E]:=⟨_,rfl⟩
 have H0:Ap (BlIn p W9.heap.size w4.heap.size (w4.heap.size+1+1) (w4.heap.size+1) w4.heap.size SC W9 [] (I Z 0 0) (I Z 0 0) W9):=
  ⟨Wrote.refl _ _,⟨y7,⟨0,ym⟩,OwnV.nil _ _,fun k e=>(by cases e),by omega,by omega,by omega⟩,by rw[sn];exact y5,OwnX.nil _ _ _ _,fun k e=>(by cases e)⟩
 have bL:Ap (BlB W9.heap.size w4.heap.size (w4.heap.size+1+1) (w4.heap.size+1) w4.heap.size W9):=⟨rfl,by omega,by omega,by omega,⟨by omega,by omega,by omega⟩,by omega,by omega⟩;have f':=zH sn;have td:=zH oN;have CS:=zH Fo;clear tA lM lA oO oN Fr Fo y5 y7 y8 ym lI iC sn iO x5 x6 x7 x8 lB nx Cx tQ;rw[MN];rw[MN] at ib VR CS;go_wp2_with fail
 refine kg rfl (Pg func87 (by kernel_rfl) rfl) ib.out (by rintro k (h | rfl | rfl)<;>omega) (fun _=>rfl)
  (fun (pre:List { x:Nat×Nat // x∈zy (zn p.a K 0).length 0 p.t.cases.length }) (X:Ba)=>∃V E,BlIn p W9.heap.size w4.heap.size (w4.heap.size+1+1) (w4.heap.size+1) w4.heap.size SC W9 (kR (zn p.a K 0) (pre.map (·.1))) V E X)
  (fun _ _ _=>False) ?hI (fun _ _ _ _ _ h _ _=>h) ⟨_,_,H0.out⟩ ?a1 ?assign ?body ?done ?stop
 case hI=>
  rintro s X X' row ⟨V,E,h⟩ hg hr;exact⟨V,E,h.turn bL.out hg hr⟩
 case assign=>
  intro l x X K' hK;gi_wp2;exact hK
 case body=>
  rintro l pre x X ⟨V,E,hI⟩ aa;obtain⟨iJ,lX,Dw⟩:=kq _ _ _ x.2;have fM:=td.out;have oF:=hI.bel bL.out;have cD:Am w.heap.size w X:=B4.out.trans ((fM.trans oF).mono (by omega));have hM:x.1.1<p.t.cases.length:=by omega
  obtain⟨bc,oc,A0,c0,A1,c1,A2,c2,eA,hbc,i0,_,_,I0,_,_⟩:=(HA.out.keep cD).row x.1.1 hM;subst eA;obtain⟨AL,MV,MR,Gu⟩:=VG.out x.1.2 Dw;have ij:=Le (l:=zn p.a K 0) Dw;have dn:(zn p.a K 0).getD x.1.2 []=(zn p.a K 0)[x.1.2]:=by rw[Lg,Lj Dw];rfl
  have mq:yf p x.1.1=p.t.cases[x.1.1].inp:=by unfold yf;rw[Lg,Lj hM];rfl
  obtain⟨word,eC⟩:=Kh ((zn p.a K 0)[x.1.2]);rw[eC] at MR Gu ij dn;have iK:=yP p.a K 0 word ij;have Vq:=zH (qQ p.a K 0 word ij);obtain⟨AV,kv,rfl⟩:=hI.bd.own.lit;obtain⟨AE,ke,rfl,_,_,_⟩:=hI.out.form zx;have iG:=zH hI;have bq:(kR (zn p.a K 0) (pre.map (·.1))).length=pre.length:=by simp[kR]
  have df:=uS p (by omega) (kR (zn p.a K 0) (pre.map (·.1))) (fun y hy=>by
   obtain⟨z,hz,rfl⟩:=LZ.1 hy;obtain⟨z2,cB,rfl⟩:=LZ.1 hz;have h2:=(kq _ _ _ z2.2).2.2;have e2:(zn p.a K 0).getD z2.1.2 []=(zn p.a K 0)[z2.1.2]:=by rw[Lg,Lj h2];rfl
   show((zn p.a K 0).getD z2.1.2 []).length<=6;rw[e2,yP p.a K 0 _ (Le h2)]
   exact Cq)
  rw[bq] at df
  have fI:pre.length<60:=by
   have h6:(zy (zn p.a K 0).length 0 p.t.cases.length).length<=60:=by
    rw[kn,yu,Ps];have:=Db.out;omega
   omega
  obtain⟨PL,Gy⟩:=Kh (kR (zn p.a K 0) (pre.map (·.1)));have CV:=zH Gy;rw[Gy] at hI iG df bq;have Uj:=hI.big bL.out;have e7:X.cell? ⟨w4.heap.size,9,Z⟩=J (.slice AE (zl p PL).2.length ke):=za hI.sys 9 (by rw[f'.out];rfl);have f7:=zb hI.sys 9;have e8:X.cell? ⟨w4.heap.size+1+1+1,0,Z⟩=J (Aj (J ⟨w4.heap.size+1+1,0,Z⟩)):=za ((hI.same bL.out (by omega) (by omega) (by omega) (by omega)).trans Em.out) 0 rfl;have e3:X.cell? ⟨w.heap.size,3,Z⟩=J (I (J ⟨bc,oc,Z⟩) p.t.cases.length kc):=za (Lb oF (by omega) (Lb fM (by omega) mR.out)) 3 rfl;have GE:((x.1.1:Nat):Int)<(p.t.cases.length:Int):=by omega
  have dY:(0:Int)<=((x.1.1:Nat):Int):=by omega
  have ia:Ap (∀W,Am X.heap.size X W->W.cell? ⟨w4.heap.size,9,Z⟩=J (.slice AE (zl p PL).2.length ke)/\W.cell? ⟨w4.heap.size+1+1+1,0,Z⟩=J (Aj (J ⟨w4.heap.size+1+1,0,Z⟩))/\W.cell? ⟨w.heap.size,3,Z⟩=J (I (J ⟨bc,oc,Z⟩) p.t.cases.length kc)/\W.cell? ⟨bc,oc+x.1.1*3,Z⟩=J (I A0 p.t.cases[x.1.1].inp.length c0)):=fun W hW=>
   ⟨(hW.cell (p:=⟨w4.heap.size,9,Z⟩) (by show w4.heap.size<_;omega)).trans e7,(hW.cell (p:=⟨w4.heap.size+1+1+1,0,Z⟩) (by show w4.heap.size+1+1+1<_;omega)).trans e8,(hW.cell (p:=⟨w.heap.size,3,Z⟩) (by show w.heap.size<_;omega)).trans e3,(hW.cell (p:=⟨bc,_,Z⟩) (by show bc<_;omega)).trans i0⟩
  have Da:=zH df;have pW:=zH iK;have tZ:=zH dn;have Ih:=zH mq;have Ik:=zH I0;have Er:=zH Gu;have ez:=zH oF;clear hI oF cD dn mq iK df bq eC ij I0 Gu Gy
  try dsimp only
  rw[MR];gi_wp2_with fail
  refine ve [(0,Ar),(1,Ar),(2,Ar),(3,Ar),(5,Ar),(6,Ar),(7,Ar),(8,Ar),(9,Ar),(10,Ar),(11,Ar),(12,Ar),(13,Ar),(4,As),(14,As),(15,As),(16,As),(17,As),(18,As),(19,As)]
   (fun W=>W.cell? ⟨w4.heap.size,9,Z⟩=J (.slice AE (zl p PL).2.length ke)/\W.cell? ⟨w4.heap.size+1+1+1,0,Z⟩=J (Aj (J ⟨w4.heap.size+1+1,0,Z⟩))/\W.cell? ⟨w.heap.size,3,Z⟩=J (I (J ⟨bc,oc,Z⟩) p.t.cases.length kc)/\W.cell? ⟨bc,oc+x.1.1*3,Z⟩=J (I A0 p.t.cases[x.1.1].inp.length c0))
   (by kernel_rfl) (by kernel_rfl) (by kernel_rfl) (by rintro⟨_,_,h⟩;exact h) (ia.out _ (Ln _ _).drew) ?_
  clear e7 e8 e3 i0
  repeat
   apply zU rfl
   . rintro K' ah W ⟨y0,y1,y2,y3⟩
     go_simp;exact ah
  have Gt:RAt X w4.heap.size AL word:=Er.out.keep (td.out.trans ez.out)
  -- the word's copy
  refine zN rfl ?_;intro K' ah;go_simp;refine(Zh AL word.length MV (yp word) X.drew (xe word) (uX (w:=X.drew) (Gt.more (by show w4.heap.size<=X.heap.size;omega))) (jo word) (by have:=pW.out;omega)).mono ?_;rintro e w5 ⟨v5,rfl,mf,bJ⟩;have bJ:Am X.heap.size X w5:=gx bJ;have mf:OwnR kRd w5 X.heap.size v5 word.length (yp word):=mf;obtain⟨A5,c5,rfl,pJ,_,fl⟩:=jn mf;have Ir:=zH pJ;clear pJ;refine ah _ _ (ia.out _ bJ) ?_;clear ah K' mf
  -- the views
  refine zN rfl ?_;intro K' ah;go_simp;have sg:=iG.out.bd.on bJ;rw[ec.out] at sg;have mb:=bJ.size;have bP:(p.t.cases[x.1.1].inp).length=N:=by have:=Hl.out _ (Le hM);have:=ec.out;omega
  have MG:IAt w5 w4.heap.size A0 p.t.cases[x.1.1].inp:=(Ik.out.keep (bJ.mono (by omega:w.heap.size<=X.heap.size))).more (by omega)
  have Oh:=zH (play_any w4.heap.size (w4.heap.size+1+1) (w4.heap.size+1) N (by have:=ec.out;omega) (by have:=ec.out;omega) (.slice AV (zl p PL).1.length kv) (zl p PL).1 (by have:=Da.out;omega) p.t.cases[x.1.1].inp bP word (by have:=pW.out;omega) (fun r hr=>by
   obtain⟨m,hm,rfl⟩:=Vq.out r hr;obtain⟨z1,z2,_⟩:=yS (yD ic.out.1.2 oW.out).1 m hm
   exact⟨z1,by rw[z2,<-tU.out,ec.out]⟩) A0 AL c0 MV w5 (by omega) sg MG (Gt.keep (bJ.mono (by omega))))
  refine Oh.out.mono ?_;rintro e w6 ⟨v6,V6,rfl,DQ,rF,Dv,Fu⟩;obtain⟨EL,Dr,rfl⟩:=DQ.own.lit;obtain⟨VV,DY⟩:=Kh ((zi (zl p PL).1 N p.t.cases[x.1.1].inp word word.length).1);have Hf:=zH DY
  have TY:VV.length<=4000:=by
   have h2:=qF (zl p PL).1 N p.t.cases[x.1.1].inp word word.length;have h4:(word.length+1)*N<=7*5:=N7 (by have:=pW.out;omega) (by have:=ec.out;omega);have h5:=Da.out;rw[DY] at h2;omega
  rw[DY] at DQ rF Dv Fu;clear DY;clear Oh sg Gt MG bP;obtain⟨A6,c6,rfl,_,_,DG⟩:=Zn Dv;have Kw:=fun k hk=>(Dv.lt k hk).1
  have ed:=zH bJ;have C3:=zH fl;have Wt:=zH DQ;have CY:=zH rF;have tX:=zH DG;have Ol:=zH Fu;have Nk:=zH Kw;have SD:=rF.1.size
  have Ex:Ap (∀(k o:Nat) (u:Aq),k≠w4.heap.size+1+1->k≠w4.heap.size+1->k<W9.heap.size->w5.cell? ⟨k,o,Z⟩=J u->w6.cell? ⟨k,o,Z⟩=J u):=fun k o u h1 h2 h3 hc=>
   (LU (rF.1.block k (by omega) fun hr=>by
    rcases hr with e | e | e
    . exact h1 e
    . exact h2 e
    . have:=(iG.out.no k e).1;omega)).trans hc
  have k5:=ia.out _ bJ
  have k6:w6.cell? ⟨w4.heap.size,9,Z⟩=J (.slice AE (zl p PL).2.length ke)/\w6.cell? ⟨w4.heap.size+1+1+1,0,Z⟩=J (Aj (J ⟨w4.heap.size+1+1,0,Z⟩))/\w6.cell? ⟨w.heap.size,3,Z⟩=J (I (J ⟨bc,oc,Z⟩) p.t.cases.length kc)/\w6.cell? ⟨bc,oc+x.1.1*3,Z⟩=J (I A0 p.t.cases[x.1.1].inp.length c0):=
   ⟨Ex.out _ _ _ (by omega) (by omega) (by omega) k5.1,Ex.out _ _ _ (by omega) (by omega) (by omega) k5.2.1,Ex.out _ _ _ (by omega) (by omega) (by omega) k5.2.2.1,Ex.out _ _ _ (by omega) (by omega) (by omega) k5.2.2.2⟩
  refine ah _ _ k6 ?_;clear ah K' bJ fl DQ rF Dv DG Fu Kw k5;have C6:=zH k6;obtain⟨VS,Gq⟩:=Kh ((zi (zl p PL).1 N p.t.cases[x.1.1].inp word word.length).2);have Ep:=zH Gq;rw[Gq] at tX Nk Ol ⊢;clear Gq k6
  -- the execution
  refine zN rfl ?_;intro K' ah;go_simp;refine ah _ _ C6.out ?_;clear ah K';refine zN rfl ?_;intro K' ah;go_simp;obtain⟨tS,Ch,d7,Sz,iE⟩:=zq w6 #[O U x.1.1,I A5 word.length c5,I A6 VS.length c6] 42;rw[Ch];clear Ch
  have k7:tS.cell? ⟨w4.heap.size,9,Z⟩=J (.slice AE (zl p PL).2.length ke)/\tS.cell? ⟨w4.heap.size+1+1+1,0,Z⟩=J (Aj (J ⟨w4.heap.size+1+1,0,Z⟩))/\tS.cell? ⟨w.heap.size,3,Z⟩=J (I (J ⟨bc,oc,Z⟩) p.t.cases.length kc)/\tS.cell? ⟨bc,oc+x.1.1*3,Z⟩=J (I A0 p.t.cases[x.1.1].inp.length c0):=
   ⟨(iE.cell (p:=⟨w4.heap.size,9,Z⟩) (by show w4.heap.size<_;omega)).trans C6.out.1,(iE.cell (p:=⟨w4.heap.size+1+1+1,0,Z⟩) (by show w4.heap.size+1+1+1<_;omega)).trans C6.out.2.1,(iE.cell (p:=⟨w.heap.size,3,Z⟩) (by show w.heap.size<_;omega)).trans C6.out.2.2.1,(iE.cell (p:=⟨bc,_,Z⟩) (by show bc<_;omega)).trans C6.out.2.2.2⟩
  refine ah _ _ k7 ?_;clear ah K';refine zN rfl ?_;intro K' ah;rw[Lm (by rfl)];have cH:=iG.out.outn bL.out ed.out CY.out;have nX:=xR p PL;have bq:PL.length=pre.length:=by rw[<-CV.out];simp[kR]
  obtain⟨aC,bD,eH,bl⟩:=cH.1.below zx iE (Lh _);refine uA kXn_ok (.tmp 50) (.tmp 65) (by rfl) W9.heap.size (.slice AE (zl p PL).2.length ke) (zl p PL).2.length aC.flatten (by rfl) eH w6.heap.size #[O U x.1.1,I A5 word.length c5,I A6 VS.length c6] (by rfl) d7 rfl (by simp[Value.oneCell']) (by omega) (by omega) _ rfl ?_;intro g' cap w8 hr hg bn SZ;clear nX bq;have hX:=iG.out.lies (i:=x.1.1) (c2:=c5) (c3:=c6) bL.out ed.out CY.out iE C3.out tX.out Nk.out Ol.out Ir.out
  have Gx:zi (zl p PL).1 p.t.n.toNat (yf p x.1.1) word word.length=zi (zl p PL).1 N p.t.cases[x.1.1].inp word word.length:=by
   rw[Ih.out,show p.t.n.toNat=N by have:=ec.out;omega]
  have LY:BdIn w4.heap.size (w4.heap.size+1+1) (w4.heap.size+1) p.t.n (I EL VV.length Dr) (zi (zl p PL).1 p.t.n.toNat (yf p x.1.1) word word.length).1 w6:=by
   rw[Gx,Hf.out,ec.out];exact Wt.out
  have Ml:ZY.lies (fun k=>(W9.heap.size<=k/\(I EL VV.length Dr).ownBlock≠J k)/\(I AE (zl p PL).2.length ke).ownBlock≠J k) tS [O U x.1.1,I A5 word.length c5,I A6 VS.length c6] ⟨x.1.1,word,(zi (zl p PL).1 p.t.n.toNat (yf p x.1.1) word word.length).2⟩:=by rw[Gx,Ep.out];exact hX
  have rf:=iG.out.next (x:=(x.1.1,word)) bL.out ed.out CY.out iE LY (fun E'=>by rw[f'.out];rfl) bD bl Ml hr hg bn;have rf:=zH rf;have Cw:=iG.out.out.lt
  have k8:∀(k o:Nat) (u:Aq),k<W9.heap.size->tS.cell? ⟨k,o,Z⟩=J u->w8.cell? ⟨k,o,Z⟩=J u:=fun k o u h3 hc=>
   (LU (hg.block k (by omega) fun e=>by have:=(Cw k e.symm).1;omega)).trans hc
  have tj:=hg.size;have H9:=zH (⟨k8 _ _ _ (by omega) k7.1,k8 _ _ _ (by omega) k7.2.1,k8 _ _ _ (by omega) k7.2.2.1,k8 _ _ _ (by omega) k7.2.2.2⟩:w8.cell? ⟨w4.heap.size,9,Z⟩=J (.slice AE (zl p PL).2.length ke)/\w8.cell? ⟨w4.heap.size+1+1+1,0,Z⟩=J (Aj (J ⟨w4.heap.size+1+1,0,Z⟩))/\w8.cell? ⟨w.heap.size,3,Z⟩=J (I (J ⟨bc,oc,Z⟩) p.t.cases.length kc)/\w8.cell? ⟨bc,oc+x.1.1*3,Z⟩=J (I A0 p.t.cases[x.1.1].inp.length c0))
  have f8:w8.frozen? ⟨w4.heap.size,9,Z⟩=As:=by
   have z:=rf.out.1.sys;have z2:=zb z 9;rwa[World.frozen?_setCell] at z2
  refine ah _ _ H9.out ?_;clear ah K' hr hg bn hX Ml bD eH bl cH k7 k8 LY Gx;refine zN rfl ?_;intro K' ah;go_simp;refine ah _ _ H9.out ?_;clear ah K';have e9:=H9.out.1;refine xv rfl (by kernel_rfl) ?_;intro K' ah;go_simp;refine ah (fun _=>True) _ _ trivial ?_;refine yr ?_;clear ah K' e9 f8
  try dsimp only
  obtain⟨WF,cK⟩:=Kh (w8.setCell ⟨w4.heap.size,9,Z⟩ (I (J ⟨g',0,Z⟩) ((zl p PL).2.length+1) cap));rw[cK] at rf ⊢;clear cK;have mA:=rf.out.1;have a8:WF.cell? ⟨w4.heap.size+1+1+1,0,Z⟩=J (Aj (J ⟨w4.heap.size+1+1,0,Z⟩)):=za ((mA.same bL.out (by omega) (by omega) (by omega) (by omega)).trans Em.out) 0 rfl;have b8:WF.cell? ⟨w4.heap.size+1+1,1,Z⟩=J (I EL VV.length Dr):=za mA.bd.hB 1 rfl;have hng:¬(8192:Int)<(VV.length:Int):=by omega
  clear mA;gi_wp2_with fail;have mA:=rf.out;rw[Sx] at mA;refine⟨mA.2.1,mA.2.2.keep fun k hk hs hr=>?_,⟨I EL VV.length Dr,I (J ⟨g',0,Z⟩) ((zl p PL).2.length+1) cap,?_⟩⟩
  . have:=fM.size
    rcases hs with hs | hs | hs<;>rcases hr with e | e | e | e<;>omega
  rw[LN,List.map_singleton,JI,CV.out,tZ.out];exact mA.1
 case done=>
  rintro D ys X hD dv ⟨V,E,hI⟩ dD;rw[dv,gV p K ri.out] at hI;obtain⟨AV,kv,rfl⟩:=hI.bd.own.lit;obtain⟨AE,ke,rfl,Tc,Tb,_⟩:=hI.out.form zx;have iG:=zH hI;have fM:=td.out;have oF:=hI.bel bL.out;have Uj:=hI.big bL.out;have EB:=zH dD;have hDX:D<X.heap.size:=zd dD;have e8:X.cell? ⟨w4.heap.size+1+1+1,0,Z⟩=J (Aj (J ⟨w4.heap.size+1+1,0,Z⟩)):=za ((hI.same bL.out (by omega) (by omega) (by omega) (by omega)).trans Em.out) 0 rfl;have rx:=hI.sys;rw[f'.out] at rx;have t7:X.cell? ⟨w4.heap.size,7,Z⟩=J (O U 0):=za rx 7 rfl;have t8:X.cell? ⟨w4.heap.size,8,Z⟩=J (I Z 0 0):=za rx 8 rfl;have u7:=zb rx 7;have u8:=zb rx 8;have lP:=zH rx;have ez:=zH oF;have aF:=hI.bd.hB;have M4:=(oF.block (w.heap.size+1) (by omega)).trans (Lb fM (by omega) EJ.out);have MZ:=(oF.block (w.heap.size+1+1) (by omega)).trans (Lb fM (by omega) WK.out);have C0:=zH M4;have rg:=zH MZ;clear hI oF rx dD dv H0 ib M4 MZ;go_wp2_with fail
  refine zI [(0,Ar),(1,Ar),(2,Ar),(3,Ar),(4,Ar),(5,Ar),(6,Ar),(7,Ar),(8,As),(9,As),(10,As)]
   (fun W=>W.cell? ⟨w4.heap.size+1+1+1,0,Z⟩=J (Aj (J ⟨w4.heap.size+1+1,0,Z⟩))/\W.heap[w4.heap.size+1+1]?=J (Ag #[O U p.t.n,.slice AV (zl p (zj p)).1.length kv,.map (J (w4.heap.size+1))] 111 (0,0)))
   (by kernel_rfl) (by kernel_rfl) ⟨e8,aF⟩ ?_
  clear e8 aF
  repeat
   apply zU rfl
   . rintro K' ah W ⟨y0,y1⟩
     have z0:W.cell? ⟨w4.heap.size+1+1,0,Z⟩=J (O U p.t.n):=za y1 0 rfl;have z1:W.cell? ⟨w4.heap.size+1+1,1,Z⟩=J (.slice AV (zl p (zj p)).1.length kv):=za y1 1 rfl;clear y1;go_simp;exact ah
  have e8:X.cell? ⟨w4.heap.size+1+1+1,0,Z⟩=J (Aj (J ⟨w4.heap.size+1+1,0,Z⟩)):=za ((iG.out.same bL.out (by omega) (by omega) (by omega) (by omega)).trans Em.out) 0 rfl;refine zN rfl ?_;intro K' ah;go_simp;refine ah _ _ ⟨e8,iG.out.bd.hB⟩ ?_;clear ah K';refine zN rfl ?_;intro K' ah;go_simp;refine ah _ _ ⟨e8,iG.out.bd.hB⟩ ?_;clear ah K';refine xv rfl (by kernel_rfl) ?_;intro K' ah;go_simp;refine ah (fun _=>True) _ _ trivial ?_;refine yr ?_;clear ah K' e8 t7 t8 u7 u8;obtain⟨W7,lw⟩:=Kh (((X.setCell ⟨w4.heap.size,7,Z⟩ (O U p.t.n)).setCell ⟨w4.heap.size,8,Z⟩ (.slice AV (zl p (zj p)).1.length kv)).drew)
  have fU:W7.heap[w4.heap.size]?=J (Ag #[O U p.t.n,O U p.t.ins,O U p.t.outs,I A4 p.t.cases.length mW,O U p.a.n,I ny p.a.sts.length mV,O U p.k,O U p.t.n,.slice AV (zl p (zj p)).1.length kv,.slice AE (zl p (zj p)).2.length ke] 36 (0,0)):=by
   rw[<-lw];have q1:(X.setCell ⟨w4.heap.size,7,Z⟩ (O U p.t.n)).heap[w4.heap.size]?=J (Ag #[O U p.t.n,O U p.t.ins,O U p.t.outs,I A4 p.t.cases.length mW,O U p.a.n,I ny p.a.sts.length mV,O U p.k,O U p.t.n,I Z 0 0,.slice AE (zl p (zj p)).2.length ke] 36 (0,0)):=Li X w4.heap.size 7 _ _ _ lP.out;exact Li _ w4.heap.size 8 _ _ _ q1
  have tq:∀k,k≠w4.heap.size->W7.heap[k]?=X.heap[k]?:=fun k hk=>by
   rw[<-lw];exact(Ld _ ⟨w4.heap.size,8,Z⟩ _ k hk).trans (Ld _ ⟨w4.heap.size,7,Z⟩ _ k hk)
  have fZ:Am w.heap.size w W7:=by
   rw[<-lw];exact(((B4.out.trans ((fM.trans ez.out).mono (by omega))).setCell (p:=⟨w4.heap.size,7,Z⟩) (by show w.heap.size<=w4.heap.size;omega) _).setCell (p:=⟨w4.heap.size,8,Z⟩) (by show w.heap.size<=w4.heap.size;omega) _).drew
  have AI:W7.heap.size=X.heap.size:=by rw[<-lw];show(World.setCell _ _ _).heap.size=_;simp
  have d9:=(tq (w.heap.size+1) (by omega)).trans C0.out;have Ek:=(tq (w.heap.size+1+1) (by omega)).trans rg.out;have s0:W7.cell? ⟨w4.heap.size,0,Z⟩=J (O U p.t.n):=za fU 0 rfl;have s1:W7.cell? ⟨w4.heap.size,1,Z⟩=J (O U p.t.ins):=za fU 1 rfl;have s2:W7.cell? ⟨w4.heap.size,2,Z⟩=J (O U p.t.outs):=za fU 2 rfl;have s3:W7.cell? ⟨w4.heap.size,3,Z⟩=J (I A4 p.t.cases.length mW):=za fU 3 rfl;have s4:W7.cell? ⟨w4.heap.size,4,Z⟩=J (O U p.a.n):=za fU 4 rfl;have s5:W7.cell? ⟨w4.heap.size,5,Z⟩=J (I ny p.a.sts.length mV):=za fU 5 rfl;have s6:W7.cell? ⟨w4.heap.size,6,Z⟩=J (O U p.k):=za fU 6 rfl;have s7:W7.cell? ⟨w4.heap.size,7,Z⟩=J (O U p.t.n):=za fU 7 rfl;have s8:W7.cell? ⟨w4.heap.size,8,Z⟩=J (.slice AV (zl p (zj p)).1.length kv):=za fU 8 rfl;have s9:W7.cell? ⟨w4.heap.size,9,Z⟩=J (.slice AE (zl p (zj p)).2.length ke):=za fU 9 rfl;have n0:W7.cell? ⟨w.heap.size+1,0,Z⟩=J (O U 0):=za d9 0 rfl;have m0:=zb d9 0;have n1:W7.cell? ⟨w.heap.size+1,1,Z⟩=J (O U 0):=za d9 1 rfl;have m1:=zb d9 1;have n2:W7.cell? ⟨w.heap.size+1,2,Z⟩=J (O U 0):=za d9 2 rfl;have m2:=zb d9 2;have n3:W7.cell? ⟨w.heap.size+1,3,Z⟩=J (I Z 0 0):=za d9 3 rfl;have m3:=zb d9 3;have n4:W7.cell? ⟨w.heap.size+1,4,Z⟩=J (O U 0):=za d9 4 rfl;have m4:=zb d9 4;have n5:W7.cell? ⟨w.heap.size+1,5,Z⟩=J (I Z 0 0):=za d9 5 rfl
  have m5:=zb d9 5;have n6:W7.cell? ⟨w.heap.size+1,6,Z⟩=J (O U 0):=za d9 6 rfl;have m6:=zb d9 6;have n7:W7.cell? ⟨w.heap.size+1,7,Z⟩=J (O U 0):=za d9 7 rfl;have m7:=zb d9 7;have n8:W7.cell? ⟨w.heap.size+1,8,Z⟩=J (I Z 0 0):=za d9 8 rfl;have m8:=zb d9 8;have n9:W7.cell? ⟨w.heap.size+1,9,Z⟩=J (I Z 0 0):=za d9 9 rfl;have m9:=zb d9 9;have n10:W7.cell? ⟨w.heap.size+1+1,0,Z⟩=J (O U 0):=za Ek 0 rfl;have m10:=zb Ek 0;have sV:=zH tq;have nH:=zH fZ;have Ia:=zH d9;have H':=zH Ek;rw[lw];clear lw tq fZ d9 Ek fU;go_wp2_with fail;obtain⟨k1,k2,k3,k4,k5⟩:=kK (O U p.t.n) (O U p.t.ins) (O U p.t.outs) (I A4 p.t.cases.length mW) (O U p.a.n) (I ny p.a.sts.length mV) (O U p.k) (O U p.t.n) (.slice AV (zl p (zj p)).1.length kv) (.slice AE (zl p (zj p)).2.length ke) (O U 0) Ia.out H'.out (by omega) nH.out (by omega:w.heap.size<=w.heap.size+1) (by omega:w.heap.size<=w.heap.size+1+1)
  obtain⟨WF,cK⟩:=Kh ((((((((((((W7.setCell ⟨w.heap.size+1,0,Z⟩ (O U p.t.n)).setCell ⟨w.heap.size+1,1,Z⟩ (O U p.t.ins)).setCell ⟨w.heap.size+1,2,Z⟩ (O U p.t.outs)).setCell ⟨w.heap.size+1,3,Z⟩ (I A4 p.t.cases.length mW)).setCell ⟨w.heap.size+1,4,Z⟩ (O U p.a.n)).setCell ⟨w.heap.size+1,5,Z⟩ (I ny p.a.sts.length mV)).setCell ⟨w.heap.size+1,6,Z⟩ (O U p.k)).setCell ⟨w.heap.size+1,7,Z⟩ (O U p.t.n)).setCell ⟨w.heap.size+1,8,Z⟩ (.slice AV (zl p (zj p)).1.length kv)).setCell ⟨w.heap.size+1,9,Z⟩ (.slice AE (zl p (zj p)).2.length ke)).setCell ⟨w.heap.size+1+1,0,Z⟩ (O U 0)));rw[cK] at k1 k2 k3 k4 k5 ⊢;clear cK;have ai:∀k,k≠w4.heap.size->k≠w.heap.size+1->k≠w.heap.size+1+1->WF.heap[k]?=X.heap[k]?:=fun k a b c=>(k5 k b c).trans (sV.out k a)
  have hsf:WF.heap.size=X.heap.size:=k4.trans AI;have Ui:WF.heap[D]?=J (.deferred (J [])):=(ai D (by omega) (by omega) (by omega)).trans EB.out
  have oo:∀k,k<w4.heap.size->k≠w.heap.size+1->k≠w.heap.size+1+1->WF.heap[k]?=w4.heap[k]?:=fun k a b c=>
   (ai k (by omega) b c).trans ((ez.out.block k a).trans (fM.block k a))
  have pl:w4.heap.size<=WF.heap.size:=by omega
  have RA:RowX cCs (fun b=>((L0<=b/\b<B0)\/w3.heap.size<=b)/\b<w4.heap.size) WF g4 p.t.cases:=(t9.out.mono xz fun b hb hs=>⟨hs,hb⟩).keep xz ⟨pl,fun k hk _=>oo k hk.1.2 (by have:=hk.1.1;omega) (by have:=hk.1.1;omega)⟩ (oo g4 t9.out.lt (by omega) (by omega));have RS:RowX cMl (fun b=>((L0<=b/\b<B0)\/w3.heap.size<=b)/\b<w4.heap.size) WF Ei p.a.sts:=(iZ.out.mono qm fun b hb hs=>⟨hs,hb⟩).keep qm ⟨pl,fun k hk _=>oo k hk.1.2 (by have:=hk.1.1;omega) (by have:=hk.1.1;omega)⟩ (oo Ei iZ.out.lt (by omega) (by omega))
  have RV:OwnV WF w4.heap.size (.slice AV (zl p (zj p)).1.length kv) (zl p (zj p)).1:=iG.out.bd.own.of_same fun k hk=>by
   have:=(iG.out.no k hk).1;exact ai k (by omega) (by omega) (by omega)
  have RX:OwnX ZY (fun k=>W9.heap.size<=k/\(I AV (zl p (zj p)).1.length kv).ownBlock≠J k) WF W9.heap.size (.slice AE (zl p (zj p)).2.length ke) (zl p (zj p)).2:=
   iG.out.out.keep zx ⟨by omega,fun k hk _=>ai k (by have:=hk.1;omega) (by have:=hk.1;omega) (by have:=hk.1;omega)⟩ fun k hk=>by
    have:=(iG.out.out.lt k hk).1;exact ai k (by omega) (by omega) (by omega)
  have fI:(zj p).length<=60:=by
   have h1:=congrArg List.length (gV p K ri.out);rw[kR,LT,kn,yu] at h1;have:=Db.out;rw[<-h1,Ps];omega
  have df:=uS p (by have:=ec.out;omega) (zj p) (fun y hy=>by
   unfold zj at hy;obtain⟨d,_,hy⟩:=Nm.1 hy;obtain⟨w',dw,rfl⟩:=LZ.1 hy;show w'.length<=6;rw[yP p.a _ 0 w' dw,ri.out]
   exact Cq)
  refine yv (B:=W9.heap.size) (qK (by omega) Ui) ?_;intro W hX;have c0:W.cell? ⟨w.heap.size+1,0,Z⟩=J (O U p.t.n):=hX.cell (za k1 0 rfl);have c1:W.cell? ⟨w.heap.size+1,1,Z⟩=J (O U p.t.ins):=hX.cell (za k1 1 rfl);have c2:W.cell? ⟨w.heap.size+1,2,Z⟩=J (O U p.t.outs):=hX.cell (za k1 2 rfl);have c3:W.cell? ⟨w.heap.size+1,3,Z⟩=J (I A4 p.t.cases.length mW):=hX.cell (za k1 3 rfl);have c4:W.cell? ⟨w.heap.size+1,4,Z⟩=J (O U p.a.n):=hX.cell (za k1 4 rfl);have c5:W.cell? ⟨w.heap.size+1,5,Z⟩=J (I ny p.a.sts.length mV):=hX.cell (za k1 5 rfl);have c6:W.cell? ⟨w.heap.size+1,6,Z⟩=J (O U p.k):=hX.cell (za k1 6 rfl);have c7:W.cell? ⟨w.heap.size+1,7,Z⟩=J (O U p.t.n):=hX.cell (za k1 7 rfl);have c8:W.cell? ⟨w.heap.size+1,8,Z⟩=J (.slice AV (zl p (zj p)).1.length kv):=hX.cell (za k1 8 rfl);have c9:W.cell? ⟨w.heap.size+1,9,Z⟩=J (.slice AE (zl p (zj p)).2.length ke):=hX.cell (za k1 9 rfl);have sF:W.cell? ⟨w.heap.size+1+1,0,Z⟩=J (O U 0):=hX.cell (za k2 0 rfl);have Cf:=hX.below.size;obtain⟨OY,Kk,eV,DZ⟩:=(show OwnV W w4.heap.size _ _ from hX.own RV).form (by omega)
  cases eV
  obtain⟨IE,EU,eE,_,_,DW,_⟩:=kP (RX.turn zx Cf hX.same)
  cases eE
  refine⟨.tuple #[Ai #[O U p.t.n,O U p.t.ins,O U p.t.outs,I A4 p.t.cases.length mW,O U p.a.n,I ny p.a.sts.length mV,O U p.k,O U p.t.n,.slice AV (zl p (zj p)).1.length kv,.slice AE (zl p (zj p)).2.length ke],O U 0],by simp[results,results19,go_sem,c0,c1,c2,c3,c4,c5,c6,c7,c8,c9,sF],?_⟩;rw[HB.out];refine⟨A4,mW,ny,mV,AV,kv,AE,ke,rfl,fun W' Ds di=>⟨⟨?_,?_,?_,?_⟩,?_⟩,DZ.lec,DZ.lem,k3.trans (hX.below.mono (by omega))⟩
  . rw[Iy.out]
    have R:=RA.turnC xz Cf hX.same;have Lt:=t9.out.lt;exact(R.keep xz ⟨Ds,fun k hk hl=>di k (by have:=hk.1.1;omega) hl⟩ (di g4 (by omega) (by omega))).cat
  . rw[Hq.out]
    have R:=RS.turnC qm Cf hX.same;have Lt:=iZ.out.lt;exact(R.keep qm ⟨Ds,fun k hk hl=>di k (by have:=hk.1.1;omega) hl⟩ (di Ei (by omega) (by omega))).sat
  . have GY:=(show OwnV W w4.heap.size _ _ from hX.own RV)
    obtain⟨OY,Kk,eV,DZ⟩:=(GY.of_same (w':=W') fun k hk=>di k (.inr (by have:=(OwnV.lt GY k hk).1;omega)) (OwnV.lt GY k hk).2).form (by omega)
    cases eV
    exact DZ.rows
  . have sG:=RX.turn zx Cf hX.same
    obtain⟨IE,EU,eE,_,_,DW,_⟩:=kP (sG.keep (w':=W') zx ⟨Ds,fun k hk hl=>di k (.inr (by have:=hk.1;omega)) hl⟩ fun k hk=>di k (.inr (by have:=(sG.lt k hk).1;omega)) (sG.lt k hk).2)
    cases eE
    exact DW
  have sG:=RX.turn zx Cf hX.same;obtain⟨IE,EU,eE,_,_,_,DV⟩:=kP (sG.keep (w':=W') zx ⟨Ds,fun k hk hl=>di k (.inr (by have:=hk.1;omega)) hl⟩ fun k hk=>di k (.inr (by have:=(sG.lt k hk).1;omega)) (sG.lt k hk).2)
  cases eE
  exact DV
 intro D c pre W _ _ h;exact h.elim
theorem ur(p:Pb)(hf:wZ p)(A:Bb)(kc:Nat)(SV:Bb)(ks:Nat)(w:Ba)(B0:Nat)(bh:B0<=w.heap.size)(sE:CAt w B0 A p.t.cases)(nt:SAt w B0 SV p.a.sts) :
  An Al 19 #[.agg (p.vs A kc SV ks)] w (RetSysFC 0 B0 (zK p) w):=
 Y7 p hf A kc SV ks w 0 B0 bh sE nt (CAtL.of sE bh) (SAtL.of nt bh)
end
section
open Go.RowKit
attribute [local go_sem] Oper.semAt_some
def hq(f:Nat->Int)(k j:Nat):Int:=if j<k then f j else 0
def vq(p r i:Int)(f:Nat->Int)(k:Nat):Array Aq:=#[O U p,O U r,O U i,O U (hq f k 0),O U (hq f k 1),O U (hq f k 2),O U (hq f k 3),O U (hq f k 4)]
theorem Xj(p r i:Int)(f:Nat->Int)(k:Nat)(hk:k<5):(vq p r i f k).setIfInBounds (3+k) (O U (f k))=vq p r i f (k+1):=by
 match k,hk with
 | 0,_=>rfl
 | 1,_=>rfl
 | 2,_=>rfl
 | 3,_=>rfl
 | 4,_=>rfl
theorem vq_set2(p r i:Int)(f:Nat->Int)(k:Nat)(hk:k<5)(u:Aq):((vq p r i f k).setIfInBounds (3+k) u).setIfInBounds (3+k) (O U (f k))=vq p r i f (k+1):=by
 match k,hk with
 | 0,_=>rfl
 | 1,_=>rfl
 | 2,_=>rfl
 | 3,_=>rfl
 | 4,_=>rfl
theorem vq_at(p r i:Int)(f:Nat->Int)(k:Nat)(hk:k<5):(vq p r i f k)[3+k]?=J (O U 0):=by
 match k,hk with
 | 0,_=>rfl
 | 1,_=>rfl
 | 2,_=>rfl
 | 3,_=>rfl
 | 4,_=>rfl
theorem first_any(p:Nat)(i:Int)(w:Ba):An Al 124 #[O U (p:Int),O U i] w fun e w'=>e=Ak (.agg (yw p i).cells)/\Am w.heap.size w w':=by
 obtain⟨w1,af,d0,d1,aW,hB⟩:=yx w (#[O U 0,O U 0,O U 0,O U 0,O U 0,O U 0,O U 0,O U 0]) (vq p 0 i (fun _=>-1) 0) 100 100;have au:=zH af;go_enter func124,ntmps124;go_wp2_with fail;rw[show((w.alloc (Ag #[O U 0,O U 0,O U 0,O U 0,O U 0,O U 0,O U 0,O U 0] 100)).alloc (Ag #[O U p,O U 0,O U i,O U 0,O U 0,O U 0,O U 0,O U 0] 100))=w1 from au.out];have H0:=zH d0;have H1:=zH d1;have HB:=zH hB
 go_loopw [6] (fun j wr=>∃k:Nat,k<=5/\j=O U (k:Int)/\Ap (wr.heap[w.heap.size]?=J (Ag #[O U 0,O U 0,O U 0,O U 0,O U 0,O U 0,O U 0,O U 0] 100 (0,0)))/\Ap (wr.heap[w.heap.size+1]?=J (Ag (vq p 0 i (fun _=>-1) k) 100 (0,0)))/\Ap (Am w.heap.size w wr)) (fun j _=>5-(Ao j).toNat)
 case atStart=>exact⟨0,by omega,rfl,H0.out,H1.out,HB.out⟩
 obtain⟨k,hk,rfl,H0,H1,mO⟩:=hrel
 by_cases en:k<5
 case neg=>
  obtain rfl:k=5:=by omega
  have x0:wr.cell? ⟨w.heap.size+1,0,Z⟩=J (O U p):=za H1.out 0 rfl;have x1:wr.cell? ⟨w.heap.size+1,1,Z⟩=J (O U 0):=za H1.out 1 rfl;have x2:wr.cell? ⟨w.heap.size+1,2,Z⟩=J (O U i):=za H1.out 2 rfl;have x3:wr.cell? ⟨w.heap.size+1,3,Z⟩=J (O U (-1)):=za H1.out 3 rfl;have x4:wr.cell? ⟨w.heap.size+1,4,Z⟩=J (O U (-1)):=za H1.out 4 rfl;have x5:wr.cell? ⟨w.heap.size+1,5,Z⟩=J (O U (-1)):=za H1.out 5 rfl;have x6:wr.cell? ⟨w.heap.size+1,6,Z⟩=J (O U (-1)):=za H1.out 6 rfl;have x7:wr.cell? ⟨w.heap.size+1,7,Z⟩=J (O U (-1)):=za H1.out 7 rfl;have y0:wr.cell? ⟨w.heap.size,0,Z⟩=J (O U 0):=za H0.out 0 rfl;have y1:wr.cell? ⟨w.heap.size,1,Z⟩=J (O U 0):=za H0.out 1 rfl;have y2:wr.cell? ⟨w.heap.size,2,Z⟩=J (O U 0):=za H0.out 2 rfl;have y3:wr.cell? ⟨w.heap.size,3,Z⟩=J (O U 0):=za H0.out 3 rfl;have y4:wr.cell? ⟨w.heap.size,4,Z⟩=J (O U 0):=za H0.out 4 rfl;have y5:wr.cell? ⟨w.heap.size,5,Z⟩=J (O U 0):=za H0.out 5 rfl;have y6:wr.cell? ⟨w.heap.size,6,Z⟩=J (O U 0):=za H0.out 6 rfl;have y7:wr.cell? ⟨w.heap.size,7,Z⟩=J (O U 0):=za H0.out 7 rfl;have f0:=zb H0.out 0;have f1:=zb H0.out 1;have f2:=zb H0.out 2;have f3:=zb H0.out 3;have f4:=zb H0.out 4;have f5:=zb H0.out 5;have f6:=zb H0.out 6;have f7:=zb H0.out 7;go_wp2_with fail
  refine LP (v:=Ai #[O U p,O U 0,O U i,O U (-1),O U (-1),O U (-1),O U (-1),O U (-1)]) (by simp[results,results124,go_sem,y0,y1,y2,y3,y4,y5,y6,y7]) rfl ⟨rfl,?_⟩;exact(((((((mO.out.setCell (Lh _) _).setCell (Lh _) _).setCell (Lh _) _).setCell (Lh _) _).setCell (Lh _) _).setCell (Lh _) _).setCell (Lh _) _).setCell (Lh _) _
 have x0:=za H1.out (3+k) (vq_at _ _ _ _ k en);have f0:=zb H1.out (3+k);have cW:(0:Int)<=(k:Int):=by omega
 have cp:(k:Int)<5:=by omega
 go_wp2_with fail
 go_roundw
 case rel=>exact⟨k+1,by omega,by go_num,(Ld wr _ _ w.heap.size (by show w.heap.size≠w.heap.size+1;omega)).trans H0.out,by show _=_;rw[Li wr _ (3+k) _ _ _ H1.out,Xj _ _ _ (fun _=>-1) k en],mO.out.setCell (by show w.heap.size<=w.heap.size+1;omega) _⟩
 simp[Ao];omega
theorem seen_any(r:Rd)(K p:Nat)(hp:p<5)(hs:0<=r.h p/\r.h p<32)(A:Bb)(ca:Nat)(row:List Int)(hn:r.n=(row.length:Int))(_h5:row.length<=5)(w:Ba)(hI:IAt w w.heap.size A row) :
  An Al 125 #[.agg r.gcells,O U (K:Int),O U (p:Int),I A row.length ca] w fun e w'=>e=Ak (.agg (yM r K p row).cells)/\Am w.heap.size w w':=by
 obtain⟨s,mY⟩:∃s:Nat,r.h p=(s:Int):=⟨(r.h p).toNat,by omega⟩;have Fj:s<32:=by omega
 have HH:=zH (fun q hq w=>uD s q Fj hq w);have oT:=zH mY;have HN:=zH hn;clear hn mY hs;obtain⟨w1,af,g0,d0,d1,aW,hB⟩:=xF w r.gcells #[O U 0,O U 0,O U 0,O U 0,O U 0,O U 0,O U 0,O U 0] (vq p K 0 (zE r p row) 0) 45 100 100;have au:=zH af;go_enter func125,ntmps125;unfold Rd.gcells;go_wp2_with fail;rw[show(((w.alloc (Ag #[O U r.n,O U r.h0,O U r.h1,O U r.h2,O U r.h3,O U r.h4] 45)).alloc (Ag #[O U 0,O U 0,O U 0,O U 0,O U 0,O U 0,O U 0,O U 0] 100)).alloc (Ag #[O U p,O U K,O U 0,O U 0,O U 0,O U 0,O U 0,O U 0] 100))=w1 from au.out];have HG:=zH g0;have H0:=zH d0;have H1:=zH d1;have HB:=zH hB;have HI:=zH hI
 go_loopw [10] (fun j wr=>∃k:Nat,k<=5/\j=O U (k:Int)/\Ap (wr.heap[w.heap.size]?=J (Ag r.gcells 45 (0,0)))/\Ap (wr.heap[w.heap.size+1]?=J (Ag #[O U 0,O U 0,O U 0,O U 0,O U 0,O U 0,O U 0,O U 0] 100 (0,0)))/\Ap (wr.heap[w.heap.size+1+1]?=J (Ag (vq p K 0 (zE r p row) k) 100 (0,0)))/\Ap (Am w.heap.size w wr)) (fun j _=>5-(Ao j).toNat)
 case atStart=>exact⟨0,by omega,rfl,HG.out,H0.out,H1.out,HB.out⟩
 obtain⟨k,hk,rfl,HG,H0,H1,mO⟩:=hrel
 by_cases en:k<5
 case neg=>
  obtain rfl:k=5:=by omega
  have x0:wr.cell? ⟨w.heap.size+1+1,0,Z⟩=J (O U p):=za H1.out 0 rfl;have x1:wr.cell? ⟨w.heap.size+1+1,1,Z⟩=J (O U K):=za H1.out 1 rfl;have x2:wr.cell? ⟨w.heap.size+1+1,2,Z⟩=J (O U 0):=za H1.out 2 rfl;have x3:wr.cell? ⟨w.heap.size+1+1,3,Z⟩=J (O U (zE r p row 0)):=za H1.out 3 rfl;have x4:wr.cell? ⟨w.heap.size+1+1,4,Z⟩=J (O U (zE r p row 1)):=za H1.out 4 rfl;have x5:wr.cell? ⟨w.heap.size+1+1,5,Z⟩=J (O U (zE r p row 2)):=za H1.out 5 rfl;have x6:wr.cell? ⟨w.heap.size+1+1,6,Z⟩=J (O U (zE r p row 3)):=za H1.out 6 rfl;have x7:wr.cell? ⟨w.heap.size+1+1,7,Z⟩=J (O U (zE r p row 4)):=za H1.out 7 rfl;have y0:wr.cell? ⟨w.heap.size+1,0,Z⟩=J (O U 0):=za H0.out 0 rfl;have y1:wr.cell? ⟨w.heap.size+1,1,Z⟩=J (O U 0):=za H0.out 1 rfl;have y2:wr.cell? ⟨w.heap.size+1,2,Z⟩=J (O U 0):=za H0.out 2 rfl;have y3:wr.cell? ⟨w.heap.size+1,3,Z⟩=J (O U 0):=za H0.out 3 rfl;have y4:wr.cell? ⟨w.heap.size+1,4,Z⟩=J (O U 0):=za H0.out 4 rfl;have y5:wr.cell? ⟨w.heap.size+1,5,Z⟩=J (O U 0):=za H0.out 5 rfl;have y6:wr.cell? ⟨w.heap.size+1,6,Z⟩=J (O U 0):=za H0.out 6 rfl;have y7:wr.cell? ⟨w.heap.size+1,7,Z⟩=J (O U 0):=za H0.out 7 rfl;have f0:=zb H0.out 0;have f1:=zb H0.out 1;have f2:=zb H0.out 2;have f3:=zb H0.out 3;have f4:=zb H0.out 4;have f5:=zb H0.out 5;have f6:=zb H0.out 6;have f7:=zb H0.out 7;go_wp2_with fail
  refine LP (v:=.agg (yM r K p row).cells) (by unfold yM Vw.cells;simp[results,results125,go_sem,y0,y1,y2,y3,y4,y5,y6,y7]) rfl ⟨rfl,?_⟩;exact((((((((mO.out.setCell (by show w.heap.size<=w.heap.size+1;omega) _).setCell (by show w.heap.size<=w.heap.size+1;omega) _).setCell (by show w.heap.size<=w.heap.size+1;omega) _).setCell (by show w.heap.size<=w.heap.size+1;omega) _).setCell (by show w.heap.size<=w.heap.size+1;omega) _).setCell (by show w.heap.size<=w.heap.size+1;omega) _).setCell (by show w.heap.size<=w.heap.size+1;omega) _).setCell (by show w.heap.size<=w.heap.size+1;omega) _)
 have x0:=za H1.out (3+k) (vq_at _ _ _ _ k en);have f0:=zb H1.out (3+k);have g0:wr.cell? ⟨w.heap.size,0,Z⟩=J (O U (row.length:Int)):=by rw[<-HN.out];exact za HG.out 0 rfl
 have gp:wr.cell? ⟨w.heap.size,1+p,Z⟩=J (O U (s:Int)):=by
  rw[<-oT.out]
  match p,hp with
  | 0,_=>exact za HG.out 1 rfl
  | 1,_=>exact za HG.out 2 rfl
  | 2,_=>exact za HG.out 3 rfl
  | 3,_=>exact za HG.out 4 rfl
  | 4,_=>exact za HG.out 5 rfl
 have cW:(0:Int)<=(k:Int):=by omega
 have cp:(k:Int)<5:=by omega
 have pw:(0:Int)<=(p:Int):=by omega
 have Bo:(p:Int)<5:=by omega
 have HS:Ap ((wr.setCell ⟨w.heap.size+1+1,3+k,Z⟩ (O U (-1))).heap[w.heap.size+1+1]?=J (Ag ((vq p K 0 (zE r p row) k).setIfInBounds (3+k) (O U (-1))) 100 (0,0))):=Li wr _ (3+k) _ _ _ H1.out
 by_cases hq:k<row.length
 case neg=>
  have hE:Ap (zE r p row k=-1):=by unfold zE;exact Lk (fun h=>hq h.1)
  have tn:¬((k:Int)<(row.length:Int)):=by omega
  go_wp2_with fail
  go_roundw
  case rel=>exact⟨k+1,by omega,by go_num,((Ld wr _ _ w.heap.size (by show w.heap.size≠w.heap.size+1+1;omega)).trans HG.out),((Ld wr _ _ (w.heap.size+1) (by show w.heap.size+1≠w.heap.size+1+1;omega)).trans H0.out),(HS.out.trans (by have e:=Xj p K 0 (zE r p row) k en;rw[hE.out] at e;rw[e])),(mO.out.setCell (by show w.heap.size<=w.heap.size+1+1;omega) _)⟩
  simp[Ao];omega
 have tn:((k:Int)<(row.length:Int)):=by omega
 by_cases hb:s.testBit k=Ar
 case neg=>
  have hE:Ap (zE r p row k=-1):=by unfold zE;exact Lk (fun h=>hb (by have h2:=h.2;rw[oT.out] at h2;exact h2))
  go_wp2_with (go_at_call 146;refine(HH.out k en _).mono ?_;rintro e w' ⟨rfl,dw⟩;obtain rfl:=dw.symm)
  go_roundw
  case rel=>exact⟨k+1,by omega,by go_num,((Ld wr _ _ w.heap.size (by show w.heap.size≠w.heap.size+1+1;omega)).trans HG.out),((Ld wr _ _ (w.heap.size+1) (by show w.heap.size+1≠w.heap.size+1+1;omega)).trans H0.out),(HS.out.trans (by have e:=Xj p K 0 (zE r p row) k en;rw[hE.out] at e;rw[e])),(mO.out.setCell (by show w.heap.size<=w.heap.size+1+1;omega) _)⟩
  simp[Ao];omega
 have hE:Ap (zE r p row k=row[k]):=by
  unfold zE;rw[Lm ⟨hq,by rw[oT.out];exact hb⟩,Lg,Lj hq];rfl
 have HX:=zH ((HI.out.keep mO.out).at_ k hq);obtain⟨ba,off,rfl,aa,hc⟩:=HX.out;have f1:=zb HS.out (3+k);go_wp2_with (go_at_call 146;refine(HH.out k en _).mono ?_;rintro e w' ⟨rfl,dw⟩;obtain rfl:=dw.symm)
 go_roundw
 case rel=>exact⟨k+1,by omega,by go_num,((Ld _ _ _ w.heap.size (by show w.heap.size≠w.heap.size+1+1;omega)).trans ((Ld wr _ _ w.heap.size (by show w.heap.size≠w.heap.size+1+1;omega)).trans HG.out)),((Ld _ _ _ (w.heap.size+1) (by show w.heap.size+1≠w.heap.size+1+1;omega)).trans ((Ld wr _ _ (w.heap.size+1) (by show w.heap.size+1≠w.heap.size+1+1;omega)).trans H0.out)),(by show _=_;rw[Li _ _ (3+k) _ _ _ HS.out,<-hE.out,vq_set2 _ _ _ (zE r p row) k en]),((mO.out.setCell (by show w.heap.size<=w.heap.size+1+1;omega) _).setCell (by show w.heap.size<=w.heap.size+1+1;omega) _)⟩
 simp[Ao];omega
end
section
open Go.RowKit Go.Shelf
structure Bt(D bs:Nat)(SC:Aq->Aq->Array Aq)(WR:Ba)(vs:List Vw)(xs:List Exn)(V E:Aq)(X:Ba):Prop where
 wr:Wrote (fun k=>k=bs) WR X
 wd:WR.heap.size<=D
 big:D<=X.heap.size
 bsl:bs<D
 sys:X.heap[bs]?=J (Ag (SC V E) 36 (0,0))
 tb:OwnV X D V vs
 out:OwnX ZY (fun k=>bs<k) X D E xs
 no:∀k,V.ownBlock=J k->E.ownBlock≠J k
structure Bq(D bs bx:Nat)(SC:Aq->Aq->Array Aq)(WR:Ba)(c:Int)(wv:Aq)(vs:List Vw)(xs:List Exn)(views:List (List Int))(row:List Int)(V E Y L:Aq)(X:Ba):Prop where
 wr:Wrote (fun k=>k=bs) WR X
 wd:WR.heap.size<=D
 big:D<=X.heap.size
 bsl:bs<D
 sys:X.heap[bs]?=J (Ag (SC V E) 36 (0,0))
 x:X.heap[bx]?=J (Ag #[O U c,wv,Y] 42 (0,0))
 hx:D<=bx
 tb:OwnV X D V vs
 out:OwnX ZY (fun k=>bs<k/\k≠bx/\Y.ownBlock≠J k/\L.ownBlock≠J k) X D E xs
 vw:OwnX cIs (fun k=>D<=k/\k≠bx/\E.ownBlock≠J k/\L.ownBlock≠J k) X D Y views
 row:OwnR kIn X D L row.length (row.map (O U))
 nV:∀k,V.ownBlock=J k->k≠bx/\E.ownBlock≠J k/\Y.ownBlock≠J k/\L.ownBlock≠J k
 nE:∀k,E.ownBlock=J k->k≠bx/\Y.ownBlock≠J k/\L.ownBlock≠J k
 nY:∀k,Y.ownBlock=J k->k≠bx/\L.ownBlock≠J k
 nL:∀k,L.ownBlock=J k->k≠bx
section
variable {D bs bx:Nat} {SC:Aq->Aq->Array Aq} {WR X:Ba} {c:Int} {wv:Aq} {vs:List Vw} {xs:List Exn} {views:List (List Int)} {row:List Int} {V E Y L:Aq}
theorem OwnV.lt'{w:Ba}{base:Nat}{v:Aq}{vs:List Vw}(h:OwnV w base v vs):∀k,v.ownBlock=J k->base<=k/\k<w.heap.size:=P7 h
theorem Bq.bxl(h:Bq D bs bx SC WR c wv vs xs views row V E Y L X):bx<X.heap.size:=(Lf.1 h.x).1
theorem Bt.on(h:Bt D bs SC WR vs xs V E X){X':Ba}(hb:Am X.heap.size X X'):Bt D bs SC WR vs xs V E X':=
 ⟨h.wr.trans (Wrote.of_below (R:=fun _=>False) hb) (fun _ _ h=>h.elim),h.wd,by have:=hb.size;have:=h.big;omega,h.bsl,Lb hb (by have:=h.bsl;have:=h.big;omega) h.sys,
  h.tb.of_same fun k hk=>hb.block k (h.tb.lt' k hk).2,h.out.below zx hb (Lh _),h.no⟩
theorem Bq.on(h:Bq D bs bx SC WR c wv vs xs views row V E Y L X){X':Ba}(hb:Am X.heap.size X X'):Bq D bs bx SC WR c wv vs xs views row V E Y L X':=
 ⟨h.wr.trans (Wrote.of_below (R:=fun _=>False) hb) (fun _ _ h=>h.elim),h.wd,by have:=hb.size;have:=h.big;omega,h.bsl,Lb hb (by have:=h.bsl;have:=h.big;omega) h.sys,
  Lb hb h.bxl h.x,h.hx,h.tb.of_same fun k hk=>hb.block k (h.tb.lt' k hk).2,h.out.below zx hb (Lh _),h.vw.below yy hb (Lh _),h.row.below hb (Lh _),h.nV,h.nE,h.nY,h.nL⟩
theorem Bt.start(h:Bt D bs SC WR vs xs V E X){X':Ba}(hb:Am X.heap.size X X')(hx:X'.heap[X.heap.size]?=J (Ag #[O U c,wv,I Z 0 0] 42 (0,0))) :
  Bq D bs X.heap.size SC WR c wv vs xs [] [] V E (I Z 0 0) (I Z 0 0) X':=by
 have h':=h.on hb;refine⟨h'.wr,h'.wd,h'.big,h'.bsl,h'.sys,hx,h.big,h'.tb,?_,OwnX.nil _ _ _ _,OwnR.nil _ _ _,fun k hk=>?_,fun k hk=>?_,fun k hk=>?_,fun k hk=>?_⟩
 . refine OwnX.below zx (OwnX.mono zx h.out fun k hk hs=>⟨hs,by omega,?_,?_⟩) hb (Lh _)
   . simp[Value.ownBlock]
   simp[Value.ownBlock]
 . have:=(h.tb.lt' k hk).2
   exact⟨by omega,h.no k hk,by simp[Value.ownBlock],by simp[Value.ownBlock]⟩
 . have:=(h.out.lt k hk).2
   exact⟨by omega,by simp[Value.ownBlock],by simp[Value.ownBlock]⟩
 . simp[Value.ownBlock] at hk
 simp[Value.ownBlock] at hk
theorem Bq.put(h:Bq D bs bx SC WR c wv vs xs views row V E Y L X){W:Ba}(hb:Am X.heap.size X W){V' u:Aq}{rl:List Vw}(hT:OwnV W D V' rl)(hV:∀k,V'.ownBlock=J k->V.ownBlock=J k\/X.heap.size<=k)
  (h7:(SC V E).setIfInBounds 7 u=SC V E) (h8:(SC V E).setIfInBounds 8 V'=SC V' E) :
  Bq D bs bx SC WR c wv rl xs views row V' E Y L ((W.setCell ⟨bs,7,Z⟩ u).setCell ⟨bs,8,Z⟩ V'):=by
 have h1:=h.on hb;have bu:=h.bsl;have aI:=h.hx;obtain⟨W',my⟩:=Kh ((W.setCell ⟨bs,7,Z⟩ u).setCell ⟨bs,8,Z⟩ V')
 have hk:∀k,k≠bs->W'.heap[k]?=W.heap[k]?:=fun k hk=>by
  rw[<-my];exact(Ld _ ⟨bs,8,Z⟩ _ k hk).trans (Ld _ ⟨bs,7,Z⟩ _ k hk)
 have hz:W'.heap.size=W.heap.size:=by rw[<-my];simp
 have hs:W'.heap[bs]?=J (Ag (SC V' E) 36 (0,0)):=by
  rw[<-my];have q:=Li W bs 7 _ _ u h1.sys;rw[h7] at q;have q2:=Li _ bs 8 _ _ V' q;rwa[h8] at q2
 have hw:Wrote (fun k=>k=bs) W W':=by
  rw[<-my];exact⟨rfl,rfl,rfl,by simp,fun k _ hk=>(Ld _ ⟨bs,8,Z⟩ _ k hk).trans (Ld _ ⟨bs,7,Z⟩ _ k hk)⟩
 rw[my];refine⟨h1.wr.trans hw (fun k _ e=>e),h.wd,by have:=h1.big;omega,h.bsl,hs,(hk _ (by omega)).trans h1.x,h.hx,hT.of_same fun k e=>hk k (by have:=(hT.lt' k e).1;omega),?_,?_,?_,fun k e=>?_,h.nE,h.nY,h.nL⟩
 . exact h1.out.keep zx ⟨by omega,fun k hs _=>hk k (by have:=hs.1;omega)⟩ fun k e=>hk k (by have:=(h1.out.lt k e).1;omega)
 . exact h1.vw.keep yy ⟨by omega,fun k hs _=>hk k (by have:=hs.1;omega)⟩ fun k e=>hk k (by have:=(h1.vw.lt k e).1;omega)
 . refine h1.row.kept (row:=J bs) ⟨hw.os,hw.tape,hw.output,hw.size,fun k _ hn=>hk k (fun e=>hn (by rw[e]))⟩ (Or.inr (h1.row.ne (by omega)))
 rcases hV k e with e | e
 . exact h.nV k e
 have aD:=h.bxl;exact⟨by omega,fun e2=>by have:=(h.out.lt k e2).2;omega,fun e2=>by have:=(h.vw.lt k e2).2;omega,fun e2=>by have:=(h.row.lt k e2).2;omega⟩
theorem gE(W:Ba)(b o:Nat)(u:Aq):Wrote (fun k=>k=b) W (W.setCell ⟨b,o,Z⟩ u):=⟨rfl,rfl,rfl,by simp,fun k _ hn=>Ld W ⟨b,o,Z⟩ u k hn⟩
theorem OwnX.aside{α:Type}{C:Ct α}(ok:CtOk C){S:Nat->Prop}{W w5:Ba}{v L:Aq}{xs:List α}{g' n cap:Nat}(h:OwnX C S W D v xs)(hS:∀k,S k->L.ownBlock≠J k)(hg:W.grownBy w5 L.ownBlock)(bj:∀k,v.ownBlock=J k->L.ownBlock≠J k)
  (bn:L.ownBlock=J g'\/g'=W.heap.size):OwnX C (fun k=>S k/\(I (J ⟨g',0,Z⟩) n cap).ownBlock≠J k) w5 D v xs:=by
 have h1:OwnX C (fun k=>S k/\(I (J ⟨g',0,Z⟩) n cap).ownBlock≠J k) W D v xs:=OwnX.mono ok h fun k hk hs=>⟨hs,fun e=>by
  have e2:g'=k:=by simpa[Value.ownBlock] using e
  rcases bn with e3 | e3
  . exact hS k hs (by rw[e3,e2])
  . omega⟩
 refine h1.kept ok hg ?_ fun k hk=>.inl fun hs=>hS k hs.1 hk
 cases hv:v.ownBlock with
 | none=>exact .inl rfl
 | some k=>exact .inr fun e=>bj k hv e.symm
theorem OwnV.aside{W w5:Ba}{v L:Aq}{vs:List Vw}(h:OwnV W D v vs)(hg:W.grownBy w5 L.ownBlock)(bj:∀k,v.ownBlock=J k->L.ownBlock≠J k):OwnV w5 D v vs:=
 h.of_same fun k hk=>hg.block k (h.lt' k hk).2 fun e=>bj k hk e.symm
theorem xP{L:Aq}{W:Ba}{g' n cap:Nat}{P:Nat->Prop}(bn:L.ownBlock=J g'\/g'=W.heap.size)(h1:∀k,L.ownBlock=J k->P k)(h2:P W.heap.size):∀k,(I (J ⟨g',0,Z⟩) n cap).ownBlock=J k->P k:=fun k e=>by
 have e2:g'=k:=by simpa[Value.ownBlock] using e
 subst e2;rcases bn with e3 | e3
 . exact h1 g' e3
 . rw[e3];exact h2
theorem Bq.push(h:Bq D bs bx SC WR c wv vs xs views row V E Y L X){W w5:Ba}(hb:Am X.heap.size X W){i:Int}{g' cap:Nat}
  (hr:OwnR kIn w5 D (I (J ⟨g',0,Z⟩) (row.length+1) cap) (row.length+1) (row.map (O U)++[O U i])) (hg:W.grownBy w5 L.ownBlock) (bn:L.ownBlock=J g'\/g'=W.heap.size) :
  Bq D bs bx SC WR c wv vs xs views (row++[i]) V E Y (I (J ⟨g',0,Z⟩) (row.length+1) cap) w5:=by
 have h1:=h.on hb;have bq:=h1.row.lt;have bu:=h.bsl;have aI:=h.hx;have eU:=h1.big;have tK:=h1.tb.lt';have Cw:=h1.out.lt;have Gn:=h1.vw.lt;have aD:=h1.bxl;have K7:=hg.size;refine⟨h1.wr.trans (Wrote.of_grown (R:=fun k=>D<=k) hg (fun k e _=>(bq k e).1)) (fun k hk e=>by have:=h.wd;omega),h.wd,by omega,h.bsl,?_,?_,h.hx,h1.tb.aside hg fun k e=>(h.nV k e).2.2.2,?_,?_,by simpa using hr,fun k e=>?_,fun k e=>?_,fun k e=>?_,?_⟩
 . exact(hg.block bs (by omega) fun e=>by have:=(bq bs e.symm).1;omega).trans h1.sys
 . exact(hg.block bx aD fun e=>h.nL bx e.symm rfl).trans h1.x
 . exact OwnX.mono zx (h1.out.aside zx (n:=row.length+1) (cap:=cap) (fun k hs=>hs.2.2.2) hg (fun k e=>(h.nE k e).2.2) bn) fun k _ hs=>⟨hs.1.1,hs.1.2.1,hs.1.2.2.1,hs.2⟩
 . exact OwnX.mono yy (h1.vw.aside yy (n:=row.length+1) (cap:=cap) (fun k hs=>hs.2.2.2) hg (fun k e=>(h.nY k e).2) bn) fun k _ hs=>⟨hs.1.1,hs.1.2.1,hs.1.2.2.1,hs.2⟩
 . exact⟨(h.nV k e).1,(h.nV k e).2.1,(h.nV k e).2.2.1,fun e2=>xP (P:=fun j=>V.ownBlock≠J j) bn (fun j ej ev=>(h.nV j ev).2.2.2 ej) (fun ev=>by have:=(tK _ ev).2;omega) k e2 e⟩
 . exact⟨(h.nE k e).1,(h.nE k e).2.1,fun e2=>xP (P:=fun j=>E.ownBlock≠J j) bn (fun j ej ev=>(h.nE j ev).2.2 ej) (fun ev=>by have:=(Cw _ ev).2;omega) k e2 e⟩
 . exact⟨(h.nY k e).1,fun e2=>xP (P:=fun j=>Y.ownBlock≠J j) bn (fun j ej ev=>(h.nY j ev).2 ej) (fun ev=>by have:=(Gn _ ev).2;omega) k e2 e⟩
 exact xP bn h.nL (by omega)
theorem Bq.close(h:Bq D bs bx SC WR c wv vs xs views row V E Y L X){W w5:Ba}(hb:Am X.heap.size X W){g' cap:Nat}{aC:List (List Aq)}(bD:aC.length=views.length)
  (bl:∀(i:Nat) (h1:i<aC.length) (h2:i<views.length),cIs.lies (fun k=>(D<=k/\k≠bx/\E.ownBlock≠J k/\L.ownBlock≠J k)/\Y.ownBlock≠J k) W aC[i] views[i])
  (hr:OwnR kIs w5 D (I (J ⟨g',0,Z⟩) (views.length+1) cap) (views.length+1) (aC.flatten++[L])) (hg:W.grownBy w5 Y.ownBlock) (bn:Y.ownBlock=J g'\/g'=W.heap.size) :
  Bq D bs bx SC WR c wv vs xs (views++[row]) [] V E (I (J ⟨g',0,Z⟩) (views.length+1) cap) (I Z 0 0) (w5.setCell ⟨bx,2,Z⟩ (I (J ⟨g',0,Z⟩) (views.length+1) cap)):=by
 have h1:=h.on hb;have bq:=h1.vw.lt;have bu:=h.bsl;have aI:=h.hx;have eU:=h1.big;have tK:=h1.tb.lt';have Cw:=h1.out.lt;have T5:=h1.row.lt;have aD:=h1.bxl;have K7:=hg.size;obtain⟨A,cL,eL,_,_,Ub⟩:=h1.row.form
 have hX:cIs.lies (fun k=>(D<=k/\k≠bx/\E.ownBlock≠J k)/\Y.ownBlock≠J k) W [L] row:=by
  refine⟨A,cL,by rw[eL],fun h0=>?_⟩;obtain⟨g,hA,pE,cI,hc⟩:=Ub h0;refine⟨g,0,hA,⟨⟨(T5 g pE).1,h.nL g pE,fun e=>(h.nE g e).2.2 pE⟩,fun e=>(h.nY g e).2 pE⟩,cI,fun i hi=>?_⟩;rw[LH];exact hc i _ (by simp[hi])
 have hv:=OwnX.app yy (S:=fun k=>D<=k/\k≠bx/\E.ownBlock≠J k) bD (fun i i1 i2=>yy.mono (bl i i1 i2) fun k _ hs=>⟨⟨hs.1.1,hs.1.2.1,hs.1.2.2.1⟩,hs.2⟩) hX hr hg bn;have eh:=h1.out.aside zx (n:=views.length+1) (cap:=cap) (fun k hs=>hs.2.2.1) hg (fun k e=>(h.nE k e).2.1) bn;have Tm:w5.heap[bx]?=J (Ag #[O U c,wv,Y] 42 (0,0)):=(hg.block bx aD fun e=>(h.nY bx e.symm).1 rfl).trans h1.x;have tz:w5.heap[bs]?=J (Ag (SC V E) 36 (0,0)):=(hg.block bs (by omega) fun e=>by have:=(bq bs e.symm).1;omega).trans h1.sys;have hk:∀k,k≠bx->(w5.setCell ⟨bx,2,Z⟩ (I (J ⟨g',0,Z⟩) (views.length+1) cap)).heap[k]?=w5.heap[k]?:=fun k hk=>Ld w5 ⟨bx,2,Z⟩ _ k hk
 have hw:Wrote (fun k=>D<=k) W (w5.setCell ⟨bx,2,Z⟩ (I (J ⟨g',0,Z⟩) (views.length+1) cap)):=
  (Wrote.of_grown (R:=fun k=>D<=k) hg (fun k e _=>(bq k e).1)).trans (gE w5 bx 2 _) (fun k _ e=>by omega)
 refine⟨h1.wr.trans hw (fun k hk e=>by have:=h.wd;omega),h.wd,by simp;omega,h.bsl,(hk bs (by omega)).trans tz,?_,h.hx,?_,?_,?_,OwnR.nil _ _ _,fun k e=>?_,fun k e=>?_,fun k e=>?_,fun k e=>?_⟩
 . rw[Li w5 bx 2 _ _ _ Tm];rfl
 . exact(h1.tb.aside hg fun k e=>(h.nV k e).2.2.1).of_same fun k e=>hk k (h.nV k e).1
 . exact OwnX.mono zx (eh.keep zx ⟨by simp,fun k hs _=>hk k hs.1.2.1⟩ fun k e=>hk k (h.nE k e).1) fun k _ hs=>⟨hs.1.1,hs.1.2.1,hs.2,by simp[Value.ownBlock]⟩
 . refine OwnX.mono yy (hv.keep yy ⟨by simp,fun k hs _=>hk k hs.2.1⟩ fun k e=>hk k ?_) fun k _ hs=>⟨hs.1,hs.2.1,hs.2.2,by simp[Value.ownBlock]⟩
   exact xP (P:=fun j=>j≠bx) bn (fun j e=>(h.nY j e).1) (by omega) k e
 . exact⟨(h.nV k e).1,(h.nV k e).2.1,fun e2=>xP (P:=fun j=>V.ownBlock≠J j) bn (fun j ej ev=>(h.nV j ev).2.2.1 ej) (fun ev=>by have:=(tK _ ev).2;omega) k e2 e,by simp[Value.ownBlock]⟩
 . exact⟨(h.nE k e).1,fun e2=>xP (P:=fun j=>E.ownBlock≠J j) bn (fun j ej ev=>(h.nE j ev).2.1 ej) (fun ev=>by have:=(Cw _ ev).2;omega) k e2 e,by simp[Value.ownBlock]⟩
 . exact⟨xP (P:=fun j=>j≠bx) bn (fun j e=>(h.nY j e).1) (by omega) k e,by simp[Value.ownBlock]⟩
 simp[Value.ownBlock] at e
theorem Bq.done(h:Bq D bs bx SC WR c wv vs xs views [] V E Y (I Z 0 0) X){W w5:Ba}(hb:Am X.heap.size X W){g' cap A2 c2 A3 c3:_}{aC:List (List Aq)}{word:List Rd}(bD:aC.length=xs.length)
  (bl:∀(i:Nat) (h1:i<aC.length) (h2:i<xs.length),ZY.lies (fun k=>(bs<k/\k≠bx/\Y.ownBlock≠J k/\(I Z 0 0).ownBlock≠J k)/\E.ownBlock≠J k) W aC[i] xs[i])
  (RQ:wv=I A2 word.length c2) (Mj:Y=I A3 views.length c3) (hw:RAtS (fun k=>bs<k/\k<D) WR A2 word) (lG:word.length<=c2)
  (hr:OwnR kXn w5 D (I (J ⟨g',0,Z⟩) (xs.length+1) cap) (xs.length+1) (aC.flatten++[O U c,wv,Y])) (hg:W.grownBy w5 E.ownBlock) (bn:E.ownBlock=J g'\/g'=W.heap.size)
  (h9:(SC V E).setIfInBounds 9 (I (J ⟨g',0,Z⟩) (xs.length+1) cap)=SC V (I (J ⟨g',0,Z⟩) (xs.length+1) cap)) :
  Bt D bs SC WR vs (xs++[⟨c,word,views⟩]) V (I (J ⟨g',0,Z⟩) (xs.length+1) cap) (w5.setCell ⟨bs,9,Z⟩ (I (J ⟨g',0,Z⟩) (xs.length+1) cap)):=by
 have h1:=h.on hb;have bq:=h1.out.lt;have bu:=h.bsl;have aI:=h.hx;have eU:=h1.big;have tK:=h1.tb.lt';have Gn:=h1.vw.lt;have K7:=hg.size;obtain⟨A3',Ve,e3,_,_,hL⟩:=Zn h1.vw;rw[Mj] at e3
 cases e3
 have hX:ZY.lies (fun k=>bs<k/\E.ownBlock≠J k) W [O U c,wv,Y] ⟨c,word,views⟩:=by
  refine⟨A2,c2,A3,c3,by rw[RQ,Mj],?_,?_,lG⟩
  . exact(hw.keep ⟨h1.wr.size,fun k hk hl=>h1.wr.block k hl (fun e=>by have:=hk.1;omega)⟩).mono fun k _ hs=>⟨hs.1,fun e=>by have:=(bq k e).1;have:=hs.2;omega⟩
  refine hL.mono fun k _ hs=>?_
  rcases hs with hs | hs
  . exact⟨by have:=hs.1;omega,hs.2.2.1⟩
  exact⟨by have:=(Gn k hs).1;omega,fun e=>(h.nE k e).2.1 hs⟩
 have hv:=OwnX.app zx (S:=fun k=>bs<k) bD (fun i i1 i2=>zx.mono (bl i i1 i2) fun k _ hs=>⟨hs.1.1,hs.2⟩) hX hr hg bn;have tz:w5.heap[bs]?=J (Ag (SC V E) 36 (0,0)):=(hg.block bs (by omega) fun e=>by have:=(bq bs e.symm).1;omega).trans h1.sys;have hk:∀k,k≠bs->(w5.setCell ⟨bs,9,Z⟩ (I (J ⟨g',0,Z⟩) (xs.length+1) cap)).heap[k]?=w5.heap[k]?:=fun k hk=>Ld w5 ⟨bs,9,Z⟩ _ k hk
 have ii:Wrote (fun k=>k=bs\/D<=k) W (w5.setCell ⟨bs,9,Z⟩ (I (J ⟨g',0,Z⟩) (xs.length+1) cap)):=
  (Wrote.of_grown (R:=fun k=>k=bs\/D<=k) hg (fun k e _=>.inr (bq k e).1)).trans (gE w5 bs 9 _) (fun k _ e=>.inl e)
 refine⟨h1.wr.trans ii (fun k hk e=>by have:=h.wd;omega),h.wd,by simp;omega,h.bsl,?_,?_,?_,fun k e=>?_⟩
 . rw[Li w5 bs 9 _ _ _ tz,h9]
 . exact(h1.tb.aside hg fun k e=>(h.nV k e).2.1).of_same fun k e=>hk k (by have:=(tK k e).1;omega)
 . refine hv.keep zx ⟨by simp,fun k hs _=>hk k (by omega)⟩ fun k e=>hk k ?_
   exact xP (P:=fun j=>j≠bs) bn (fun j e=>by have:=(bq j e).1;omega) (by omega) k e
 exact fun e2=>xP (P:=fun j=>V.ownBlock≠J j) bn (fun j ej ev=>(h.nV j ev).2.1 ej) (fun ev=>by have:=(tK _ ev).2;omega) k e2 e
end
end
section
open Go.RowKit Go.Shelf
def stQ(vs:List Vw)(N:Nat)(inp:List Int)(word:List Rd):Nat->List Vw×List (List Int)
 | 0=>(vs,[])
 | k+1=>zi vs N inp word k
def fQ(inp:List Int)(word:List Rd)(views:List (List Int)):Nat->Nat->Vw
 | 0=>f0 inp
 | k+1=>fk word k (views.getD k [])
theorem stQ_succ(vs:List Vw)(N:Nat)(inp:List Int)(word:List Rd)(k:Nat) :
  stQ vs N inp word (k+1)=((zT (fQ inp word (stQ vs N inp word k).2 k) (stQ vs N inp word k).1 N).1,(stQ vs N inp word k).2++[(zT (fQ inp word (stQ vs N inp word k).2 k) (stQ vs N inp word k).1 N).2]):=by
 cases k<;>rfl
theorem stQ_len(vs:List Vw)(N:Nat)(inp:List Int)(word:List Rd)(k:Nat):(stQ vs N inp word k).2.length=k:=by
 cases k
 . rfl
 exact ye _ _ _ _ _
theorem QI(vs:List Vw)(N:Nat)(inp:List Int)(word:List Rd)(k:Nat):(stQ vs N inp word k).1.length<=vs.length+k*N:=by
 cases k
 . simp[stQ]
 exact qF _ _ _ _ _
theorem stQ_row(vs:List Vw)(N:Nat)(inp:List Int)(word:List Rd)(k j:Nat)(hj:j<(stQ vs N inp word k).2.length):((stQ vs N inp word k).2[j]).length=N:=by
 cases k with
 | zero=>exact absurd hj (by simp[stQ])
 | succ k=>exact qk _ _ _ _ k _ (Le hj)
def pcs(ab:List (List Rd))(c:Nat):List (Nat×List Rd):=(List.range c).flatMap fun i=>ab.map fun w=>(i,w)
theorem Yz(ab:List (List Rd))(c:Nat):pcs ab (c+1)=pcs ab c++ab.map fun w=>(c,w):=by
 unfold pcs;rw[NY,PD];simp
theorem QU(p:Pb):zj p=pcs (zn p.a p.k.toNat 0) p.t.cases.length:=rfl
def pcw(ab:List (List Rd))(c j:Nat):List (Nat×List Rd):=pcs ab c++(ab.take j).map fun w=>(c,w)
theorem Yy(ab:List (List Rd))(c:Nat):pcw ab c 0=pcs ab c:=by simp[pcw]
theorem pcw_succ(ab:List (List Rd))(c j:Nat)(hj:j<ab.length):pcw ab c (j+1)=pcw ab c j++[(c,ab[j])]:=by
 unfold pcw;rw[Ls hj,LN,List.map_singleton,L1]
theorem pcw_end(ab:List (List Rd))(c:Nat):pcw ab c ab.length=pcs ab (c+1):=by
 unfold pcw;rw[LC,Yz]
theorem ZE(ab:List (List Rd)):∀c,(pcs ab c).length=c*ab.length
 | 0=>by simp[pcs]
 | c+1=>by rw[Yz,Lp,ZE ab c,LT,PY];omega
theorem QT(ab:List (List Rd))(c j:Nat)(hj:j<=ab.length):(pcw ab c j).length=c*ab.length+j:=by
 unfold pcw;rw[Lp,ZE,LT,Ng,Rj hj]
theorem pcw_mem(ab:List (List Rd))(c j:Nat):∀x∈pcw ab c j,x.2∈ab:=fun x hx=>by
 unfold pcw at hx;rcases LM.1 hx with hx | hx
 . unfold pcs at hx
   obtain⟨_,_,hx⟩:=Nm.1 hx;obtain⟨_,h,rfl⟩:=LZ.1 hx;exact h
 . obtain⟨_,h,rfl⟩:=LZ.1 hx
   exact Rp h
theorem gL(p:Pb)(ab:List (List Rd))(hn:p.t.n.toNat<=5)(hw:∀w∈ab,w.length<=6)(c j:Nat)(hj:j<=ab.length)(dq:c*ab.length+j<=60):(zl p (pcw ab c j)).1.length<=2100/\(zl p (pcw ab c j)).2.length=c*ab.length+j:=by
 have h1:=uS p hn (pcw ab c j) fun x hx=>hw _ (pcw_mem ab c j x hx)
 rw[QT ab c j hj] at h1;refine⟨by omega,?_⟩;rw[xR,QT ab c j hj]
theorem uQ(p:Pb)(ab:List (List Rd))(hn:p.t.n.toNat<=5)(hw:∀w∈ab,w.length<=6)(c:Nat)(dq:c*ab.length<=60):(zl p (pcs ab c)).1.length<=2100:=by
 have:=(gL p ab hn hw c 0 (Nn _) (by omega)).1;rwa[Yy] at this
theorem put_out{n:Int}{AV:Bb}{kv:Nat}{vs:List Vw}{v:Vw}{W w':Ba}{e:Ending}{D:Nat}(h:RetPut n AV kv vs v W e w')(hO:OwnV W D (I AV vs.length kv) vs)(hD:D<=W.heap.size) :
  ∃A3 k3,e=Ak (.tuple #[Ai #[O U n,.slice A3 (xu vs v).1.length k3],O U (xu vs v).2])/\OwnV w' D (.slice A3 (xu vs v).1.length k3) (xu vs v).1 /\
   (∀k,(I A3 (xu vs v).1.length k3).ownBlock=J k->(I AV vs.length kv).ownBlock=J k\/W.heap.size<=k)/\Am W.heap.size W w':=by
 obtain⟨hb,h1,h2⟩:=h
 by_cases hm:v∈vs
 . rw[Yq hm]
   exact⟨AV,kv,h1 hm,hO.of_same fun k hk=>hb.block k (hO.lt' k hk).2,fun k hk=>.inl hk,hb⟩
 rw[QR hm];obtain⟨A3,k3,e3,ho⟩:=h2 hm;have hl:(vs++[v]).length=vs.length+1:=by simp
 dsimp only;rw[hl];exact⟨A3,k3,e3,ho.low hD,fun k hk=>.inr (ho.lt' k hk).1,hb⟩
theorem qq{w X:Ba}{g B:Nat}{a0 a1 a2 a3 a4 a5 a6 a7 a8 a9:Aq}(v0 v1 v2 v3 v4 v5 v6 v7 v8 v9:Aq)(hg:X.heap[g]?=J (Ag #[a0,a1,a2,a3,a4,a5,a6,a7,a8,a9] 36 (0,0)))(hB:Am B w X)(h1:B<=g) :
  ((((((((((X.setCell ⟨g,0,Z⟩ v0).setCell ⟨g,1,Z⟩ v1).setCell ⟨g,2,Z⟩ v2).setCell ⟨g,3,Z⟩ v3).setCell ⟨g,4,Z⟩ v4).setCell ⟨g,5,Z⟩ v5).setCell ⟨g,6,Z⟩ v6).setCell ⟨g,7,Z⟩ v7).setCell ⟨g,8,Z⟩ v8).setCell ⟨g,9,Z⟩ v9).heap[g]?=J (Ag #[v0,v1,v2,v3,v4,v5,v6,v7,v8,v9] 36 (0,0))/\Am B w ((((((((((X.setCell ⟨g,0,Z⟩ v0).setCell ⟨g,1,Z⟩ v1).setCell ⟨g,2,Z⟩ v2).setCell ⟨g,3,Z⟩ v3).setCell ⟨g,4,Z⟩ v4).setCell ⟨g,5,Z⟩ v5).setCell ⟨g,6,Z⟩ v6).setCell ⟨g,7,Z⟩ v7).setCell ⟨g,8,Z⟩ v8).setCell ⟨g,9,Z⟩ v9)/\Am g X ((((((((((X.setCell ⟨g,0,Z⟩ v0).setCell ⟨g,1,Z⟩ v1).setCell ⟨g,2,Z⟩ v2).setCell ⟨g,3,Z⟩ v3).setCell ⟨g,4,Z⟩ v4).setCell ⟨g,5,Z⟩ v5).setCell ⟨g,6,Z⟩ v6).setCell ⟨g,7,Z⟩ v7).setCell ⟨g,8,Z⟩ v8).setCell ⟨g,9,Z⟩ v9)/\(∀k,k≠g->((((((((((X.setCell ⟨g,0,Z⟩ v0).setCell ⟨g,1,Z⟩ v1).setCell ⟨g,2,Z⟩ v2).setCell ⟨g,3,Z⟩ v3).setCell ⟨g,4,Z⟩ v4).setCell ⟨g,5,Z⟩ v5).setCell ⟨g,6,Z⟩ v6).setCell ⟨g,7,Z⟩ v7).setCell ⟨g,8,Z⟩ v8).setCell ⟨g,9,Z⟩ v9).heap[k]?=X.heap[k]?)/\((((((((((X.setCell ⟨g,0,Z⟩ v0).setCell ⟨g,1,Z⟩ v1).setCell ⟨g,2,Z⟩ v2).setCell ⟨g,3,Z⟩ v3).setCell ⟨g,4,Z⟩ v4).setCell ⟨g,5,Z⟩ v5).setCell ⟨g,6,Z⟩ v6).setCell ⟨g,7,Z⟩ v7).setCell ⟨g,8,Z⟩ v8).setCell ⟨g,9,Z⟩ v9).heap.size=X.heap.size:=by
 have k0:(X.setCell ⟨g,0,Z⟩ v0).heap[g]?=J (Ag #[v0,a1,a2,a3,a4,a5,a6,a7,a8,a9] 36 (0,0)):=Li _ g 0 _ _ v0 hg;have k1:((X.setCell ⟨g,0,Z⟩ v0).setCell ⟨g,1,Z⟩ v1).heap[g]?=J (Ag #[v0,v1,a2,a3,a4,a5,a6,a7,a8,a9] 36 (0,0)):=Li _ g 1 _ _ v1 k0;have k2:(((X.setCell ⟨g,0,Z⟩ v0).setCell ⟨g,1,Z⟩ v1).setCell ⟨g,2,Z⟩ v2).heap[g]?=J (Ag #[v0,v1,v2,a3,a4,a5,a6,a7,a8,a9] 36 (0,0)):=Li _ g 2 _ _ v2 k1;have k3:((((X.setCell ⟨g,0,Z⟩ v0).setCell ⟨g,1,Z⟩ v1).setCell ⟨g,2,Z⟩ v2).setCell ⟨g,3,Z⟩ v3).heap[g]?=J (Ag #[v0,v1,v2,v3,a4,a5,a6,a7,a8,a9] 36 (0,0)):=Li _ g 3 _ _ v3 k2;have k4:(((((X.setCell ⟨g,0,Z⟩ v0).setCell ⟨g,1,Z⟩ v1).setCell ⟨g,2,Z⟩ v2).setCell ⟨g,3,Z⟩ v3).setCell ⟨g,4,Z⟩ v4).heap[g]?=J (Ag #[v0,v1,v2,v3,v4,a5,a6,a7,a8,a9] 36 (0,0)):=Li _ g 4 _ _ v4 k3;have k5:((((((X.setCell ⟨g,0,Z⟩ v0).setCell ⟨g,1,Z⟩ v1).setCell ⟨g,2,Z⟩ v2).setCell ⟨g,3,Z⟩ v3).setCell ⟨g,4,Z⟩ v4).setCell ⟨g,5,Z⟩ v5).heap[g]?=J (Ag #[v0,v1,v2,v3,v4,v5,a6,a7,a8,a9] 36 (0,0)):=Li _ g 5 _ _ v5 k4;have k6:(((((((X.setCell ⟨g,0,Z⟩ v0).setCell ⟨g,1,Z⟩ v1).setCell ⟨g,2,Z⟩ v2).setCell ⟨g,3,Z⟩ v3).setCell ⟨g,4,Z⟩ v4).setCell ⟨g,5,Z⟩ v5).setCell ⟨g,6,Z⟩ v6).heap[g]?=J (Ag #[v0,v1,v2,v3,v4,v5,v6,a7,a8,a9] 36 (0,0)):=Li _ g 6 _ _ v6 k5
 have k7:((((((((X.setCell ⟨g,0,Z⟩ v0).setCell ⟨g,1,Z⟩ v1).setCell ⟨g,2,Z⟩ v2).setCell ⟨g,3,Z⟩ v3).setCell ⟨g,4,Z⟩ v4).setCell ⟨g,5,Z⟩ v5).setCell ⟨g,6,Z⟩ v6).setCell ⟨g,7,Z⟩ v7).heap[g]?=J (Ag #[v0,v1,v2,v3,v4,v5,v6,v7,a8,a9] 36 (0,0)):=Li _ g 7 _ _ v7 k6;have k8:(((((((((X.setCell ⟨g,0,Z⟩ v0).setCell ⟨g,1,Z⟩ v1).setCell ⟨g,2,Z⟩ v2).setCell ⟨g,3,Z⟩ v3).setCell ⟨g,4,Z⟩ v4).setCell ⟨g,5,Z⟩ v5).setCell ⟨g,6,Z⟩ v6).setCell ⟨g,7,Z⟩ v7).setCell ⟨g,8,Z⟩ v8).heap[g]?=J (Ag #[v0,v1,v2,v3,v4,v5,v6,v7,v8,a9] 36 (0,0)):=Li _ g 8 _ _ v8 k7;have k9:((((((((((X.setCell ⟨g,0,Z⟩ v0).setCell ⟨g,1,Z⟩ v1).setCell ⟨g,2,Z⟩ v2).setCell ⟨g,3,Z⟩ v3).setCell ⟨g,4,Z⟩ v4).setCell ⟨g,5,Z⟩ v5).setCell ⟨g,6,Z⟩ v6).setCell ⟨g,7,Z⟩ v7).setCell ⟨g,8,Z⟩ v8).setCell ⟨g,9,Z⟩ v9).heap[g]?=J (Ag #[v0,v1,v2,v3,v4,v5,v6,v7,v8,v9] 36 (0,0)):=Li _ g 9 _ _ v9 k8;refine⟨k9,?_,?_,fun k hk=>?_,by simp⟩
 . refine Lv (p:=⟨g,9,Z⟩) ?_ h1 _
   refine Lv (p:=⟨g,8,Z⟩) ?_ h1 _;refine Lv (p:=⟨g,7,Z⟩) ?_ h1 _;refine Lv (p:=⟨g,6,Z⟩) ?_ h1 _;refine Lv (p:=⟨g,5,Z⟩) ?_ h1 _;refine Lv (p:=⟨g,4,Z⟩) ?_ h1 _;refine Lv (p:=⟨g,3,Z⟩) ?_ h1 _;refine Lv (p:=⟨g,2,Z⟩) ?_ h1 _;refine Lv (p:=⟨g,1,Z⟩) ?_ h1 _;refine Lv (p:=⟨g,0,Z⟩) ?_ h1 _;exact hB
 . refine Lv (p:=⟨g,9,Z⟩) ?_ (Lh _) _
   refine Lv (p:=⟨g,8,Z⟩) ?_ (Lh _) _;refine Lv (p:=⟨g,7,Z⟩) ?_ (Lh _) _;refine Lv (p:=⟨g,6,Z⟩) ?_ (Lh _) _;refine Lv (p:=⟨g,5,Z⟩) ?_ (Lh _) _;refine Lv (p:=⟨g,4,Z⟩) ?_ (Lh _) _;refine Lv (p:=⟨g,3,Z⟩) ?_ (Lh _) _;refine Lv (p:=⟨g,2,Z⟩) ?_ (Lh _) _;refine Lv (p:=⟨g,1,Z⟩) ?_ (Lh _) _;refine Lv (p:=⟨g,0,Z⟩) ?_ (Lh _) _;exact Ln _ _
 exact((Ld _ ⟨g,9,Z⟩ v9 k hk).trans ((Ld _ ⟨g,8,Z⟩ v8 k hk).trans ((Ld _ ⟨g,7,Z⟩ v7 k hk).trans ((Ld _ ⟨g,6,Z⟩ v6 k hk).trans ((Ld _ ⟨g,5,Z⟩ v5 k hk).trans ((Ld _ ⟨g,4,Z⟩ v4 k hk).trans ((Ld _ ⟨g,3,Z⟩ v3 k hk).trans ((Ld _ ⟨g,2,Z⟩ v2 k hk).trans ((Ld _ ⟨g,1,Z⟩ v1 k hk).trans (Ld _ ⟨g,0,Z⟩ v0 k hk))))))))))
theorem Jm{w X:Ba}{g B:Nat}{a0 a1 a2 a3 a4 a5 a6 a7:Aq}(v:Vw)(hg:X.heap[g]?=J (Ag #[a0,a1,a2,a3,a4,a5,a6,a7] 100 (0,0)))(hB:Am B w X)(h1:B<=g) :
  ((((((((X.setCell ⟨g,0,Z⟩ (O U v.p)).setCell ⟨g,1,Z⟩ (O U v.r)).setCell ⟨g,2,Z⟩ (O U v.i)).setCell ⟨g,3,Z⟩ (O U v.h0)).setCell ⟨g,4,Z⟩ (O U v.h1)).setCell ⟨g,5,Z⟩ (O U v.h2)).setCell ⟨g,6,Z⟩ (O U v.h3)).setCell ⟨g,7,Z⟩ (O U v.h4)).heap[g]?=J (Ag v.cells 100 (0,0))/\Am B w ((((((((X.setCell ⟨g,0,Z⟩ (O U v.p)).setCell ⟨g,1,Z⟩ (O U v.r)).setCell ⟨g,2,Z⟩ (O U v.i)).setCell ⟨g,3,Z⟩ (O U v.h0)).setCell ⟨g,4,Z⟩ (O U v.h1)).setCell ⟨g,5,Z⟩ (O U v.h2)).setCell ⟨g,6,Z⟩ (O U v.h3)).setCell ⟨g,7,Z⟩ (O U v.h4)):=by
 have k0:(X.setCell ⟨g,0,Z⟩ (O U v.p)).heap[g]?=J (Ag #[O U v.p,a1,a2,a3,a4,a5,a6,a7] 100 (0,0)):=Li _ g 0 _ _ _ hg;have k1:((X.setCell ⟨g,0,Z⟩ (O U v.p)).setCell ⟨g,1,Z⟩ (O U v.r)).heap[g]?=J (Ag #[O U v.p,O U v.r,a2,a3,a4,a5,a6,a7] 100 (0,0)):=Li _ g 1 _ _ _ k0;have k2:(((X.setCell ⟨g,0,Z⟩ (O U v.p)).setCell ⟨g,1,Z⟩ (O U v.r)).setCell ⟨g,2,Z⟩ (O U v.i)).heap[g]?=J (Ag #[O U v.p,O U v.r,O U v.i,a3,a4,a5,a6,a7] 100 (0,0)):=Li _ g 2 _ _ _ k1;have k3:((((X.setCell ⟨g,0,Z⟩ (O U v.p)).setCell ⟨g,1,Z⟩ (O U v.r)).setCell ⟨g,2,Z⟩ (O U v.i)).setCell ⟨g,3,Z⟩ (O U v.h0)).heap[g]?=J (Ag #[O U v.p,O U v.r,O U v.i,O U v.h0,a4,a5,a6,a7] 100 (0,0)):=Li _ g 3 _ _ _ k2;have k4:(((((X.setCell ⟨g,0,Z⟩ (O U v.p)).setCell ⟨g,1,Z⟩ (O U v.r)).setCell ⟨g,2,Z⟩ (O U v.i)).setCell ⟨g,3,Z⟩ (O U v.h0)).setCell ⟨g,4,Z⟩ (O U v.h1)).heap[g]?=J (Ag #[O U v.p,O U v.r,O U v.i,O U v.h0,O U v.h1,a5,a6,a7] 100 (0,0)):=Li _ g 4 _ _ _ k3
 have k5:((((((X.setCell ⟨g,0,Z⟩ (O U v.p)).setCell ⟨g,1,Z⟩ (O U v.r)).setCell ⟨g,2,Z⟩ (O U v.i)).setCell ⟨g,3,Z⟩ (O U v.h0)).setCell ⟨g,4,Z⟩ (O U v.h1)).setCell ⟨g,5,Z⟩ (O U v.h2)).heap[g]?=J (Ag #[O U v.p,O U v.r,O U v.i,O U v.h0,O U v.h1,O U v.h2,a6,a7] 100 (0,0)):=Li _ g 5 _ _ _ k4;have k6:(((((((X.setCell ⟨g,0,Z⟩ (O U v.p)).setCell ⟨g,1,Z⟩ (O U v.r)).setCell ⟨g,2,Z⟩ (O U v.i)).setCell ⟨g,3,Z⟩ (O U v.h0)).setCell ⟨g,4,Z⟩ (O U v.h1)).setCell ⟨g,5,Z⟩ (O U v.h2)).setCell ⟨g,6,Z⟩ (O U v.h3)).heap[g]?=J (Ag #[O U v.p,O U v.r,O U v.i,O U v.h0,O U v.h1,O U v.h2,O U v.h3,a7] 100 (0,0)):=Li _ g 6 _ _ _ k5;have k7:((((((((X.setCell ⟨g,0,Z⟩ (O U v.p)).setCell ⟨g,1,Z⟩ (O U v.r)).setCell ⟨g,2,Z⟩ (O U v.i)).setCell ⟨g,3,Z⟩ (O U v.h0)).setCell ⟨g,4,Z⟩ (O U v.h1)).setCell ⟨g,5,Z⟩ (O U v.h2)).setCell ⟨g,6,Z⟩ (O U v.h3)).setCell ⟨g,7,Z⟩ (O U v.h4)).heap[g]?=J (Ag #[O U v.p,O U v.r,O U v.i,O U v.h0,O U v.h1,O U v.h2,O U v.h3,O U v.h4] 100 (0,0)):=Li _ g 7 _ _ _ k6;refine⟨k7,?_⟩;refine Lv (p:=⟨g,7,Z⟩) ?_ h1 _;refine Lv (p:=⟨g,6,Z⟩) ?_ h1 _;refine Lv (p:=⟨g,5,Z⟩) ?_ h1 _
 refine Lv (p:=⟨g,4,Z⟩) ?_ h1 _;refine Lv (p:=⟨g,3,Z⟩) ?_ h1 _;refine Lv (p:=⟨g,2,Z⟩) ?_ h1 _;refine Lv (p:=⟨g,1,Z⟩) ?_ h1 _;refine Lv (p:=⟨g,0,Z⟩) ?_ h1 _;exact hB
def WdsAt(bs D:Nat)(WR:Ba)(AW:Bb)(ab:List (List Rd)):Prop:=∀(i:Nat) (h:i<ab.length),∃g A c,AW=J ⟨g,0,Z⟩/\bs<g/\g<D/\WR.cell? ⟨g,i,Z⟩=J (I A ab[i].length c)/\RAtS (fun k=>bs<k/\k<D) WR A ab[i]/\ab[i].length<=c
theorem WdsAt.of{bs D:Nat}{w w':Ba}{v:Aq}{ab:List (List Rd)}(h:OwnX cWd (fun b=>w.heap.size<=b) w' w.heap.size v ab)(hb:bs<w.heap.size)(hD:w'.heap.size=D) :
  ∃AW cw,v=I AW ab.length cw/\WdsAt bs D w' AW ab:=by
 obtain⟨A,cap,e,_,_,h3⟩:=h.form xM;refine⟨A,cap,e,fun i hi=>?_⟩;obtain⟨g,hA,hg,hl,hc⟩:=h3 (by omega);obtain⟨cs,⟨A2,c2,e2,hR,T6⟩,hu⟩:=hc i hi;subst e2;refine⟨g,A2,c2,hA,by omega,by omega,?_,hR.mono fun k hk hs=>⟨by have:=hs.1;omega,by omega⟩,T6⟩;have:=hu 0 _ rfl;simpa[cWd,kWd] using this
end
section
open Go.RowKit
attribute [local go_sem] Oper.semAt_some
theorem Yh(a:Ad)(hf:FewA a)(hz:zk a a.sts=0)(h1:1<=a.sts.length)(K L:Nat)(hK:K<=6)(hL:L<=1048576)(SV:Bb)(ks:Nat)(w:Ba)(hS:SAt w w.heap.size SV a.sts) :
  An Al 122 #[Ai #[O U a.n,I SV a.sts.length ks],O U K,O U L] w fun e w'=>e=Ak (O U ((yA L (zQ a K 0):Nat):Int))/\Am w.heap.size w w':=by
 have dA:=hf.1;have iH:=zH (fun l hl=>hf.each (l:=l) hl);have HZ:=zH (@yS a hz);go_enter func122,ntmps122;go_wp2_with fail;obtain⟨w1,af⟩:=Kh (w.alloc (Ag #[O U a.n,I SV a.sts.length ks] 27));have aL:=ze w (Ag #[O U a.n,I SV a.sts.length ks] 27);have an:Am w.heap.size w w1:=by rw[<-af];exact zw w _
 have cj:w1.heap.size=w.heap.size+1:=by rw[<-af];simp
 rw[af] at aL ⊢;have bL:=zH aL;have aV:=zH an;have HS:=zH ((hS.keep an).more (by omega:w.heap.size<=w1.heap.size))
 go_loopw [7,8] (fun v i wr=>∃s:Nat,s<=a.sts.length/\i=O U (s:Int)/\Ap (Own wr w1.heap.size v (cl a L 0 s))/\Ap (Am w1.heap.size w1 wr)) (fun _ i _=>a.sts.length-(Ao i).toNat)
 case atStart=>exact⟨0,by omega,rfl,Own.nil _ _,Ln _ _⟩
 obtain⟨s,hs,rfl,HO,bu⟩:=hrel;have aQ:=La bu.out bL.out;have q1:=za aQ 1 rfl
 by_cases aa:s<a.sts.length
 case pos=>
  have nh:=qX a L 0 s;have HR:Ap (cl a L 0 (s+1)=cl a L 0 s++[1]):=by rw[Ap,Q4,show zQ a 0 (s:Int)=1 from rfl,QJ];rfl
  go_wp2_with (at_builtin;go_must (refine kh rfl _ _ rfl w1.heap.size u7 _ (1:Int) rfl HO.out rfl (by omega) bu.out.size ?_);intro v' w2 aY dL aH)
  go_roundw
  case rel=>exact⟨s+1,by omega,by go_num,by rw[HR.out];exact aY,bu.out.trans aH⟩
  simp[Ao];omega
 case neg=>
 obtain rfl:s=a.sts.length:=by omega
 go_wp2_with fail
 go_loopw [7,9] (fun v i wr=>∃k:Nat,k<=K/\i=O U (k:Int)/\Ap (Own wr w1.heap.size v (cl a L k a.sts.length))/\Ap (Am w1.heap.size w1 wr)) (fun _ i _=>K-(Ao i).toNat)
 case atStart=>exact⟨0,by omega,rfl,HO,bu⟩
 obtain⟨k,hk,rfl,HO,bu⟩:=hrel
 by_cases rL:k<K
 case neg=>
  obtain rfl:k=K:=by omega
  obtain⟨A,cap,hv,dJ,iy,hI⟩:=HO.out.form;subst hv;have nh:=qX a L k a.sts.length;obtain⟨b,o,rfl,dC,hc⟩:=hI (by omega);have c0:=hc 0 (by omega);rw[wP] at c0;rw[nh] at dJ;rw[show((0:Nat):Int)=0 from rfl,Pt] at c0;obtain⟨r,hr⟩:=Kh (yA L (zQ a k 0));rw[hr] at c0;have VI:=zH hr;go_wp2_with fail;go_ret;exact⟨zc (by rw[VI.out]),aV.out.trans (bu.out.mono (by omega))⟩
 case pos=>
 obtain⟨A,cap,hv,dJ,iy,hI⟩:=HO.out.form;subst hv;have nh:=qX a L k a.sts.length;obtain⟨b0,o0,e0,Ca,hc⟩:=hI (by omega);subst e0;rw[nh] at dJ;obtain⟨W2,eZ⟩:=Kh wr
 have OK:Ap (∀X,Am W2.heap.size W2 X->∀j:Nat,j<a.sts.length->X.cell? ⟨b0,o0+j,Z⟩=J (O U ((yA L (zQ a k (j:Int)):Nat):Int))):=fun X hX j hj=>by
  rw[<-eZ] at hX;have:=hc j (by omega);rw[wP] at this;exact(hX.cell (p:=⟨b0,_,Z⟩) Ca).trans this
 rw[eZ] at HO bu Ca ⊢;have DB:=bu.out.size;go_wp2_with fail;simp only[nh]
 go_loopw [10,11] (fun v i wx=>∃s:Nat,s<=a.sts.length/\i=O U (s:Int)/\Ap (Own wx W2.heap.size v (cl a L (k+1) s))/\Ap (Am W2.heap.size W2 wx)) (fun _ i _=>a.sts.length-(Ao i).toNat)
 case atStart=>exact⟨0,by omega,rfl,Own.nil _ _,Ln _ _⟩
 obtain⟨s,hs,rfl,HP,aI⟩:=hrel;have cD:=zH (bu.out.trans (aI.out.mono DB));have aQ:=La cD.out bL.out;have q1:=za aQ 1 rfl
 by_cases lI:s<a.sts.length
 case neg=>
  obtain rfl:s=a.sts.length:=by omega
  go_wp2_with fail
  go_roundw
  case rel=>exact⟨k+1,by omega,by go_num,HP.out.low DB,cD⟩
  simp[Ao];omega
 case pos=>
 obtain⟨b,o,A',k',e',dC,c1,hM⟩:=(HS.out.keep cD.out).at_ s lI;subst e';have cV:=iH.out _ (Le lI);have DA:=Js a k lI;have C1:Ap (∀m∈a.sts[s],m∈a.mvs):=fun m hm=>Nu.2 ⟨_,Le lI,hm⟩
 have i8:=zH hM;obtain⟨M,Ua⟩:=Kh (a.sts[s]);rw[Ua] at c1 cV C1 DA i8;have p':=zH DA;have fI:=qX a L (k+1) s;go_wp2_with fail
 go_loop [12,13] (fun n i=>∃j:Nat,j<=M.length/\i=O U (j:Int)/\n=O U ((yA L (qA a k M j):Nat):Int)) (fun _ i=>M.length-(Ao i).toNat)
 case atStart=>exact⟨0,by omega,rfl,by rw[Xo,Yc];rfl⟩
 obtain⟨j,hj,rfl,rfl⟩:=hrel
 by_cases bf:j<M.length
 case neg=>
  obtain rfl:j=M.length:=by omega
  have HR:Ap (cl a L (k+1) (s+1)=cl a L (k+1) s++[((yA L (qA a k M M.length):Nat):Int)]):=by rw[Ap,Q4,p'.out]
  obtain⟨r,hr⟩:=Kh (yA L (qA a k M M.length));rw[hr] at HR ⊢;go_wp2_with (at_builtin;go_must (refine kh rfl _ _ rfl W2.heap.size u10 _ (r:Int) rfl HP.out rfl (by omega) aI.out.size ?_);intro v' w3 aY dL aH)
  go_roundw
  case rel=>exact⟨s+1,by omega,by go_num,by rw[HR.out];exact aY,aI.out.trans aH⟩
  simp[Ao];omega
 case pos=>
 obtain⟨b2,o2,e2,bG,_,_,_,_,_,_,_,d7⟩:=i8.out.row j bf;subst e2;obtain⟨_,_,z3,z4⟩:=HZ.out _ (C1.out _ (Le bf));have ti:=Xp a k M bf;obtain⟨t,et⟩:=Lq z3;rw[et] at d7 ti z4;have fC:t<a.sts.length:=by omega
 have u0:=OK.out _ aI.out t fC;have y1:=vc L (qA a k M j);have y2:=vc L (zQ a k (t:Int));have y3:=QL L (qA a k M j) (zQ a k (t:Int));rw[<-ti] at y3;obtain⟨n1,dT⟩:=Kh (yA L (qA a k M j));obtain⟨n2,ol⟩:=Kh (yA L (zQ a k (t:Int)));rw[dT] at y1 y3 ⊢;rw[ol] at y2 y3 u0;have oR:=zH y3;go_wp2_with fail
 go_round
 case rel => 
  refine⟨j+1,by omega,by go_num,?_⟩;rw[<-oR.out];exact congrArg (O U) (by first | (split<;>omega) | omega)
 simp[Ao];omega
theorem gM(p:Pb)(hf:Z0 p)(hz:zk p.a p.a.sts=0)(h1:1<=p.a.sts.length)(K L:Nat)(hk:p.k=(K:Int))(hK:K<=6)(hL:L<=1048576)(A:Bb)(kc:Nat)(SV:Bb)(ks:Nat)(w:Ba)(hS:SAt w w.heap.size SV p.a.sts) :
  An Al 94 #[.agg (p.vs A kc SV ks),O U L] w fun e w'=>e=Ak (O U ((p.t.cases.length*yA L (zQ p.a K 0):Nat):Int))/\Am w.heap.size w w':=by
 have lp:=hf.1.1;have HN:=zH (fun (w':Ba) (h:SAt w' w'.heap.size SV p.a.sts)=>Yh p.a hf.2 hz h1 K L hK hL SV ks w' h);have nW:=vc L (zQ p.a K 0);obtain⟨r,hr⟩:=Kh (yA L (zQ p.a K 0));rw[hr] at HN nW ⊢;unfold Pb.vs;rw[hk];obtain⟨w1,af⟩:=Kh (w.alloc (Ag (p.vs A kc SV ks) 29));have aL:=ze w (Ag (p.vs A kc SV ks) 29);have an:Am w.heap.size w w1:=by rw[<-af];exact zw w _
 rw[af] at aL;unfold Pb.vs at af aL;rw[hk] at af aL;have cj:w1.heap.size=w.heap.size+1:=by rw[<-af];simp
 have aV:=zH an;have HS:=zH ((hS.keep an).more (by omega:w.heap.size<=w1.heap.size));have au:=zH af;have q3:=za aL 3 rfl;have q4:=za aL 4 rfl;have q5:=za aL 5 rfl;have q6:=za aL 6 rfl;obtain⟨cn,sc⟩:=Kh p.t.cases.length;rw[sc] at au q3 lp ⊢;have hm:cn*r<=30*1048577:=N7 lp (by omega);have hw:IntKind.i64.wrap ((cn:Int)*(r:Int))=((cn*r:Nat):Int):=by rw[Lw,<-Int.natCast_mul];omega
 go_enter func94,ntmps94;go_wp2_with fail;rw[au.out];have iL:w.heap.size<w1.heap.size:=by omega
 have ia:Ap (∀X,Am w1.heap.size w1 X->X.cell? ⟨w.heap.size,3,Z⟩=J (I A cn kc)/\X.cell? ⟨w.heap.size,4,Z⟩=J (O U p.a.n)/\X.cell? ⟨w.heap.size,5,Z⟩=J (I SV p.a.sts.length ks)/\X.cell? ⟨w.heap.size,6,Z⟩=J (O U K)):=fun X hX=>
  ⟨(hX.cell (p:=⟨_,_,Z⟩) iL).trans q3,(hX.cell (p:=⟨_,_,Z⟩) iL).trans q4,(hX.cell (p:=⟨_,_,Z⟩) iL).trans q5,(hX.cell (p:=⟨_,_,Z⟩) iL).trans q6⟩
 have VE:Ap (∀X,Am w1.heap.size w1 X->SAt X X.heap.size SV p.a.sts):=fun X hX=>(HS.out.keep hX).more hX.size
 go_region_held3 (fun w'=>w'.cell? ⟨w.heap.size,3,Z⟩=J (I A cn kc)/\w'.cell? ⟨w.heap.size,4,Z⟩=J (O U p.a.n)/\w'.cell? ⟨w.heap.size,5,Z⟩=J (I SV p.a.sts.length ks)/\w'.cell? ⟨w.heap.size,6,Z⟩=J (O U K))
  (first | exact⟨q3,q4,q5,q6⟩ | exact ia.out _ (gx ak) | exact ia.out _ ak)
  ((go_at_call 122;refine(HN.out _ (VE.out _ (by repeat (first | exact Ln _ _ | refine Below.drew ?_ | refine zF ?_ _)))).mono ?_;rintro e w3 ⟨rfl,ak⟩))
 have i9:=zH (aV.out.trans ((gx ak).mono (by have:w1.drew.heap.size=w1.heap.size:=rfl;omega)));go_wp2_with fail;go_ret;exact⟨zc (by first | rfl | rw[hw]),i9.out⟩
def gi(p:Pb):Nat:=p.t.cases.length*yA 4096 (zQ p.a p.k.toNat 0)
def wK(a:Ad):Bool:=decide (a.sts.length<=8)&&decide (a.mvs.length<=40)
def xx(p:Pb):Bool:=kC p.t&&wK p.a&&!(decide (3<p.t.n)&&decide (p.t.n<=5))&&(decide (zD p≠0)||(decide (gi p<=60)||decide (4096<gi p)))
theorem fewPB_t{p:Pb}(h:kC p.t=As):xx p=As:=by unfold xx;rw[h];rfl
theorem fewPB_a{p:Pb}(h:wK p.a=As):xx p=As:=by unfold xx;rw[h];simp
theorem fewPB_n{p:Pb}(h:3<p.t.n)(h2:p.t.n<=5):xx p=As:=by unfold xx;rw[Lo h,Lo h2];simp
theorem fewPB_e{p:Pb}(h:kC p.t=Ar)(h1:wK p.a=Ar)(h2:¬(3<p.t.n/\p.t.n<=5))(h3:zD p≠0):xx p=Ar:=by
 unfold xx;have e:(decide (3<p.t.n)&&decide (p.t.n<=5))=As:=by simpa[Bool.and_eq_false_imp] using fun x=>by omega
 rw[h,h1,e,Lo h3];rfl
theorem fewPB_m{p:Pb}(h:kC p.t=Ar)(h1:wK p.a=Ar)(h2:¬(3<p.t.n/\p.t.n<=5))(h3:zD p=0):xx p=(decide (gi p<=60)||decide (4096<gi p)):=by
 unfold xx;have e:(decide (3<p.t.n)&&decide (p.t.n<=5))=As:=by simpa[Bool.and_eq_false_imp] using fun x=>by omega
 rw[h,h1,e,h3];simp
theorem Zf{a:Ad}:wK a=Ar↔FewA a:=by unfold wK FewA;simp
theorem num_exec{p:Pb}(h:zD p=0):(gi p<=60\/4096<gi p)->(zP p<=60\/4096<zP p):=by
 obtain⟨dF,_⟩:=zM h;obtain⟨h1,_⟩:=yG dF;intro hn;have e:zP p=p.t.cases.length*zQ p.a p.k.toNat 0:=by unfold zP;rw[Ps]
 have hm:=QK 4096 p.t.cases.length (zQ p.a p.k.toNat 0) h1;rw[e];rcases hn with hn | hn
 . left
   unfold gi at hn;have dJ:yA 4096 (zQ p.a p.k.toNat 0)<=60:=LE (Nat.le_mul_of_pos_left _ h1) hn;have hx:zQ p.a p.k.toNat 0<=4096:=by unfold yA at dJ;omega
   rwa[sat_eq hx] at hn
 right;exact hm.1 hn
theorem Ze{p:Pb}(h:xx p=Ar):wZ p/\¬(3<p.t.n/\p.t.n<=5):=by
 unfold xx at h;simp only[Bool.and_eq_true,Bool.not_eq_true',Bool.or_eq_true,decide_eq_true_eq] at h;obtain⟨⟨⟨h1,h2⟩,h3⟩,h4⟩:=h;refine⟨⟨⟨YU.1 h1,Zf.1 h2⟩,fun h0=>?_⟩,fun hn=>?_⟩
 . rcases h4 with h4 | h4
   . exact absurd h0 h4
   exact num_exec h0 h4
 rw[Lo hn.1,Lo hn.2] at h3
 cases h3
theorem few_any(p:Pb)(hl:gC p)(A:Bb)(kc:Nat)(SV:Bb)(ks:Nat)(w:Ba)(hA:CAt w w.heap.size A p.t.cases)(hS:SAt w w.heap.size SV p.a.sts) :
  An Al 55 #[.agg (p.vs A kc SV ks)] w fun e w'=>e=Ak (Ah (xx p))/\Am w.heap.size w w':=by
 have HT:=zH (fun (w':Ba) (h:CAt w' w'.heap.size A p.t.cases)=>JE p.t A kc hl.1.1 hl.1.2 w' h);have HD:=zH (fun (w':Ba) (h:SAt w' w'.heap.size SV p.a.sts)=>JF p.a SV ks hl.2.1 hl.2.2 w' h);have HC:=zH (fun (hf:Z0 p) (w':Ba) (h1:CAt w' w'.heap.size A p.t.cases) (h2:SAt w' w'.heap.size SV p.a.sts)=>vW p hf A kc SV ks w' h1 h2);have aA:=zH (@fewPB_t p);have al:=zH (@fewPB_a p);have az:=zH (@fewPB_n p);have cq:=zH (@fewPB_e p);have ey:=zH (@fewPB_m p);obtain⟨R,Co⟩:=Kh (xx p);rw[Co] at aA al az cq ey ⊢;obtain⟨w1,af⟩:=Kh (w.alloc (Ag (p.vs A kc SV ks) 29));have aL:=ze w (Ag (p.vs A kc SV ks) 29);have an:Am w.heap.size w w1:=by rw[<-af];exact zw w _
 have cj:w1.heap.size=w.heap.size+1:=by rw[<-af];simp
 rw[af] at aL
 have HN:=zH (fun (w':Ba) (hf:Z0 p) (h0:zD p=0) (h:SAt w' w'.heap.size SV p.a.sts)=>
  gM p hf (yD hf.2 (zM h0).2.1).1 (yD hf.2 (zM h0).2.1).2.1 p.k.toNat 4096 (by have:=(zM h0).2.2.2.1;omega) (by have:=(zM h0).2.2.2.2;omega) (by decide) A kc SV ks w' h)
 unfold Pb.vs at af aL ⊢;have bL:=zH aL;have aV:=zH an;have HA:=zH ((hA.keep an).more (by omega:w.heap.size<=w1.heap.size));have HS:=zH ((hS.keep an).more (by omega:w.heap.size<=w1.heap.size));have au:=zH af;obtain⟨q0,q1,q2,q3,_⟩:=Kb aL;clear hA hS af an aL hl Co;obtain⟨bT,Gg⟩:=Kh (kC p.t);obtain⟨bA,DT⟩:=Kh (wK p.a);have EH:Ap ((decide (p.a.sts.length<=8)&&decide (p.a.mvs.length<=40))=bA):=DT;rw[Gg] at HT aA cq ey;rw[DT] at al cq ey;have sS:=zH Gg;have oW:=zH DT;clear Gg DT;go_enter func55,ntmps55;go_wp2_with fail;rw[au.out];go_wp2_with fail;refine(HT.out w1 HA.out).mono ?_;rintro e w2 ⟨rfl,ae⟩;have B2:=zH (aV.out.trans (ae.mono (by omega)));have d':=zH ((HS.out.keep ae).more ae.size);have y':=zH ((HA.out.keep ae).more ae.size);have aQ:=La ae bL.out;have aN:=zH aQ;have dk:=ae.size;have q4:=za aQ 4 rfl;have q5:=za aQ 5 rfl;clear ae aQ HT au q0 q1 q2 q3
 cases bT with
 | false=>
  have hR:=zH (aA.out rfl);clear aA al az cq ey HD;go_wp2_with fail;go_ret;exact⟨zg hR.out.symm,B2.out⟩
 | true=>
 clear aA;go_wp2_with fail;refine(HD.out w2 d'.out).mono ?_;rw[EH.out];rintro e w3 ⟨rfl,ak⟩;have B3:=zH (B2.out.trans (ak.mono (by omega)));have nA:=zH ((d'.out.keep ak).more ak.size);have u':=zH ((y'.out.keep ak).more ak.size);have aQ:=La ak aN.out;have cx:=zH aQ;have le:=ak.size;obtain⟨q0,q1,q2,q3,q4,q5,q6,_⟩:=Kf aQ;clear ak aQ HD
 cases bA with
 | false=>
  have hR:=zH (al.out rfl);clear al az cq ey;go_wp2_with fail;go_ret;exact⟨zg hR.out.symm,B3.out⟩
 | true=>
 clear al;have OD:Ap (Z0 p):=⟨YU.1 sS.out,Zf.1 oW.out⟩;have F4:=zH (cq.out (by simp) (by simp));have F5:=zH (ey.out (by simp) (by simp));clear cq ey sS oW EH
 by_cases h3:3<p.t.n/\p.t.n<=5
 case pos=>
  have hR:=zH (az.out h3.1 h3.2);obtain⟨Cz,tR⟩:=h3;clear az F4 F5;go_wp2_with fail
  all_goals first | (exfalso;omega) | skip
  all_goals
   go_ret;exact⟨zg hR.out.symm,B3.out⟩
 case neg=>
 have G4:=zH (F4.out h3);have G5:=zH (F5.out h3);clear az F4 F5;obtain⟨E,hE⟩:=Kh (zD p);rw[hE] at HC G4 G5;have nB:=zH hE;clear hE;obtain⟨M,hM⟩:=Kh (p.t.cases.length*yA 4096 (zQ p.a p.k.toNat 0));have i8:Ap (gi p=M):=hM;rw[hM] at HN;clear hM;have Um:¬(3<p.t.n)\/(3<p.t.n/\¬p.t.n<=5):=by omega
 clear h3;rcases Um with Cz | ⟨Cz,tR⟩
 all_goals
  go_wp2_with fail
  all_goals first | (exfalso;omega) | skip
  refine(HC.out OD.out w3 u'.out nA.out).mono ?_;rintro e w4 ⟨rfl,bK⟩;have B4:=zH (B3.out.trans (bK.mono (by omega)));have iZ:=zH ((nA.out.keep bK).more bK.size);have aQ:=La bK cx.out;have fW:=bK.size;obtain⟨q0,q1,q2,q3,q4,q5,q6,_⟩:=Kf aQ;clear bK aQ HC
  by_cases h0:E=0
  case neg=>
   have hR:=zH (G4.out h0);have e0:(E != 0)=Ar:=by simpa using h0
   clear G4 G5 h0 HN;go_wp2_with fail;go_ret;exact⟨zg hR.out.symm,B4.out⟩
  case pos=>
   subst h0;have hR:=zH (G5.out rfl);rw[i8.out] at hR;clear G4 G5;go_wp2_with fail;refine(HN.out w4 OD.out nB.out iZ.out).mono ?_;rintro e w5 ⟨rfl,bJ⟩;have B5:=zH (B4.out.trans (bJ.mono (by omega)));clear bJ HN i8 q0 q1 q2 q3 q4 q5 q6
   by_cases hm:M<=60
   . have ly:Ap (R=Ar):=hR.out.trans (by rw[Lo hm];rfl)
     clear hR;go_wp2_with fail
     all_goals first | (exfalso;omega) | skip
     go_ret;exact⟨zg ly.out.symm,B5.out⟩
   . have ly:Ap (R=decide (4096<M)):=hR.out.trans (by rw[Lr hm];rfl)
     clear hR;go_wp2_with fail
     all_goals first | (exfalso;omega) | skip
     go_ret;exact⟨zg (by rw[ly.out,Lr (show ¬((M:Int)<=60) by omega),Bool.false_or];exact ZX (by omega)),B5.out⟩
def Jo(s:Sy):Int:=if (zK s.p).2≠0 then (zK s.p).2 else if s=(zK s.p).1 then 0 else 3
theorem Zy(p:Pb)(h:zD p=0)(dq:zP p<=60):(zl p (zj p)).1.length<=2100/\(zl p (zj p)).2.length<=60:=by
 obtain⟨dF,_,_,cW,iu⟩:=zM h;obtain⟨h1,dT,nd⟩:=yG dF
 have hl:p.t.cases.length*(zn p.a p.k.toNat 0).length<=60:=by
  rw[yu];unfold zP at dq;rw[Ps];exact dq
 rw[QU p];refine⟨uQ p _ (by omega) (fun w hw=>?_) _ hl,?_⟩
 . rw[yP p.a _ 0 w hw];omega
 rw[xR,ZE];exact hl
theorem runW_mem(p:Pb)(l:List (Nat×List Rd)):∀x∈(zl p l).2,∃y∈l,∃vs,x=⟨y.1,y.2,(zi vs p.t.n.toNat (yf p y.1) y.2 y.2.length).2⟩:=by
 have key:∀n,n<=l.length->∀x∈(zl p (l.take n)).2,∃y∈l,∃vs,x=⟨y.1,y.2,(zi vs p.t.n.toNat (yf p y.1) y.2 y.2.length).2⟩:=by
  intro n
  induction n with
  | zero=>intro _ x hx;simp[kj] at hx
  | succ n ih=>
   intro hl x hx;rw[Ls (by omega),xH] at hx;rcases LM.1 hx with hx | hx
   . exact ih (by omega) x hx
   . rw[Nq] at hx
     exact⟨l[n],Le _,_,hx⟩
 have:=key l.length (Lh _);rwa[LC] at this
theorem Z1:LowS xC:=⟨⟨⟨by decide,fun c h=>by simp[xC] at h⟩,by decide,fun c h=>by simp[xC] at h⟩,by decide,by decide,fun c h=>by simp[xC] at h⟩
theorem Zo{p:Pb}(hp:gC p)(hf:wZ p):LowS (zK p).1:=by
 by_cases h0:zD p=0
 case neg=>rw[xN h0];exact Z1
 case pos=>
 rcases hf.2 h0 with dq | dq
 case inr=>rw[xr h0 dq];exact Z1
 case inl=>
 rw[qh h0 (by omega)];obtain⟨r1,r2⟩:=Zy p h0 dq;obtain⟨dF,_,_,cW,iu⟩:=zM h0;obtain⟨h1,dT,nd⟩:=yG dF;refine⟨hp,by show(zl p (zj p)).1.length<=_;omega,by show(zl p (zj p)).2.length<=_;omega,fun x hx=>?_⟩;obtain⟨y,hy,vs,rfl⟩:=runW_mem p (zj p) x hx
 have fT:y.2.length<=6:=by
  unfold zj at hy;obtain⟨d,_,hy⟩:=Nm.1 hy;obtain⟨w',dw,rfl⟩:=LZ.1 hy;show w'.length<=6;rw[yP p.a _ 0 w' dw];omega
 refine⟨by show y.2.length<=_;omega,?_,fun v hv=>?_⟩
 . show(zi vs p.t.n.toNat (yf p y.1) y.2 y.2.length).2.length<=_
   rw[ye];omega
 rw[qk _ _ _ _ _ v hv];omega
end
section
open Go.RowKit Go.Shelf
attribute [local go_sem] Oper.semAt_some
def RetBt(p:Pb)(A:Bb)(kc:Nat)(SV:Bb)(ks:Nat)(w:Ba)(e:Ending)(w':Ba):Prop:=
 ∃AV kv AE ke,e=Ak (Ai #[O U p.t.n,O U p.t.ins,O U p.t.outs,I A p.t.cases.length kc,O U p.a.n,I SV p.a.sts.length ks,O U p.k,O U p.t.n,.slice AV (zl p (zj p)).1.length kv,.slice AE (zl p (zj p)).2.length ke]) /\
  OwnV w' w.heap.size (.slice AV (zl p (zj p)).1.length kv) (zl p (zj p)).1/\OwnX ZY (fun k=>w.heap.size<=k) w' w.heap.size (.slice AE (zl p (zj p)).2.length ke) (zl p (zj p)).2/\Am w.heap.size w w'
theorem built_any(p:Pb)(hf:wZ p)(eS:zD p=0)(dq:zP p<=60)(A:Bb)(kc:Nat)(SV:Bb)(ks:Nat)(w:Ba)(hA:CAt w w.heap.size A p.t.cases)(hS:SAt w w.heap.size SV p.a.sts) :
  An Al 95 #[.agg (p.vs A kc SV ks)] w (RetBt p A kc SV ks w):=by
 obtain⟨dF,iM,od,mc,rz⟩:=zM eS;obtain⟨K,hK⟩:=Lq mc;obtain⟨ln,dT,nd⟩:=yG dF;have Cq:K<=6:=by omega
 have lk:zP p=zQ p.a K 0*p.t.cases.length:=by unfold zP;rw[hK];rfl
 have rZ:zQ p.a K 0<=60:=by
  have:=P8 (zQ p.a K 0) ln;omega
 obtain⟨hz,aW⟩:zk p.a p.a.sts=0/\1<=p.a.sts.length:=⟨(yD hf.1.2 iM).1,(yD hf.1.2 iM).2.1⟩;obtain⟨N,hN⟩:=Lq (show 0<=p.t.n by omega);have ic:=zH hf;have oW:=zH iM;have tU:=zH od;have Hl:=zH (Z6 dF);obtain⟨w1,af,d0,d1,d2,bk,bE⟩:=xF w (p.vs A kc SV ks) #[O U 0,O U 0,O U 0,I Z 0 0,O U 0,I Z 0 0,O U 0,O U 0,I Z 0 0,I Z 0 0] #[O U p.t.n,O U p.t.ins,O U p.t.outs,I A p.t.cases.length kc,O U p.a.n,I SV p.a.sts.length ks,O U p.k,O U p.t.n,I Z 0 0,I Z 0 0] 29 36 36;have tN:=Zd p.a SV ks hz hf.1.2 K Cq 0 w1 (by by_cases h:K=0;exact .inl h;exact .inr ⟨by omega,by omega⟩) (by rw[yu];omega) ((hS.keep bE).more bE.size);have Im:=zH tN;have HA:=zH hA;have HS:=zH hS;have aT:=zH bE;have aX:=zH d0;have bH:=zH d1;have fd:=zH d2;have au:=zH af;have ri:=zH hK;have ec:=zH hN;have Db:=zH lk;have OT:=zH dq;have OK:=zH ln;have Ec:1<=N/\N<=5:=by omega
 clear af d0 d1 d2 bE hA hS hf hK hN lk dq eS dF iM od mc rz dT nd hz aW tN ln;unfold Pb.vs at au aX ⊢;go_enter func95,ntmps95;go_wp2_with fail;rw[au.out];have tN:=Im.out;unfold qO at Im;rw[<-ri.out] at tN;refine tN.mono ?_;rintro e wr ⟨v,rfl,hW,hb⟩;have cD:=aT.out.size;obtain⟨ab,dH⟩:=Kh (zn p.a K 0);rw[dH] at hW;obtain⟨AW,cw,rfl,Mn⟩:=WdsAt.of (bs:=w.heap.size+1+1) hW (by omega) rfl;obtain⟨SC,sn⟩:∃SC:Aq->Aq->Array Aq,SC=fun V E=>#[O U p.t.n,O U p.t.ins,O U p.t.outs,I A p.t.cases.length kc,O U p.a.n,I SV p.a.sts.length ks,O U p.k,O U p.t.n,V,E]:=⟨_,rfl⟩
 obtain⟨WR,rfl⟩:∃x,x=wr:=⟨_,rfl⟩;obtain⟨D,hD⟩:∃D,D=WR.heap.size:=⟨_,rfl⟩;have hDb:w.heap.size+3<=D:=by have:=hb.size;omega
 have H0:Ap (Bt D (w.heap.size+1+1) SC WR [] [] (I Z 0 0) (I Z 0 0) WR):=
  ⟨Wrote.refl _ _,by omega,by omega,by omega,by rw[sn];exact Lb hb (by omega) fd.out,OwnV.nil _ _,OwnX.nil _ _ _ _,fun k e=>(by cases e)⟩
 have CW:Ap (WR.heap[w.heap.size]?=J (Ag #[O U p.t.n,O U p.t.ins,O U p.t.outs,I A p.t.cases.length kc,O U p.a.n,I SV p.a.sts.length ks,O U p.k] 29 (0,0))):=Lb hb (by omega) aX.out;have VT:Ap (WR.heap[w.heap.size+1]?=J (Ag #[O U 0,O U 0,O U 0,I Z 0 0,O U 0,I Z 0 0,O U 0,O U 0,I Z 0 0,I Z 0 0] 36 (0,0))):=Lb hb (by omega) bH.out;have EG:Ap (Am w.heap.size w WR):=aT.out.trans (hb.mono (by omega));have sL:=zH Mn;rw[<-hD] at sL;have f':=zH sn;have fN:=zH dH;have t4:=zH hD;have lp:p.t.cases.length<=30:=ic.out.1.1.1;have Sd:ab.length<=60:=by rw[<-dH,yu];exact rZ
 have pX:Ap (∀x∈ab,x.length<=6):=fun x hx=>by rw[<-dH] at hx;rw[yP p.a K 0 x hx];exact Cq
 clear hW hb sn dH hD Mn aX bH fd au aT Im tN cD bk;go_wp2_with fail
 go_loopw [5] (fun i wx=>∃(c:Nat) (V E:Aq),c<=p.t.cases.length/\i=O U (c:Int)/\Ap (Bt D (w.heap.size+1+1) SC WR (zl p (pcs ab c)).1 (zl p (pcs ab c)).2 V E wx)) (fun i _=>p.t.cases.length-(Ao i).toNat)
 case atStart=>exact⟨0,_,_,by omega,rfl,H0.out⟩
 clear H0;obtain⟨c,V0,E0,hc,rfl,dQ⟩:=hrel;have eU:=dQ.out.big;have dj:∀k,k<D->k≠w.heap.size+1+1->wr.heap[k]?=WR.heap[k]?:=fun k h1 h2=>dQ.out.wr.block k (by have:=t4.out;omega) h2
 have P0:=(dj _ (by omega) (by omega)).trans CW.out;have p0:wr.cell? ⟨w.heap.size,0,Z⟩=J (O U p.t.n):=za P0 0 rfl;have p3:wr.cell? ⟨w.heap.size,3,Z⟩=J (I A p.t.cases.length kc):=za P0 3 rfl;have p6:wr.cell? ⟨w.heap.size,6,Z⟩=J (O U p.k):=za P0 6 rfl
 by_cases F':c<p.t.cases.length
 case neg=>
  obtain rfl:c=p.t.cases.length:=by omega
  have BS:p.t.cases.length*ab.length<=60:=by have h1:=Db.out;have h2:=OT.out;have h3:=congrArg List.length fN.out;rw[yu] at h3;rw[h3,Ps] at h1;omega
  obtain⟨AV,kv,rfl,_⟩:=dQ.out.tb.form (by have:=uQ p ab (by have:=ec.out;omega) pX.out p.t.cases.length BS;omega);obtain⟨AE,ke,rfl,_,_,_⟩:=dQ.out.out.form zx;have aR:=(dj (w.heap.size+1) (by omega) (by omega)).trans VT.out;have aK:=dQ.out.sys;rw[f'.out] at aK;have s0:wr.cell? ⟨w.heap.size+1+1,0,Z⟩=J (O U p.t.n):=za aK 0 rfl;have s1:wr.cell? ⟨w.heap.size+1+1,1,Z⟩=J (O U p.t.ins):=za aK 1 rfl;have s2:wr.cell? ⟨w.heap.size+1+1,2,Z⟩=J (O U p.t.outs):=za aK 2 rfl;have s3:wr.cell? ⟨w.heap.size+1+1,3,Z⟩=J (I A p.t.cases.length kc):=za aK 3 rfl;have s4:wr.cell? ⟨w.heap.size+1+1,4,Z⟩=J (O U p.a.n):=za aK 4 rfl;have s5:wr.cell? ⟨w.heap.size+1+1,5,Z⟩=J (I SV p.a.sts.length ks):=za aK 5 rfl;have s6:wr.cell? ⟨w.heap.size+1+1,6,Z⟩=J (O U p.k):=za aK 6 rfl;have s7:wr.cell? ⟨w.heap.size+1+1,7,Z⟩=J (O U p.t.n):=za aK 7 rfl;have s8:wr.cell? ⟨w.heap.size+1+1,8,Z⟩=J (.slice AV (zl p (pcs ab p.t.cases.length)).1.length kv):=za aK 8 rfl;have s9:wr.cell? ⟨w.heap.size+1+1,9,Z⟩=J (.slice AE (zl p (pcs ab p.t.cases.length)).2.length ke):=za aK 9 rfl;have y0:wr.cell? ⟨w.heap.size+1,0,Z⟩=J (O U 0):=za aR 0 rfl;have f0:=zb aR 0;have y1:wr.cell? ⟨w.heap.size+1,1,Z⟩=J (O U 0):=za aR 1 rfl;have f1:=zb aR 1;have y2:wr.cell? ⟨w.heap.size+1,2,Z⟩=J (O U 0):=za aR 2 rfl;have f2:=zb aR 2
  have y3:wr.cell? ⟨w.heap.size+1,3,Z⟩=J (I Z 0 0):=za aR 3 rfl;have f3:=zb aR 3;have y4:wr.cell? ⟨w.heap.size+1,4,Z⟩=J (O U 0):=za aR 4 rfl;have f4:=zb aR 4;have y5:wr.cell? ⟨w.heap.size+1,5,Z⟩=J (I Z 0 0):=za aR 5 rfl;have f5:=zb aR 5;have y6:wr.cell? ⟨w.heap.size+1,6,Z⟩=J (O U 0):=za aR 6 rfl;have f6:=zb aR 6;have y7:wr.cell? ⟨w.heap.size+1,7,Z⟩=J (O U 0):=za aR 7 rfl;have f7:=zb aR 7;have y8:wr.cell? ⟨w.heap.size+1,8,Z⟩=J (I Z 0 0):=za aR 8 rfl;have f8:=zb aR 8;have y9:wr.cell? ⟨w.heap.size+1,9,Z⟩=J (I Z 0 0):=za aR 9 rfl;have f9:=zb aR 9;have pf:=zH dQ.out;have aD:Am w.heap.size w wr:=EG.out.trans (dQ.out.wr.below (by have:=EG.out.size;omega) (fun k h1 h2=>by have h3:k=w.heap.size+1+1:=h2;omega));obtain⟨k1,k2,k3,k4,k5⟩:=qq (O U p.t.n) (O U p.t.ins) (O U p.t.outs) (I A p.t.cases.length kc) (O U p.a.n) (I SV p.a.sts.length ks) (O U p.k) (O U p.t.n) (.slice AV (zl p (pcs ab p.t.cases.length)).1.length kv) (.slice AE (zl p (pcs ab p.t.cases.length)).2.length ke) aR aD (by omega:w.heap.size<=w.heap.size+1)
  obtain⟨WF,cK⟩:=Kh (((((((((((wr.setCell ⟨w.heap.size+1,0,Z⟩ (O U p.t.n)).setCell ⟨w.heap.size+1,1,Z⟩ (O U p.t.ins)).setCell ⟨w.heap.size+1,2,Z⟩ (O U p.t.outs)).setCell ⟨w.heap.size+1,3,Z⟩ (I A p.t.cases.length kc)).setCell ⟨w.heap.size+1,4,Z⟩ (O U p.a.n)).setCell ⟨w.heap.size+1,5,Z⟩ (I SV p.a.sts.length ks)).setCell ⟨w.heap.size+1,6,Z⟩ (O U p.k)).setCell ⟨w.heap.size+1,7,Z⟩ (O U p.t.n)).setCell ⟨w.heap.size+1,8,Z⟩ (.slice AV (zl p (pcs ab p.t.cases.length)).1.length kv)).setCell ⟨w.heap.size+1,9,Z⟩ (.slice AE (zl p (pcs ab p.t.cases.length)).2.length ke)));rw[cK] at k1 k2 k3 k4 k5;have K1:=zH k1;have K2:=zH k2;have K4:=zH k4;have K5:=zH k5;have fz:=zH cK;clear aR aK P0 aD k1 k2 k3 k4 k5 cK;go_wp2_with fail;rw[fz.out];obtain⟨z0,z1,z2,z3,z4,z5,z6,z7,z8,z9⟩:=qe K1.out;refine LP (v:=Ai #[O U p.t.n,O U p.t.ins,O U p.t.outs,I A p.t.cases.length kc,O U p.a.n,I SV p.a.sts.length ks,O U p.k,O U p.t.n,.slice AV (zl p (pcs ab p.t.cases.length)).1.length kv,.slice AE (zl p (pcs ab p.t.cases.length)).2.length ke]) (by simp[results,results95,go_sem,z0,z1,z2,z3,z4,z5,z6,z7,z8,z9]) rfl ?_;have eS:zj p=pcs ab p.t.cases.length:=by rw[QU,<-fN.out,show p.k.toNat=K by have:=ri.out;omega]
  unfold RetBt;rw[eS];have cD:=pf.out.big;refine⟨AV,kv,AE,ke,rfl,?_,?_,K2.out⟩
  . exact(pf.out.tb.of_same fun k hk=>K4.out k (by have:=(pf.out.tb.lt' k hk).1;omega)).low (by omega)
  exact(OwnX.mono zx (pf.out.out.keep zx ⟨by have:=K5.out;omega,fun k hs _=>K4.out k (by omega)⟩ fun k hk=>K4.out k (by have:=(pf.out.out.lt k hk).1;omega)) fun k _ hs=>(by omega)).low (by omega)
 have nr:(c:Int)<(p.t.cases.length:Int):=by omega
 have pZ:=zH dj;clear dj P0;go_wp2_with fail;obtain⟨wo,rfl⟩:∃x,x=wr:=⟨_,rfl⟩
 go_loopw [6] (fun i wx=>∃(j:Nat) (V E:Aq),j<=ab.length/\i=O U (j:Int)/\Ap (Bt D (w.heap.size+1+1) SC WR (zl p (pcw ab c j)).1 (zl p (pcw ab c j)).2 V E wx)) (fun i _=>ab.length-(Ao i).toNat)
 case atStart=>exact⟨0,V0,E0,by omega,rfl,by rw[Yy];exact dQ.out⟩
 obtain⟨j,V1,E1,hj,rfl,cd⟩:=hrel
 by_cases FM:j<ab.length
 case neg=>
  obtain rfl:j=ab.length:=by omega
  have WA:=zH (by have h:=cd.out;rw[pcw_end] at h;exact h);clear cd;go_wp2_with fail
  go_roundw
  case rel=>exact⟨c+1,V1,E1,by omega,by go_num,WA.out⟩
  simp[Ao];omega
 obtain⟨gw,A2,c2,UI,dL,ix,np,ly,lG⟩:=sL.out j FM;subst UI;have MD:KeepB (fun k=>k<D/\k≠w.heap.size+1+1) WR wr:=cd.out.wr.keep fun k _ hs=>hs.2
 have th:wr.cell? ⟨gw,j,Z⟩=J (I A2 ab[j].length c2):=qg MD ⟨ix,by omega⟩ np
 have dx:c*ab.length+j<60:=by
  have h1:=Db.out;have h2:=OT.out;have h3:=congrArg List.length fN.out;rw[yu] at h3;rw[h3,Ps] at h1;have h4:=Rn ab.length (show c+1<=p.t.cases.length by omega);rw[Nat.succ_mul] at h4;omega
 obtain⟨Dy,iJ⟩:=gL p ab (by have:=ec.out;omega) pX.out c j (by omega) (by omega);have A8:=xH p (pcw ab c j) (c,ab[j]);rw[<-pcw_succ ab c j FM] at A8;obtain⟨word,eC⟩:=Kh (ab[j]);rw[eC] at th ly A8 np lG;have ij:word∈zn p.a K 0:=by rw[fN.out,<-eC];exact Le FM
 have iK:=yP p.a K 0 word ij
 have fz:Ap (∀r∈word,zJ r=0/\r.n=(N:Int)):=fun r hr=>by
  obtain⟨m,hm,rfl⟩:=qQ p.a K 0 word ij r hr;obtain⟨z1,z2,_⟩:=yS (yD ic.out.1.2 oW.out).1 m hm;exact⟨z1,by rw[z2,<-tU.out,ec.out]⟩
 obtain⟨AE,ke,rfl,_,_,_⟩:=cd.out.out.form zx;obtain⟨du,ru⟩:=Kh ((zl p (pcw ab c j)).1);obtain⟨iI,rq⟩:=Kh ((zl p (pcw ab c j)).2);rw[ru,rq] at A8 cd;rw[ru] at Dy;rw[rq] at iJ;have mq:yf p c=p.t.cases[c].inp:=by unfold yf;rw[Lg,Lj F'];rfl
 have CQ:Ap (zl p (pcw ab c (j+1))=((stQ du N p.t.cases[c].inp word (K+1)).1,iI++[⟨(c:Int),word,(stQ du N p.t.cases[c].inp word (K+1)).2⟩])):=by
  rw[A8];show(_,_)=_;rw[mq,iK,show p.t.n.toNat=N by have:=ec.out;omega]
  rfl
 obtain⟨bc,oc,A0,c0,A1',c1',WN,MY,eA,Ge,se,_,_,GD,_,_⟩:=HA.out.row c F';subst eA;have rO:p.t.cases[c].inp.length=N:=by have h1:=Hl.out _ (Le F');have:=ec.out;omega
 obtain⟨inp,pC⟩:=Kh (p.t.cases[c].inp);rw[pC] at se GD CQ rO;have Ii:=zH GD;have Wi:=zH np;have Wz:=zH se;have co:=zH ly;have CK:=zH lG;clear lG;have Wh:=zH rO;have lD:Ap (iI.length<60):=by show iI.length<60;omega
 have CN:=zH Dy;have pW:=zH iK;have DJ:(j:Int)<(ab.length:Int):=by omega
 have Tn:gw<wr.heap.size:=by have:=cd.out.big;omega
 clear rO pC A8 mq GD se ly np MD ru rq eC ij iJ Dy iK;go_wp2_with fail;clear th;obtain⟨W1,cA,x1,aW,ay⟩:=zq wr #[O U c,I A2 word.length c2,I Z 0 0] 42;rw[cA];have Hz:Ap (Bq D (w.heap.size+1+1) wr.heap.size SC WR c (I A2 word.length c2) du iI [] [] V1 (I AE iI.length ke) (I Z 0 0) (I Z 0 0) W1):=Bt.start cd.out ay x1;clear cA x1 aW ay cd;obtain⟨bx,aI⟩:∃bx,bx=wr.heap.size:=⟨_,rfl⟩;rw[<-aI] at Hz ⊢;clear aI
 go_loopw [8] (fun i wx=>∃(k:Nat) (V Y:Aq),k<=K+1/\i=O U (k:Int)/\Ap (Bq D (w.heap.size+1+1) bx SC WR c (I A2 word.length c2) (stQ du N inp word k).1 iI (stQ du N inp word k).2 [] V (I AE iI.length ke) Y (I Z 0 0) wx)) (fun i _=>K+1-(Ao i).toNat)
 case atStart=>exact⟨0,V1,_,by omega,rfl,Hz.out⟩
 clear Hz;obtain⟨k,V2,Y2,hk,rfl,HQ⟩:=hrel;have eU:=HQ.out.big;have P0:=(HQ.out.wr.block _ (by have:=t4.out;omega) (by omega)).trans CW.out;have p0:wr.cell? ⟨w.heap.size,0,Z⟩=J (O U p.t.n):=za P0 0 rfl;have p3:wr.cell? ⟨w.heap.size,3,Z⟩=J (I (J ⟨bc,oc,Z⟩) p.t.cases.length kc):=za P0 3 rfl;have p6:wr.cell? ⟨w.heap.size,6,Z⟩=J (O U p.k):=za P0 6 rfl;clear P0
 by_cases rL:k<=K
 case neg=>
  have Wd:Ap (k=K+1):=by show k=K+1;omega
  have dJ:¬((k:Int)<=p.k):=by have:=ri.out;omega
  obtain⟨AY,ky,rfl,_,_,_⟩:=HQ.out.vw.form yy;have aK:=HQ.out.sys;rw[f'.out] at aK;have lP:=zH aK;have s9:wr.cell? ⟨w.heap.size+1+1,9,Z⟩=J (I AE iI.length ke):=za aK 9 rfl;have f9:=zb aK 9;have x0:wr.cell? ⟨bx,0,Z⟩=J (O U c):=za HQ.out.x 0 rfl;have x1:wr.cell? ⟨bx,1,Z⟩=J (I A2 word.length c2):=za HQ.out.x 1 rfl;have x2:wr.cell? ⟨bx,2,Z⟩=J (.slice AY (stQ du N inp word k).2.length ky):=za HQ.out.x 2 rfl;have nC:=zH (ze wr (Ag #[O U c,I A2 word.length c2,.slice AY (stQ du N inp word k).2.length ky] 42));have lE:=zH (HQ.out.out.below zx (zw wr (Ag #[O U c,I A2 word.length c2,.slice AY (stQ du N inp word k).2.length ky] 42)) (Lh _));have B7:=HQ.out.bsl;have TI:w.heap.size+1+1<wr.heap.size:=by omega
  have BZ:=HQ.out.bxl;clear aK;go_wp2_with (at_builtin;obtain⟨aC,bD,eH,bl⟩:=lE.out;refine yO kXn_ok rfl (.tmp 110) (.tmp 112) rfl D (I AE iI.length ke) iI.length aC.flatten rfl eH wr.heap.size #[O U c,I A2 word.length c2,.slice AY (stQ du N inp word k).2.length ky] rfl nC.out rfl (by simp[Value.oneCell']) (LE (Nat.le_of_lt lD.out) (by decide)) (by simp;omega) _ rfl ?_;intro g' cap w7 ip eq cJ mi;have b7:=(eq.block _ (by simp;omega) (fun e=>lE.out.ne B7 e.symm)).trans (zC lP.out _);have c7:=za b7 9 rfl;have GL:=zb b7 9;have Ws:=zH (Bq.done HQ.out (zw wr _) bD bl rfl rfl co.out CK.out ip eq cJ (by rw[f'.out];rfl));clear ip eq cJ bD bl eH b7)
  go_roundw
  case rel=>exact⟨j+1,V2,_,by omega,by go_num,by rw[CQ.out,<-Wd.out];exact Ws.out⟩
  simp[Ao];omega
 have dJ:(k:Int)<=p.k:=by have:=ri.out;omega
 have FE:k<=6:=by omega
 obtain⟨vk,Dx⟩:=Kh ((stQ du N inp word k).1);obtain⟨yk,dR⟩:=Kh ((stQ du N inp word k).2);obtain⟨f,hf⟩:=Kh (fQ inp word yk k);have fT:=stQ_len du N inp word k;have cS:=QI du N inp word k;have AJ:=stQ_row du N inp word k;have ti:=stQ_succ du N inp word k;rw[Dx,dR] at HQ;rw[dR] at fT AJ;rw[Dx] at cS;rw[Dx,dR,hf] at ti;have Hm:=zH ti;have Vk:=zH AJ;have sI:=zH fT
 have dG:Ap (vk.length<=2100+30):=by
  have h1:=N7 FE Ec.2;have h2:=CN.out;show vk.length<=2130;omega
 have fA:=zH hf;clear Dx dR hf fT cS AJ ti;obtain⟨AY,ky,rfl,_,_,_⟩:=HQ.out.vw.form yy;go_wp2_with fail;clear p0 p3 p6
 go_loopw [9,10] (fun l i wx=>∃(q:Nat) (V:Aq),q<=N/\i=O U (q:Int)/\Ap (Bq D (w.heap.size+1+1) bx SC WR c (I A2 word.length c2) (zT f vk q).1 iI yk (zT f vk q).2 V (I AE iI.length ke) (I AY yk.length ky) l wx)) (fun _ i _=>N-(Ao i).toNat)
 case atStart=>exact⟨0,V2,by omega,rfl,HQ.out⟩
 clear HQ;obtain⟨q,V3,hq,rfl,HQ⟩:=hrel;have eU:=HQ.out.big;have P0:=(HQ.out.wr.block _ (by have:=t4.out;omega) (by omega)).trans CW.out;have p0:wr.cell? ⟨w.heap.size,0,Z⟩=J (O U p.t.n):=za P0 0 rfl;have p3:wr.cell? ⟨w.heap.size,3,Z⟩=J (I (J ⟨bc,oc,Z⟩) p.t.cases.length kc):=za P0 3 rfl;clear P0;obtain⟨AL,kl,eL,S9,S8,_⟩:=HQ.out.row.form;subst eL
 by_cases pr:q<N
 case neg=>
  have VO:Ap (q=N):=by show q=N;omega
  have KL:¬((q:Int)<p.t.n):=by have:=ec.out;omega
  have x2:wr.cell? ⟨bx,2,Z⟩=J (I AY yk.length ky):=za HQ.out.x 2 rfl;have nC:=zH (ze wr (Ag #[.slice AL (zT f vk q).2.length kl] 49));have lE:=zH (HQ.out.vw.below yy (zw wr (Ag #[.slice AL (zT f vk q).2.length kl] 49)) (Lh _));have BZ:=HQ.out.bxl;have TF:=HQ.out.hx;go_wp2_with (at_builtin;obtain⟨aC,bD,eH,bl⟩:=lE.out;refine yO Qe rfl (.tmp 104) (.tmp 106) rfl D (I AY yk.length ky) yk.length aC.flatten rfl eH wr.heap.size #[.slice AL (zT f vk q).2.length kl] rfl nC.out rfl (by simp[Value.oneCell']) (by rw[sI.out];omega) (by simp;omega) _ rfl ?_;intro g' cap w7 ip eq cJ mi;have b7:=(eq.block bx (by simp;omega) (fun e=>(HQ.out.nY bx e.symm).1 rfl)).trans (zC HQ.out.x _);have c7:=za b7 2 rfl;have GL:=zb b7 2;have Dg:=zH (Bq.close HQ.out (zw wr _) bD bl ip eq cJ);clear ip eq cJ bD bl eH b7)
  go_roundw
  case rel=>exact⟨k+1,V3,_,by omega,by go_num,by rw[Hm.out,<-VO.out];exact Dg.out⟩
  simp[Ao];omega
 have KL:(q:Int)<p.t.n:=by have:=ec.out;omega
 have iB:Am w.heap.size w wr:=EG.out.trans (HQ.out.wr.below (by have:=EG.out.size;omega) (fun k h1 h2=>by have h3:k=w.heap.size+1+1:=h2;omega));have np:=(iB.cell (p:=⟨bc,oc+c*3,Z⟩) Ge).trans Wz.out;have KM:q<inp.length:=by have:=Wh.out;omega
 obtain⟨bi,oi,eI,Gc,sd⟩:=Ii.out.at_ q KM;subst eI;have KX:=(iB.cell (p:=⟨bi,oi+q,Z⟩) Gc).trans sd;obtain⟨iv,tx⟩:=Kh (inp[q]);rw[tx] at KX;have Wg:Ap (inp.getD q 0=iv):=by show _=_;rw[Lg,Lj KM,<-tx];rfl
 have mZ:(0:Int)<=(q:Int):=by omega
 have tn:(q:Int)<(inp.length:Int):=by omega
 have hcp:(0:Int)<=(c:Int):=by omega
 have nG:=zH (first_any q iv wr);have HPO:=zH (QI du N inp word k);have BZ:=HQ.out.bxl;clear iB sd tx;go_wp2_with fail;refine nG.out.mono ?_;rintro e w5 ⟨rfl,bJ⟩;obtain⟨W6,pN,b6,tk,nx⟩:=zq w5 (yw q iv).cells 100;have iU:Am wr.heap.size wr W6:=Lc bJ nx;have mb:=bJ.size;have pX:=zH pN;have lF:=zH iU;have fR:=zH b6;unfold Vw.cells at pX;unfold Vw.cells;clear nG bJ pN b6 nx iU np KX p0 p3;go_simp;rename_i iD;refine iD _ _ ?_;clear iD;refine Nd rfl fun K5 cf=>?_
 go_simp;refine cf _ _ ?_;clear cf K5;refine Nd rfl fun K5 cf=>?_
 go_simp;rw[pX.out];refine cf _ _ ?_;clear cf K5 pX;rcases Np k with cW | DI
 case' inl=>
  have DH:¬((0:Int)<(k:Int)):=by omega
  have rj:Ap (f q=yw q iv):=by
   show f q=_;rw[<-fA.out,cW];show yw q (inp.getD q 0)=_;rw[Wg.out]
  rw[<-rj.out] at fR;have fR:Ap (W6.heap[w5.heap.size]?=J (Ag (f q).cells 100 (0,0))):=fR;obtain⟨W9,lM⟩:=Kh W6;rw[lM] at lF fR ⊢;clear lM rj cW
 case' inr=>
  obtain⟨k',cX⟩:∃k',k=k'+1:=⟨k-1,by omega⟩;have DH:(0:Int)<(k:Int):=by omega
  have BC:IntKind.i64.wrap ((k:Int)-1)=(k':Int):=by rw[Lw];omega
  have rN:k'<word.length:=by have:=pW.out;omega
  have rM:k'<yk.length:=by have:=sI.out;omega
  have rj:Ap (f q=yM word[k'] k q yk[k']):=by
   show f q=_;rw[<-fA.out,cX];show yM (word.getD k' default) (k'+1) q (yk.getD k' [])=_;rw[Lg,Lj rN,Lg,Lj rM]
   rfl
  have Q6:=HQ.out.on lF.out;have Mz:RAtS (fun k=>w.heap.size+1+1<k/\k<D) W6 A2 word:=co.out.keep (Q6.wr.keep fun k _ hs e=>by have h3:k=w.heap.size+1+1:=e;omega);have Sf:W6.cell? ⟨gw,j,Z⟩=J (I A2 word.length c2):=qg (S:=fun k=>w.heap.size+1+1<k/\k<D) (Q6.wr.keep fun k _ hs e=>by have h3:k=w.heap.size+1+1:=e;omega) ⟨dL,ix⟩ Wi.out;obtain⟨br,O',UJ,dB,r0,r1,r2,r3,r4,r5,r6⟩:=Mz.rat.row k' rN;subst UJ;obtain⟨AYx,kyx,eY,_,_,Mk⟩:=Q6.vw.form yy
  cases eY
  obtain⟨gy,UH,_,hgy,Dt⟩:=Mk (by omega);subst UH;obtain⟨cs,⟨A3,c3,rfl,dX⟩,aJ⟩:=Dt k' rM;have Km:W6.cell? ⟨gy,k',Z⟩=J (I A3 yk[k'].length c3):=by simpa[cIs,kIs] using aJ 0 _ rfl
  have x6:W6.cell? ⟨bx,2,Z⟩=J (I (J ⟨gy,0,Z⟩) yk.length ky):=za Q6.x 2 rfl;have nX:=Vk.out k' rM;obtain⟨row,bC⟩:=Kh (yk[k']);obtain⟨rd,nZ⟩:=Kh (word[k']);have tl:=fz.out word[k'] (Le rN);rw[bC] at Km dX nX rj;rw[nZ] at r0 r1 r2 r3 r4 r5 r6 tl rj;have K6:=ue (xI tl.1).2.2.1 q (by omega);have p':=zH (fun (X:Ba) (hX:Am W6.heap.size W6 X)=>seen_any rd k q (by omega) K6 A3 c3 row (by rw[tl.2,nX]) (by omega) X ((dX.iat.keep hX).more hX.size));have Tj:(0:Int)<=(k':Int):=by omega
  have Ti:(k':Int)<(word.length:Int):=by omega
  have Th:(k':Int)<(yk.length:Int):=by omega
  have hjp:(0:Int)<=(j:Int):=by omega
  have Wc:=zH cX;have GJ:w5.heap.size<W6.heap.size:=zd fR.out;clear DI cX Q6 Mz Mk Dt aJ dX bC nZ tl K6 nX;go_wp2_with fail
  go_still_tail 17,(by kernel_rfl)
  change wpList _ _ _ _ _ W6.drew;obtain⟨W7,lw⟩:∃W7,W7=W6.drew:=⟨_,rfl⟩;have nH:Ap (Am W6.heap.size W6 W7):=by rw[lw];exact(Ln _ _).drew
  rw[<-lw];clear lw r0 r1 r2 r3 r4 r5 r6 Sf Km x6;go_wp2_with fail;refine(p'.out W7 nH.out).mono ?_;rintro e w8 ⟨rfl,pL⟩;obtain⟨vv,Kv⟩:=Kh (yM rd k q row);rw[Kv] at rj ⊢;have sk:Am W6.heap.size W6 w8:=Lc nH.out pL;have b8:=Lb sk GJ fR.out;unfold Vw.cells at b8;obtain⟨k1,k2⟩:=Jm vv b8 (Lc lF.out sk) (by omega:wr.heap.size<=w5.heap.size);obtain⟨W9,lM⟩:=Kh (((((((((w8.setCell ⟨w5.heap.size,0,Z⟩ (O U vv.p)).setCell ⟨w5.heap.size,1,Z⟩ (O U vv.r)).setCell ⟨w5.heap.size,2,Z⟩ (O U vv.i)).setCell ⟨w5.heap.size,3,Z⟩ (O U vv.h0)).setCell ⟨w5.heap.size,4,Z⟩ (O U vv.h1)).setCell ⟨w5.heap.size,5,Z⟩ (O U vv.h2)).setCell ⟨w5.heap.size,6,Z⟩ (O U vv.h3)).setCell ⟨w5.heap.size,7,Z⟩ (O U vv.h4)));rw[lM] at k1 k2;have Nb:=zH lM;have y0:w8.cell? ⟨w5.heap.size,0,Z⟩=J (O U (yw q iv).p):=za b8 0 rfl;have UC:=zb b8 0;have y1:w8.cell? ⟨w5.heap.size,1,Z⟩=J (O U (yw q iv).r):=za b8 1 rfl;have UB:=zb b8 1;have y2:w8.cell? ⟨w5.heap.size,2,Z⟩=J (O U (yw q iv).i):=za b8 2 rfl;have UA:=zb b8 2;have y3:w8.cell? ⟨w5.heap.size,3,Z⟩=J (O U (yw q iv).h0):=za b8 3 rfl;have Uz:=zb b8 3;have y4:w8.cell? ⟨w5.heap.size,4,Z⟩=J (O U (yw q iv).h1):=za b8 4 rfl;have Uy:=zb b8 4;have y5:w8.cell? ⟨w5.heap.size,5,Z⟩=J (O U (yw q iv).h2):=za b8 5 rfl;have Ux:=zb b8 5
  have y6:w8.cell? ⟨w5.heap.size,6,Z⟩=J (O U (yw q iv).h3):=za b8 6 rfl;have Uw:=zb b8 6;have y7:w8.cell? ⟨w5.heap.size,7,Z⟩=J (O U (yw q iv).h4):=za b8 7 rfl;have GL:=zb b8 7;have fR:Ap (W9.heap[w5.heap.size]?=J (Ag (f q).cells 100 (0,0))):=by rw[rj.out];exact k1
  have lF:Ap (Am wr.heap.size wr W9):=k2;clear sk b8 k1 k2 lM Kv pL p' nH rj;unfold Vw.cells;go_simp;rename_i iD;refine iD _ _ ?_;refine Nd rfl fun K5 cf=>?_
  go_simp;rw[Nb.out];refine cf _ _ ?_;clear Nb Wc DH BC y0 y1 y2 y3 y4 y5 y6 y7 UC UB UA Uz Uy Ux Uw GL
 all_goals
  have Q9:=HQ.out.on lF.out;have tl:=qC f vk q;have Bd:=xd f vk q;obtain⟨AV,kv,eV,hT⟩:=Q9.tb.form (by have:=dG.out;omega);subst eV;have H8:=zH (put_any p.t.n AV kv (zT f vk q).1 (f q) W9 hT (by have:=dG.out;omega));have aK:=Q9.sys;rw[f'.out] at aK;have s7:W9.cell? ⟨w.heap.size+1+1,7,Z⟩=J (O U p.t.n):=za aK 7 rfl;have s8:W9.cell? ⟨w.heap.size+1+1,8,Z⟩=J (.slice AV (zT f vk q).1.length kv):=za aK 8 rfl;have CS:=zH Q9;have Hv:=zH Bd;obtain⟨v,hv⟩:=Kh (f q);have OC:=zH hv;rw[hv] at H8 fR;have x0:W9.cell? ⟨w5.heap.size,0,Z⟩=J (O U v.p):=za fR.out 0 rfl;have x1:W9.cell? ⟨w5.heap.size,1,Z⟩=J (O U v.r):=za fR.out 1 rfl;have x2:W9.cell? ⟨w5.heap.size,2,Z⟩=J (O U v.i):=za fR.out 2 rfl;have x3:W9.cell? ⟨w5.heap.size,3,Z⟩=J (O U v.h0):=za fR.out 3 rfl;have x4:W9.cell? ⟨w5.heap.size,4,Z⟩=J (O U v.h1):=za fR.out 4 rfl;have x5:W9.cell? ⟨w5.heap.size,5,Z⟩=J (O U v.h2):=za fR.out 5 rfl;have x6:W9.cell? ⟨w5.heap.size,6,Z⟩=J (O U v.h3):=za fR.out 6 rfl;have x7:W9.cell? ⟨w5.heap.size,7,Z⟩=J (O U v.h4):=za fR.out 7 rfl;clear hv tl Bd hT aK Q9;go_wp2_with fail
  all_goals first | (exfalso;omega) | skip
  refine H8.out.mono ?_;rintro e rk Bl;obtain⟨A3,k3,rfl,GB,Cj,Cc⟩:=put_out Bl CS.out.tb CS.out.big;have EK:=Lc lF.out Cc;have aK:=(HQ.out.on EK).sys;rw[f'.out] at aK;have s7:rk.cell? ⟨w.heap.size+1+1,7,Z⟩=J (O U p.t.n):=za aK 7 rfl;have s8:rk.cell? ⟨w.heap.size+1+1,8,Z⟩=J (.slice AV (zT f vk q).1.length kv):=za aK 8 rfl;have f7:=zb aK 7;have f8:=zb aK 8;have Hs:=zH aK;obtain⟨rl,nP⟩:=Kh ((xu (zT f vk q).1 v).1);obtain⟨iz,FO⟩:=Kh ((xu (zT f vk q).1 v).2);rw[nP] at GB Cj;have Ep:=zH nP;have Ox:=zH FO;have mH:=zH GB;have Nr:=zH Cj;have Iu:=zH EK;have Fl:=EK.size;have B7:=HQ.out.bsl;rw[nP,FO];clear Bl GB Cj Cc EK aK nP FO H8 x0 x1 x2 x3 x4 x5 x6 x7 fR;obtain⟨pU,Ci,GV,Fk,sC⟩:=zq rk #[O U p.t.n,I A3 rl.length k3] 33;have CM:=zH Ci;have Dk:Ap (Am wr.heap.size wr pU):=Iu.out.trans (sC.mono Fl);have t0:pU.cell? ⟨rk.heap.size,0,Z⟩=J (O U p.t.n):=za GV 0 rfl;have t1:pU.cell? ⟨rk.heap.size,1,Z⟩=J (I A3 rl.length k3):=za GV 1 rfl;have aK:=(HQ.out.on Dk.out).sys;rw[f'.out] at aK;have e7:pU.cell? ⟨w.heap.size+1+1,7,Z⟩=J (O U p.t.n):=za aK 7 rfl;have e8:pU.cell? ⟨w.heap.size+1+1,8,Z⟩=J (.slice AV (zT f vk q).1.length kv):=za aK 8 rfl;have fe7:=zb aK 7;have fe8:=zb aK 8;have Mf:w.heap.size+1+1<pU.heap.size:=by omega
  have sS:=zH (Bq.put HQ.out Dk.out (u:=O U p.t.n) (mH.out.of_same fun k hk=>sC.block k (mH.out.lt' k hk).2) (fun k hk=>by
   rcases Nr.out k hk with e | e
   . exact .inl e
   . exact .inr (by have:=lF.out.size;omega)) (by rw[f'.out];rfl) (by rw[f'.out];rfl))
  obtain⟨CE,oH⟩:=Kh ((pU.setCell ⟨w.heap.size+1+1,7,Z⟩ (O U p.t.n)).setCell ⟨w.heap.size+1+1,8,Z⟩ (I A3 rl.length k3));rw[oH] at sS;have Hb:=zH oH;have AQ:CE.heap.size=pU.heap.size:=by rw[<-oH];simp
  have sZ:Ap ((CE.alloc (Ag #[O U iz] 3)).heap[rk.heap.size+1]?=J (Ag #[O U iz] 3 (0,0))):=by show _=_;rw[<-Fk,<-AQ];exact ze CE _
  have VK:=zH (sS.out.row.alloc (Ag #[O U iz] 3));have Wr:=zH sS.out.big
  have sR:Ap (zT f vk (q+1)=(rl,(zT f vk q).2++[iz])):=by
   show(_,_)=_;rw[OC.out,Ep.out,Ox.out]
  clear Ci GV sC aK oH s7 s8 f7 f8 Hs mH Nr Ep Ox OC CS;go_simp;rename_i iD;refine iD _ _ ?_;clear iD;refine Nd rfl fun K5 cf=>?_
  go_simp;refine cf _ _ ?_;clear cf K5;refine Nd rfl fun K5 cf=>?_
  go_simp;refine cf _ _ ?_;clear cf K5;refine Nd rfl fun K5 cf=>?_
  go_simp;refine cf _ _ ?_;clear cf K5;refine Nd rfl fun K5 cf=>?_
  go_simp;refine cf _ _ ?_;clear cf K5;refine Nd rfl fun K5 cf=>?_
  go_simp;rw[CM.out];refine cf _ _ ?_;clear cf K5 CM;have Hu:Ap ((zT f vk q).2.length<=1000000000):=by show _<=_;rw[Hv.out];omega
  have Wq:Ap (D<=(CE.alloc (Ag #[O U iz] 3)).heap.size):=by show _<=_;have:=Wr.out;simp;omega
  go_wp2_with (at_builtin;go_loud (rw[Hb.out];refine yO kIn_ok rfl (.tmp 99) (.tmp 101) rfl D (.slice AL (zT f vk q).2.length kl) (zT f vk q).2.length ((zT f vk q).2.map (O U)) rfl VK.out (rk.heap.size+1) #[O U iz] rfl sZ.out rfl (by simp[Value.oneCell']) Hu.out Wq.out _ rfl ?_;intro g' cap w12 ip eq cJ mi;have VP:=zH (Bq.push sS.out (zw CE _) ip eq cJ);clear ip eq cJ))
  go_roundw
  case rel=>exact⟨q+1,_,by omega,by go_num,by rw[sR.out];exact VP.out⟩
  case measure=>simp[Ao];omega
end
end Go.Proofs.YtkledihebeidlaaGreatDoor
