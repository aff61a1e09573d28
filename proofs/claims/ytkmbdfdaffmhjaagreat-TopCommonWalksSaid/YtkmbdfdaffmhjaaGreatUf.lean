/- Merged. -/
import Derived.Test.YtkmbdfdaffmhjaaGreatUe
open Go.Proofs.Tryz
open Go.Value renaming int->O,slice->I,bool->Ah,agg->Ai,pointer->Aj
open Go.IntKind renaming i64->U
open Option renaming none->Z,some->J
open Go.Obj renaming cells->Ag
open Go.Ending renaming returned->Ak
open Go.Proofs.Tryz renaming prog->Al
open Go.RowKit renaming Below->Am,intOf->Ar,Hid->As
open Go renaming Calls->An,Value->Au
open Bool renaming true->Av,false->Aw
open List renaming append_toArray->LY,filter_cons->RG,length_filter_le->NV
namespace Go.Proofs.YtkmbdfdaffmhjaaGreat
abbrev Rk:=@Go.Proofs.Tryz.underlying93
abbrev NJ:=@List.getElem?_map
set_option maxRecDepth 100000
set_option maxHeartbeats 4000000
section
open Go.RowKit Go.Shelf
attribute [local go_sem] Oper.semAt_some
theorem XX{α:Type}:∀ {l m:List α},l.Nodup->(∀x∈l,x∈m)->l.length<=m.length
 | [],_,_,_=>by simp
 | a::l,m,hn,h=>by
  classical
  obtain⟨h1,h2⟩:=P5.1 hn;have ha:a∈m:=h a (by simp)
  have:=XX (l:=l) (m:=m.erase a) h2 (fun x hx=>by
   have az:x≠a:=by rintro rfl;exact h1 hx
   exact(List.mem_erase_of_ne az).2 (h x (by simp[hx])))
  rw[List.length_erase_of_mem ha] at this;have mq:0<m.length:=List.length_pos_of_mem ha;simp only[List.length_cons];omega
theorem MapOf.count{κ:Type}{enc:κ->Au}(inj:∀a b,enc a=enc b->a=b){w:Ba}{b n:Nat}{f:κ->Option Au}{l:List κ}(h:MapOf enc w b n f)(hn:l.Nodup)(hf:∀k,(∃v,f k=J v)↔k∈l) :
  ∃es bk,w.heap[b]?=J (.map es bk)/\es.size=l.length:=by
 obtain⟨es,bk,hb,_,hp,h1,h2⟩:=h;refine⟨es,bk,hb,?_⟩;have e1:(es.toList.map (·.key)).Nodup:=Sh.2 hp;have e2:(l.map enc).Nodup:=Sh.2 (hn.imp fun pm e=>pm (inj _ _ e))
 have g1:=XX e1 (m:=l.map enc) (fun x hx=>by
  obtain⟨e,he,rfl⟩:=LS.1 hx;obtain⟨k,hk,hv⟩:=h1 e he
  exact LS.2 ⟨k,(hf k).1 ⟨_,hv⟩,hk.symm⟩)
 have g2:=XX e2 (m:=es.toList.map (·.key)) (fun x hx=>by
  obtain⟨k,hk,rfl⟩:=LS.1 hx;obtain⟨v,hv⟩:=(hf k).2 hk;obtain⟨e,he,pT,_⟩:=h2 k v hv
  exact LS.2 ⟨e,he,pT⟩)
 simp at g1 g2;omega
def wG(l:List Int):Int->Option Au:=fun k=>if k∈l then J (O U (l.idxOf k:Int)) else Z
theorem numG_nil:wG []=fun _=>Z:=by funext k;simp[wG]
theorem numG_put{l:List Int}{k:Int}(h:k∉l):xg (wG l) k (O U (l.length:Int))=wG (l++[k]):=by
 funext x
 unfold xg wG
 by_cases e:x=k
 . subst e
   rw[Lj rfl,Lj (by simp),NI,Lg h];simp
 rw[Lg e]
 by_cases hx:x∈l
 . rw[Lj hx,Lj (by simp[hx]),NI,Lj hx]
 rw[Lg hx,Lg (by simp[hx,e])]
theorem gW{α:Type}[DecidableEq α]:∀(l rg:List α),rg.Nodup->(l.foldl kX rg).Nodup
 | [],_,h=>h
 | k::l,rg,h=>by
  rw[N7];refine gW l _ ?_;unfold kX
  split
  . exact h
  . rename_i hk
    exact List.nodup_append.2 ⟨h,by simp,fun a ha b hb=>by rw[LQ] at hb;subst hb;rintro rfl;exact hk ha⟩
theorem gV{α:Type}[DecidableEq α](l:List α):(qb l).Nodup:=gW l [] Sx
theorem numG_count{w:Ba}{b n:Nat}{us:List Int}(h:MapOf (O U) w b n (wG us))(hu:us.Nodup):∃es bk,w.heap[b]?=J (.map es bk)/\es.size=us.length:=
 h.count (fun a b e=>by injection e) hu (fun k=>by
  unfold wG
  by_cases hk:k∈us
  . simp[hk]
  . simp[hk])
theorem Own.same{w w':Ba}{base:Nat}{v:Au}{xs:List Int}(h:Own w base v xs)(hs:∀k,base<=k->k<w.heap.size->w'.heap[k]?=w.heap[k]?):Own w' base v xs:=by
 refine⟨h.1,?_⟩;rcases h.2 with hn | ⟨g,cap,cur,hv,hb,hg,rest⟩
 . exact .inl hn
 exact .inr ⟨g,cap,cur,hv,hb,(hs g hb (zj hg)).trans hg,rest⟩
structure NbIn(B:Nat)(S:Array Au)(F:Au)(R:Nat->Prop)(us ls:List Int)(w W:Ba):Prop where
 wrote:Wrote R w W
 b0:W.heap[B]?=J (Ag S 39 (0,0))
 b1:W.heap[B+1]?=J (Ag #[F] 179 (0,0))
 b3:W.heap[B+1+1+1]?=J (Ag #[.map (J (B+1+1))] 240 (0,0))
 b5:W.heap[B+1+1+1+1+1]?=J (Ag S 39 (0,0))
 hm:∃m,MapOf (O U) W (B+1+1) m (wG us)
 box:∃P c,W.heap[B+1+1+1+1]?=J (Ag #[I P ls.length c] 50 (0,0))/\Own W (B+6) (I P ls.length c) ls
 sz:B+6<=W.heap.size
section
variable {B:Nat} {S:Array Au} {F:Au} {R:Nat->Prop} {us ls:List Int} {w W W':Ba}
theorem NbIn.turn{row:Option Nat}(h:NbIn B S F R us ls w W)(hw:w.heap.size<=B)(hg:W.grownBy W' row)(hr:∀r,row=J r->B+6<=r/\∃o:Obj,W.heap[r]?=J o/\o.isCells=Aw):NbIn B S F R us ls w W':=by
 obtain⟨P,c,hb,ho⟩:=h.box;obtain⟨m,hm⟩:=h.hm;have aP:=h.sz;have old:∀k,k<B+6->W'.heap[k]?=W.heap[k]?:=fun k hk=>hg.block k (by omega) (fun e=>by have:=(hr k e.symm).1;omega)
 refine⟨h.wrote.trans (Wrote.of_grown (R:=fun k=>w.heap.size<=k) hg (fun k e hk=>by have:=(hr k e).1;omega)) (fun k h1 h2=>by omega),(old B (by omega)).trans h.b0,(old _ (by omega)).trans h.b1,(old _ (by omega)).trans h.b3,(old _ (by omega)).trans h.b5,⟨m,hm.same (old _ (by omega))⟩,⟨P,c,(old _ (by omega)).trans hb,ho.kept hg ?_⟩,Lu aP hg.size⟩;rcases e:(I P ls.length c).ownBlock with _ | g
 . exact .inl rfl
 refine .inr fun e2=>?_
 obtain⟨o,h1,h2⟩:=(hr g e2.symm).2;have:=(vu ho g e).2 o h1;rw[this] at h2;cases h2
theorem NbIn.call(h:NbIn B S F R us ls w W)(hw:Wrote R W W')(hR:∀k,R k->k<B):NbIn B S F R us ls w W':=by
 obtain⟨P,c,hb,ho⟩:=h.box;obtain⟨m,hm⟩:=h.hm;have aP:=h.sz;have old:∀k,B<=k->k<W.heap.size->W'.heap[k]?=W.heap[k]?:=fun k hk hl=>hw.block k hl (fun e=>by have:=hR k e;omega)
 exact⟨h.wrote.trans hw (fun _ _ h=>h),(old B (by omega) (by omega)).trans h.b0,(old _ (by omega) (by omega)).trans h.b1,(old _ (by omega) (by omega)).trans h.b3,(old _ (by omega) (by omega)).trans h.b5,⟨m,hm.same (old _ (by omega) (by omega))⟩,⟨P,c,(old _ (by omega) (by omega)).trans hb,ho.same fun k hk hl=>old k (by omega) hl⟩,Lu aP hw.size⟩
theorem NbIn.put{I7:List Int}{m:Nat}(h:NbIn B S F R us ls w W)(hw:w.heap.size<=B)(hg:W.grownBy W' (J (B+1+1)))(hm:MapOf (O U) W' (B+1+1) m (wG I7)):NbIn B S F R I7 ls w W':=by
 obtain⟨P,c,hb,ho⟩:=h.box;have aP:=h.sz;have old:∀k,k<W.heap.size->k≠B+1+1->W'.heap[k]?=W.heap[k]?:=fun k hk hl=>hg.block k hk (fun e=>hl (by cases e;rfl))
 exact⟨h.wrote.trans (Wrote.of_grown (R:=fun k=>w.heap.size<=k) hg (fun k e hk=>by cases e;omega)) (fun k h1 h2=>by omega),(old B (by omega) (by omega)).trans h.b0,(old _ (by omega) (by omega)).trans h.b1,(old _ (by omega) (by omega)).trans h.b3,(old _ (by omega) (by omega)).trans h.b5,⟨m,hm⟩,⟨P,c,(old _ (by omega) (by omega)).trans hb,ho.same fun k hk hl=>old k hl (by omega)⟩,Lu aP hg.size⟩
theorem NbIn.push{P P2:Bb}{c c2:Nat}{u:Int}{W1:Ba}(h:NbIn B S F R us ls w W)(hw:w.heap.size<=B)(hb:W.heap[B+1+1+1+1]?=J (Ag #[I P ls.length c] 50 (0,0)))(ho:Own W (B+6) (I P ls.length c) ls)
  (pL:Own W1 (B+6) (I P2 (ls.length+1) c2) (ls++[u])) (hg:W.grownBy W1 (I P ls.length c).ownBlock) :
  NbIn B S F R us (ls++[u]) w (W1.setCell ⟨B+1+1+1+1,0,Z⟩ (I P2 (ls.length+1) c2)):=by
 obtain⟨m,hm⟩:=h.hm;have aP:=h.sz;have iE:=ho.lt;have av:=hg.size;have tx:∀k,k<B+6->W1.heap[k]?=W.heap[k]?:=fun k hk=>hg.block k (by omega) (fun e=>by have:=(iE k e.symm).1;omega)
 have aF:=(tx _ (by omega)).trans hb;obtain⟨x1,x2,x3⟩:=qv aF (I P2 (ls.length+1) c2);have old:∀k,k<B+6->k≠B+1+1+1+1->(W1.setCell ⟨B+1+1+1+1,0,Z⟩ (I P2 (ls.length+1) c2)).heap[k]?=W.heap[k]?:=fun k hk az=>(x3 k az).trans (tx k hk)
 refine⟨?_,(old B (by omega) (by omega)).trans h.b0,(old _ (by omega) (by omega)).trans h.b1,(old _ (by omega) (by omega)).trans h.b3,(old _ (by omega) (by omega)).trans h.b5,⟨m,hm.same (old _ (by omega) (by omega))⟩,⟨P2,c2,by rw[Lr];exact x1,by rw[Lr];exact pL.same fun k hk _=>x3 k (by omega)⟩,by rw[show(W1.setCell ⟨B+1+1+1+1,0,Z⟩ (I P2 (ls.length+1) c2)).heap.size=W1.heap.size by simp[World.setCell]];omega⟩;have a1:Wrote (fun k=>w.heap.size<=k) W W1:=Wrote.of_grown hg (fun k e hk=>by have:=(iE k e).1;omega);have a2:Wrote (fun k=>w.heap.size<=k) W1 (W1.setCell ⟨B+1+1+1+1,0,Z⟩ (I P2 (ls.length+1) c2)):=Wrote.of_grown (zV W1 _ 0 _) (fun k e hk=>by cases e;omega);exact h.wrote.trans (a1.trans a2 (fun _ _ h=>h)) (fun k h1 h2=>by omega)
theorem NbIn.keeps{P:Bb}{c:Nat}{W1:Ba}(h:NbIn B S F R us ls w W)(hb:W.heap[B+1+1+1+1]?=J (Ag #[I P ls.length c] 50 (0,0)))(ho:Own W (B+6) (I P ls.length c) ls)
  (hg:W.grownBy W1 (I P ls.length c).ownBlock) (v:Au):KeepsFrom (B+6) W (W1.setCell ⟨B+1+1+1+1,0,Z⟩ v)/\KeepB (fun k=>k=B+1+1+1+1+1) W (W1.setCell ⟨B+1+1+1+1,0,Z⟩ v):=by
 have iE:=ho.lt;have aP:=h.sz;have av:=hg.size;have aF:=(hg.block (B+1+1+1+1) (by omega) (fun e=>by have:=(iE _ e.symm).1;omega)).trans hb;obtain⟨x1,x2,x3⟩:=qv aF v;refine⟨⟨by simp[World.setCell];omega,fun k o hk aM pL=>?_⟩,⟨by simp[World.setCell];omega,fun k hk hl=>?_⟩⟩
 . refine(x3 k (by omega)).trans ((hg.block k (zj aM) (fun e=>?_)).trans aM)
   have:=(vu ho k e.symm).2 o aM;rw[this] at pL;cases pL
 subst hk;exact(x3 _ (by omega)).trans (hg.block _ (by omega) (fun e=>by have:=(iE _ e.symm).1;omega))
end
end
section
open Go.RowKit Go.Shelf
attribute [local go_sem] Oper.semAt_some
theorem Qc(s:Sy)(K M:Nat)(hK:K<=100)(hM:M<=100)(hk:s.p.k=(K:Int))(hx:s.xs.length=M)(A SV AV AX:Bb)(kc ks kv kx:Nat)(kf:Nat)(kb:Array Au)(ek:Enters Al kf)(key:Nat×Nat->Int)
  (R:Nat->Prop) (Af:Ba->Prop) (w:Ba) (hR:∀k,R k->k<w.heap.size) (eS:Af w) (hJ:∀W W',Af W->Wrote (fun k=>w.heap.size<=k) W W'->Af W')
  (tR:∀x∈zt (K+1) 0 M,∀W,Af W->w.heap.size<=W.heap.size->An Al kf (#[Ai #[O U x.1,O U x.2]]++kb) W fun e w'=>e=Ak (O U (key x))/\Af w'/\Wrote R W w') :
  An Al 148 #[.agg (s.vs_ A kc SV ks AV kv AX kx),.func (.func kf) #[] kb] w fun e w'=>∃v,e=Ak v/\Own w' w.heap.size v (kD ((zt (K+1) 0 M).map key))/\Af w'/\Wrote R w w':=by
 have hC:PtC (s.vs_ A kc SV ks AV kv AX kx) K M AX kx:=⟨by unfold Sy.vs_;rw[<-hk];rfl,by unfold Sy.vs_;rw[<-hx];rfl⟩
 have ay:(zt (K+1) 0 M).length<=20000:=by
  rw[vt (K+1) M (by omega)];exact Lu (LU hM (show K+1<=101 by omega)) (by decide)
 have dG:=zH (fun (bs:Nat) (W:Ba) (hb:W.heap[bs]?=J (Ag (s.vs_ A kc SV ks AV kv AX kx) 39 (0,0)))=>gi (s.vs_ A kc SV ks AV kv AX kx) K M hK hM AX kx hC bs W hb);have EP:=zH (fun (W:Ba)=>Qy s A SV AV AX kc ks kv kx W);have Bl:=zH tR;have HJ:=zH hJ;have HJ0:=zH eS;have hz:∀W:Ba,(zeroValue 3).run Al W=.ok (O U 0) W:=fun W=>by kernel_rfl
 have ht:Al.underlying 240=J (.map 3 3):=underlying240;have iD:=@run_makeMap Al;obtain⟨L,hL⟩:=Kj (zt (K+1) 0 M);rw[hL] at dG Bl ay ⊢;unfold Sy.vs_ at dG EP ⊢;clear tR hJ eS hL hC hk hx;refine yg func148 rfl ?_;simp only[ntmps148,List.size_toArray,List.length_cons,List.length_nil,Nat.reduceAdd,Nat.reduceSub,Array.replicate_succ,Array.replicate_zero,List.push_toArray,List.append_toArray,List.nil_append,List.cons_append];go_wp2_with fail;refine(EP.out _).mono ?_;rintro e w2 ⟨rfl,bh⟩;obtain⟨S,hS⟩:∃S,S=#[O U s.p.t.n,O U s.p.t.ins,O U s.p.t.outs,I A s.p.t.cases.length kc,O U s.p.a.n,I SV s.p.a.sts.length ks,O U s.p.k,O U s.n,I AV s.vs.length kv,I AX s.xs.length kx]:=⟨_,rfl⟩;rw[<-hS] at bh dG
 have Az:NbIn w.heap.size S (.func (.func kf) #[] kb) R [] [] w w2/\Wrote (fun k=>w.heap.size<=k) w w2:=by
  obtain⟨a1,h1,x1,y1,z1⟩:=zn w S 39;rw[h1] at bh;obtain⟨a2,h2,x2,y2,z2⟩:=zn a1 #[.func (.func kf) #[] kb] 179;rw[h2] at bh;obtain⟨a3,h3⟩:=Kj (a2.alloc (.map #[] 0));have m3:MapOf (O U) a3 a2.heap.size 0 (fun _=>Z):=by rw[<-h3];exact MapOf.made a2
  have y3:a3.heap.size=a2.heap.size+1:=by rw[<-h3];simp
  have z3:Am a2.heap.size a2 a3:=by rw[<-h3];exact zW _ _
  rw[h3] at bh;obtain⟨a4,h4,x4,y4,z4⟩:=zn a3 #[.map (J (w.heap.size+1+1))] 240;rw[h4] at bh;obtain⟨a5,h5,x5,y5,z5⟩:=zn a4 #[I Z 0 0] 50;rw[h5] at bh;obtain⟨a6,h6,x6,y6,z6⟩:=zn a5 S 39;rw[h6] at bh;subst bh;rw[y1] at x2 y2;rw[y2] at m3 y3;rw[y3] at x4 y4;rw[y4] at x5 y5;rw[y5] at x6 y6
  have w1:Wrote (fun k=>w.heap.size<=k) w a6:=by
   have b1:=(Wrote.of_below (R:=fun k=>w.heap.size<=k) z1).trans (Wrote.of_below (R:=fun k=>w.heap.size<=k) z2) (fun _ _ h=>h);have b2:=(b1.trans (Wrote.of_below (R:=fun k=>w.heap.size<=k) z3) (fun _ _ h=>h)).trans (Wrote.of_below (R:=fun k=>w.heap.size<=k) z4) (fun _ _ h=>h);exact((b2.trans (Wrote.of_below (R:=fun k=>w.heap.size<=k) z5) (fun _ _ h=>h)).trans (Wrote.of_below (R:=fun k=>w.heap.size<=k) z6) (fun _ _ h=>h))
  refine⟨⟨w1.more (fun k h1 h2=>by omega),?_,?_,?_,x6,⟨0,?_⟩,⟨Z,0,?_,Own.nil _ _⟩,by omega⟩,w1⟩
  . exact Lb z6 (by omega) (Lb z5 (by omega) (Lb z4 (by omega) (Lb z3 (by omega) (Lb z2 (by omega) x1))))
  . exact Lb z6 (by omega) (Lb z5 (by omega) (Lb z4 (by omega) (Lb z3 (by omega) x2)))
  . exact Lb z6 (by omega) (Lb z5 (by omega) x4)
  . rw[numG_nil]
    exact m3.same (Lb z6 (by omega) (Lb z5 (by omega) (z4.block _ (by omega))))
  exact Lb z6 (by omega) x5
 have ee:w2.heap.size=w.heap.size+6:=by rw[<-bh];simp
 have IN:As (Af w2):=HJ.out w w2 HJ0.out Az.2;have GT:=zH (dG.out (w.heap.size+1+1+1+1+1) w2 Az.1.b5);have HN:=zH Az.1;go_wp2_with fail
 refine qp rfl (NA Sg (by kernel_rfl) rfl) GT.out (by rintro x rfl;omega) (fun _=>rfl)
  (fun (pre:List { x:Nat×Nat // x∈L }) (X:Ba)=>NbIn w.heap.size S (.func (.func kf) #[] kb) R (qb (pre.map fun x=>key x.1)) (kD (pre.map fun x=>key x.1)) w X/\Af X)
  (fun _ _ _=>False)
  ?hI (fun _ _ _ _ _ h _ _=>h)
  ⟨HN.out,IN.out⟩ (fun x=>#[O U x.1,O U x.2]) 178 ?a1 ?assign ?body ?done ?stop (fun _ _ h=>by have:=h.1.sz;omega)
 case hI=>
  intro pre X X' row hX hg hr;refine⟨hX.1.turn (Ld _) hg (fun r e=>⟨by have:=(hr r e).1;omega,(hr r e).2⟩),HJ.out X X' hX.2 (Wrote.of_grown hg fun k e hk=>by have:=(hr k e).1;omega)⟩
 case assign=>
  intro l pre x X K' hI hK;obtain⟨g',fO⟩:∃g',g'=X.heap.size:=⟨_,rfl⟩;have HK:=zH (hK g' fO ⟨hI.1.turn (Ld _) (row:=Z) ⟨rfl,rfl,rfl,by simp,fun k hk _=>Nj X _ k hk⟩ (fun r e=>by cases e),HJ.out X _ hI.2 (Wrote.of_below (zW X _))⟩);have HG:=zH fO;gi_wp2;rw[<-HG.out];exact HK.out
 case body=>
  intro l pre x g W3 hg dK hI hlt;obtain⟨us,lz⟩:∃us,qb (pre.map fun x=>key x.1)=us:=⟨_,rfl⟩;obtain⟨ls,Fy⟩:∃ls,kD (pre.map fun x=>key x.1)=ls:=⟨_,rfl⟩;have aJ:ls.length<=20000:=by rw[<-Fy,jY,LG];omega
  have Hv:us.Nodup:=by rw[<-lz];exact gV _
  obtain⟨kk,tQ⟩:=Kj (key x.1);have Fa:qb ((pre++[x]).map fun x=>key x.1)=kX us kk:=by rw[LF,L4,Nd,vT,lz,tQ]
  have Fw:kD ((pre++[x]).map fun x=>key x.1)=ls++[if kk∈us then (us.idxOf kk:Int) else (us.length:Int)]:=by
   rw[LF,L4,Nd,Xu,lz,Fy,tQ]
   congr 2
   by_cases h:kk∈us
   . rw[Lj h,Lj (xW.1 (lz▸h))]
   rw[Lg h,Lg (fun e=>h (lz▸xW.2 e))]
  rw[lz,Fy] at hI;have aB:=Bl.out x.1 x.2 W3 hI.2 (by have:=hI.1.sz;omega);rw[tQ] at aB;have HC:=zH aB;have Dh:=zH hI.1;have rj:=zH Fa;have mn:=zH Fw;have HUN:=zH Hv;have q1:=zh hI.1.b1 0 rfl;obtain⟨g0,g1,_⟩:=Ke dK;gi_wp2_with fail;refine⟨trivial,?_⟩;rw[ek];refine⟨fun _=>by omega,(Sr l ((Se (n:=6)).2 HC.out)).mono ?_⟩;rintro e W4 ⟨rfl,Is,fh⟩;have nX:=zH (Dh.out.call fh hR);have SF:=zH Is;have im:=zH fh;have q3:=zh nX.out.b3 0 rfl;obtain⟨m,hm⟩:=nX.out.hm;have dS:=hm.look2 yC ht (hz W4) kk;have Bj:=zH hm
  by_cases cx:kk∈us
  case pos=>
   have hf:wG us kk=J (O U (us.idxOf kk:Int)):=Lj cx;rw[hf] at dS;simp only[Option.getD_some,Option.isSome_some] at dS;have nA:=Bj.out.look yC ht (hz W4) kk;rw[hf] at nA;simp only[Option.getD_some] at nA;have hu:kX us kk=us:=Lj cx;have Dd:As (qb ((pre++[x]).map fun x=>key x.1)=us):=rj.out.trans hu;have Dj:As (kD ((pre++[x]).map fun x=>key x.1)=ls++[(us.idxOf kk:Int)]):=mn.out.trans (by rw[Lj cx]);have rj:=Dd;have mn:=Dj;obtain⟨P,c,cd,ho⟩:=nX.out.box;have bD:=zH cd;have HO:=zH ho;have q4:=zh cd 0 rfl
   gi_wp2_with (gi_at_builtin; go_must (refine vD rfl _ _ rfl (w.heap.size + 6) (I P ls.length c) ls (us.idxOf kk : Int) rfl HO.out rfl (by omega) (by have := nX.out.sz; omega) ?_); intro v' W6 cA fF cB
                obtain⟨A6,k6,rfl,h61,h62,_⟩:=cA.form;have py:=(fF.block (w.heap.size+1+1+1+1) (zj bD.out) (fun e=>uB HO.out bD.out (by decide) e.symm)).trans bD.out;have q6:=zh py 0 rfl;have f6:=zi py 0;have rm:=zH cA;have nm:=zH fF
                clear py cA fF cB)
   have sg:=nX.out.keeps bD.out HO.out nm.out (I A6 (ls.length+1) k6);have CA:=nX.out.push (Ld _) bD.out HO.out (by have:=rm.out;simpa using this) nm.out;refine⟨((show KeepsFrom w2.heap.size W3 W4 from⟨im.out.size,fun k o hk aM _=>(im.out.block k (zj aM) (fun e=>by have:=hR k e;omega)).trans aM⟩)).trans (ee▸sg.1),((show KeepB (fun k=>k=w.heap.size+1+1+1+1+1) W3 W4 from⟨im.out.size,fun k hk hl=>im.out.block k hl (fun e=>by have:=hR k e;omega)⟩)).trans sg.2,?_,?_⟩
   . rw[rj.out,mn.out]
     exact CA
   have a2:Wrote (fun k=>w.heap.size<=k) W4 W6:=Wrote.of_grown nm.out (fun k e hk=>by have:=(HO.out.lt k e).1;omega);have a3:Wrote (fun k=>w.heap.size<=k) W6 (W6.setCell ⟨w.heap.size+1+1+1+1,0,Z⟩ (I A6 (ls.length+1) k6)):=Wrote.of_grown (zV W6 _ 0 _) (fun k e hk=>by cases e;omega);exact HJ.out _ _ SF.out (a2.trans a3 (fun _ _ h=>h))
  have hf:wG us kk=Z:=Lg cx;rw[hf] at dS;simp only[Option.getD_none,Option.isSome_none] at dS;have hu:kX us kk=us++[kk]:=Lg cx;have Dd:As (qb ((pre++[x]).map fun x=>key x.1)=us++[kk]):=rj.out.trans hu;have Dj:As (kD ((pre++[x]).map fun x=>key x.1)=ls++[(us.length:Int)]):=mn.out.trans (by rw[Lg cx]);obtain⟨es,bk,TQ,CP⟩:=numG_count Bj.out HUN.out;obtain⟨W5,dm,pk,bY⟩:=Bj.out.put yC ht kk (O U (us.length:Int));rw[numG_put cx] at pk;have o9:=zH (nX.out.put (Ld _) bY pk);have nA:=pk.look yC ht (hz W5) kk
  have hf5:wG (us++[kk]) kk=J (O U (us.length:Int)):=by
   unfold wG;rw[Lj (by simp),NI,Lg cx];simp
  rw[hf5] at nA;simp only[Option.getD_some] at nA;have HJ5:=zH (HJ.out W4 W5 SF.out (Wrote.of_grown bY fun k e hk=>by cases e;omega))
  have mJ:As (KeepsFrom w2.heap.size W4 W5/\KeepB (fun k=>k=w.heap.size+1+1+1+1+1) W4 W5):=by
   refine⟨⟨bY.size,fun k o hk aM _=>(bY.block k (zj aM) (fun e=>by cases e;omega)).trans aM⟩,⟨bY.size,fun k hk hl=>bY.block k hl (fun e=>by cases e;omega)⟩⟩
  have q35:=zh o9.out.b3 0 rfl;obtain⟨P,c,cd,ho⟩:=o9.out.box;have bD:=zH cd;have HO:=zH ho;have q4:=zh cd 0 rfl;have rj:=Dd;have mn:=Dj
  have rI:(Builtin.len_ #[240] 3 #[.map (J (w.heap.size+1+1))]).run Al W4=.ok (O U (us.length:Int)) W4:=by
   rw[<-CP];exact run_len_map W4 _ _ _ es bk (by kernel_rfl) TQ
  gi_wp2_with (gi_at_builtin; go_must (refine vD rfl _ _ rfl (w.heap.size + 6) (I P ls.length c) ls (us.length : Int) rfl HO.out rfl (by omega) (by have := o9.out.sz; omega) ?_); intro v' W6 cA fF cB
               obtain⟨A6,k6,rfl,h61,h62,_⟩:=cA.form;have py:=(fF.block (w.heap.size+1+1+1+1) (zj bD.out) (fun e=>uB HO.out bD.out (by decide) e.symm)).trans bD.out;have q6:=zh py 0 rfl;have f6:=zi py 0;have rm:=zH cA;have nm:=zH fF
               clear py cA fF cB)
  have sg:=o9.out.keeps bD.out HO.out nm.out (I A6 (ls.length+1) k6);have CA:=o9.out.push (Ld _) bD.out HO.out (by have:=rm.out;simpa using this) nm.out;refine⟨(((show KeepsFrom w2.heap.size W3 W4 from⟨im.out.size,fun k o hk aM _=>(im.out.block k (zj aM) (fun e=>by have:=hR k e;omega)).trans aM⟩)).trans mJ.out.1).trans (ee▸sg.1),(((show KeepB (fun k=>k=w.heap.size+1+1+1+1+1) W3 W4 from⟨im.out.size,fun k hk hl=>im.out.block k hl (fun e=>by have:=hR k e;omega)⟩)).trans mJ.out.2).trans sg.2,?_,?_⟩
  . rw[rj.out,mn.out]
    exact CA
  have a2:Wrote (fun k=>w.heap.size<=k) W5 W6:=Wrote.of_grown nm.out (fun k e hk=>by have:=(HO.out.lt k e).1;omega);have a3:Wrote (fun k=>w.heap.size<=k) W6 (W6.setCell ⟨w.heap.size+1+1+1+1,0,Z⟩ (I A6 (ls.length+1) k6)):=Wrote.of_grown (zV W6 _ 0 _) (fun k e hk=>by cases e;omega);exact HJ.out _ _ HJ5.out (a2.trans a3 (fun _ _ h=>h))
 case done=>
  intro D ys W hD eJ hI eq;have ny:ys.map (fun x=>key x.1)=L.map key:=by rw[show ys.map (fun x=>key x.1)=(ys.map (·.1)).map key by rw[PP];rfl,eJ]
  rw[ny] at hI;obtain⟨hN,hJW⟩:=hI;obtain⟨P,c,cd,ho⟩:=hN.box;have q4:=zh cd 0 rfl;have HN9:=zH hN;have HO:=zH ho;have HJ9:=zH hJW;have Cg:=zH eq;go_wp2_with fail;refine yo (B:=w2.heap.size) (w:=W) (show Marks w2.heap.size _ W from⟨[D],rfl,by simp,fun r hr=>by rw[LQ] at hr;subst hr;exact⟨hD,Cg.out⟩⟩) (v:=.slice P (kD (L.map key)).length c) (fun W=>by kernel_rfl) ?_;intro X hS;have hb:Am w2.heap.size W X:=hS.below;refine⟨_,rfl,(HO.out.shut hS).low (by omega),HJ.out W X HJ9.out ⟨hb.os,hb.tape,hb.output,hb.size,fun k hk hn=>hb.block k (by omega)⟩,HN9.out.wrote.trans (R':=fun k=>w2.heap.size<=k) ⟨hb.os,hb.tape,hb.output,hb.size,fun k hk hn=>hb.block k (by omega)⟩ (fun k h1 h2=>by omega)⟩
 intro D c pre W _ _ h;exact h.elim
end
section
def xw(x:Exn)(k q:Nat):Int:=(x.views.getD k []).getD q 0
structure Sees(s:Sy)(K N:Nat):Prop where
 nodup:s.vs.Nodup
 v0:∀x∈s.xs,∀q,q<N->At s.vs (xw x 0 q) (yR q ((yA s.p x.c.toNat).getD q 0))
 vk:∀x∈s.xs,∀k,k<K->∀q,q<N->At s.vs (xw x (k+1) q) (qn (x.word.getD k default) (k+1) q (x.views.getD k []))
 prs:s.xs.map (fun x=>(x.c.toNat,x.word))=zE s.p
 cs:∀x∈s.xs,∃c:Nat,x.c=(c:Int)/\c<s.p.t.cases.length/\x.word∈zL s.p.a K 0
theorem QB{p:Pb}{Hq:List Vw}{c:Nat}{word:List Rd}{x:Exn}{vs:List Vw}(h:XFin p Hq c word x vs)(k:Nat)(hk:k<=word.length):x.views.getD k []=Z6 vs p.t.n.toNat (yA p c) word k:=by
 rw[h.hv];exact jx _ _ _ _ _ k hk
theorem xfin_at{p:Pb}{Hq:List Vw}{c:Nat}{word:List Rd}{x:Exn}{vs:List Vw}(h:XFin p Hq c word x vs)(k q:Nat)(hk:k<=word.length)(hq:q<p.t.n.toNat):At Hq (xw x k q) (fV vs p.t.n.toNat (yA p c) word k q):=by
 obtain⟨us,lz⟩:=h.ht;unfold xw;rw[QB h k hk,lz];exact(Zv vs p.t.n.toNat (yA p c) word word.length k q hk hq).mono
theorem built_sees{p:Pb}{K N:Nat}(hF:Fine (qM p) K N):Sees (qM p) K N:=by
 obtain⟨f1,f2,f3⟩:=QP p (zE p);have hNN:p.t.n.toNat=N:=by have:p.t.n=(N:Int):=hF.pn;omega
 have pX:p.k.toNat=K:=by have:p.k=(K:Int):=hF.k;omega
 have fa:∀y∈zE p,y.2.length=K/\y.1<p.t.cases.length/\y.2∈zL p.a K 0:=fun y hy=>by
  unfold zE at hy;obtain⟨d,hd,hy⟩:=Nw.1 hy;obtain⟨w',lZ,rfl⟩:=LS.1 hy;rw[pX] at lZ;exact⟨xy p.a _ 0 w' lZ,by simpa using hd,lZ⟩
 have hx:∀x∈(qM p).xs,∃y∈zE p,∃vs,XFin p (qM p).vs y.1 y.2 x vs:=fun x hx=>by
  obtain⟨i,hi,e⟩:=LT hx;have rK:i<(zE p).length:=by rw[<-qc p (zE p)];exact hi
  obtain⟨x',vs,Hu,hh⟩:=f1 i rK
  have:x=x':=by
   have h3:(zI p (zE p)).2[i]?=J x:=(Li (l:=(qM p).xs) hi).trans (congrArg J e);exact NS (h3.symm.trans Hu)
  subst this;exact⟨_,Lh rK,vs,hh⟩
 refine⟨f3,fun x hm q hq=>?_,fun x hm k hk q hq=>?_,?_,fun x hm=>?_⟩
 . obtain⟨y,hy,vs,hh⟩:=hx x hm
   have h:=xfin_at hh 0 q (Ni _) (by omega);rw[hh.hc,Lm];exact h
 . obtain⟨y,hy,vs,hh⟩:=hx x hm
   have hl:=(fa y hy).1;have h:=xfin_at hh (k+1) q (by omega) (by omega);rw[QB hh k (by omega),hh.hw];exact h
 . show(zI p (zE p)).2.map _=zE p
   refine NO (by rw[LG,qc]) fun i h1 h2=>?_
   obtain⟨x',vs,Hu,hh⟩:=f1 i h2;rw[Ny];obtain⟨h3,h4⟩:=Lq.1 Hu;rw[h4,hh.hc,hh.hw,Lm]
 obtain⟨y,hy,vs,hh⟩:=hx x hm;exact⟨y.1,hh.hc,(fa y hy).2.1,by rw[hh.hw];exact(fa y hy).2.2⟩
section
variable {s:Sy} {K N:Nat}
theorem Sees.pr(h:Sees s K N){x:Exn}(hx:x∈s.xs){k q:Nat}(hk:k<=K)(hq:q<N):∃v,At s.vs (xw x k q) v/\v.p=(q:Int)/\v.r=(k:Int):=by
 cases k with
 | zero=>exact⟨_,h.v0 x hx q hq,rfl,rfl⟩
 | succ k=>exact⟨_,h.vk x hx k (by omega) q hq,rfl,rfl⟩
end
end
section
open Go.RowKit Go.Shelf
attribute [local go_sem] Oper.semAt_some
theorem zA{α:Type}{l:List α}{i:Nat}(h:i<l.length)(d:α):l.getD i d=l[i]:=by rw[Lf,Li h];rfl
def keyL(s:Sy)(q:Nat):List Int:=(zt (s.p.k.toNat+1) 0 s.xs.length).map fun x=>xw (s.xs.getD x.1 default) x.2 q
def ya(s:Sy)(q:Nat):List Int:=kD (keyL s q)
def JL(s:Sy)(p:Int):List Int×Int:=if yc s≠0 then ([],yc s) else if p<0\/s.n<=p then ([],2) else (ya s p.toNat,0)
def RetOE(xs:List Int)(n:Int)(w:Ba)(e:Ending)(w':Ba):Prop:=∃A c,e=Ak (.tuple #[I A xs.length c,O U n])/\Own w' w.heap.size (I A xs.length c) xs/\Am w.heap.size w w'
theorem ptn_len(s:Sy)(q:Nat):(keyL s q).length=s.xs.length*(s.p.k.toNat+1):=by unfold keyL;rw[LG,vt _ _ (by omega)]
theorem cls1_any(s:Sy)(K N:Nat)(hF:Fine s K N)(e k q:Nat)(he:e<s.xs.length)(hk:k<=K)(hq:q<N)(A SV AV AX:Bb)(kc ks kv kx bs bp:Nat)(w:Ba)(hX:XAt w w.heap.size AX s.xs)
  (hb:w.heap[bs]?=J (Ag (s.vs_ A kc SV ks AV kv AX kx) 39 (0,0))) (hp:w.heap[bp]?=J (Ag #[O U (q:Int)] 3 (0,0))) :
  An Al 149 #[Ai #[O U (e:Int),O U (k:Int)],Aj (J ⟨bs,0,Z⟩),Aj (J ⟨bp,0,Z⟩)] w fun r w'=>r=Ak (O U (xw s.xs[e] k q))/\Am w.heap.size w w':=by
 obtain⟨w1,ab,d0,av,hB⟩:=zn w #[O U (e:Int),O U (k:Int)] 178;have lY:=Lh he;obtain⟨dr,ah⟩:=hF.views _ lY;obtain⟨bx,ox,A1,c1,A2,c2,eX,cd,x0,x1,x2,iY,sx⟩:=(hX.keep hB).row e he;subst eX;obtain⟨x,hx⟩:∃x,x=s.xs[e]:=⟨_,rfl⟩;rw[<-hx] at dr ah x2 sx ⊢;obtain⟨bl,ol,A3,c3,eL,aY,y1,hI⟩:=sx.at_ k (by omega);subst eL;obtain⟨hl,mq⟩:=ah _ (Lh (by omega:k<x.views.length));have DD:∀row,x.views[k]'(by omega)=row->xw x k q=row.getD q 0:=fun row hr=>by unfold xw;rw[zA (by omega:k<x.views.length),hr]
 obtain⟨row,pI⟩:=Kj (x.views[k]'(by omega));rw[DD row pI];rw[pI] at y1 hI hl;obtain⟨b4,o4,e4,aD,z4⟩:=hI.at_ q (by omega);subst e4;have nt:row[q]'(by omega)=row.getD q 0:=by rw[Lf,Li (by omega)];rfl
 rw[nt] at z4;obtain⟨u,hu⟩:=Kj (row.getD q 0);rw[hu] at z4 ⊢;obtain⟨nv,DQ⟩:=Kj x.views.length;rw[DQ] at x2 dr;obtain⟨nr,Ml⟩:=Kj row.length;rw[Ml] at y1 hl;have ag:=zH ab;have HB:=zH hB;obtain⟨g0,g1,_⟩:=Ke d0;have p0:=zh (La hB hp) 0 rfl;have p9:w1.cell? ⟨bs,9,Z⟩=J (I (J ⟨bx,ox,Z⟩) s.xs.length kx):=zh (La hB hb) 9 rfl;have h1:(0:Int)<=(e:Int):=by omega
 have h2:(e:Int)<(s.xs.length:Int):=by omega
 have h3:(0:Int)<=(k:Int):=by omega
 have h4:(k:Int)<(nv:Int):=by omega
 have h5:(0:Int)<=(q:Int):=by omega
 have h6:(q:Int)<(nr:Int):=by omega
 clear ab d0 hB hX hb hp hF nt hu DQ Ml hx iY sx hI mq ah lY DD pI x0 x1 hl dr;go_enter func149,ntmps149;go_wp2_with fail;rw[ag.out];go_quiet (fail);go_wp2_with fail;go_ret;exact⟨rfl,yy HB.out _⟩
theorem gu{w w':Ba}(h:Wrote (fun _=>False) w w'):Am w.heap.size w w':=⟨h.os,h.tape,h.output,h.size,fun k hk=>h.block k hk (fun h=>h)⟩
theorem Zi(s:Sy)(hs:LowS s)(hf:yU s.p)(p:Int)(A SV AV AX:Bb)(kc ks kv kx:Nat)(w:Ba)(hS:SyAt w w.heap.size A SV AV AX s) :
  An Al 125 #[.agg (s.vs_ A kc SV ks AV kv AX kx),O U p] w (RetOE (JL s p).1 (JL s p).2 w):=by
 obtain⟨w1,ab,d0,d1,av,hB⟩:=yI w (s.vs_ A kc SV ks AV kv AX kx) #[O U p] 39 3;have HV:=zH (vi s hs hf A SV AV AX kc ks kv kx w1 (hS.up hB));have nh:=zH (hS.up hB);have HE:As (JL s p=if yc s≠0 then ([],yc s) else if p<0\/s.n<=p then ([],2) else (ya s p.toNat,0)):=rfl;have lO:=zH (fun h=>yF hf h)
 have lT:=zH (fun (K N q:Nat) (hF:Fine s K N) (hq:q<N) (X:Ba) (hX:SyAt X X.heap.size A SV AV AX s) (bs bp:Nat) (hb:X.heap[bs]?=J (Ag (s.vs_ A kc SV ks AV kv AX kx) 39 (0,0))) (hp:X.heap[bp]?=J (Ag #[O U (q:Int)] 3 (0,0)))=>
  Qc s K s.xs.length (by have:=hF.k6;omega) (by have:=hF.lx;omega) hF.k rfl A SV AV AX kc ks kv kx 149 #[Aj (J ⟨bs,0,Z⟩),Aj (J ⟨bp,0,Z⟩)]
   (NA func149 (by kernel_rfl) rfl) (fun x=>xw (s.xs.getD x.1 default) x.2 q) (fun _=>False)
   (fun W=>XAt W X.heap.size AX s.xs/\W.heap[bs]?=J (Ag (s.vs_ A kc SV ks AV kv AX kx) 39 (0,0))/\W.heap[bp]?=J (Ag #[O U (q:Int)] 3 (0,0))/\X.heap.size<=W.heap.size) X (fun _ h=>h.elim)
   ⟨hX.fx,hb,hp,Ld _⟩
   (fun W W' h hw=>by
    have aY:Am X.heap.size W W':=⟨hw.os,hw.tape,hw.output,hw.size,fun k hk=>hw.block k (by have:=h.2.2.2;omega) (fun h2=>by omega)⟩
    exact⟨h.1.keep aY,Lb aY (zj hb) h.2.1,Lb aY (zj hp) h.2.2.1,Lu h.2.2.2 hw.size⟩)
   (fun x hx W hJ hW=>by
    obtain⟨_,h1,h2⟩:=xX _ _ x hx;have he:x.1<s.xs.length:=by omega
    have:=cls1_any s K N hF x.1 x.2 q he (by omega) hq A SV AV AX kc ks kv kx bs bp W (hJ.1.more hJ.2.2.2) hJ.2.1 hJ.2.2.1;refine this.mono ?_;rintro r w' ⟨rfl,cN⟩;rw[zA he]
    refine⟨rfl,⟨hJ.1.keep (cN.mono hJ.2.2.2),La cN hJ.2.1,La cN hJ.2.2.1,Lu hJ.2.2.2 cN.size⟩,Wrote.of_below cN⟩))
 have fT:=zH (fun (K q:Nat) (h:s.p.k=(K:Int))=>(by unfold ya keyL;rw[h];rfl:ya s q=kD ((zt (K+1) 0 s.xs.length).map fun x=>xw (s.xs.getD x.1 default) x.2 q)));obtain⟨R,hR⟩:=Kj (JL s p);obtain⟨r,hr⟩:=Kj (yc s);rw[hr] at HV HE lO;rw[hR] at HE ⊢;unfold Sy.vs_ at ab d0 HV lT ⊢;have ag:=zH ab;have HB:=zH hB;have HD:=zH d0;have cy:=zH d1;have p5:=zh d0 5 rfl;have p6:=zh d0 6 rfl;have p7:=zh d0 7 rfl;have p8:=zh d0 8 rfl;have p9:=zh d0 9 rfl;clear ab d0 d1 hB hS hr hR hs hf;go_enter func125,ntmps125;go_wp2_with fail;rw[ag.out];go_wp2_with fail;refine HV.out.mono ?_;rintro e w2 ⟨rfl,ae⟩;have au:=zH (HB.out.trans (ae.mono (by omega)));have fX:=zH (nh.out.up ae);have d0:=Lb ae (by omega:w.heap.size<w1.heap.size) HD.out;have d1:=Lb ae (by omega:w.heap.size+1<w1.heap.size) cy.out;clear p5 p6 p7 p8 p9 ae HV ag nh HD cy
 by_cases h0:r=0
 case neg=>
  have hR:As (R=([],r)):=HE.out.trans (Lj h0);have e0:(r != 0)=Av:=by simpa using h0
  clear HE lO h0 d0 d1 lT fT;go_wp2_with fail
  go_ret2
  rw[hR.out];exact⟨Z,0,rfl,Own.nil _ _,au.out⟩
 case pos=>
 subst h0;obtain⟨mX,K,N,hF⟩:=lO.out rfl;clear mX;have oB:R=if p<0\/s.n<=p then ([],2) else (ya s p.toNat,0):=HE.out.trans (Lg (by simp));have hn:=hF.n;have h5:=hF.n5;rw[hn] at oB;have aj:=zH oB;have GX:=zH hF;have lq:=zH d0;have q0:=zh d1 0 rfl;have q7:w2.cell? ⟨w.heap.size,7,Z⟩=J (O U (N:Int)):=by rw[<-hn];exact zh d0 7 rfl
 have cy:=zH d1;clear HE lO oB hF d0 d1 hn
 by_cases h1:p<0
 case pos=>
  have hR:As (R=([],2)):=aj.out.trans (Lj (.inl h1));clear aj lT fT;go_wp2_with fail
  go_ret2
  rw[hR.out];exact⟨Z,0,rfl,Own.nil _ _,au.out⟩
 case neg=>
 obtain⟨q,rfl⟩:=Lp (show 0<=p by omega);have e1:(decide ((q:Int)<0))=Aw:=by simp
 by_cases h2:q<N
 case neg=>
  have hR:As (R=([],2)):=aj.out.trans (Lj (.inr (by omega)));have e2:(decide ((N:Int)<=(q:Int)))=Av:=by simp;omega
  have h3:(N:Int)<=(q:Int):=by omega
  clear aj lT fT;go_wp2_with fail
  go_ret2
  rw[hR.out];exact⟨Z,0,rfl,Own.nil _ _,au.out⟩
 have hR:As (R=(ya s q,0)):=aj.out.trans (Lg (by omega));have HC:=zH (lT.out K N q GX.out h2 w2 fX.out w.heap.size (w.heap.size+1) lq.out cy.out);have cJ:=fT.out K q GX.out.k;have hn:=GX.out.n;rw[<-cJ,hn] at HC;obtain⟨p0,p1,p2,p3,p4,p5,p6,_⟩:=Kg lq.out;have p8:=zh lq.out 8 rfl;have p9:=zh lq.out 9 rfl;clear aj lT fT fX cJ GX hn;go_wp2_with fail
 all_goals first | (exfalso;omega) | skip
 refine HC.out.mono ?_;rintro e w3 ⟨v,rfl,ho,_,bL⟩;have HO:=zH ho;have ak:=gu bL;have aC:=zH (Lc au.out ak);obtain⟨A6,k6,rfl,_,_,_⟩:=HO.out.form;go_wp2_with fail
 go_ret2
 rw[hR.out];exact⟨A6,k6,rfl,HO.out.low au.out.size,aC.out⟩
end
section
def vC(ls:List Int)(set:List Bool):Nat->Int->Option Au
 | 0=>fun _=>Z
 | k+1=>if set.getD k Aw then vC ls set k else xg (vC ls set k) (ls.getD k 0) (Ah Av)
theorem jB(ls:List Int)(set:List Bool)(v:Int):∀k,(vC ls set k v=J (Ah Av)/\∃i,i<k/\ls.getD i 0=v/\set.getD i Aw=Aw)\/(vC ls set k v=Z/\∀i,i<k->ls.getD i 0=v->set.getD i Aw=Av)
 | 0=>.inr ⟨rfl,fun i h=>by omega⟩
 | k+1=>by
  unfold vC
  cases hs:set.getD k Aw with
  | true=>
   rw[Lj rfl];rcases jB ls set v k with ⟨h1,i,h2,h3,h4⟩ | ⟨h1,h2⟩
   . exact .inl ⟨h1,i,by omega,h3,h4⟩
   . refine .inr ⟨h1,fun i hi he=>?_⟩
     by_cases e:i=k
     . subst e;exact hs
     . exact h2 i (by omega) he
  | false=>
   rw[Lg (by simp)];unfold xg
   by_cases e:v=ls.getD k 0
   . rw[Lj e];exact .inl ⟨rfl,k,by omega,e.symm,hs⟩
   . rw[Lg e]
     rcases jB ls set v k with ⟨h1,i,h2,h3,h4⟩ | ⟨h1,h2⟩
     . exact .inl ⟨h1,i,by omega,h3,h4⟩
     . refine .inr ⟨h1,fun i hi he=>?_⟩
       by_cases e2:i=k
       . subst e2;exact absurd he.symm e
       . exact h2 i (by omega) he
def xR(n:Nat)(ls:List Int)(set:List Bool):List Bool:=(List.range n).map fun i=>decide (∀j,j<n->ls.getD j 0=ls.getD i 0->set.getD j Aw=Av)
theorem xb(n:Nat)(ls:List Int)(set:List Bool):(xR n ls set).length=n:=by simp[xR]
theorem insL_at{n:Nat}{ls:List Int}{set:List Bool}{i:Nat}(h:i<n):(xR n ls set)[i]'(by rw[xb];exact h)=decide (∀j,j<n->ls.getD j 0=ls.getD i 0->set.getD j Aw=Av):=by simp[xR]
theorem insL_brk{n:Nat}{ls:List Int}{set:List Bool}{i:Nat}(h:i<n):(xR n ls set)[i]'(by rw[xb];exact h)=(vC ls set n (ls.getD i 0)).isNone:=by
 rw[insL_at h];rcases jB ls set (ls.getD i 0) n with ⟨h1,j,h2,h3,h4⟩ | ⟨h1,h2⟩
 . rw[h1]
   refine Lv fun ha=>?_
   have:=ha j h2 h3;rw[h4] at this;cases this
 rw[h1];exact Lw h2
def kV(n:Nat)(a b:List Bool):List Bool:=(List.range n).map fun i=>a.getD i Aw&&b.getD i Aw
theorem xr(n:Nat)(a b:List Bool):(kV n a b).length=n:=by simp[kV]
theorem ZG{n:Nat}{a b:List Bool}{i:Nat}(h:i<n):(kV n a b)[i]'(by rw[xr];exact h)=(a.getD i Aw&&b.getD i Aw):=by simp[kV]
def evL(n:Nat)(cls:Nat->List Int)(ps:List Nat)(set:List Bool):List Bool:=ps.foldl (fun o p=>kV n o (xR n (cls p) set)) (List.replicate n Av)
theorem qS(n:Nat)(cls:Nat->List Int)(set:List Bool)(ps:List Nat):(evL n cls ps set).length=n:=by
 unfold evL;refine snocI (P:=fun ps=>(ps.foldl (fun o p=>kV n o (xR n (cls p) set)) (List.replicate n Av)).length=n) (by simp) (fun l x _=>?_) ps;rw[Pp];exact xr _ _ _
theorem JJ(n:Nat)(cls:Nat->List Int)(set:List Bool)(ps:List Nat)(p:Nat):evL n cls (ps++[p]) set=kV n (evL n cls ps set) (xR n (cls p) set):=by unfold evL;rw[Pp];rfl
theorem Qu{n:Nat}{cls:Nat->List Int}{set:List Bool}{i:Nat}(h:i<n)(ps:List Nat):(evL n cls ps set).getD i Aw=Av↔∀p∈ps,∀j,j<n->(cls p).getD j 0=(cls p).getD i 0->set.getD j Aw=Av:=by
 refine snocI (P:=fun ps=>(evL n cls ps set).getD i Aw=Av↔∀p∈ps,∀j,j<n->(cls p).getD j 0=(cls p).getD i 0->set.getD j Aw=Av) ?_ (fun l x ih=>?_) ps
 . simp[evL,List.getD_eq_getElem?_getD,h]
 rw[JJ,zA (by rw[xr];exact h),ZG h,L8,ih,zA (by rw[xb];exact h),insL_at h,Pd];constructor
 . rintro⟨h1,h2⟩ p hp
   rcases LX.1 hp with hp | hp
   . exact h1 p hp
   rw[LQ] at hp;subst hp;exact h2
 exact fun h1=>⟨fun p hp=>h1 p (PG _ hp),h1 x (by simp)⟩
end
section
open Go.RowKit
def ja(x:Int×Int):Au:=Ai #[O U x.1,O U x.2]
theorem st_inj(a b:Int×Int)(h:ja a=ja b):a=b:=by
 injection h with h
 obtain⟨a0,a1⟩:=a;obtain⟨b0,b1⟩:=b;simpa using h
open Classical in
theorem ZT:KeyOk Al 106 ja where
 inj:=st_inj
 check:=fun w em v=>by
  have hu:Al.underlying 106=J (.struct (Al.fieldsOf 106)):=by kernel_rfl
  have hf : (Al.fieldsOf 106).toList.map (fun f => (f.name, f.type, f.offset)) = [("Point", 3, 0), ("Proc", 3, 1)] := by kernel_rfl
  have p0:=fun x0 x1=>yi #[x0,x1] 0 x0 rfl w
  have p1:=fun x0 x1=>yi #[x0,x1] 1 x1 rfl w
  unfold Instr.checkKey ja;simp only[Sem.run_bind,run_underlying hu,Result.andThen_ok];rw[<-Array.forIn_toList]
  generalize (Al.fieldsOf 106).toList=fs at hf
  obtain⟨f0,f1,rfl⟩:∃f0 f1,fs=[f0,f1]:=by
   have hl:fs.length=2:=by simpa using congrArg List.length hf
   rcases fs with _ | ⟨f0,_ | ⟨f1,_ | ⟨f2,r⟩⟩⟩<;>simp at hl
   exact⟨_,_,rfl⟩
  clear hu;simp only[List.map_cons,List.map_nil,List.cons.injEq,Prod.mk.injEq,and_true] at hf;obtain⟨⟨n0,t0,o0⟩,⟨n1,t1,o1⟩⟩:=hf;simp only[List.forIn_cons,List.forIn_nil,n0,n1,t0,t1,o0,o1,p0,p1,Sem.run_bind,Result.andThen_ok,wW,ne_eq,String.reduceEq,not_false_eq_true,if_true,Sem.run_pure]
 equal:=fun w a b=>by
  have hu:Al.underlying 106=J (.struct (Al.fieldsOf 106)):=by kernel_rfl
  have hi:Al.underlying 3=J (.int U):=LE;have hf : (Al.fieldsOf 106).toList.map (fun f => (f.name, f.type, f.offset)) = [("Point", 3, 0), ("Proc", 3, 1)] := by kernel_rfl
  have p0:=fun x0 x1=>yi #[x0,x1] 0 x0 rfl w
  have p1:=fun x0 x1=>yi #[x0,x1] 1 x1 rfl w
  unfold Op.equal Op.maxDepth ja;rw[Ra w 9999 106 _ _ hu (by kernel_rfl)]
  generalize (Al.fieldsOf 106).toList=fs at hf
  obtain⟨f0,f1,rfl⟩:∃f0 f1,fs=[f0,f1]:=by
   have hl:fs.length=2:=by simpa using congrArg List.length hf
   rcases fs with _ | ⟨f0,_ | ⟨f1,_ | ⟨f2,r⟩⟩⟩<;>simp at hl
   exact⟨_,_,rfl⟩
  clear hu;simp only[List.map_cons,List.map_nil,List.cons.injEq,Prod.mk.injEq,and_true] at hf;obtain⟨⟨n0,t0,o0⟩,⟨n1,t1,o1⟩⟩:=hf
  have hd:(@decide (Ai #[O U a.1,O U a.2]=Ai #[O U b.1,O U b.2]) (propDecidable _))=(a.1==b.1&&a.2==b.2):=by
   rw[NL];simp
  rw[hd]
  cases h0:(a.1==b.1)<;>cases h1:(a.2==b.2) <;>
   simp only[Op.eqFields,n0,n1,t0,t1,o0,o1,p0,p1,Sem.run_bind,Result.andThen_ok,run_equalIn_int w _ 3 _ _ _ _ hi,h0,h1,ne_eq,not_false_eq_true,if_true,Bool.not_false,Bool.not_true,Bool.false_eq_true,if_false,Sem.run_pure,Bool.true_and,Bool.false_and,String.reduceEq]
 now:=fun d hd=>.inr fun a b=>by
  have hu:Al.underlying 106=J (.struct (Al.fieldsOf 106)):=by kernel_rfl
  rw[hu] at hd
  cases hd
  simp[Instr.sameNow]
 stays:=fun a=>by simp[Instr.sameBits,ja]
 kind := ⟨_, by have hu : Al.underlying 106 = J (.struct (Al.fieldsOf 106)) := by kernel_rfl
                exact hu⟩
structure StAt(w:Ba)(B:Nat)(Ap:Bb)(bC bM n:Nat)(ps:List Nat)(cls:Nat->List Int):Prop where
 procs:IAt w B Ap (yr ps)
 lc:bC<B
 lm:bM<B
 cl:∃m f,MapOf (O U) w bC m f/\∀p∈ps,∃A c,f (p:Int)=J (I A n c)/\IAt w B A (cls p)
 mb:∃m f,MapOf ja w bM m f/\∀p∈ps,∀k:Int,∃A c,(f (k,(p:Int))).getD (I Z 0 0)=.slice A (jJ (cls p) k).length c/\IAt w B A (yr (jJ (cls p) k))
 len:∀p∈ps,(cls p).length=n
theorem StAt.keep{w w':Ba}{B:Nat}{Ap:Bb}{bC bM n:Nat}{ps:List Nat}{cls:Nat->List Int}(h:StAt w B Ap bC bM n ps cls)(hb:Am B w w'):StAt w' B Ap bC bM n ps cls:=by
 obtain⟨m,f,h1,h2⟩:=h.cl;obtain⟨m',f',h3,h4⟩:=h.mb;refine⟨h.procs.keep hb,h.lc,h.lm,⟨m,f,h1.same (hb.block _ h.lc),fun p hp=>?_⟩,⟨m',f',h3.same (hb.block _ h.lm),fun p hp k=>?_⟩,h.len⟩
 . obtain⟨A,c,e1,e2⟩:=h2 p hp
   exact⟨A,c,e1,e2.keep hb⟩
 obtain⟨A,c,e1,e2⟩:=h4 p hp k;exact⟨A,c,e1,e2.keep hb⟩
theorem IAt.sameB{w w':Ba}{B:Nat}{A:Bb}{xs:List Int}(h:IAt w B A xs)(hb:∀k,k<B->w'.heap[k]?=w.heap[k]?):IAt w' B A xs:=fun h0=>by
 obtain⟨b,off,e,hlt,hc⟩:=h h0;exact⟨b,off,e,hlt,fun i hi=>(LL (hb b hlt)).trans (hc i hi)⟩
theorem StAt.same{w w':Ba}{B:Nat}{Ap:Bb}{bC bM n:Nat}{ps:List Nat}{cls:Nat->List Int}(h:StAt w B Ap bC bM n ps cls)(hb:∀k,k<B->w'.heap[k]?=w.heap[k]?):StAt w' B Ap bC bM n ps cls:=by
 obtain⟨m,f,h1,h2⟩:=h.cl;obtain⟨m',f',h3,h4⟩:=h.mb;refine⟨h.procs.sameB hb,h.lc,h.lm,⟨m,f,h1.same (hb _ h.lc),fun p hp=>?_⟩,⟨m',f',h3.same (hb _ h.lm),fun p hp k=>?_⟩,h.len⟩
 . obtain⟨A,c,e1,e2⟩:=h2 p hp
   exact⟨A,c,e1,e2.sameB hb⟩
 obtain⟨A,c,e1,e2⟩:=h4 p hp k;exact⟨A,c,e1,e2.sameB hb⟩
theorem StAt.more{w:Ba}{B B':Nat}{Ap:Bb}{bC bM n:Nat}{ps:List Nat}{cls:Nat->List Int}(h:StAt w B Ap bC bM n ps cls)(hB:B<=B'):StAt w B' Ap bC bM n ps cls:=by
 obtain⟨m,f,h1,h2⟩:=h.cl;obtain⟨m',f',h3,h4⟩:=h.mb;have l1:=h.lc;have l2:=h.lm;refine⟨h.procs.more hB,by omega,by omega,⟨m,f,h1,fun p hp=>?_⟩,⟨m',f',h3,fun p hp k=>?_⟩,h.len⟩
 . obtain⟨A,c,e1,e2⟩:=h2 p hp
   exact⟨A,c,e1,e2.more hB⟩
 obtain⟨A,c,e1,e2⟩:=h4 p hp k;exact⟨A,c,e1,e2.more hB⟩
def stC(n:Nat)(Ap:Bb)(m kp bC bM:Nat):Array Au:=#[O U (n:Int),I Ap m kp,.map (J bC),.map (J bM)]
end
section
open Go.RowKit
theorem cnt_pos{a:Ad}(h:zJ a a.sts=0):∀(k:Nat) (s:Int),0<=s->s<a.sts.length->1<=yj a k s
 | 0,_,_,_=>Ld _
 | k+1,s,h0,h1=>by
  have hl:s.toNat<a.sts.length:=by omega
  have he:a.at_ s=a.sts[s.toNat]:=by unfold Ad.at_;rw[Lf,Li hl];rfl
  obtain⟨z1,z2⟩:=jO h _ (Lh hl)
  obtain⟨m,r,hm⟩:∃m r,a.sts[s.toNat]=m::r:=by
   cases hc:a.sts[s.toNat] with
   | nil=>rw[hc] at z1;simp at z1
   | cons m r=>exact⟨m,r,rfl⟩
  have Fu:m∈a.mvs:=NG.2 ⟨_,Lh hl,by rw[hm];simp⟩;obtain⟨_,_,z3,z4⟩:=xL h m Fu;have:=cnt_pos h k m.to z3 z4;unfold yj;rw[he,hm,L4,Rv];omega
theorem J4{s:Sy}(hf:yU s.p)(h:yc s=0):1<=s.xs.length:=by
 obtain⟨e,_⟩:=yF hf h
 have h0:zZ s.p=0:=by
  unfold yc at h
  by_cases h1:(zY s.p).2≠0
  . rw[Lj h1] at h;exact absurd h h1
  by_cases h0:zZ s.p=0
  . exact h0
  rw[xn h0] at h1;exact absurd h0 h1
 obtain⟨fE,sT,_⟩:=yp h0;obtain⟨hc,_⟩:=xj fE;rw[e];show 1<=(zI s.p (zE s.p)).2.length;have ha:=sT;unfold ql at ha
 have eZ:zJ s.p.a s.p.a.sts=0/\1<=s.p.a.sts.length:=by
  split at ha
  . cases ha
  split at ha
  . cases ha
  rename_i h3
  split at ha
  . rename_i h4;exact absurd ha h4
  rename_i h4;exact⟨by simpa using h4,by omega⟩
 have:=cnt_pos eZ.1 s.p.k.toNat 0 (So _) (by omega);rw[qc,X7,Zw,yK];exact LU hc this
theorem bit_test0{h j:Nat}(hh:h<32)(hj:j<5):(bits BinOp.and U ((h:Int) / 2^j) 1==0)=!h.testBit j:=by
 match j,hj with
 | 0,_=>exact LA (kr (p:=fun h=>decide ((bits BinOp.and U ((h:Int) / 2^0) 1==0)=!h.testBit 0)) (by decide +kernel) hh)
 | 1,_=>exact LA (kr (p:=fun h=>decide ((bits BinOp.and U ((h:Int) / 2^1) 1==0)=!h.testBit 1)) (by decide +kernel) hh)
 | 2,_=>exact LA (kr (p:=fun h=>decide ((bits BinOp.and U ((h:Int) / 2^2) 1==0)=!h.testBit 2)) (by decide +kernel) hh)
 | 3,_=>exact LA (kr (p:=fun h=>decide ((bits BinOp.and U ((h:Int) / 2^3) 1==0)=!h.testBit 3)) (by decide +kernel) hh)
 | 4,_=>exact LA (kr (p:=fun h=>decide ((bits BinOp.and U ((h:Int) / 2^4) 1==0)=!h.testBit 4)) (by decide +kernel) hh)
structure RdS(B bX bC bM n:Nat)(S:Array Au)(V:Au)(f:Int->Option Au)(fM:Int×Int->Option Au)(pl cl:List Nat)(cls:Nat->List Int)(oG:Int×Int->List Nat)(w W:Ba):Prop where
 below:Am B w W
 b0:W.heap[B]?=J (Ag S 39 (0,0))
 b1:W.heap[B+1]?=J (Ag #[O U 0,I Z 0 0,.map Z,.map Z] 101 (0,0))
 bx:W.heap[bX]?=J (Ag #[O U (n:Int),V,.map (J bC),.map (J bM)] 101 (0,0))
 own:Own W B V (yr pl)
 mC:∃m,MapOf (O U) W bC m f
 mM:∃m,MapOf ja W bM m fM
 rowC:∀p∈cl,∃g c,f (p:Int)=J (I (J ⟨g,0,Z⟩) n c)/\Own W B (I (J ⟨g,0,Z⟩) n c) (cls p)/\V.ownBlock≠J g/\∀x v,fM x=J v->v.ownBlock≠J g
 rowM:∀x,Own W B ((fM x).getD (I Z 0 0)) (yr (oG x))/\∀v z,fM x=J v->v.ownBlock=J z->V.ownBlock≠J z
 sepM:∀x y v u z,fM x=J v->fM y=J u->v.ownBlock=J z->u.ownBlock=J z->x=y
 lX:B+1<bX
 lC:B<bC
 lM:B<bM
 nCM:bC≠bM
section
variable {B bX bC bM n:Nat} {S:Array Au} {V:Au} {f:Int->Option Au} {fM:Int×Int->Option Au} {pl cl:List Nat} {cls:Nat->List Int} {oG:Int×Int->List Nat} {w W W':Ba}
theorem xK{w w':Ba}{base:Nat}{v:Au}{xs:List Int}(h:Own w base v xs)(hs:∀k,v.ownBlock=J k->w'.heap[k]?=w.heap[k]?):Own w' base v xs:=by
 refine⟨h.1,?_⟩;rcases h.2 with hn | ⟨g,cap,cur,rfl,hb,hg,rest⟩
 . exact .inl hn
 exact .inr ⟨g,cap,cur,rfl,hb,(hs g rfl).trans hg,rest⟩
theorem RdS.on(h:RdS B bX bC bM n S V f fM pl cl cls oG w W)(hb:Am W.heap.size W W'):RdS B bX bC bM n S V f fM pl cl cls oG w W':=by
 obtain⟨m,hm⟩:=h.mC;obtain⟨m',BI⟩:=h.mM;have hB:=zj h.b0
 refine⟨h.below.trans (hb.mono (by omega)),La hb h.b0,La hb h.b1,La hb h.bx,h.own.below hb (Ld _),⟨m,hm.same (hb.block _ hm.lt)⟩,⟨m',BI.same (hb.block _ BI.lt)⟩,
  fun p hp=>?_,fun x=>⟨(h.rowM x).1.below hb (Ld _),(h.rowM x).2⟩,h.sepM,h.lX,h.lC,h.lM,h.nCM⟩
 obtain⟨g,c,e1,e2,e3⟩:=h.rowC p hp;exact⟨g,c,e1,e2.below hb (Ld _),e3⟩
theorem RdS.clear{k:Nat}(h:RdS B bX bC bM n S V f fM pl cl cls oG w W)(hk:∀cs,W.heap[k]?≠J (Ag cs 3 (0,0))):V.ownBlock≠J k/\(∀p∈cl,∀g c,f (p:Int)=J (I (J ⟨g,0,Z⟩) n c)->g≠k)/\∀x,((fM x).getD (I Z 0 0)).ownBlock≠J k:=by
 have key:∀ {v:Au} {xs:List Int},Own W B v xs->v.ownBlock≠J k:=fun {v xs} ho e=>by
  rcases ho.2 with ⟨rfl,_⟩ | ⟨g,cap,cur,rfl,hb,hg,rest⟩
  . cases e
  . have:g=k:=by simpa[Value.ownBlock] using e
    subst this;exact hk _ hg
 refine⟨key h.own,fun p hp g c he=>?_,fun x=>key (h.rowM x).1⟩;obtain⟨g',c',e1,e2,_⟩:=h.rowC p hp;rw[he] at e1
 cases e1
 rintro rfl;exact key e2 rfl
theorem RdS.kinds(h:RdS B bX bC bM n S V f fM pl cl cls oG w W):(∀cs,W.heap[B]?≠J (Ag cs 3 (0,0)))/\(∀cs,W.heap[B+1]?≠J (Ag cs 3 (0,0)))/\(∀cs,W.heap[bX]?≠J (Ag cs 3 (0,0)))/\(∀cs,W.heap[bC]?≠J (Ag cs 3 (0,0)))/\∀cs,W.heap[bM]?≠J (Ag cs 3 (0,0)):=by
 obtain⟨m,es,bk,hb,_⟩:=h.mC;obtain⟨m',Uk,Gp,cN,_⟩:=h.mM;refine⟨fun cs e=>?_,fun cs e=>?_,fun cs e=>?_,fun cs e=>?_,fun cs e=>?_⟩
 . rw[h.b0] at e;injection e with e;injection e with _ e _;exact absurd e (by decide)
 . rw[h.b1] at e;injection e with e;injection e with _ e _;exact absurd e (by decide)
 . rw[h.bx] at e;injection e with e;injection e with _ e _;exact absurd e (by decide)
 . rw[hb] at e;cases e
 rw[cN] at e;cases e
theorem RdS.apart(h:RdS B bX bC bM n S V f fM pl cl cls oG w W):bX≠bC/\bX≠bM/\bC≠B+1/\bM≠B+1:=by
 obtain⟨m,es,bk,hb,_⟩:=h.mC;obtain⟨m',Uk,Gp,cN,_⟩:=h.mM;refine⟨?_,?_,?_,?_⟩
 . rintro rfl;rw[h.bx] at hb;cases hb
 . rintro rfl;rw[h.bx] at cN;cases cN
 . rintro rfl;rw[h.b1] at hb;cases hb
 rintro rfl;rw[h.b1] at cN;cases cN
theorem RdS.proc{V':Au}{p:Nat}(h:RdS B bX bC bM n S V f fM pl cl cls oG w W)(hg:W.grownBy W' V.ownBlock)(ho:Own W' B V' (yr (pl++[p])))(aI:V'.ownBlock=V.ownBlock\/∃z,V'.ownBlock=J z/\W.heap.size<=z) :
  RdS B bX bC bM n S V' f fM (pl++[p]) cl cls oG w (W'.setCell ⟨bX,1,Z⟩ V'):=by
 obtain⟨m,hm⟩:=h.mC;obtain⟨m',BI⟩:=h.mM;obtain⟨k0,k1,kx,kc,km⟩:=h.kinds;obtain⟨a1,a2,a3,a4⟩:=h.apart;have lX:=h.lX;have hB:=zj h.bx;have old:∀k,k<W.heap.size->V.ownBlock≠J k->W'.heap[k]?=W.heap[k]?:=fun k hk hn=>hg.block k hk (fun e=>hn e.symm)
 have ox:=(old bX hB (h.clear kx).1).trans h.bx;have oth:∀k,k≠bX->(W'.setCell ⟨bX,1,Z⟩ V').heap[k]?=W'.heap[k]?:=fun k hk=>Le W' ⟨bX,1,Z⟩ V' k hk
 have sm:∀k,k<W.heap.size->V.ownBlock≠J k->k≠bX->(W'.setCell ⟨bX,1,Z⟩ V').heap[k]?=W.heap[k]?:=fun k hk h1 h2=>(oth k h2).trans (old k hk h1)
 have az:∀ {v:Au} {xs:List Int},Own W B v xs->∀z,v.ownBlock=J z->z≠bX:=fun {v xs} Fp z e=>by
  rintro rfl;rcases Fp.2 with ⟨rfl,_⟩ | ⟨g,cap,cur,rfl,hb,ov,rest⟩
  . cases e
  . have:g=z:=by simpa[Value.ownBlock] using e
    subst this;exact kx _ ov
 have hnV:∀z,V.ownBlock≠J z->z<W.heap.size->V'.ownBlock≠J z:=fun z h1 h2 e=>by
  rcases aI with e2 | ⟨y,e2,e3⟩
  . exact h1 (by rw[<-e2];exact e)
  . rw[e2] at e;cases e;omega
 refine⟨?_,(sm B (by omega) (h.clear k0).1 (by omega)).trans h.b0,(sm (B+1) (by omega) (h.clear k1).1 (by omega)).trans h.b1,?_,xK ho fun z e=>oth z ?_,⟨m,hm.same (sm bC hm.lt (h.clear kc).1 (N9 a1))⟩,⟨m',BI.same (sm bM BI.lt (h.clear km).1 (N9 a2))⟩,
  fun q hq=>?_,fun x=>⟨xK (h.rowM x).1 fun z e=>?_,fun v z e1 e2=>?_⟩,h.sepM,lX,h.lC,h.lM,h.nCM⟩
 . exact(h.below.grown hg (by omega) (fun k e=>(h.own.lt k e).1)).setCell (by show B<=bX;omega) _
 . rw[Lk W' bX 1 _ _ _ ox];rfl
 . rintro rfl
   rcases aI with e2 | ⟨y,e2,e3⟩
   . rw[e2] at e;exact az h.own z e rfl
   rw[e2] at e;cases e;omega
 . obtain⟨g,c,e1,e2,e3,e4⟩:=h.rowC q hq
   have dC:=(e2.lt g rfl).2
   exact⟨g,c,e1,xK e2 fun z e=>by
    have:g=z:=by simpa[Value.ownBlock] using e
    subst this
    exact sm g dC e3 (az e2 g rfl),hnV g e3 dC,e4⟩
 . have KE:=((h.rowM x).1.lt z e).2
   have hz:∃v,fM x=J v/\v.ownBlock=J z:=by
    cases hf:fM x with
    | none=>rw[hf] at e;cases e
    | some v=>rw[hf] at e;exact⟨v,rfl,e⟩
   obtain⟨v,e1,e2⟩:=hz;exact sm z KE ((h.rowM x).2 v z e1 e2) (az (h.rowM x).1 z e)
 have lJ:=(h.rowM x).1;rw[e1] at lJ;exact hnV z ((h.rowM x).2 v z e1 e2) (lJ.lt z e2).2
theorem RdS.put{m p g c:Nat}(h:RdS B bX bC bM n S V f fM pl cl cls oG w W)(hg:W.grownBy W' (J bC))(hm:MapOf (O U) W' bC m (xg f (p:Int) (I (J ⟨g,0,Z⟩) n c)))(ho:Own W B (I (J ⟨g,0,Z⟩) n c) (cls p))(hV:V.ownBlock≠J g)(hM:∀x v,fM x=J v->v.ownBlock≠J g) :
  RdS B bX bC bM n S V (xg f (p:Int) (I (J ⟨g,0,Z⟩) n c)) fM pl (cl++[p]) cls oG w W':=by
 obtain⟨m',BI⟩:=h.mM;obtain⟨k0,k1,kx,kc,km⟩:=h.kinds;obtain⟨a1,a2,a3,a4⟩:=h.apart;have lX:=h.lX;have lC:=h.lC;have hB:=zj h.bx;have old:∀k,k<W.heap.size->k≠bC->W'.heap[k]?=W.heap[k]?:=fun k hk hn=>hg.block k hk (fun e=>hn (by cases e;rfl))
 have az:∀ {v:Au} {xs:List Int},Own W B v xs->Own W' B v xs:=fun {v xs} Fp=>xK Fp fun z e=>old z (Fp.lt z e).2 (by
  rintro rfl;rcases Fp.2 with ⟨rfl,_⟩ | ⟨g,cap,cur,rfl,hb,ov,rest⟩
  . cases e
  . have:g=z:=by simpa[Value.ownBlock] using e
    subst this
    exact kc _ ov)
 refine⟨h.below.grown hg (by omega) (fun k e=>by cases e;omega),(old B (by omega) (by omega)).trans h.b0,(old (B+1) (by omega) (N9 a3)).trans h.b1,(old bX hB a1).trans h.bx,az h.own,⟨m,hm⟩,⟨m',BI.same (old bM BI.lt (N9 h.nCM))⟩,fun q hq=>?_,fun x=>⟨az (h.rowM x).1,(h.rowM x).2⟩,h.sepM,lX,lC,h.lM,h.nCM⟩
 by_cases e:q=p
 . subst e
   exact⟨g,c,by simp[xg],az ho,hV,hM⟩
 have Hz : q ∈ cl := by
  rcases LX.1 hq with h1 | h1
  . exact h1
  exact absurd (LQ.1 h1) e
 obtain⟨g',c',e1,e2,e3⟩:=h.rowC q Hz;refine⟨g',c',?_,az e2,e3⟩;unfold xg;rw[Lg (fun e'=>e (by exact_mod_cast e')),e1]
def updM(oG:Int×Int->List Nat)(x0:Int×Int)(i:Nat):Int×Int->List Nat:=fun x=>if x=x0 then oG x0++[i] else oG x
theorem RdS.member{W2:Ba}{x0:Int×Int}{i m:Nat}{v':Au}(h:RdS B bX bC bM n S V f fM pl cl cls oG w W)(hg:W.grownBy W2 ((fM x0).getD (I Z 0 0)).ownBlock)(ho:Own W2 B v' (yr (oG x0++[i])))
  (aI:v'.ownBlock=((fM x0).getD (I Z 0 0)).ownBlock\/∃z,v'.ownBlock=J z/\W.heap.size<=z) (oR:W2.grownBy W' (J bM)) (sf:MapOf ja W' bM m (xg fM x0 v')) :
  RdS B bX bC bM n S V f (xg fM x0 v') pl cl cls (updM oG x0 i) w W':=by
 obtain⟨mc,Mt⟩:=h.mC;obtain⟨k0,k1,kx,kc,km⟩:=h.kinds;obtain⟨a1,a2,a3,a4⟩:=h.apart;have lX:=h.lX;have lM:=h.lM;have hB:=zj h.bx;have cM:=hg.size;have old:∀k,k<W.heap.size->((fM x0).getD (I Z 0 0)).ownBlock≠J k->k≠bM->W'.heap[k]?=W.heap[k]?:=fun k hk hn hM=>(oR.block k (by omega) (fun e=>hM (by cases e;rfl))).trans (hg.block k hk (fun e=>hn e.symm))
 have TH:∀ {v:Au} {xs:List Int},Own W B v xs->∀z,v.ownBlock=J z->z≠bM:=fun {v xs} Fp z e=>by
  rintro rfl;rcases Fp.2 with ⟨rfl,_⟩ | ⟨g,cap,cur,rfl,hb,ov,rest⟩
  . cases e
  . have:g=z:=by simpa[Value.ownBlock] using e
    subst this;exact km _ ov
 have h0:∀z,((fM x0).getD (I Z 0 0)).ownBlock=J z->∃v,fM x0=J v/\v.ownBlock=J z:=fun z e=>by
  cases hf:fM x0 with
  | none=>rw[hf] at e;cases e
  | some v=>rw[hf] at e;exact⟨v,rfl,e⟩
 have N1:bM<W.heap.size:=by obtain⟨_,BI⟩:=h.mM;exact BI.lt
 have eP:∀z,v'.ownBlock=J z->(∃v,fM x0=J v/\v.ownBlock=J z)\/W.heap.size<=z:=fun z e=>by
  rcases aI with e2 | ⟨y,e2,e3⟩
  . exact .inl (h0 z (by rw[<-e2];exact e))
  . rw[e2] at e;cases e;exact .inr e3
 have T4:∀z,V.ownBlock=J z->((fM x0).getD (I Z 0 0)).ownBlock≠J z:=fun z e e2=>by
  obtain⟨v,e3,e4⟩:=h0 z e2;exact(h.rowM x0).2 v z e3 e4 e
 refine⟨(h.below.grown hg (by omega) (fun k e=>((h.rowM x0).1.lt k e).1)).grown oR (by have:=h.below.size;omega) (fun k e=>by cases e;omega),(old B (by omega) ((h.clear k0).2.2 x0) (by omega)).trans h.b0,(old (B+1) (by omega) ((h.clear k1).2.2 x0) (N9 a4)).trans h.b1,(old bX hB ((h.clear kx).2.2 x0) a2).trans h.bx,
  xK h.own fun z e=>old z (h.own.lt z e).2 (T4 z e) (TH h.own z e),⟨mc,Mt.same (old bC Mt.lt ((h.clear kc).2.2 x0) h.nCM)⟩,⟨m,sf⟩,fun q hq=>?_,fun x=>?_,fun x y v u z e1 e2 e3 e4=>?_,lX,h.lC,lM,h.nCM⟩
 . obtain⟨g,c,e1,e2,e3,e4⟩:=h.rowC q hq
   have dC:=(e2.lt g rfl).2;refine⟨g,c,e1,xK e2 fun z e=>?_,e3,fun x v e=>?_⟩
   . have:g=z:=by simpa[Value.ownBlock] using e
     subst this;exact old g dC (fun e5=>by obtain⟨v,e6,e7⟩:=h0 g e5;exact e4 x0 v e6 e7) (TH e2 g rfl)
   unfold xg at e
   split at e
   . cases e
     intro e5;rcases eP g e5 with ⟨u,e6,e7⟩ | e6
     . exact e4 x0 u e6 e7
     omega
   exact e4 x v e
 . unfold xg updM
   by_cases e:x=x0
   . subst e
     rw[Lj rfl,Lj rfl];refine⟨xK ho fun z e=>oR.block z (ho.lt z e).2 (fun e5=>?_),fun v z e1 e2 e3=>?_⟩
     . cases e5
       rcases eP _ e with ⟨v,e6,e7⟩ | e6
       . exact TH (h.rowM x).1 _ (by rw[e6];exact e7) rfl
       omega
     cases e1
     rcases eP z e2 with ⟨u,e6,e7⟩ | e6
     . exact(h.rowM x).2 u z e6 e7 e3
     have:=(h.own.lt z e3).2;omega
   rw[Lg e,Lg e];refine⟨xK (h.rowM x).1 fun z e1=>old z ((h.rowM x).1.lt z e1).2 (fun e2=>?_) (TH (h.rowM x).1 z e1),(h.rowM x).2⟩;obtain⟨v,e6,e7⟩:=h0 z e2
   cases hf:fM x with
   | none=>rw[hf] at e1;cases e1
   | some u=>rw[hf] at e1;exact e (h.sepM x x0 u v z hf e6 e1 e7)
 have hlt : ∀ {x : Int × Int} {v : Au}, fM x = J v -> v.ownBlock = J z -> z < W.heap.size := fun {x v} e5 e6 => by
  have:=(h.rowM x).1;rw[e5] at this;exact(this.lt z e6).2
 unfold xg at e1 e2
 by_cases ex:x=x0
 . by_cases ey:y=x0
   . rw[ex,ey]
   rw[Lj ex] at e1;rw[Lg ey] at e2
   cases e1
   rcases eP z e3 with ⟨v1,e6,e7⟩ | e6
   . exact ex.trans (h.sepM x0 y v1 u z e6 e2 e7 e4)
   have:=hlt e2 e4;omega
 rw[Lg ex] at e1
 by_cases ey:y=x0
 . rw[Lj ey] at e2
   cases e2
   rcases eP z e4 with ⟨v1,e6,e7⟩ | e6
   . exact(h.sepM x x0 v v1 z e1 e6 e3 e7).trans ey.symm
   have:=hlt e1 e3;omega
 rw[Lg ey] at e2;exact h.sepM x y v u z e1 e2 e3 e4
end
def uK(cls:Nat->List Int)(dn:List Nat)(x:Int×Int):List Nat:=if 0<=x.2/\x.2.toNat∈dn then jJ (cls x.2.toNat) x.1 else []
def wK(cls:Nat->List Int)(dn:List Nat)(p i:Nat)(x:Int×Int):List Nat:=if x.2=(p:Int) then jJ ((cls p).take i) x.1 else uK cls dn x
theorem memP_zero{cls:Nat->List Int}{dn:List Nat}{p:Nat}(hp:p∉dn):wK cls dn p 0=uK cls dn:=by
 funext x
 unfold wK
 split
 . rename_i h
   have h1:uK cls dn x=[]:=by
    unfold uK;rw[h,Lg (by rintro⟨_,h2⟩;exact hp (by simpa using h2))]
   rw[h1];simp[jJ]
 rfl
theorem memP_end{cls:Nat->List Int}{dn:List Nat}{p n:Nat}(hn:(cls p).length=n):wK cls dn p n=uK cls (dn++[p]):=by
 funext x
 unfold wK
 split
 . rename_i h
   unfold uK;rw[h,Lj ⟨by omega,by simp⟩,<-hn,LK];simp
 rename_i h;unfold uK
 by_cases h1:0<=x.2/\x.2.toNat∈dn
 . rw[Lj h1,Lj ⟨h1.1,by simp[h1.2]⟩]
 rw[Lg h1,Lg];rintro⟨h2,h3⟩;rcases LX.1 h3 with h4 | h4
 . exact h1 ⟨h2,h4⟩
 rw[LQ] at h4;omega
theorem Xs(c:List Int)(y k:Int):jJ (c++[y]) k=if y=k then jJ c k++[c.length] else jJ c k:=by
 unfold jJ;rw[Lr,Nm,P4,Sd]
 have e1:(List.range c.length).filter (fun i=>decide ((c++[y]).getD i 0=k))=(List.range c.length).filter (fun i=>decide (c.getD i 0=k)):=by
  refine List.filter_congr fun i hi=>?_
  have:=PO.1 hi;rw[Lf,Lf,LC this]
 rw[e1];have e2:(c++[y]).getD c.length 0=y:=by rw[Lf,Ly (by omega)];simp
 by_cases h:y=k
 . rw[Lj h,RG,Lj (by rw[e2];simpa using h)];rfl
 rw[Lg h,RG,Lg (by rw[e2];simpa using h)];simp
theorem memP_succ{cls:Nat->List Int}{dn:List Nat}{p i:Nat}(hi:i<(cls p).length):updM (wK cls dn p i) ((cls p)[i],(p:Int)) i=wK cls dn p (i+1):=by
 funext x
 unfold updM;have hl:((cls p).take i).length=i:=by simp;omega
 split
 . rename_i h
   subst h;unfold wK;rw[Lj rfl,Lj rfl,Ls hi,Xs,Lj rfl,hl]
 rename_i h;unfold wK
 split
 . rename_i h2
   rw[Ls hi,Xs,Lg];intro h3;exact h (Prod.ext h3.symm h2)
 rfl
end
section
def ptn(s:Sy):Nat:=s.xs.length*(s.p.k.toNat+1)
def psG(s:Sy)(g:Int):List Nat:=zB g.toNat s.n.toNat
def zQ(s:Sy)(g:Int):Int:=if yc s≠0 then yc s else if g<0\/2^s.n.toNat<=g then 2 else 0
def xN(s:Sy)(g:Int):Nat->Nat->Prop:=qB (psG s g) (ya s)
theorem XR(s:Sy)(g:Int)(i k:Nat)(h:xN s g i k):xN s g k i:=adjE_symm _ _ i k h
noncomputable def jl(n:Nat)(aH:Nat->Nat->Prop)(L:List Nat):List Int:=
 @dite _ (∃f:List Int,f.length=n/\Far n aH (fun i=>i∈L) (fun i=>f.getD i 0)) (Classical.propDecidable _) (fun h=>Classical.choose h) (fun _=>[])
theorem uQ{n:Nat}{aH:Nat->Nat->Prop}{L:List Nat}{f:List Int}(hl:f.length=n)(hf:Far n aH (fun i=>i∈L) (fun i=>f.getD i 0)):jl n aH L=f:=by
 have h:∃f:List Int,f.length=n/\Far n aH (fun i=>i∈L) (fun i=>f.getD i 0):=⟨f,hl,hf⟩;unfold jl;rw[dif_pos h];obtain⟨h1,h2⟩:=Pi h;exact far_list h2 hf h1 hl
def zw(s:Sy)(g:Int)(set:List Bool):Int:=if zQ s g≠0 then zQ s g else if set.length≠ptn s then 15 else 0
noncomputable def je(s:Sy)(g:Int)(set:List Bool):List Int×Int:=if zw s g set≠0 then ([],zw s g set) else (jl (ptn s) (xN s g) (yv set),0)
noncomputable def kM(s:Sy)(g:Int)(set:List Bool):List Bool×Int:=if zw s g set≠0 then ([],zw s g set) else (jj (ptn s) (xN s g) set,0)
def gI(l:List (Nat×Nat)):List (Int×Int):=l.map fun t=>((t.1:Int),(t.2:Int))
def xu(f:List Int)(n:Nat)(nb:Nat->List (Nat×Nat))(i:Nat):List (Int×Int):=((i:Int),-1)::gI (yZ f n nb (f.getD i 0).toNat i)
noncomputable def jM(s:Sy)(g pt:Int)(set:List Bool):(List (Int×Int)×Bool)×Int:=
 if zw s g set≠0 then (([],Aw),zw s g set)
 else if pt<0\/(ptn s:Int)<=pt then (([],Aw),6)
 else if (jl (ptn s) (xN s g) (yv set)).getD pt.toNat 0<0 then (([],Aw),0)
 else ((xu (jl (ptn s) (xN s g) (yv set)) (ptn s) (zU (psG s g) (ya s)) pt.toNat,Av),0)
def qF(f:Nat->Int):Nat->Nat->Int
 | 0,_=>0
 | m+1,i=>if f i≠0 then f i else qF f m (i+1)
def QG(n:Nat)(ps:List Nat)(cls:Nat->List Int)(walk:List (Int×Int))(i:Nat):Int:=
 if (walk.getD i (0,0)).1<0\/(n:Int)<=(walk.getD i (0,0)).1 then 6
 else if i=0 then (if (walk.getD i (0,0)).2≠-1 then 3 else 0)
 else if (walk.getD i (0,0)).2∉yr ps then 2
 else if (cls (walk.getD i (0,0)).2.toNat).getD (walk.getD i (0,0)).1.toNat 0≠(cls (walk.getD i (0,0)).2.toNat).getD (walk.getD (i-1) (0,0)).1.toNat 0 then 18 else 0
def qN(s:Sy)(g:Int)(set:List Bool)(walk:List (Int×Int)):Int:=
 if zw s g set≠0 then zw s g set
 else if walk.length=0 then 16
 else if 65536<walk.length then 5
 else if qF (QG (ptn s) (psG s g) (ya s) walk) walk.length 0≠0 then qF (QG (ptn s) (psG s g) (ya s) walk) walk.length 0
 else if set.getD (walk.getD (walk.length-1) (0,0)).1.toNat Aw=Av then 18 else 0
theorem uT(s:Sy)(q:Nat):(ya s q).length=ptn s:=by unfold ya;rw[jY,ptn_len];rfl
theorem psG_asc(s:Sy)(g:Int):(psG s g).Pairwise (·<·):=by unfold psG zB;exact List.Pairwise.filter _ List.pairwise_lt_range
theorem psG_len(s:Sy)(g:Int):(psG s g).length<=s.n.toNat:=by unfold psG zB;exact Lu (NV _ _) (by simp)
theorem xz{s:Sy}{g:Int}{set:List Bool}(h:zw s g set=0):zQ s g=0/\set.length=ptn s:=by
 unfold zw at h
 by_cases h1:zQ s g=0
 . rw[Lg (by simpa using h1)] at h
   refine⟨h1,?_⟩
   by_cases h2:set.length=ptn s
   . exact h2
   rw[Lj h2] at h;cases h
 rw[Lj h1] at h;exact absurd h h1
theorem uA{s:Sy}{g:Int}(h:zQ s g=0):yc s=0/\0<=g/\g<2^s.n.toNat:=by
 unfold zQ at h
 by_cases h1:yc s=0
 . rw[Lg (by simpa using h1)] at h
   refine⟨h1,?_⟩
   by_cases h2:g<0\/2^s.n.toNat<=g
   . rw[Lj h2] at h;cases h
   omega
 rw[Lj h1] at h;exact absurd h h1
theorem xC{s:Sy}{g:Int}(hf:yU s.p)(h:zQ s g=0):1<=ptn s/\ptn s<=700/\(psG s g).length<=5:=by
 obtain⟨h1,_,_⟩:=uA h;obtain⟨_,K,N,hF⟩:=yF hf h1;have hx:=J4 hf h1;have hn:=hF.n;have nd:=hF.n5;have hk:=hF.k;have CK:=hF.k6;have Fv:=hF.lx;refine⟨?_,?_,?_⟩
 . have:=LU hx (show 1<=s.p.k.toNat+1 by omega)
   unfold ptn;omega
 . have:=LU Fv (show s.p.k.toNat+1<=7 by omega)
   unfold ptn;omega
 have:=psG_len s g;omega
theorem offE_lt{set:List Bool}{n:Nat}(h:set.length=n):∀x∈yv set,x<n:=fun x hx=>by have:=(jX.1 hx).1;omega
theorem Yg(set:List Bool):(yv set).length<=set.length:=by unfold yv;exact Lu (NV _ _) (by simp)
theorem offE_snoc(set:List Bool)(b:Bool):yv (set++[b])=if b=Aw then yv set++[set.length] else yv set:=by
 unfold yv;rw[Lr,Nm,P4,Sd]
 have e1:(List.range set.length).filter (fun i=>(set++[b]).getD i Aw==Aw)=(List.range set.length).filter (fun i=>set.getD i Aw==Aw):=by
  refine List.filter_congr fun i hi=>?_
  have:=PO.1 hi;rw[Lf,Lf,LC this]
 rw[e1];have e2:(set++[b]).getD set.length Aw=b:=by rw[Lf,Ly (by omega)];simp
 cases b with
 | false=>rw[Lj rfl,RG,e2];rfl
 | true=>rw[Lg (by simp),RG,e2];simp
end
section
open Go.RowKit Go.Shelf
attribute [local go_sem] Oper.semAt_some
def xx:Au:=Ai #[O U 0,I Z 0 0,.map Z,.map Z]
def RetSt(s:Sy)(g:Int)(w:Ba)(e:Ending)(w':Ba):Prop:=Am w.heap.size w w'/\((zQ s g≠0/\e=Ak (.tuple #[xx,O U (zQ s g)])) \/
 (zQ s g=0/\∃Ap kp bC bM,e=Ak (.tuple #[.agg (stC (ptn s) Ap (psG s g).length kp bC bM),O U 0])/\∀W,(∀k,w.heap.size<=k->k<w'.heap.size->W.heap[k]?=w'.heap[k]?)->StAt W w'.heap.size Ap bC bM (ptn s) (psG s g) (ya s)))
theorem shl_one{N:Nat}(h:N<=5):(2^((N:Int)).toNat:Int)=((2^N:Nat):Int):=by
 obtain rfl | rfl | rfl | rfl | rfl | rfl:N=0\/N=1\/N=2\/N=3\/N=4\/N=5:=by omega
 all_goals rfl
theorem set4{w:Ba}{g:Nat}{x0 x1 x2 x3:Au}{t:TypeId}(h:w.heap[g]?=J (Ag #[x0,x1,x2,x3] t (0,0)))(y0 y1 y2 y3:Au) :
  ∃W,((((w.setCell ⟨g,0,Z⟩ y0).setCell ⟨g,1,Z⟩ y1).setCell ⟨g,2,Z⟩ y2).setCell ⟨g,3,Z⟩ y3)=W/\W.heap[g]?=J (Ag #[y0,y1,y2,y3] t (0,0))/\(∀k,k≠g->W.heap[k]?=w.heap[k]?)/\∀B,B<=g->Am B w W:=by
 refine⟨_,rfl,?_,fun k hk=>?_,fun B hB=>?_⟩
 . have a1:=Lk w g 0 _ _ y0 h
   have a2:=Lk _ g 1 _ _ y1 a1;have a3:=Lk _ g 2 _ _ y2 a2;have a4:=Lk _ g 3 _ _ y3 a3;exact a4
 . exact(Le _ ⟨g,3,Z⟩ y3 k hk).trans ((Le _ ⟨g,2,Z⟩ y2 k hk).trans ((Le _ ⟨g,1,Z⟩ y1 k hk).trans (Le _ ⟨g,0,Z⟩ y0 k hk)))
 exact((((Ll B w).setCell (by show B<=g;omega) y0).setCell (by show B<=g;omega) y1).setCell (by show B<=g;omega) y2).setCell (by show B<=g;omega) y3
theorem wC{W W9:Ba}{base:Nat}{A:Bb}{n c:Nat}{xs:List Int}(ho:Own W base (I A n c) xs)(h:∀k,base<=k->k<W.heap.size->W9.heap[k]?=W.heap[k]?):IAt W9 W.heap.size A xs:=fun h0=>by
 obtain⟨A',c',e',_,_,hI⟩:=ho.form;simp only[Value.slice.injEq] at e';obtain⟨e1',-,-⟩:=e';subst e1';obtain⟨b,off,e,hlt,hc⟩:=hI h0;subst e;have hb:=(ho.lt b rfl).1;exact⟨b,off,rfl,hlt,fun i hi=>(LL (h b hb hlt)).trans (hc i hi)⟩
theorem Qa(w:Ba)(c1:Array Au)(t1:TypeId):∃W0,(w.alloc (Ag c1 t1)).drew=W0/\W0.heap[w.heap.size]?=J (Ag c1 t1 (0,0))/\W0.heap.size=w.heap.size+1/\Am w.heap.size w W0:=
 ⟨_,rfl,zx w _,by show(w.alloc _).heap.size=_;simp,(zW w _).drew⟩
theorem read_any(s:Sy)(hs:LowS s)(hf:yU s.p)(g:Int)(A SV AV AX:Bb)(kc ks kv kx:Nat)(w:Ba)(hS:SyAt w w.heap.size A SV AV AX s) :
  An Al 79 #[.agg (s.vs_ A kc SV ks AV kv AX kx),O U g] w (RetSt s g w):=by
 obtain⟨w1,ab,d0,d1,av,hB⟩:=yI w (s.vs_ A kc SV ks AV kv AX kx) #[O U 0,I Z 0 0,.map Z,.map Z] 39 101;have HV:=zH (vi s hs hf A SV AV AX kc ks kv kx w1 (hS.up hB));have nh:=zH (hS.up hB);have lO:=zH (fun h=>yF hf h);have OZ:=zH (fun h=>J4 (s:=s) hf h);have i9:=zH (fun (p:Nat) (X:Ba) (hX:Am w.heap.size w X)=>Zi s hs hf (p:Int) A SV AV AX kc ks kv kx X ((hS.keep hX).more hX.size));have IH:As (zQ s g=if yc s≠0 then yc s else if g<0\/2^s.n.toNat<=g then 2 else 0):=rfl;have lQ:As (ptn s=s.xs.length*(s.p.k.toNat+1)):=rfl;have fT:=zH (fun q=>(by unfold ya;rw[jY,ptn_len];rfl:(ya s q).length=ptn s));have tr:As (∀p:Int,JL s p=if yc s≠0 then ([],yc s) else if p<0\/s.n<=p then ([],2) else (ya s p.toNat,0)):=fun _=>rfl
 obtain⟨cm,ik⟩:=Kj (ya s);unfold RetSt;rw[ik] at fT tr ⊢;obtain⟨r,hr⟩:=Kj (yc s);rw[hr] at HV lO OZ IH tr;obtain⟨re,Tx⟩:=Kj (zQ s g);rw[Tx] at IH ⊢;have rT:As (psG s g=zB g.toNat s.n.toNat):=rfl;obtain⟨PS,lh⟩:=Kj (psG s g);rw[lh] at rT ⊢;obtain⟨PN,iL⟩:=Kj (ptn s);rw[iL] at lQ fT ⊢;unfold Sy.vs_ at ab d0 HV i9 ⊢;have ag:=zH ab;have HB:=zH hB;have HD:=zH d0;have cy:=zH d1;obtain⟨p0,p1,p2,p3,p4,p5,p6,p7,p8,p9⟩:=zM d0;clear ab d0 d1 hB hS hr Tx ik iL lh hs hf;go_enter func79,ntmps79;go_wp2_with fail;rw[ag.out];go_wp2_with fail;refine HV.out.mono ?_;rintro e w2 ⟨rfl,ae⟩;have au:=zH (HB.out.trans (ae.mono (by omega)));have Bn:=zH ae;have d0:=Lb ae (by omega:w.heap.size<w1.heap.size) HD.out;have d1:=Lb ae (by omega:w.heap.size+1<w1.heap.size) cy.out;clear p0 p1 p2 p3 p4 p5 p6 p7 p8 p9 ae HV ag HD cy;obtain⟨c0,c1,c2,c3,_⟩:=Ka d1;have f0:=zi d1 0;have f1:=zi d1 1;have f2:=zi d1 2;have f3:=zi d1 3;have l1:=zj d1
 by_cases h0:r=0
 case neg=>
  have hR:As (re=r):=IH.out.trans (Lj h0);have e0:(r != 0)=Av:=by simpa using h0
  have cy:=zH d1;clear IH lO d0 d1 i9 tr fT OZ lQ;go_wp2_with fail;obtain⟨W,hW,e1,_,e3⟩:=set4 cy.out (O U 0) (I Z 0 0) (.map Z) (.map Z);rw[hW];obtain⟨q0,q1,q2,q3,_⟩:=Ka e1;refine LP (v:=.tuple #[xx,O U r]) (by simp[results,results79,go_sem,q0,q1,q2,q3,xx]) rfl ?_;rw[hR.out];exact⟨au.out.trans (e3 _ (by omega)),.inl ⟨h0,rfl⟩⟩
 case pos=>
 subst h0;obtain⟨mX,K,N,hF⟩:=lO.out rfl;clear mX;have hRE:re=if g<0\/2^s.n.toNat<=g then 2 else 0:=IH.out.trans (Lg (by simp));have hn:=hF.n;have cZ:=hF.n1;have nd:=hF.n5;have hk:=hF.k;have CK:=hF.k6;have Fv:=hF.lx;have mq:=OZ.out rfl;rw[hn,Lm] at hRE;have lh:=rT.out;rw[hn,Lm] at lh;have GK:=zH lh;have sD:=zH hRE;have HN:=zH hn;have HK:=zH hk;have iL:=lQ.out;rw[hk,Lm] at iL;have GL:=zH iL
 have hPNl:1<=PN/\PN<=600:=by
  have h1:=LU Fv (show K+1<=7 by omega);have h2:=LU mq (show 1<=K+1 by omega);omega
 have Dp:As (∀p:Nat,p<N->JL s (p:Int)=(cm p,0)):=fun p hp=>by
  rw[tr.out,Lg (by simp),Lg (by rw[hn];omega),Lm]
 have lq:=zH d0;have cy:=zH d1;have q7:w2.cell? ⟨w.heap.size,7,Z⟩=J (O U (N:Int)):=by rw[<-hn];exact zh d0 7 rfl
 clear IH lO hRE hF hn lQ iL tr hk d0 d1 rT lh
 by_cases h1:g<0
 case pos=>
  have hR:As (re=2):=sD.out.trans (Lj (.inl h1));clear sD i9 Dp fT OZ GL HN HK;go_wp2_with fail;obtain⟨W,hW,e1,_,e3⟩:=set4 cy.out (O U 0) (I Z 0 0) (.map Z) (.map Z);rw[hW];obtain⟨q0,q1,q2,q3,_⟩:=Ka e1;refine LP (v:=.tuple #[xx,O U 2]) (by simp[results,results79,go_sem,q0,q1,q2,q3,xx]) rfl ?_;rw[hR.out];exact⟨au.out.trans (e3 _ (by omega)),.inl ⟨by decide,rfl⟩⟩
 case neg=>
 obtain⟨G,rfl⟩:=Lp (show 0<=g by omega);rw[Lm] at GK
 have E3:wrap64 ((2:Int)^N)=((2^N:Nat):Int):=by
  obtain e | e | e | e | e:N=1\/N=2\/N=3\/N=4\/N=5:=by omega
  all_goals (rw[e];decide +kernel)
 have hT32:2^N<=32:=by
  obtain e | e | e | e | e:N=1\/N=2\/N=3\/N=4\/N=5:=by omega
  all_goals (rw[e];decide)
 have Uc:¬((G:Int)<0):=by omega
 by_cases h2:G<2^N
 case neg=>
  have hR:As (re=2):=sD.out.trans (Lj (.inr (by exact_mod_cast Nat.le_of_not_lt h2)));have hTG:wrap64 ((2:Int)^N)<=(G:Int):=by rw[E3];omega
  clear sD i9 Dp fT OZ GL HN HK E3 h2;go_wp2_with fail;obtain⟨W,hW,e1,_,e3⟩:=set4 cy.out (O U 0) (I Z 0 0) (.map Z) (.map Z);rw[hW];obtain⟨q0,q1,q2,q3,_⟩:=Ka e1;refine LP (v:=.tuple #[xx,O U 2]) (by simp[results,results79,go_sem,q0,q1,q2,q3,xx]) rfl ?_;rw[hR.out];exact⟨au.out.trans (e3 _ (by omega)),.inl ⟨by decide,rfl⟩⟩
 have hR:As (re=0):=sD.out.trans (Lg (by
  rintro(h | h)
  . omega
  . have:(2^N:Nat)<=G:=by exact_mod_cast h
    omega))
 have hTG:¬(wrap64 ((2:Int)^N)<=(G:Int)):=by rw[E3];omega
 have q6:w2.cell? ⟨w.heap.size,6,Z⟩=J (O U (K:Int)):=by rw[<-HK.out];exact zh lq.out 6 rfl
 have q9:=zh lq.out 9 rfl;have Ov:(s.xs.length:Int)*((K:Int)+1)=(PN:Int):=by rw[GL.out];push_cast;rfl
 have IC:As (wrap64 ((s.xs.length:Int)*((K:Int)+1))=(PN:Int)):=by
  show wrap64 _=_;rw[Ov];exact IntWalk.wrap64_in _ (by omega)
 clear Ov;have iD:=@run_makeMap Al;have AG:G<32:=by omega
 clear sD E3 hT32;go_upto_region 7 with fail
 rw[IC.out];obtain⟨a3,h3⟩:=Kj (w2.alloc (.map #[] 0));have m3:MapOf (O U) a3 w2.heap.size 0 (fun _=>Z):=by rw[<-h3];exact MapOf.made w2
 have y3:a3.heap.size=w2.heap.size+1:=by rw[<-h3];simp
 have z3:Am w2.heap.size w2 a3:=by rw[<-h3];exact zW _ _
 rw[h3];obtain⟨a4,h4⟩:=Kj (a3.alloc (.map #[] 0));have m4:MapOf ja a4 a3.heap.size 0 (fun _=>Z):=by rw[<-h4];exact MapOf.made a3
 have y4:a4.heap.size=a3.heap.size+1:=by rw[<-h4];simp
 have z4:Am a3.heap.size a3 a4:=by rw[<-h4];exact zW _ _
 rw[h4];obtain⟨a5,h5,x5,y5,z5⟩:=zn a4 #[O U (PN:Int),I Z 0 0,.map (J w2.heap.size),.map (J (w2.heap.size+1))] 101;rw[h5];have CT:Am w2.heap.size w2 a5:=(z3.trans (z4.mono (by omega))).trans (z5.mono (by omega))
 have mD:RdS w.heap.size (w2.heap.size+1+1) w2.heap.size (w2.heap.size+1) PN #[O U s.p.t.n,O U s.p.t.ins,O U s.p.t.outs,I A s.p.t.cases.length kc,O U s.p.a.n,I SV s.p.a.sts.length ks,O U s.p.k,O U s.n,I AV s.vs.length kv,I AX s.xs.length kx] (I Z 0 0) (fun _=>Z) (fun _=>Z) (zB G 0) (zB G 0) cm (uK cm (zB G 0)) w a5:=by
  refine⟨au.out.trans (CT.mono (by omega)),Lb CT (by omega) lq.out,Lb CT (by omega) cy.out,?_,Own.nil _ _,⟨0,m3.same (Lb z5 (by omega) (z4.block _ (by omega)))⟩,⟨0,?_⟩,fun p hp=>?_,fun x=>⟨?_,fun v z e=>(by cases e)⟩,fun x y v u z e=>(by cases e),by omega,by omega,by omega,by omega⟩
  . rw[show w2.heap.size+1+1=a4.heap.size by omega];exact x5
  . rw[<-y3];exact m4.same (z5.block _ (by omega))
  . simp[zB] at hp
  have:uK cm (zB G 0) x=[]:=by unfold uK;rw[Lg (by simp[zB])]
  rw[this];exact Own.nil _ _
 obtain⟨bX,ma⟩:=Kj (w2.heap.size+1+1);obtain⟨bC,hbC⟩:=Kj w2.heap.size;obtain⟨bM,N1⟩:=Kj (bC+1);rw[ma] at mD ⊢;rw[hbC] at mD ⊢;rw[N1] at mD ⊢;have q7:a5.cell? ⟨w.heap.size,7,Z⟩=J (O U (N:Int)):=by rw[<-HN.out];exact zh mD.b0 7 rfl
 have Pg:=zH mD;clear h3 m3 y3 z3 h4 m4 y4 z4 h5 x5 y5 z5 CT mD ma hbC N1 c0 c1 c2 c3 f0 f1 f2 f3 q6 q9 lq cy iD hTG Uc h1 l1 Bn au IC;go_wp2_with fail
 go_loopw [44] (fun i wr=>∃k:Nat,k<=N/\i=O U (k:Int)/\∃V f fM,As (RdS w.heap.size bX bC bM PN #[O U s.p.t.n,O U s.p.t.ins,O U s.p.t.outs,I A s.p.t.cases.length kc,O U s.p.a.n,I SV s.p.a.sts.length ks,O U s.p.k,O U s.n,I AV s.vs.length kv,I AX s.xs.length kx] V f fM (zB G k) (zB G k) cm (uK cm (zB G k)) w wr)) (fun i _=>N-(Ar i).toNat)
 case atStart=>exact⟨0,by omega,rfl,_,_,_,Pg.out⟩
 obtain⟨k,hk,rfl,V,f,fM,mD⟩:=hrel;clear Pg q7
 by_cases hlt:k<N
 . have fP:=bit_test0 AG (show k<5 by omega)
   have dg:(0:Int)<=(k:Int):=by omega
   have aM:(k:Int)<(N:Int):=by omega
   have OJ:(0:Int)<=(G:Int):=by omega
   by_cases eQ:G.testBit k=Av
   case neg=>
    have tZ:G.testBit k=Aw:=by simpa using eQ
    rw[tZ] at fP;have hE:zB G (k+1)=zB G k:=by rw[kO,Lg eQ]
    have hRS2:As (RdS w.heap.size bX bC bM PN #[O U s.p.t.n,O U s.p.t.ins,O U s.p.t.outs,I A s.p.t.cases.length kc,O U s.p.a.n,I SV s.p.a.sts.length ks,O U s.p.k,O U s.n,I AV s.vs.length kv,I AX s.xs.length kx] V f fM (zB G (k+1)) (zB G (k+1)) cm (uK cm (zB G (k+1))) w wr):=by rw[hE];exact mD
    clear mD hE eQ tZ;go_wp2_with fail
    go_roundw
    case rel=>exact⟨k+1,by omega,by go_num,V,f,fM,hRS2.out⟩
    simp[Ar];omega
   rw[eQ] at fP;have hE:zB G (k+1)=zB G k++[k]:=by rw[kO,Lj eQ]
   have HE:=zH hE;have TF:k∉zB G k:=by simp[zB]
   have HNK:=zH TF
   have aY:(zB G k).length<=5:=by
    have:=NV (fun p=>G.testBit p) (List.range k);unfold zB;simp at this;omega
   obtain⟨I4,Iz,rfl,_,_,_⟩:=mD.out.own.form;rw[zK] at mD;have hc:=i9.out k wr mD.out.below;rw[Dp.out k hlt] at hc;have HC:=zH hc;obtain⟨p0,p1,p2,p3,p4,p5,p6,p7,p8,p9⟩:=zM mD.out.b0;clear hE TF eQ hc i9;go_wp2_with fail;refine HC.out.mono ?_;rintro e w3 ⟨A3,c3,rfl,rH,ak⟩;have Gc:=mD.out.on ak;have aA:=fT.out k;have CD:Own w3 w.heap.size (I A3 PN c3) (cm k):=by rw[<-aA];exact rH.low mD.out.below.size
   have FU:=ak.size;have DR:∀z,(I A3 PN c3).ownBlock=J z->wr.heap.size<=z:=fun z e=>(rH.lt z (by rw[aA];exact e)).1
   have mO:=zH CD;have Rj:=zH DR;have HVl:=zH (mD.out.own.lt);have HRl:=zH (fun (x:Int×Int) (v:Au) (hx:fM x=J v) (z:Nat) (hz:v.ownBlock=J z)=>(by have:=(mD.out.rowM x).1;rw[hx] at this;exact(this.lt z hz).2:z<wr.heap.size));have oZ:=zH Gc;have S0:=zH (zj mD.out.bx);rw[aA];have x1:=zh Gc.bx 1 rfl;clear p0 p1 p2 p3 p4 p5 p6 p7 p8 p9 HC Gc mD aA rH CD DR ak
   go_upto_region 15 with (at_builtin; go_must (refine yE ud rfl _ _ (by rfl) w.heap.size (.slice I4 (zB G k).length Iz) (zB G k).length ((yr (zB G k)).map (O U)) (by rfl) (by have := oZ.out.own; unfold Own at this; rw [zK] at this; exact World.ownsRow.alloc this _) w3.heap.size #[O U (k : Int)] (by rfl) (zx w3 _) rfl (by simp [Value.oneCell']) (by omega) (by have := oZ.out.below.size; simp; omega) _ rfl ?_); intro g' ap w4 l7 sk Oc VY
                           have FI:=xd sk;have KG:=(FI.block bX (zj oZ.out.bx) (fun e=>(oZ.out.clear oZ.out.kinds.2.2.1).1 e.symm)).trans oZ.out.bx;have y1:=zh KG 1 rfl;have f1:=zi KG 1;have l1:=zj KG;have mL:=zH l7;have GV:=zH FI;have Hi:=zH Oc
                           clear l7 sk Oc FI KG)
   have DO:Own w4 w.heap.size (I (J ⟨g',0,Z⟩) ((zB G k).length+1) ap) (yr (zB G k++[k])):=by
    have h4:=mL.out;unfold OwnR at h4;unfold Own;rw[zK,Lr,Nm,show(yr (zB G k++[k])).map (O U)=(yr (zB G k)).map (O U)++(#[O U (k:Int)]).toList by simp[yr]];exact h4
   have nM:(I (J ⟨g',0,Z⟩) ((zB G k).length+1) ap).ownBlock=(I I4 (zB G k).length Iz).ownBlock\/∃z,(I (J ⟨g',0,Z⟩) ((zB G k).length+1) ap).ownBlock=J z/\w3.heap.size<=z:=by
    rcases Hi.out with h | h
    . exact .inl h.symm
    exact .inr ⟨g',rfl,by rw[h];simp⟩
   have Ay:=oZ.out.proc (p:=k) GV.out DO nM;obtain⟨w5,dY⟩:=Kj (w4.setCell ⟨bX,1,Z⟩ (I (J ⟨g',0,Z⟩) ((zB G k).length+1) ap));rw[dY] at Ay ⊢
   obtain⟨g3,oR⟩:∃g3,A3=J ⟨g3,0,Z⟩:=by
    rcases mO.out.2 with ⟨e,h0⟩ | ⟨g,cap,cur,e,_⟩
    . injection e with _ e1 _
      have:=hPNl.1;omega
    injection e with e1 _ _
    exact⟨g,e1⟩
   subst oR;have WK:wr.heap.size<=g3:=Rj.out g3 rfl;have MU:g3<w3.heap.size:=(mO.out.lt g3 rfl).2;have hbXl:=S0.out
   have h53:w5.heap[g3]?=w3.heap[g3]?:=by
    rw[<-dY];exact(Le w4 ⟨bX,1,Z⟩ _ g3 (by show g3≠bX;omega)).trans (GV.out.block g3 MU (fun e=>by have:=(HVl.out g3 e.symm).2;omega))
   have mh:As (Own w5 w.heap.size (I (J ⟨g3,0,Z⟩) PN c3) (cm k)):=xK mO.out fun z e=>by
    have:g3=z:=by simpa[Value.ownBlock] using e
    subst this;exact h53
   have Ex:As ((I (J ⟨g',0,Z⟩) ((zB G k).length+1) ap).ownBlock≠J g3):=fun e=>by
    have e9:g'=g3:=by simpa[Value.ownBlock] using e
    rcases Hi.out with h | h
    . have:=(HVl.out g' h).2;omega
    . simp at h;omega
   have HM5:As (∀x v,fM x=J v->v.ownBlock≠J g3):=fun x v hx e=>by have:=HRl.out x v hx g3 e;omega
   have htC:Al.underlying 93=J (.map 3 50):=Rk;have HTM:As (Al.underlying 99=J (.map 106 50)):=underlying99;obtain⟨mc,Mt⟩:=Ay.mC;obtain⟨w6,LM,Mx,fF⟩:=Mt.put yC htC (k:Int) (I (J ⟨g3,0,Z⟩) PN c3);have C3:=Ay.put (p:=k) fF Mx mh.out Ex.out HM5.out;rw[<-memP_zero (cls:=cm) HNK.out] at C3;have hFk:xg f (k:Int) (I (J ⟨g3,0,Z⟩) PN c3) (k:Int)=J (I (J ⟨g3,0,Z⟩) PN c3):=by simp[xg]
   obtain⟨F,hF⟩:=Kj (xg f (k:Int) (I (J ⟨g3,0,Z⟩) PN c3));rw[hF] at C3 hFk;have Pf:=zH C3;have rX:=zH hFk;have z2:=zh Ay.bx 2 rfl;clear C3 hFk hF Mx fF Mt htC Ay dY DO nM h53 mh Ex HM5 S0 mL GV Hi oZ HVl HRl Rj mO WK MU hbXl y1 f1 l1 x1 VY;go_wp2_with fail
   go_loopw [74] (fun i wq=>∃j:Nat,j<=PN/\i=O U (j:Int)/\∃fM,As (RdS w.heap.size bX bC bM PN #[O U s.p.t.n,O U s.p.t.ins,O U s.p.t.outs,I A s.p.t.cases.length kc,O U s.p.a.n,I SV s.p.a.sts.length ks,O U s.p.k,O U s.n,I AV s.vs.length kv,I AX s.xs.length kx] (I (J ⟨g',0,Z⟩) ((zB G k).length+1) ap) F fM (zB G k++[k]) (zB G k++[k]) cm (wK cm (zB G k) k j) w wq)) (fun i _=>PN-(Ar i).toNat)
   case atStart=>exact⟨0,by omega,rfl,fM,Pf.out⟩
   obtain⟨j,hj,rfl,fM,pw⟩:=hrel;clear Pf LM z2
   by_cases cc:j<PN
   . obtain⟨g9,c9,e9,ho9,Tr,Mw⟩:=pw.out.rowC k (by simp)
     have e99:=rX.out.symm.trans e9;simp only[Option.some.injEq,Value.slice.injEq,Addr.mk.injEq,and_true,true_and] at e99;obtain⟨e91,e92⟩:=e99;subst e91;subst e92;have aA:=fT.out k;have Wn:j<(cm k).length:=by omega
     obtain⟨A8,c8,e8,_,_,hI8⟩:=ho9.form;simp only[Value.slice.injEq] at e8;obtain⟨e81,-,-⟩:=e8;subst e81;obtain⟨b8,o8,e82,_,z8⟩:=hI8.at_ j Wn;simp only[Option.some.injEq,Addr.mk.injEq,and_true] at e82;obtain⟨rfl,rfl⟩:=e82;obtain⟨y,hy⟩:=Kj ((cm k)[j]);rw[hy,LI] at z8;have Fe:=memP_succ (dn:=zB G k) Wn;rw[hy] at Fe;have HSUC:=zH Fe;obtain⟨A4,c4,e4,MB,Ib,_⟩:=(pw.out.rowM (y,(k:Int))).1.form
     have ie:(wK cm (zB G k) k j (y,(k:Int))).length<=700:=by
      have:wK cm (zB G k) k j (y,(k:Int))=jJ ((cm k).take j) y:=Lj rfl;rw[this];unfold jJ;refine Lu (NV _ _) ?_;simp;omega
     have ah:=(pw.out.rowM (y,(k:Int))).1;rw[e4] at ah;rw[zK] at e4 ah MB;obtain⟨ML,hML⟩:=Kj (wK cm (zB G k) k j (y,(k:Int)));rw[hML] at e4 ah ie;have Cd:=zH hML;have cF:=zH ah;have cK:=zH e4;obtain⟨mm,iD⟩:=pw.out.mM;have pc:=zH iD
     have IL:As (∀X:Ba,X.heap[bM]?=wr.heap[bM]?->(Instr.lookup 99 (.map (J bM)) (Ai #[O U y,O U (k:Int)]) Aw).run Al X=.ok (I A4 ML.length c4) X):=fun X hX=>by
      have:=(pc.out.same hX).look ZT HTM.out (z:=I Z 0 0) (by kernel_rfl) (y,(k:Int));rw[cK.out] at this;exact this
     have DW:(0:Int)<=(j:Int):=by omega
     have BK:(j:Int)<(PN:Int):=by omega
     clear e9 ho9 Tr Mw aA hI8 Fe hML ah e4 iD MB Ib hy Wn;go_wp2_with fail;refine zr [(0,Av),(1,Av),(2,Av),(3,Av),(4,Av),(5,Av),(6,Av),(7,Av),(8,Av),(9,Av),(10,Av),(11,Av),(12,Aw),(13,Aw),(14,Aw)] (fun X=>X.heap[bX]?=J (Ag #[O U (PN:Int),I (J ⟨g',0,Z⟩) ((zB G k).length+1) ap,.map (J bC),.map (J bM)] 101 (0,0))/\X.heap[bM]?=wr.heap[bM]?) (by kernel_rfl) (by kernel_rfl) ⟨pw.out.bx,rfl⟩ ?_;clear z8
     repeat
      apply zk rfl
      . rintro K' aa X ⟨u1,u2⟩
        have u3:X.cell? ⟨bX,3,Z⟩=J (.map (J bM)):=zh u1 3 rfl;have dS:=IL.out X u2;clear u1 u2;go_simp;exact aa
     have NF:=zj pw.out.bx;have NP:=pc.out.lt;have hwB:=pw.out.below.size;refine zu rfl ?_;intro K' aa;go_simp;obtain⟨W1,dj,d1,av,aF⟩:=Qa wr #[O U (j:Int)] 3;rw[dj];have m1:=Lb aF NF pw.out.bx;have m2:=aF.block _ NP;refine aa _ _ ⟨m1,m2⟩ ?_;clear aa K' dj;refine zu rfl ?_;intro K' aa;rw[Lj (by rfl)];have LZ:=cF.out.below aF (Ld _)
     have Pz:As (OwnR kIn W1 w.heap.size (I A4 ML.length c4) ML.length ((yr ML).map (O U))):=by
      have h9:=LZ;unfold Own at h9;rw[zK] at h9;exact h9
     refine qP ud (.tmp 89) (.tmp 91) (by rfl) w.heap.size (I A4 ML.length c4) ML.length ((yr ML).map (O U)) (by rfl) Pz.out wr.heap.size #[O U (j:Int)] (by rfl) d1 rfl (by simp[Value.oneCell']) (by omega) (by omega) _ rfl ?_;intro OO rP W2 fi fm Od pP
     have F1:∀q,q=bX\/q=bM->(I A4 ML.length c4).ownBlock≠J q:=fun q hq e=>by
      have h7:((fM (y,(k:Int))).getD (I Z 0 0)).ownBlock=J q:=by rw[cK.out];exact e
      rcases hq with rfl | rfl
      . exact(pw.out.clear pw.out.kinds.2.2.1).2.2 _ h7
      . exact(pw.out.clear pw.out.kinds.2.2.2.2).2.2 _ h7
     have n1:=(fm.block bX (by omega) (fun e=>F1 bX (.inl rfl) e.symm)).trans m1;have n2:=(fm.block bM (by omega) (fun e=>F1 bM (.inr rfl) e.symm)).trans m2;refine aa _ _ ⟨n1,n2⟩ ?_;clear aa K';obtain⟨W3,DJ,sf,oR⟩:=(pc.out.same n2).put ZT HTM.out (y,(k:Int)) (I (J ⟨OO,0,Z⟩) (ML.length+1) rP);refine yd rfl (by kernel_rfl) ?_;intro K' aa;simp only[ja] at DJ;go_simp;refine aa (fun _=>True) _ _ trivial ?_;refine zz ?_;clear aa K' DJ
     have MV:wr.grownBy W2 ((fM (y,(k:Int))).getD (I Z 0 0)).ownBlock:=by
      rw[cK.out];exact⟨fm.os.trans aF.os,fm.tape.trans aF.tape,fm.output.trans aF.output,by have:=fm.size;omega,fun q hq hn=>(fm.block q (by omega) hn).trans (aF.block q hq)⟩
     have lJ:Own W2 w.heap.size (I (J ⟨OO,0,Z⟩) (ML.length+1) rP) (yr (wK cm (zB G k) k j (y,(k:Int))++[j])):=by
      rw[Cd.out];unfold Own;rw[zK,Lr,Nm,show(yr (ML++[j])).map (O U)=(yr ML).map (O U)++(#[O U (j:Int)]).toList by simp[yr]];exact fi
     have Oa:(I (J ⟨OO,0,Z⟩) (ML.length+1) rP).ownBlock=((fM (y,(k:Int))).getD (I Z 0 0)).ownBlock\/∃z,(I (J ⟨OO,0,Z⟩) (ML.length+1) rP).ownBlock=J z/\wr.heap.size<=z:=by
      rcases Od with h | h
      . rw[cK.out];exact .inl h.symm
      exact .inr ⟨OO,rfl,by omega⟩
     have Ax:=pw.out.member (x0:=(y,(k:Int))) (i:=j) MV lJ Oa oR sf;rw[HSUC.out] at Ax;have HRN:=zH Ax;clear MV lJ Oa Ax sf oR fi fm Od pP n1 n2 F1 Pz LZ m1 m2 d1 av aF IL pc cK cF Cd pw NF NP hwB;go_wp2_with fail
     go_roundw
     case rel=>exact⟨j+1,by omega,by go_num,_,HRN.out⟩
     simp[Ar];omega
   obtain rfl:j=PN:=by omega
   have Gb:=pw.out;rw[memP_end (fT.out k),<-HE.out] at Gb;have aJ:(zB G k).length+1=(zB G (k+1)).length:=by rw[HE.out];simp
   rw[aJ] at Gb;have HRe:=zH Gb;clear Gb pw rX aJ;go_wp2_with fail
   go_roundw
   case rel=>exact⟨k+1,by omega,by go_num,_,_,_,HRe.out⟩
   simp[Ar];omega
 obtain rfl:k=N:=by omega
 have ij:=mD.out;rw[GK.out.symm] at ij;have MA:∀p∈PS,(cm p).length=PN:=fun p _=>fT.out p
 obtain⟨I4,Iz,rfl,_,_,hI9⟩:=ij.own.form;rw[zK] at ij;have mK:=zH ij;have HI9:=zH hI9;obtain⟨c0,c1,c2,c3,_⟩:=Ka ij.bx;have f0:=zi ij.b1 0;have f1:=zi ij.b1 1;have f2:=zi ij.b1 2;have f3:=zi ij.b1 3;have l1:=zj ij.b1;obtain⟨g0,g1,g2,g3,_⟩:=Ka ij.b1;have Hc:=zH ij.b1;clear mD ij hI9 i9 Dp GK;go_wp2_with fail;obtain⟨W,hW,e1,e2,e3⟩:=set4 Hc.out (O U (PN:Int)) (I I4 PS.length Iz) (.map (J bC)) (.map (J bM));rw[hW];obtain⟨q0,q1,q2,q3,_⟩:=Ka e1;refine LP (v:=.tuple #[Ai #[O U (PN:Int),I I4 PS.length Iz,.map (J bC),.map (J bM)],O U 0]) (by simp[results,results79,go_sem,q0,q1,q2,q3]) rfl ?_;have aP:W.heap.size=wr.heap.size:=by rw[<-hW];simp[World.setCell]
 have tI:∀ {v:Au} {xs:List Int},Own wr w.heap.size v xs->Own W w.heap.size v xs:=fun {v xs} ho=>xK ho fun z e=>e2 z (by
  rintro rfl;rcases ho.2 with ⟨rfl,_⟩ | ⟨g,cap,cur,rfl,hb,ov,rest⟩
  . cases e
  . have:g=w.heap.size+1:=by simpa[Value.ownBlock] using e
    subst this
    exact mK.out.kinds.2.1 _ ov)
 obtain⟨a1,a2,a3,a4⟩:=mK.out.apart;obtain⟨mC,VU⟩:=mK.out.mC;obtain⟨mM,VT⟩:=mK.out.mM;refine⟨mK.out.below.trans (e3 _ (by omega)),.inr ⟨hR.out,I4,Iz,bC,bM,rfl,fun W9 h9=>⟨?_,?_,?_,⟨mC,f,(VU.same (e2 bC a3)).same (h9 bC (by have:=mK.out.lC;omega) (by rw[aP];exact VU.lt)),fun p hp=>?_⟩,⟨mM,fM,(VT.same (e2 bM a4)).same (h9 bM (by have:=mK.out.lM;omega) (by rw[aP];exact VT.lt)),fun p hp q=>?_⟩,MA⟩⟩⟩
 . exact wC (tI mK.out.own) h9
 . rw[aP];exact VU.lt
 . rw[aP];exact VT.lt
 . obtain⟨g,c,ef,ho,_,_⟩:=mK.out.rowC p hp
   exact⟨_,c,ef,wC (tI ho) h9⟩
 have ho:=(mK.out.rowM (q,(p:Int))).1
 have hmd:uK cm PS (q,(p:Int))=jJ (cm p) q:=by
  unfold uK;rw[Lj ⟨by omega,by simpa using hp⟩];simp
 rw[hmd] at ho;obtain⟨A',c',e',_,_,_⟩:=ho.form;rw[e'] at ho;rw[zK] at e';exact⟨A',c',e',wC (tI ho) h9⟩
theorem Jc(n:Nat)(Ap:Bb)(m kp bC bM:Nat)(i:Int)(w:Ba):An Al 46 #[.agg (stC n Ap m kp bC bM),O U i] w fun e w'=>
  e=Ak (.func (.func 81) #[] #[Aj (J ⟨w.heap.size,0,Z⟩),Aj (J ⟨w.heap.size+1,0,Z⟩)])/\(w.alloc (Ag (stC n Ap m kp bC bM) 101)).alloc (Ag #[O U i] 3)=w':=by
 unfold stC;go_enter func46,ntmps46;go_wp2;go_ret;exact⟨rfl,rfl⟩
def qE(l:List Nat)(p t:Nat):List (Nat×Nat):=(l.drop t).map fun k=>(k,p)
theorem Ql{l:List Nat}{p t:Nat}(h:t<l.length):qE l p t=(l[t],p)::qE l p (t+1):=by
 unfold qE;rw[Lz h];rfl
theorem Jj{l:List Nat}{p t:Nat}(h:t=l.length):qE l p t=[]:=by subst h;unfold qE;rw[Nz];rfl
theorem nbr_drop{ps:List Nat}{cls:Nat->List Int}{i j:Nat}(h:j<ps.length):zU (ps.drop j) cls i=qE (jJ (cls ps[j]) ((cls ps[j]).getD i 0)) ps[j] 0++zU (ps.drop (j+1)) cls i:=by
 rw[Lz h];unfold zU qE;rw[Nr,Nl]
theorem ZA(l:List Nat)(i:Nat)(h:i<(yr l).length):(yr l)[i]=((l[i]'(by simpa[yr] using h):Nat):Int):=by simp[yr]
theorem Xo(n i:Nat)(hn:n<=100000)(hi:i<n)(Ap:Bb)(kp bC bM:Nat)(ps:List Nat)(rF:ps.length<=100)(cls:Nat->List Int)(B bx bp:Nat)(w:Ba)(hx:w.heap[bx]?=J (Ag (stC n Ap ps.length kp bC bM) 101 (0,0)))
  (hp:w.heap[bp]?=J (Ag #[O U (i:Int)] 3 (0,0))) (hS:StAt w B Ap bC bM n ps cls) (hB:B<=w.heap.size) :
  Y1 Al 81 #[Aj (J ⟨bx,0,Z⟩),Aj (J ⟨bp,0,Z⟩)] (fun x:Nat×Nat=>#[Ai #[O U x.1,O U x.2]]) (fun k=>k<B\/k=bx\/k=bp) (zU ps cls i) w:=fun n' TI l Af Jx W hW hJ OG hY h0=>by
 have cd:bx<w.heap.size:=zj hx;have my:bp<w.heap.size:=zj hp;have oH:=(hW.block bx cd).trans hx;have iB:=(hW.block bp my).trans hp;have Be:=zH (hS.same (w':=W) fun k hk=>hW.block k (by omega));have HY:=zH hY;have H0:=zH h0;have pz:=zH oH;have ti:=zH iB;have Uf:B<=W.heap.size:=Lu hB hW.size;have hxW:bx<W.heap.size:=LH cd hW.size;have VI:bp<W.heap.size:=LH my hW.size;have Hs:∀W:Ba,(zeroValue 50).run Al W=.ok (I Z 0 0) W:=fun W=>by kernel_rfl
 have rz:Al.underlying 93=J (.map 3 50):=Rk;have ht2:Al.underlying 99=J (.map 106 50):=underlying99;have q1:W.cell? ⟨bx,1,Z⟩=J (I Ap ps.length kp):=zh oH 1 rfl;clear hY hS OG h0 oH iB hx hp hW hB cd my;refine Ru func81 rfl trivial ?_ rfl;simp only[ntmps81,List.size_toArray,List.length_cons,List.length_nil,Nat.reduceAdd,Nat.reduceSub,Array.replicate_succ,Array.replicate_zero,List.push_toArray,List.append_toArray,List.nil_append,List.cons_append];gi_wp2
 gi_loopw [11] (fun q wr=>∃j:Nat,j<=ps.length/\q=O U (j:Int)/\∃pre:List { x:Nat×Nat // x∈zU ps cls i },As (pre.map (·.1)++zU (ps.drop j) cls i=zU ps cls i)/\As (Af pre wr)/\As (StAt wr B Ap bC bM n ps cls)/\As (wr.heap[bx]?=J (Ag (stC n Ap ps.length kp bC bM) 101 (0,0)))/\As (wr.heap[bp]?=J (Ag #[O U (i:Int)] 3 (0,0)))/\W.heap.size<=wr.heap.size) (fun q _=>ps.length-(Ar q).toNat)
 case atStart=>exact⟨0,by omega,rfl,[],by simp[As],H0,Be,pz,ti,Ld _⟩
 case round=>
  obtain⟨j,hj,rfl,pre,fa,eS,mB,F0,nO,aP⟩:=hrel;clear q1 pz ti Be H0
  by_cases hlt:j<ps.length
  . have BO:=nbr_drop (cls:=cls) (i:=i) hlt
    obtain⟨p,DM⟩:=Kj (ps[j]);have Mg:p∈ps:=by rw[<-DM];exact Lh hlt
    rw[DM] at BO;have CB:=fa.out;rw[BO] at CB;have aA:=mB.out.len p Mg;obtain⟨kk,tQ⟩:=Kj ((cls p).getD i 0);obtain⟨ml,ie⟩:=Kj (jJ (cls p) kk);rw[tQ,ie] at CB;have HP:=zH CB;obtain⟨Uo,Th,ePr,hbpr,zp⟩:=mB.out.procs.at_ j (by simpa[yr] using hlt);rw[ZA,DM] at zp;subst ePr;have DW:(0:Int)<=(j:Int):=by omega
    have BK:(j:Int)<(ps.length:Int):=by omega
    obtain⟨m1,f1,nP,fq⟩:=mB.out.cl;obtain⟨A1,c1,e1,iM⟩:=fq p Mg;obtain⟨m2,f2,AD,lL⟩:=mB.out.mb;obtain⟨A2,c2,e2,pY⟩:=lL p Mg kk;rw[ie] at e2 pY;have nA:=(show MapOf (O U) wr.drew bC m1 f1 from nP).look yC rz (Hs _) (p:Int);rw[e1] at nA;simp only[Option.getD_some] at nA;have nz:=(show MapOf ja wr.drew bM m2 f2 from AD).look ZT ht2 (Hs _) (kk,(p:Int));rw[e2] at nz;simp only[ja] at nz;obtain⟨b1,o1,eA1,aF,zc⟩:=iM.at_ i (by omega);subst eA1;have si:(cls p)[i]'(by omega)=kk:=by rw[<-tQ,ye (by omega)]
    rw[si] at zc;have OI:=zH pY
    have DU:ml.length<=100000:=by
     rw[<-ie];unfold jJ;refine Lu (NV _ _) ?_;simp;omega
    have g1:wr.drew.cell? ⟨bx,2,Z⟩=J (.map (J bC)):=zh F0.out 2 rfl;have g2:wr.drew.cell? ⟨bx,3,Z⟩=J (.map (J bM)):=zh F0.out 3 rfl;have g3:wr.drew.cell? ⟨bp,0,Z⟩=J (O U (i:Int)):=zh nO.out 0 rfl;have g4:wr.drew.cell? ⟨b1,o1+i,Z⟩=J (O U kk):=zc;have FF:(0:Int)<=(i:Int):=by omega
    have Wy:(i:Int)<(n:Int):=by omega
    clear BO fa CB nP fq AD lL e1 e2 iM pY zc si aA tQ ie DM;gi_wp2_with fail;refine RU.2 ?_;refine zr [(0,Av),(1,Av),(2,Av),(3,Av),(4,Av),(5,Av),(6,Av),(7,Av),(8,Av),(9,Av),(10,Av),(11,Av),(12,Av),(13,Av)] (fun X=>X=wr.drew) (by kernel_rfl) (by kernel_rfl) rfl ?_
    repeat
     apply zk rfl
     . rintro K' aa X rfl
       go_simp;exact aa
    refine zz ?_;clear nA nz g1 g2 g3 g4 zp;obtain⟨wq,DE⟩:=Kj wr.drew;have Vs:W.heap.size<=wq.heap.size:=by rw[<-DE];exact aP
    have HSq:As (StAt wq B (J ⟨Uo,Th,Z⟩) bC bM n ps cls):=by rw[<-DE];exact mB.out.same fun _ _=>rfl
    have HXq:As (wq.heap[bx]?=J (Ag (stC n (J ⟨Uo,Th,Z⟩) ps.length kp bC bM) 101 (0,0))):=by rw[<-DE];exact F0.out
    have HPq:As (wq.heap[bp]?=J (Ag #[O U (i:Int)] 3 (0,0))):=by rw[<-DE];exact nO.out
    have HIq:As (IAt wq B A2 (yr ml)):=by rw[<-DE];exact OI.out.sameB fun _ _=>rfl
    have HJq:As (Af pre wq):=by rw[<-DE];exact hJ pre wr wr.drew Z eS.out ⟨rfl,rfl,rfl,Ld _,fun _ _ _=>rfl⟩ (fun r e=>by cases e)
    rw[DE];clear DE mB F0 nO OI eS aP aF;gi_wp2_with fail
    gi_loopw [28] (fun q wr=>∃t:Nat,t<=ml.length/\q=O U (t:Int)/\∃pre:List { x:Nat×Nat // x∈zU ps cls i },As (pre.map (·.1)++(qE ml p t++zU (ps.drop (j+1)) cls i)=zU ps cls i)/\As (Af pre wr)/\As (StAt wr B (J ⟨Uo,Th,Z⟩) bC bM n ps cls)/\As (IAt wr B A2 (yr ml))/\As (wr.heap[bx]?=J (Ag (stC n (J ⟨Uo,Th,Z⟩) ps.length kp bC bM) 101 (0,0)))/\As (wr.heap[bp]?=J (Ag #[O U (i:Int)] 3 (0,0)))/\W.heap.size<=wr.heap.size) (fun q _=>ml.length-(Ar q).toNat)
    case atStart=>exact⟨0,by omega,rfl,pre,HP,HJq,HSq,HIq,HXq,HPq,Vs⟩
    case round=>
     clear HP HSq HIq HXq HPq HJq;obtain⟨t,lA,rfl,pre,fa,eS,mB,hIr,F0,nO,aP⟩:=hrel
     by_cases pP:t<ml.length
     . obtain⟨b2,o2,eA2,ae,z2⟩:=hIr.out.at_ t (by simpa[yr] using pP)
       rw[ZA] at z2;subst eA2
       have mr:pre.map (·.1)++((ml[t],p)::(qE ml p (t+1)++zU (ps.drop (j+1)) cls i))=zU ps cls i:=by
        have:=fa.out;rw[Ql pP,L3] at this;exact this
       obtain⟨v,hv⟩:=Kj (ml[t]);rw[hv] at mr z2;have cS:(v,p)∈zU ps cls i:=by rw[<-mr];simp
       have ay:pre.length<(zU ps cls i).length:=by
        have:=congrArg List.length mr;simp only[List.length_append,List.length_map,List.length_cons] at this;omega
       obtain⟨fn,tmps,assign,body,hy,hR⟩:=HY.out pre ⟨(v,p),cS⟩ _ eS.out ay;dsimp only at hy
       have rU:As ((pre++[(⟨(v,p),cS⟩:{ x:Nat×Nat // x∈zU ps cls i })]).map (·.1)++(qE ml p (t+1)++zU (ps.drop (j+1)) cls i)=zU ps cls i):=by
        rw[LF,L6];exact mr
       have HR:=zH hR;have BF:(0:Int)<=(t:Int):=by omega
       have ht3:(t:Int)<(ml.length:Int):=by omega
       clear mr fa hR hv;gi_wp2_with fail;refine HR.out.mono ?_;rintro e W3 (⟨rfl,BS,mu⟩ | ⟨rfl,nQ⟩)
       . have av:wr.heap.size<=W3.heap.size:=mu.size
         have S3:=zH (mB.out.same (fun k hk=>mu.same k (.inl hk) (by omega)));have I3:=zH (hIr.out.sameB (fun k hk=>mu.same k (.inl hk) (by omega)));have X3:=zH ((mu.same bx (.inr (.inl rfl)) (by omega)).trans F0.out);have P3:=zH ((mu.same bp (.inr (.inr rfl)) (by omega)).trans nO.out);have J3:=zH BS;have lB:W.heap.size<=W3.heap.size:=by omega
         clear mu BS av z2;gi_wp2_with fail
         go_roundw
         case rel=>exact⟨t+1,by omega,by go_num,_,rU,J3,S3,I3,X3,P3,lB⟩
         case measure=>simp[Ar];omega
       . gi_wp2_with fail
         refine LP (P8 rfl _ _ _) rfl ?_;refine⟨⟨_,rfl⟩,.inr ⟨_,?_,nQ⟩⟩;exact⟨_,rU.out⟩
     . obtain rfl:t=ml.length:=by omega
       have HP:As (pre.map (·.1)++zU (ps.drop (j+1)) cls i=zU ps cls i):=by have:=fa.out;rwa[Jj rfl,LW] at this
       clear fa;gi_wp2_with fail
       go_roundw
       case rel=>exact⟨j+1,by omega,by go_num,pre,HP,eS,mB,F0,nO,aP⟩
       case measure=>simp[Ar];omega
  . obtain rfl:ps.length=j:=by omega
    have HP:As (pre.map (·.1)=zU ps cls i):=by have:=fa.out;rwa[Nz,show zU [] cls i=[] from rfl,Nk] at this
    clear fa;gi_wp2_with fail
    go_end0
    exact⟨⟨_,rfl⟩,.inl ⟨pre,HP.out,eS.out⟩⟩
end
section
open Go.RowKit
theorem made_row(n:Nat):madeCells #[O U 0] (n*1)=((List.replicate n 0).map (O U)).toArray:=by
 unfold madeCells;apply Array.ext
 . simp
 intro i h1 h2;simp[Nat.mod_one]
theorem Xt(n:Nat)(hn:n<=100000)(W:Ba):(Instr.makeSlice 50 (O U n) (O U n)).run Al W=.ok (I (J ⟨W.heap.size,0,Z⟩) n n) (W.alloc (Ag ((List.replicate n 0).map (O U)).toArray 3)):=by
 obtain⟨i0,hi,dx,ce,dI⟩:=yT ud;have hb:i0.bytes=8:=dI;have hs:i0.size=1:=ce;have h:=run_make (P:=Al) W 50 3 i0 (O U 0) Nn hi dx U U (n:Int) (n:Int) (by omega) (So _) (by rw[hb];omega) (by omega);rw[h,hs];simp only[Int.toNat_natCast];rw[show(O U 0).cells=#[O U 0] from rfl,made_row]
theorem gO(n b:Nat)(h1:1<=n)(h5:n<=100000)(u:Int)(w:Ba)(hb:w.heap[b]?=J (Ag #[O U u] 3 (0,0))) :
  An Al 40 #[I (J ⟨b,0,Z⟩) 1 1,O U n] w fun e w'=>∃g,e=Ak (I (J ⟨g,0,Z⟩) n n)/\w.heap.size<=g/\RowAt w' g (List.replicate n u)/\Am w.heap.size w w':=by
 have fl:=Xt n h5;obtain⟨ar,oz⟩:∃ar:List Au,(List.replicate n 0).map (O U)=ar:=⟨_,rfl⟩;rw[oz] at fl;have CX:ar.length=n:=by rw[<-oz];simp
 have hc:=zh hb 0 rfl;have aY:=zj hb;have hm:=Tryz.bits_Mul 1 n (by omega) (by omega) w;have e1:(1*n / 18446744073709551616:Nat)=0:=by omega
 have e2:(1*n % 18446744073709551616:Nat)=n:=by omega
 rw[e1,e2] at hm;have H':¬(n:Int)<0:=by omega
 go_enter func40,ntmps40;go_wp2_with fail;refine hm.mono ?_;rintro e w1 ⟨rfl,ab⟩;obtain rfl:=ab;obtain⟨W0,dT,b0,aP,bG⟩:=zn w1 ar.toArray 3;have hx:W0.cell? ⟨b,0,Z⟩=J (O U u):=(bG.cell (p:=⟨b,0,Z⟩) aY).trans hc;have BB:=zH bG;have BX:=zH b0;have HX:=zH hx;go_wp2_with ((refine R7 rfl (.tmp 31) (.tmp 32) 50 50 rfl 3 Nn ur (J ⟨w1.heap.size,0,Z⟩) (J ⟨b,0,Z⟩) n n 1 1 rfl rfl w1.heap.size 0 ar 3 BX.out [O U u] (by simp[Nat.min_def];omega) (fun _=>⟨rfl,_,rfl,Qb HX.out⟩) (by simp;omega) (by simp[Value.oneCell']) w1.heap.size w1 BB.out (Ld _) ?_);intro w2 fi ae);obtain⟨g,hg⟩:=Kj w1.heap.size;have s1:=qu (cur:=ar) (x:=O U u) (k:=0) (m:=1) (n:=n) CX (by simp) (by omega);have S1:=zH s1;have EI:=zH hg;rw[hg] at fi ae ⊢
 go_loopw [8] (fun l wr=>∃(k:Nat) (cur:List Au),1<=k/\k<=n/\l=O U k/\As (cur.length=n)/\As (cur.take k=List.replicate k (O U u))/\As (wr.heap[g]?=J (Ag cur.toArray 3 (0,0)))/\Am g w1 wr) (fun l _=>n-(Ar l).toNat)
 case atStart=>exact⟨1,splice ar 0 [O U u],by omega,h1,rfl,S1.out.2,S1.out.1,fi,ae⟩
 obtain⟨k,cur,aM,Wg,rfl,aA,tW,al,fu⟩:=hrel
 by_cases hlt:k<n
 . clear S1 fi ae
   have dg:(0:Int)<=(k:Int):=by omega
   have fU:(k:Int)<=(n:Int):=by omega
   have az:¬n=k:=by omega
   go_upto_region 9 with fail
   obtain⟨d,hd⟩:=Kj (n-k);obtain⟨m,hm⟩:=Kj (Nat.min k d);have oo:min k d=m:=hm;have sV:1<=m:=by omega
   have fL:k+m<=n:=by omega
   have sf:m<=k:=by omega
   have oL:∀j v,(List.replicate m (O U u))[j]?=J v->wr.cell? ((⟨g,0,Z⟩:Addr).add j)=J v:=by
    intro j v hj;have MM:j<m:=by have:=(Lq.1 hj).1;simpa using this
    rw[NN,Lj MM] at hj
    cases hj
    rw[NR,LI];refine zh al.out j ?_;rw[PC];have h2:=congrArg (fun l=>l[j]?) tW.out;simp only[List.getElem?_take,List.getElem?_replicate] at h2;rwa[Lj (by omega),Lj (by omega)] at h2
   have SP:=zH (qu (cur:=cur) (x:=O U u) (k:=k) (m:=m) (n:=n) aA.out tW.out fL);have Bc:=zH oL;have HM:=zH hm;have ip:=zH fu;have av:IntKind.i64.wrap ((k:Int)+(m:Int))=(k:Int)+(m:Int):=Sz _ (by omega);have nh:=zH av;clear oL hm fu av
   go_region_law ((refine Si (by rfl) (.tmp 41) (.tmp 44) 50 50 (by rfl) 3 Nn ur (J ⟨g,k,Z⟩) (J ⟨g,0,Z⟩) d d k n (by simp[go_sem]) (by simp[go_sem]) g k cur 3 al.out (List.replicate m (O U u)) (by rw[LO];exact HM.out.symm) (fun _=>⟨rfl,_,rfl,Bc.out⟩) (by rw[LO,aA.out];exact fL) (by intro v hv;rw[Rw hv];rfl) g w1 ip.out.drew (Ld _) ?_;intro w3 iR ak;rw[LO]))
   all_goals
    rw[nh.out];go_wp2_with fail
    go_frame
    go_roundw
    case rel=>
     (repeat apply Exists.intro)
     exact⟨⟨k+m,splice cur k (List.replicate m (O U u)),by omega,by omega,rfl,SP.out.2,SP.out.1,iR,ak⟩,by first | rfl | (go_frame;rfl) | (simp[Act.put];done)⟩
    case measure=>simp[Ar];omega
 obtain rfl:k=n:=by omega
 go_wp2_with fail;go_ret;refine⟨g,rfl,by have:=EI.out;omega,?_,by have:=EI.out;rw[this];exact fu⟩;unfold RowAt;have e:=tW.out;rw[NQ (by have:=aA.out;omega)] at e;rw[al.out,e];simp
def Tail(w:Ba)(base:Nat)(v:Au)(xs:List Int):Prop:=
 (v=I Z 0 0/\xs=[])\/∃g off cap cur,v=I (J ⟨g,off,Z⟩) xs.length cap/\base<=g/\w.heap[g]?=J (Ag cur 3 (0,0))/\xs.length<=cap/\cap<=maxLen/\(0<cap->cur.size=off+cap) /\
  ∀(i:Nat) (h:i<xs.length),cur[off+i]?=J (O U xs[i])
theorem Tail.of_own{w:Ba}{base:Nat}{v:Au}{xs:List Int}(h:Own w base v xs):Tail w base v xs:=by
 rcases h.2 with ⟨hv,h0⟩ | ⟨g,cap,cur,hv,hb,hg,cG,iJ,bN,sM⟩
 . exact .inl ⟨hv,LJ h0⟩
 refine .inr ⟨g,0,cap,cur,hv,hb,hg,cG,iJ,fun _=>by omega,fun i hi=>?_⟩;rw[LI];have h2:=congrArg (fun l=>l[i]?) sM;simp only[List.getElem?_take,List.getElem?_map] at h2;rw[Lj (by omega),Li hi] at h2;simpa using h2
theorem Tail.form{w:Ba}{base:Nat}{v:Au}{xs:List Int}(h:Tail w base v xs):∃A cap,v=I A xs.length cap/\xs.length<=cap/\cap<=maxLen/\IAt w w.heap.size A xs:=by
 rcases h with ⟨rfl,rfl⟩ | ⟨g,off,cap,cur,rfl,hb,hg,cG,iJ,_,aI⟩
 . exact⟨Z,0,rfl,Ld _,Ni _,IAt.nil _ _ _⟩
 exact⟨_,_,rfl,cG,iJ,fun _=>⟨g,off,rfl,zj hg,fun i hi=>zh hg (off+i) (aI i hi)⟩⟩
theorem Tail.lt{w:Ba}{base:Nat}{v:Au}{xs:List Int}(h:Tail w base v xs):∀k,v.ownBlock=J k->base<=k/\k<w.heap.size:=by
 rcases h with ⟨rfl,_⟩ | ⟨g,off,cap,cur,rfl,hb,hg,_⟩
 . intro k e;cases e
 intro k e;have:g=k:=by simpa[Value.ownBlock] using e
 subst this;exact⟨hb,zj hg⟩
theorem Tail.cells{w:Ba}{base:Nat}{v:Au}{xs:List Int}(h:Tail w base v xs):∀k,v.ownBlock=J k->∃cur,w.heap[k]?=J (Ag cur 3 (0,0)):=by
 rcases h with ⟨rfl,_⟩ | ⟨g,off,cap,cur,rfl,hb,hg,_⟩
 . intro k e;cases e
 intro k e;have:g=k:=by simpa[Value.ownBlock] using e
 subst this;exact⟨_,hg⟩
theorem Tail.same{w w':Ba}{base:Nat}{v:Au}{xs:List Int}(h:Tail w base v xs)(hs:∀k,v.ownBlock=J k->w'.heap[k]?=w.heap[k]?):Tail w' base v xs:=by
 rcases h with h | ⟨g,off,cap,cur,rfl,hb,hg,r⟩
 . exact .inl h
 exact .inr ⟨g,off,cap,cur,rfl,hb,(hs g rfl).trans hg,r⟩
theorem Tail.cut{w:Ba}{base:Nat}{A:Bb}{cap:Nat}{x:Int}{xs:List Int}(h:Tail w base (I A (xs.length+1) cap) (x::xs)) :
  ∃A',(∀X:Ba,(Instr.slice 50 (I A (xs.length+1) cap) (J (O U 1)) Z Z).run Al X=.ok (I A' xs.length (cap-1)) X)/\Tail w base (I A' xs.length (cap-1)) xs/\(I A' xs.length (cap-1)).ownBlock=(I A (xs.length+1) cap).ownBlock:=by
 rcases h with ⟨_,h⟩ | ⟨g,off,ap,cur,hv,hb,hg,cG,iJ,bN,aI⟩
 . cases h
 injection hv with e1 e2 e3
 subst e1;subst e3;simp only[List.length_cons] at cG aI;refine⟨if cap=1 then J ⟨g,off,Z⟩ else (J (⟨g,off,Z⟩:Addr)).map (·.add 1),fun X=>?_,.inr ?_,?_⟩
 . have hu:Al.underlying 50=J (.slice 3):=Nn
   have hs:(sizeOf 3).run Al X=.ok 1 X:=by kernel_rfl
   simp[Instr.slice,Instr.sliceBounds,run_underlying hu,go_sem];exact fun h=>absurd h (by omega)
 . by_cases h1:cap=1
   . subst h1
     have h0:xs.length=0:=by omega
     refine⟨g,off,0,cur,by simp,hb,hg,by omega,Ni _,fun h=>by omega,fun i hi=>by omega⟩
   rw[Lg h1];refine⟨g,off+1,cap-1,cur,by simp[Addr.add],hb,hg,by omega,by omega,fun _=>by have:=bN (by omega);omega,fun i hi=>?_⟩;have:=aI (i+1) (by omega);rw[show off+1+i=off+(i+1) by omega];simpa using this
 by_cases h1:cap=1
 . subst h1;rfl
 rw[Lg h1];simp[Value.ownBlock,Addr.add]
theorem Zq(w:Ba)(base:Nat)(ty:TypeId)(v:Au)(xs:List Int)(u:Int)(h:Tail w base v xs)(a:Addr)(ha:w.cell? a=J (O U u))(ay:xs.length<8796093022208)(NE:base<=w.heap.size) :
  ∃v' w',(Builtin.append_ #[50,50] ty #[v,I (J a) 1 1]).run Al w=.ok v' w'/\Tail w' base v' (xs++[u])/\w.grownBy w' v.ownBlock/\(v'.ownBlock=v.ownBlock\/v'.ownBlock=J w.heap.size):=by
 obtain⟨i,hi,hz,aP,M'⟩:=RH Yp;have ht:Al.underlying 50=J (.slice 3):=Nn
 have tM:∀j y,[O U u][j]?=J y->w.cell? (a.add j)=J y:=by
  intro j y hj;have h0:j=0:=by have:=(Lq.1 hj).1;simp at this;omega
  subst h0;simp at hj;subst hj;rw[show a.add 0=a by cases a;rename_i b o f;cases f<;>simp[Addr.add]];exact ha
 have grown:∀(old:Nat),old<xs.length+1->∀(row:Option Nat),
   Tail (w.drew.alloc (Ag ((xs.map (O U)).toArray++[O U u].toArray++Builtin.zeroCells (O U 0).cells (grownCap w (xs.length+1) old 3-(xs.length+1))) 3)) base (I (J ⟨w.heap.size,0,Z⟩) (xs.length+1) (grownCap w (xs.length+1) old 3)) (xs++[u]) /\
   w.grownBy (w.drew.alloc (Ag ((xs.map (O U)).toArray++[O U u].toArray++Builtin.zeroCells (O U 0).cells (grownCap w (xs.length+1) old 3-(xs.length+1))) 3)) row:=by
  intro old ho row;have hge:=grownCap_ge w (xs.length+1) old 3;have iJ:grownCap w (xs.length+1) old 3<=maxLen:=grownCap_le_maxLen w (xs.length+1) old 3 (by unfold maxLen;omega);refine⟨.inr ⟨w.heap.size,0,_,_,by simp,NE,St w.drew _,by simp;exact hge,iJ,fun _=>?_,fun j hj=>?_⟩,⟨rfl,rfl,rfl,by simp,fun k hk _=>Nj w.drew _ k hk⟩⟩
  . simp only[Array.size_append,List.size_toArray,size_zeroCells,List.length_map,List.length_cons,List.length_nil]
    have:(O U 0).cells.size=1:=rfl;rw[this];omega
  . have Wp:j<xs.length+1:=by simpa using hj
    rw[LI,Array.getElem?_append_left (by simp;omega),LY,PC,<-Sb (f:=O U),<-LF,NJ,Li hj]
    rfl
 rcases h with ⟨rfl,rfl⟩ | ⟨g,off,cap,cur,rfl,hb,hg,cG,iJ,bN,aI⟩
 . have hr:=run_append_nil (P:=Al) w 50 ty 3 i (O U 0) ht hi hz a 1 1 [O U u] (by rw[aP];rfl) tM (by omega) (by omega) (by rw[M'];omega)
   have iH:=grown 0 (by simp) (Value.ownBlock (I Z 0 0));simp only[List.length_nil,List.map_nil,Nat.zero_add,List.nil_append] at iH;refine⟨_,_,hr,?_,?_,Or.inr rfl⟩
   . exact iH.1
   exact iH.2
 by_cases DL:xs.length+1<=cap
 . have hsize:=bN (by omega)
   have hf:=run_firstCells_some (P:=Al) w i.size 1 a 1 1 [O U u] (by rw[aP];rfl) tM;have eZ:=run_storeCells_at Al g (off+xs.length*i.size) 3 [O U u] 0 cur w hg (by rw[aP];simp;omega) (by simp[Value.oneCell']);simp only[Nat.add_zero] at eZ;refine⟨I (J ⟨g,off,Z⟩) (xs.length+1) cap,w.setRow g (cur.toList.take (off+xs.length*i.size)++[O U u]++cur.toList.drop (off+xs.length*i.size+[O U u].length)).toArray,?_,.inr ⟨g,off,cap,(cur.toList.take (off+xs.length*i.size)++[O U u]++cur.toList.drop (off+xs.length*i.size+[O U u].length)).toArray,by simp,hb,setRow_heap w g cur _ 3 _ hg,by simpa using DL,iJ,fun _=>?_,fun j hj=>?_⟩,⟨rfl,rfl,rfl,by simp,fun k _ hk=>setRow_other w g k _ (fun e=>hk (by simp[Value.ownBlock,e]))⟩,Or.inl rfl⟩
   . simp[Builtin.append_,run_underlying ht,sizeOf,typeInfo,hi,Builtin.lenOf,DL,hf,Addr.add_lit,eZ]
   . rw[aP];simp;omega
   have Wp:j<xs.length+1:=by simpa using hj
   rw[aP,NT,PC];have hlt:(cur.toList.take (off+xs.length)).length=off+xs.length:=by simp;omega
   by_cases e:j=xs.length
   . subst e
     rw[L6,Ly (by omega),hlt];simp
   rw[L6,LC (by omega),NY,Lj (by omega),Array.getElem?_toList,aI j (by omega),Pr (by omega)]
 have holds : ∀ j y, (xs.map (O U))[j]? = J y -> w.cell? ((⟨g, off, Z⟩ : Addr).add j) = J y := by
  intro j y hj;have cc:j<xs.length:=by have:=(Lq.1 hj).1;simpa using this
  rw[NJ,Li cc] at hj;simp at hj;subst hj;rw[NR];exact zh hg (off+j) (aI j cc)
 have hr:=run_append_grow (P:=Al) w 50 ty 3 i (O U 0) ht hi hz ⟨g,off,Z⟩ xs.length cap (xs.map (O U)) (by rw[aP];simp) holds a 1 1 [O U u] (by rw[aP];rfl) tM (by omega) (by omega) (growslice_fits (by omega) (by rw[M'];omega));have iH:=grown cap (by omega) (Value.ownBlock (I (J ⟨g,off,Z⟩) xs.length cap));exact⟨_,_,hr,iH.1,iH.2,Or.inr rfl⟩
theorem YP{F:Fence}{n:Nat}(w:Ba){aq:Array Oper}{rest:List Oper}{o:Oper}{a:Act}{Q:Exit->Act->Ba->Prop}(iI:o.guard=Z)(s x:Operand)
  (bZ:o.op=.call { callee:=.builtin .append,args:=#[s,x],argTypes:=#[50,50] }) (base:Nat) (v:Au) (xs:List Int) (u:Int) (hs:a.eval s=v) (aU:Tail w base v xs)
  (ad:Addr) (hx:a.eval x=I (J ad) 1 1) (ha:w.cell? ad=J (O U u)) (ay:xs.length<8796093022208) (hb:base<=w.heap.size)
  (h:∀v' w1,Tail w1 base v' (xs++[u])->w.grownBy w1 v.ownBlock->(v'.ownBlock=v.ownBlock\/v'.ownBlock=J w.heap.size)->wpListIn F n Al aq Q rest (a.put o.dst v') w1) :
  wpListIn F n Al aq Q (o::rest) a w:=by
 refine wpListIn_plain iI fun K aa=>?_
 obtain⟨v',w',dm,r1,r2,r3⟩:=Zq w base o.type v xs u aU ad ha ay hb;unfold Oper.wpIn;refine⟨by simp[Oper.about,bZ,resolve,Target.leads,Sem.run_pure],?_⟩;rw[Oper.semAt_plain F _ _ (by rw[bZ];intro c WW;cases WW)];simp[execOp,bZ,resolve,invoke,builtin,hs,hx,dm,Result.andThen];exact aa _ _ (h v' w' r1 r2 r3)
end
section
open Go.RowKit Go.Shelf
attribute [local go_sem] Oper.semAt_some
def xZ(n:Nat)(L:List Nat):List Int:=(List.range n).map fun i=>if i∈L then 0 else -1
theorem qY(n:Nat)(L:List Nat):(xZ n L).length=n:=by simp[xZ]
theorem initL_nil(n:Nat):xZ n []=List.replicate n (-1):=by
 refine NO (by simp[xZ]) fun i h1 h2=>?_
 simp[xZ]
theorem initL_at(n:Nat)(L:List Nat)(i:Nat)(h:i<n):(xZ n L).getD i 0=if i∈L then 0 else -1:=by
 rw[ye (by rw[qY];exact h)];simp[xZ]
theorem initL_set(n:Nat)(L:List Nat)(x:Nat)(_hx:x<n):(xZ n L).set x 0=xZ n (L++[x]):=by
 refine NO (by simp[xZ]) fun i h1 h2=>?_
 rw[RF]
 by_cases e:x=i
 . subst e;simp[xZ]
 have e':¬i=x:=fun h=>e h.symm
 simp[xZ,e,e']
structure FlIn(B b5 b6 g:Nat)(No:Nat->Prop)(C:Array Au)(out:List Int)(q:List Nat)(w W:Ba):Prop where
 below:Am B w W
 b0:W.heap[B]?=J (Ag C 101 (0,0))
 h5:W.heap[b5]?=J (Ag #[I (J ⟨g,0,Z⟩) out.length out.length] 50 (0,0))
 row:RowAt W g out
 h6:∃v,W.heap[b6]?=J (Ag #[v] 50 (0,0))/\Tail W B v (yr q)/\∀z,v.ownBlock=J z->z≠g/\¬No z
 l5:B<b5
 l6:B<b6
 lg:B<g
 n56:b5≠b6
section
variable {B b5 b6 g:Nat} {No:Nat->Prop} {C:Array Au} {out:List Int} {q:List Nat} {w W W':Ba}
theorem kY{base:Nat}{v:Au}{xs:List Int}(h:Tail W base v xs){k:Nat}{cs:Array Au}{t:TypeId}(hk:W.heap[k]?=J (Ag cs t (0,0)))(ht:t≠3):v.ownBlock≠J k:=fun e=>by
 obtain⟨cur,hc⟩:=h.cells k e;rw[hk] at hc
 cases hc
 exact ht rfl
theorem FlIn.ne5(h:FlIn B b5 b6 g No C out q w W):b5≠g:=fun e=>by
 have h1:=h.h5;rw[e,h.row] at h1;injection h1 with h1
 injection h1 with _ h2 _
 exact absurd h2 (by decide)
theorem FlIn.ne6(h:FlIn B b5 b6 g No C out q w W):b6≠g:=fun e=>by
 obtain⟨v,h1,_⟩:=h.h6;rw[e,h.row] at h1;injection h1 with h1
 injection h1 with _ h2 _
 exact absurd h2 (by decide)
theorem FlIn.on(h:FlIn B b5 b6 g No C out q w W)(hb:Am W.heap.size W W'):FlIn B b5 b6 g No C out q w W':=by
 obtain⟨v,h1,h2,h3⟩:=h.h6;have hB:=zj h.b0;exact⟨h.below.trans (hb.mono (by omega)),La hb h.b0,La hb h.h5,Lb hb h.row.lt h.row,⟨v,La hb h1,h2.same fun k e=>hb.block _ (h2.lt k e).2,h3⟩,h.l5,h.l6,h.lg,h.n56⟩
theorem FlIn.reno{No':Nat->Prop}(h:FlIn B b5 b6 g No C out q w W)(hn:∀z,No' z->No z\/W.heap.size<=z):FlIn B b5 b6 g No' C out q w W:=by
 obtain⟨v,h1,h2,h3⟩:=h.h6;refine⟨h.below,h.b0,h.h5,h.row,⟨v,h1,h2,fun z e=>⟨(h3 z e).1,fun hz=>?_⟩⟩,h.l5,h.l6,h.lg,h.n56⟩;rcases hn z hz with h4 | h4
 . exact(h3 z e).2 h4
 have:=(h2.lt z e).2;omega
theorem FlIn.turn{row:Option Nat}(h:FlIn B b5 b6 g No C out q w W)(hg:W.grownBy W' row)(hr:∀r,row=J r->B<=r/\∃o:Obj,W.heap[r]?=J o/\o.isCells=Aw):FlIn B b5 b6 g No C out q w W':=by
 obtain⟨v,h1,h2,h3⟩:=h.h6;have hB:=zj h.b0
 refine⟨h.below.grown hg (by omega) (fun k hk=>(hr k hk).1),(LN hg (fun r e=>(hr r e).2) h.b0 rfl).trans h.b0,(LN hg (fun r e=>(hr r e).2) h.h5 rfl).trans h.h5,
  (LN hg (fun r e=>(hr r e).2) h.row rfl).trans h.row,⟨v,(LN hg (fun r e=>(hr r e).2) h1 rfl).trans h1,h2.same fun k e=>?_,h3⟩,h.l5,h.l6,h.lg,h.n56⟩
 obtain⟨cur,hc⟩:=h2.cells k e;exact(LN hg (fun r e=>(hr r e).2) hc rfl)
theorem FlIn.set(h:FlIn B b5 b6 g No C out q w W)(k:Nat)(u:Int):FlIn B b5 b6 g No C (out.set k u) q w (W.setCell ⟨g,k,Z⟩ (O U u)):=by
 obtain⟨v,h1,h2,h3⟩:=h.h6;have hlg:=h.lg;have old:∀j,j≠g->(W.setCell ⟨g,k,Z⟩ (O U u)).heap[j]?=W.heap[j]?:=fun j hj=>Le W ⟨g,k,Z⟩ _ j hj
 have n1:=h.ne5;have n2:=h.ne6;exact⟨h.below.setCell (by show B<=g;omega) _,(old _ (by omega)).trans h.b0,by rw[RL];exact(old _ n1).trans h.h5,h.row.set k u,⟨v,(old _ n2).trans h1,h2.same fun j e=>old j (h3 j e).1,h3⟩,h.l5,h.l6,hlg,h.n56⟩
theorem FlIn.wait{q':List Nat}{v v':Au}(h:FlIn B b5 b6 g No C out q w W)(h6:W.heap[b6]?=J (Ag #[v] 50 (0,0)))(hb:Am B W W')(hs:∀j,j<W.heap.size->v.ownBlock≠J j->W'.heap[j]?=W.heap[j]?)(hv:Tail W B v (yr q))(DG:∀z,v.ownBlock=J z->z≠g/\¬No z)
  (pF:Tail W' B v' (yr q')) (fO:v'.ownBlock=v.ownBlock\/∃z,v'.ownBlock=J z/\W.heap.size<=z) (hNo:∀z,No z->z<W.heap.size):FlIn B b5 b6 g No C out q' w (W'.setCell ⟨b6,0,Z⟩ v'):=by
 have hB:=zj h.b0;have Id:=h.l6;have o0:=(hs B (by omega) (kY hv h.b0 (by decide))).trans h.b0;have o5:=(hs b5 (zj h.h5) (kY hv h.h5 (by decide))).trans h.h5;have og:W'.heap[g]?=_:=(hs g h.row.lt (fun e=>(DG g e).1 rfl)).trans h.row;have o6:=(hs b6 (zj h6) (kY hv h6 (by decide))).trans h6;have n1:=h.ne5;have n2:=h.ne6;have n3:=h.n56;obtain⟨x1,x2,x3⟩:=qv o6 v';have hglt:=h.row.lt;refine⟨(h.below.trans hb).setCell (by show B<=b6;omega) _,(x3 _ (by omega)).trans o0,(x3 _ n3).trans o5,(x3 _ (N9 n2)).trans og,⟨v',x1,pF.same fun j e=>x3 j (fun e2=>kY pF o6 (by decide) (by rw[e,e2])),fun z e=>?_⟩,h.l5,h.l6,h.lg,n3⟩;rcases fO with h1 | ⟨z',h1,h2⟩
 . exact DG z (by rw[<-h1];exact e)
 rw[h1] at e
 cases e
 exact⟨by omega,fun h4=>by have:=hNo _ h4;omega⟩
end
theorem clone_own(A:Bb)(cap:Nat)(xs:List Int)(w:Ba)(hA:IAt w w.heap.size A xs)(hl:xs.length<=1000000) :
  An Al 80 #[I A xs.length cap] w fun e w'=>∃v,e=Ak v/\Own w' w.heap.size v xs/\Am w.heap.size w w':=
 (XH A xs.length cap (xs.map (O U)) w (by simp) (Jq hA) (Jr xs) hl).mono fun e w' ⟨v,h1,h2,h3⟩=>⟨v,h1,h2,h3⟩
theorem JF(n:Nat)(h1:1<=n)(hn:n<=100000)(Ap:Bb)(kp bC bM:Nat)(ps:List Nat)(rF:ps.length<=100)(cls:Nat->List Int)(L:List Nat)(hL:∀x∈L,x<n)(hLl:L.length<=100000)(AL:Bb)(cl:Nat)(w:Ba)
  (hS:StAt w w.heap.size Ap bC bM n ps cls) (hI:IAt w w.heap.size AL (yr L)) :
  An Al 45 #[.agg (stC n Ap ps.length kp bC bM),I AL L.length cl] w fun e w'=>∃(out:List Int) (g:Nat),e=Ak (I (J ⟨g,0,Z⟩) n n)/\w.heap.size<=g/\RowAt w' g out/\out.length=n/\Far n (qB ps cls) (fun i=>i∈L) (fun i=>out.getD i 0)/\Am w.heap.size w w':=by
 have HS:=zH hS;have HI:=zH hI;have HL:=zH hL;have lT:=zH (fun (i:Nat) (hi:i<n) (bx bp:Nat) (X:Ba) (hx:X.heap[bx]?=J (Ag (stC n Ap ps.length kp bC bM) 101 (0,0))) (hp:X.heap[bp]?=J (Ag #[O U (i:Int)] 3 (0,0))) (hSX:StAt X w.heap.size Ap bC bM n ps cls) (hB:w.heap.size<=X.heap.size)=>Xo n i hn hi Ap kp bC bM ps rF cls w.heap.size bx bp X hx hp hSX hB);have oF:=zH (fun (i:Int) (X:Ba)=>Jc n Ap ps.length kp bC bM i X);unfold stC at lT oF ⊢;clear hS hI hL;refine yg func45 rfl ?_;simp only[ntmps45,List.size_toArray,List.length_cons,List.length_nil,Nat.reduceAdd,Nat.reduceSub,Array.replicate_succ,Array.replicate_zero,List.push_toArray,List.append_toArray,List.nil_append,List.cons_append];go_wp2_with fail;obtain⟨w2,bh,d0,d1,cM,hB⟩:=yI w #[O U (n:Int),I Ap ps.length kp,.map (J bC),.map (J bM)] #[O U (-1)] 101 3;rw[bh];refine(gO n (w.heap.size+1) h1 hn (-1) w2 d1).mono ?_;rintro e w3 ⟨g,rfl,ov,ah,aG⟩;go_wp2_with fail;have fG:=zW w3 (Ag #[I (J ⟨g,0,Z⟩) n n] 50);obtain⟨w4,fh,e4,iy,_⟩:=zn w3 #[I (J ⟨g,0,Z⟩) n n] 50;rw[fh] at fG ⊢;have aD:Am w.heap.size w w4:=(hB.trans (aG.mono (by omega))).trans (fG.mono (by have:=aG.size;omega));have aA:=clone_own AL cl (yr L) w4 ((HI.out.keep aD).more aD.size) (by rw[zK];omega);rw[zK] at aA;refine aA.mono ?_;rintro e w5 ⟨v,rfl,na,ea⟩
 have hFL:FlIn w.heap.size w3.heap.size w5.heap.size g (fun _=>False) #[O U (n:Int),I Ap ps.length kp,.map (J bC),.map (J bM)] (xZ n []) L w (w5.alloc (Ag #[v] 50)):=by
  have cz:=aG.size;have cY:=ea.size;have dC:=ah.lt;have k0:w5.heap[w.heap.size]?=_:=Lb ea (by omega) (Lb fG (by omega) (Lb aG (by omega) d0));have kg:w5.heap[g]?=_:=Lb ea (by omega) (Lb fG (by omega) ah);have k5:=Lb ea (by omega) e4;refine⟨(aD.trans (ea.mono (by omega))).trans ((zW w5 _).mono (by omega)),yD k0 _,?_,?_,⟨v,zx w5 _,(Tail.of_own ((na.low (by omega)).alloc _)),fun z e=>⟨?_,fun h=>h⟩⟩,by omega,by omega,by omega,by omega⟩
  . rw[qY];exact yD k5 _
  . rw[initL_nil];exact yD kg _
  have:=(na.lt _ e).1;omega
 obtain⟨A5,c5,rfl,_,_,_⟩:=na.form;rw[zK];obtain⟨b6,cB⟩:=Kj w5.heap.size;obtain⟨b5,am⟩:=Kj w3.heap.size;rw[cB,am] at hFL;have Bp:=zH hFL;clear hFL fh fG e4 iy aD aA na ea bh d0 d1 hB aG ah;go_wp2_with fail;obtain⟨w6,oJ⟩:=Kj (w5.alloc (Ag #[.slice A5 (yr L).length c5] 50));rw[zK] at oJ;rw[zK,oJ] at Bp;rw[oJ];clear oJ cB am cM ov
 go_loopw [19] (fun j wr=>∃k:Nat,k<=L.length/\j=O U (k:Int)/\As (FlIn w.heap.size b5 b6 g (fun _=>False) #[O U (n:Int),I Ap ps.length kp,.map (J bC),.map (J bM)] (xZ n (L.take k)) L w wr)) (fun j _=>L.length-(Ar j).toNat)
 case atStart=>exact⟨0,by omega,rfl,by rw[Pu];exact Bp.out⟩
 obtain⟨k,hk,rfl,hF⟩:=hrel;clear Bp
 by_cases hlt:k<L.length
 . obtain⟨b,o,eA,aY,z⟩:=(HI.out.keep hF.out.below).at_ k (by rw[zK];exact hlt)
   rw[ZA] at z;subst eA;obtain⟨x,hx⟩:=Kj (L[k]);have Tm:x<n:=by rw[<-hx];exact HL.out _ (Lh hlt)
   rw[hx] at z;have cH:=hF.out.set x 0;rw[initL_set n _ x Tm,<-hx,<-Ls hlt] at cH;rw[hx] at cH;have c5':=zh hF.out.h5 0 rfl;rw[qY] at c5';have rr:=hF.out.row.cell x (by rw[qY];exact Tm);have fr:=hF.out.row.froz x;have dq:=zH cH;have dg:(0:Int)<=(k:Int):=by omega
   have aM:(k:Int)<(L.length:Int):=by omega
   have oH:(0:Int)<=(x:Int):=by omega
   have sa:(x:Int)<(n:Int):=by omega
   clear cH hx;go_wp2_with fail
   go_roundw
   case rel=>exact⟨k+1,by omega,by go_num,dq.out⟩
   simp[Ar];omega
 obtain rfl:k=L.length:=by omega
 rw[LK] at hF;have Nx:Bfs n (qB ps cls) (fun i=>i∈L) (xZ n L) L:=Bfs.start L (xZ n L) (qY n L) (fun i hi=>initL_at n L i hi) HL.out (fun i _=>Iff.rfl);go_wp2_with fail;have ck:=zH Nx
 have VX:((xZ n L).filter (fun y=>decide (y<0))).length+L.length<=200000:=by
  have:=NV (fun y=>decide (y<0)) (xZ n L);rw[qY] at this;omega
 refine wp_loop_ghost (fun (m:Nat) (a':Act) (w':Ba)=>∃(ds:List Deferred) (out:List Int) (q:List Nat) (u8 u9 Dz Dy Dx Kw Kv Ku Kt Ks Kr Kq Ko Kn Km Kl Kk J' I':Au),(m=(out.filter (fun y=>decide (y<0))).length+q.length/\m<=200000/\As (FlIn w.heap.size b5 b6 g (fun _=>False) #[O U (n:Int),I Ap ps.length kp,.map (J bC),.map (J bM)] out q w w')/\As (Bfs n (qB ps cls) (fun i=>i∈L) out q)/\As (Marks w.heap.size ds w'))/\a'={ tmps:=#[Ai #[O U (n:Int),I Ap ps.length kp,.map (J bC),.map (J bM)],I AL L.length cl,Aj (J ⟨w.heap.size,0,Z⟩),undef,I Z 0 0,Aj (J ⟨b5,0,Z⟩),Aj (J ⟨b6,0,Z⟩),undef,u8,u9,undef,I (J ⟨w.heap.size+1,0,Z⟩) 1 1,Aj (J ⟨w.heap.size,0,Z⟩),O U (n:Int),I (J ⟨g,0,Z⟩) n n,I AL L.length cl,I A5 L.length c5,I AL L.length cl,O U (L.length:Int),O U (L.length:Int),Ah Aw,Dz,Dy,Dx,Kw,Kv,Ku,Kt,Ks,Kr,Kq,Ko,Kn,Km,Kl,Kk,J',I',undef,undef,undef,undef,undef,undef,undef,undef,undef,undef,undef,undef,undef,undef,undef,undef,undef,undef,undef,undef,undef,undef],defers:=ds }) (((xZ n L).filter (fun y=>decide (y<0))).length+L.length) ?_ ?_
 . exact⟨[],xZ n L,L,_,_,_,_,_,_,_,_,_,_,_,_,_,_,_,_,_,_,_,⟨rfl,VX,hF,ck,Marks.nil _ _⟩,rfl⟩
 clear hF ck Nx hk hlt;rintro m a' W ⟨ds,out,q,u8,u9,Dz,Dy,Dx,Kw,Kv,Ku,Kt,Ks,Kr,Kq,Ko,Kn,Km,Kl,Kk,J',I',⟨hm,hm20,HF,ck,MK⟩,rfl⟩;obtain⟨v,DH,KT,DG⟩:=HF.out.h6;obtain⟨Aq,cq,rfl,mZ,hq2,VD⟩:=KT.form;rw[zK] at DH;have c6:=zh DH 0 rfl;have c5':=zh HF.out.h5 0 rfl;have iU:=ck.out.len;rw[iU] at c5'
 cases q with
 | nil=>
  have Br:=zH ck.out.far;clear lT oF HS HI HL DH KT DG mZ hq2 VD;go_wp2_with fail;refine yo MK.out (v:=I (J ⟨g,0,Z⟩) n n) (fun W=>by kernel_rfl) ?_;intro X hX;refine⟨out,g,rfl,Px HF.out.lg,?_,iU,Br.out,HF.out.below.trans hX.below⟩;exact hX.same _ _ HF.out.row rfl
 | cons h q'=>
  have Fn:=ck.out.pop;have CL:=Fn.hlt;obtain⟨bq,oq,eAq,hbq,zq⟩:=VD.at_ 0 (by rw[zK];simp);rw[ZA] at zq;have zq:W.cell? ⟨bq,oq,Z⟩=J (O U (h:Int)):=by simpa using zq
  have KS:Tail W w.heap.size (I Aq ((yr q').length+1) cq) ((h:Int)::yr q'):=KT;obtain⟨A2,dm,Aa,VL⟩:=KS.cut;rw[zK] at Aa VL dm;subst eAq;have KU:W.heap[b6]?=J (Ag #[I (J ⟨bq,oq,Z⟩) (q'.length+1) cq] 50 (0,0)):=DH;have c6':W.cell? ⟨b6,0,Z⟩=J (I (J ⟨bq,oq,Z⟩) (q'.length+1) cq):=c6;have hq1':q'.length+1<=cq:=by simpa[zK] using mZ
  have hgW:=HF.out.row.lt;have Df:=zH Fn
  have IE:As (Tail W w.heap.size (I (J ⟨bq,oq,Z⟩) (q'.length+1) cq) (yr (h::q'))):=by
   have:=KT;rw[zK] at this;exact this
  have UA:As (∀z,(I (J ⟨bq,oq,Z⟩) (q'.length+1) cq).ownBlock=J z->z≠g/\¬False):=by
   have:=DG;rw[zK] at this;exact this
  have Gz:=zH Aa;have HOB:=zH VL;have Gx:=zH KU
  have HM2:As (q'.length<=200000):=by
   show q'.length<=200000;rw[Lx] at hm;omega
  have HM:As (m=(out.filter (fun y=>decide (y<0))).length+(q'.length+1)):=hm;clear Fn c6 DH VD mZ KT KS Aa DG VL KU hm;go_upto_region 10 with fail
  obtain⟨W1,dj,d9,ce,aV⟩:=zn W #[O U (h:Int)] 3;rw[dj];obtain⟨b9,dL⟩:=Kj W.heap.size;have g6:=La aV Gx.out;have li:=HF.out.on aV;have Id:=zj Gx.out;have hl69:b6<b9:=by omega
  have c61:=zh g6 0 rfl;have f61:=zi g6 0;rw[dL] at d9 ce ⊢;have Hc:=zH d9;have ib:=zH aV;have nm:=zH g6;clear dj d9 c6' aV zq g6 li;go_upto_region 11 with fail
  obtain⟨W2,dZ⟩:=Kj (W1.setCell ⟨b6,0,Z⟩ (I A2 q'.length (cq-1)));rw[dZ];have Mn:b9≠b6:=by omega
  have hF2:FlIn w.heap.size b5 b6 g (fun z=>z=b9) #[O U (n:Int),I Ap ps.length kp,.map (J bC),.map (J bM)] out q' w W2:=by
   rw[<-dZ];have hFr:=(HF.out.reno (No':=fun z=>z=b9) (fun z hz=>.inr (by omega)));have hFo:=hFr.on ib.out;exact hFo.wait nm.out (Ll _ _) (fun _ _ _=>rfl) (IE.out.same fun j e=>ib.out.block j ((IE.out.lt j e).2)) (fun z e=>⟨(UA.out z e).1,fun e2=>by have:=(IE.out.lt z e).2;omega⟩) (Gz.out.same fun j e=>ib.out.block j (Gz.out.lt j e).2) (.inl HOB.out) (fun z hz=>by omega)
  have WQ:W2.heap[b9]?=J (Ag #[O U (h:Int)] 3 (0,0)):=by rw[<-dZ];exact(Le W1 ⟨b6,0,Z⟩ _ b9 Mn).trans Hc.out
  have cM:W2.heap.size=b9+1:=by rw[<-dZ];simp[World.setCell];exact ce
  have OV:As (Marks w.heap.size ds W2):=xQ (w:=W) MK.out fun y hy=>by
   rw[<-dZ];refine(Le W1 ⟨b6,0,Z⟩ _ y (fun e=>?_)).trans ((ib.out.block y (by rw[dL];have:=(Ln.1 hy).1;omega)).trans hy);have e':y=b6:=e;rw[e',Gx.out] at hy;cases hy
  have ia:=zH hF2;have SS:=zH WQ;obtain⟨p0,p1,p2,p3,_⟩:=Ka hF2.b0;have z9:=zh WQ 0 rfl;clear hF2 WQ dZ Hc ib nm c61 f61 HF IE UA Gz HOB Gx MK dm;go_wp2_with fail;refine(oF.out (h:Int) W2).mono ?_;rintro e W3 ⟨rfl,ii⟩;obtain⟨V3,y',y0,y1,cz,aG⟩:=yI W2 #[O U (n:Int),I Ap ps.length kp,.map (J bC),.map (J bM)] #[O U (h:Int)] 101 3;rw[ii] at y';subst y';have K8:W3.heap.size=W2.heap.size+2:=by rw[<-ii];simp
  rw[cM] at y0 y1 K8 ⊢;have G':=zH ((ia.out.reno (No':=fun z=>b9<=z/\z<=b9+1+1) (fun z hz=>if e:z=b9 then .inl e else .inr (by omega))).on aG);have Do:=zH (Lb aG (by omega:b9<W2.heap.size) SS.out);have Gs:As (Marks w.heap.size ds W3):=xQ (w:=W2) OV.out fun y hy=>(aG.block y (Ln.1 hy).1).trans hy
  have hBW:w.heap.size<b9:=by have:=zj ia.out.b0;have:=ia.out.l6;omega
  have hgl9:g<b9:=by rw[<-dL];exact hgW
  have dG:=zH (lT.out h CL (b9+1) (b9+1+1) W3 y0 y1 (HS.out.keep G'.out.below) G'.out.below.size);clear ii y0 y1 cz aG SS OV ia p0 p1 p2 p3 z9 lT oF HI;go_wp2_with fail
  refine qp rfl (NA func81 (by kernel_rfl) rfl) dG.out (by rintro x (h | rfl | rfl)<;>omega) (fun _=>rfl)
   (fun (pre:List { x:Nat×Nat // x∈zU ps cls h }) (X:Ba)=>∃(dN:List Int) (q2:List Nat),FlIn w.heap.size b5 b6 g (fun z=>b9<=z/\z<=b9+1+1) #[O U (n:Int),I Ap ps.length kp,.map (J bC),.map (J bM)] dN q2 w X/\BfsH n (qB ps cls) (fun i=>i∈L) h (pre.map fun x=>x.1.1) dN q2/\(dN.filter (fun y=>decide (y<0))).length+q2.length=(out.filter (fun y=>decide (y<0))).length+q'.length/\X.heap[b9]?=J (Ag #[O U (h:Int)] 3 (0,0))/\W3.heap.size<=X.heap.size/\(∀y:Nat,W3.heap[y]?=J (Obj.deferred (J []))->X.heap[y]?=J (Obj.deferred (J []))))
   (fun _ _ _=>False)
   ?hI (fun _ _ _ _ _ h _ _=>h)
   ⟨out,q',G'.out,Df.out,rfl,Do.out,Ld _,fun _ h=>h⟩ (fun x=>#[O U x.1,O U x.2]) 106 ?a1 ?assign ?body ?done ?stop (fun _ _ h=>by obtain⟨_,_,_,_,_,_,h5,_⟩:=h;exact h5)
  case hI=>
   rintro pre X X' row ⟨dN,q2,k1,k2,k3,k4,k5,k6⟩ hg hr;refine⟨dN,q2,k1.turn hg (fun r e=>⟨by have:=(hr r e).1;omega,(hr r e).2⟩),k2,k3,(LN hg (fun r e=>(hr r e).2) k4 rfl).trans k4,Lu k5 hg.size,fun y hy=>?_⟩;have EW:=k6 y hy;have lw:=(Ln.1 hy).1;exact(hg.block y (by omega) (fun e=>by have:=(hr y e.symm).1;omega)).trans EW
  case assign=>
   intro l pre x X K' hI hK;obtain⟨g',fO⟩:∃g',g'=X.heap.size:=⟨_,rfl⟩;obtain⟨dN,q2,k1,k2,k3,k4,k5,k6⟩:=hI;have HK:=zH (hK g' fO ⟨dN,q2,k1.on (zW X _),k2,k3,yD k4 _,by simp;omega,fun y hy=>(Nj X _ y (Ln.1 (k6 y hy)).1).trans (k6 y hy)⟩);have HG:=zH fO;clear hK fO k1 k2 k3 k4 k5 k6;gi_wp2;rw[<-HG.out];exact HK.out
  case body=>
   rintro l pre x g9 W4 WH dK ⟨dN,q2,k1,k2,k3,k4,k5,k6⟩ hlt;obtain⟨sV,fL,sf⟩:=(kB HS.out.len).1 x.2;obtain⟨t,ht⟩:=Kj x.1.1;obtain⟨p,hp⟩:=Kj x.1.2;rw[ht] at sV sf dK;rw[hp] at fL sf dK;have FZ:qB ps cls t h:=⟨p,fL,sf⟩;have pK:(pre++[x]).map (fun x=>x.1.1)=pre.map (fun x=>x.1.1)++[t]:=by rw[LF,L4,Nd,ht]
   have c5:=zh k1.h5 0 rfl;rw[k2.len] at c5;have lA:t<dN.length:=by rw[k2.len];exact sV
   have hhl:h<dN.length:=by rw[k2.len];exact CL
   have rt:=k1.row.cell t lA;rw[<-ye lA 0] at rt;obtain⟨ot,TB⟩:=Kj (dN.getD t 0);rw[TB] at rt;have g0:=zh dK 0 rfl;have BF:(0:Int)<=(t:Int):=by omega
   have rz:(t:Int)<(n:Int):=by omega
   have K1:=zH k1;have K2:=zH k2;have K3:=zH k3;have K4:=zH k4;have K6:=zH k6;have HPR:=zH pK;have HAD:=zH FZ
   by_cases CF:ot<0
   case neg=>
    clear k1 k2 k3 k4 k6 pK FZ dG G' Do Gs Df HM fL sf;gi_wp2_with fail;refine⟨⟨Ld _,fun _ _ _ h _=>h⟩,KeepB.refl _ _,dN,q2,K1.out,?_,K3.out,K4.out,by omega,K6.out⟩;rw[HPR.out];exact K2.out.skip (by rw[TB];omega)
   case pos=>
    have rh:=k1.row.cell h hhl;rw[<-ye hhl 0] at rh;have VK:=k2.hge;have Mk:=Qt (f:=fun i=>dN.getD i 0) k2.step CL;obtain⟨oh,hoh⟩:=Kj (dN.getD h 0);change dN.getD h 0<(n:Int) at Mk;rw[hoh] at rh VK Mk;have eK:IntKind.i64.wrap (oh+1)=oh+1:=by rw[Lo];omega
    have ft:=k1.row.froz t;have z9:=zh k4 0 rfl;have hh0:(0:Int)<=(h:Int):=by omega
    have hh1:(h:Int)<(n:Int):=by omega
    have hlg:=k1.row.lt;clear k1 k2 k3 k4 k6 pK FZ dG G' Do Gs Df HM fL sf;gi_wp2_with fail;refine kn 9 (by kernel_rfl) (by kernel_rfl) (by kernel_rfl) (by rintro⟨_,_,h⟩;exact h) ?_;simp only[List.take_succ_cons,List.take_zero,List.drop_succ_cons,List.drop_zero]
    repeat still_step
    try refine wpStill_nil ?_
    change wpList _ _ _ _ _ W4.drew;go_wp2_with fail;have Dm:=zH ((K1.out.set t (oh+1)).on (W':=(W4.setCell ⟨g,t,Z⟩ (O U (oh+1))).drew) (Ll _ _).drew);have u':As (∀k,k≠g->(W4.setCell ⟨g,t,Z⟩ (O U (oh+1))).drew.heap[k]?=W4.heap[k]?):=fun k hk=>Le W4 ⟨g,t,Z⟩ _ k hk
    have hW5s:(W4.setCell ⟨g,t,Z⟩ (O U (oh+1))).drew.heap.size=W4.heap.size:=by simp[World.setCell]
    obtain⟨W5,dQ⟩:=Kj ((W4.setCell ⟨g,t,Z⟩ (O U (oh+1))).drew);rw[dQ] at Dm u' hW5s ⊢;have MR:=(u'.out g9 (by omega)).trans dK;have K45:=(u'.out b9 (by omega)).trans K4.out;have HK45:=zH K45;obtain⟨v5,Ts,Cr,E9⟩:=Dm.out.h6;obtain⟨UZ,Db,rfl,hq51,hq52,_⟩:=Cr.form;rw[zK] at Ts Cr E9;have c6:=zh Ts 0 rfl;have g05:=zh MR 0 rfl;have DS:=neg_set (out:=dN) (t:=t) (x:=oh+1) lA (by rw[TB];exact CF) (by omega)
    have sR:q2.length<=400000:=by
     have e1:=K3.out;have e2:(out.filter (fun y=>decide (y<0))).length<=n:=by rw[<-iU];exact NV _ _
     have e3:=HM2.out;omega
    have Ex:=zH Ts;have ri:=zH Cr;have Gv:=zH E9;have iP:=zH DS;clear dQ rt rh ft z9 g0 c5 dK MR K45 Cr E9 Ts DS
    gi_wp2_with (gi_at_builtin; go_must (refine YP _ rfl _ _ rfl w.heap.size (I UZ q2.length Db) (yr q2) (t : Int) (by simp [go_sem]) (ri.out.same fun j e => Below.heap_alloc W5 _ j (ri.out.lt j e).2) ⟨W5.heap.size, 0, Z⟩ (by simp [go_sem]) (zh (zx W5 _) 0 rfl) (by rw [zK]; omega) (by have := Dm.out.below.size; simp; omega) ?_); intro v' W7 tL iW dO
                 have dE:Am w.heap.size W5 W7:=(zW W5 (Ag #[O U (t:Int)] 3)).mono Dm.out.below.size |>.grown iW (by have:=Dm.out.below.size;simp;omega) (fun k hk=>(ri.out.lt k hk).1);have fC:∀j,j<W5.heap.size->(I UZ q2.length Db).ownBlock≠J j->W7.heap[j]?=W5.heap[j]?:=fun j hj az=>(iW.block j (by simp;omega) (fun e=>az e.symm)).trans (Nj W5 _ j hj)
                 have Ug:=(fC b6 (zj Ex.out) (kY ri.out Ex.out (by decide))).trans Ex.out;have q6:=zh Ug 0 rfl;have f6:=zi Ug 0;have l6:=zj Ug;obtain⟨A7,k7,rfl,h71,h72,_⟩:=tL.form;have HT7:=zH tL;have pD:=zH dE;have GG:=zH fC;have dl:=zH dO
                 clear Ug tL iW dO dE fC)
    have pF:Tail W7 w.heap.size (I A7 ((yr q2).length+1) k7) (yr (q2++[t])):=by
     have:=HT7.out;rw[Lr,Nm] at this;rw[Js];exact this
    have hsB:=Dm.out.below.size
    have Ig:(I A7 ((yr q2).length+1) k7).ownBlock=(I UZ q2.length Db).ownBlock\/∃z,(I A7 ((yr q2).length+1) k7).ownBlock=J z/\W5.heap.size<=z:=by
     have:=dl.out;rw[Lr,Nm] at this;exact this.imp id fun e=>⟨_,e,by simp⟩
    have KI:=Dm.out.wait (q':=q2++[t]) Ex.out pD.out GG.out ri.out Gv.out pF Ig (fun z hz=>by omega);have l65:=zj Ex.out
    have ch:∀k,k<W4.heap.size->k≠g->k≠b6->(I UZ q2.length Db).ownBlock≠J k->(W7.setCell ⟨b6,0,Z⟩ (I A7 ((yr q2).length+1) k7)).heap[k]?=W4.heap[k]?:=fun k hk h1 h2 h3=>
     (Le W7 ⟨b6,0,Z⟩ _ k h2).trans ((GG.out k (by omega) h3).trans (u'.out k h1))
    have hszf:(W7.setCell ⟨b6,0,Z⟩ (I A7 ((yr q2).length+1) k7)).heap.size=W7.heap.size:=by simp[World.setCell]
    have hs57:=pD.out.size;have Mp:=K1.out.ne6;obtain⟨v4,hv4,_,_⟩:=K1.out.h6
    have tz:∀(k:Nat) (o:Obj),W4.heap[k]?=J o->o.isCells=Aw->(W7.setCell ⟨b6,0,Z⟩ (I A7 ((yr q2).length+1) k7)).heap[k]?=J o:=fun k o hk ho=>by
     have e1:k≠g:=by rintro rfl;have:=K1.out.row;unfold RowAt at this;rw[this] at hk;cases hk;cases ho
     have e2:k≠b6:=by rintro rfl;rw[hv4] at hk;cases hk;cases ho
     refine(ch k (zj hk) e1 e2 fun e=>?_).trans hk;obtain⟨cur,hc⟩:=ri.out.cells k e;rw[(u'.out k e1).trans hk] at hc
     cases hc;cases ho
    refine⟨⟨by omega,fun k o _ hk ho=>tz k o hk ho⟩,⟨by omega,fun k hk hl=>by
     have en:k<w.heap.size\/k=b9+1\/k=b9+1+1:=hk;have y1:=Dm.out.lg;have y2:=Dm.out.l6
     exact ch k hl (by omega) (by omega) (fun e=>by have h1:=(ri.out.lt k e).1;have h2:=(Gv.out k e).2;omega)⟩,dN.set t (oh+1),q2++[t],KI,?_,?_,?_,by omega,fun y hy=>tz y _ (K6.out y hy) rfl⟩
    . rw[HPR.out,<-hoh]
      exact K2.out.see sV HAD.out (by rw[TB];exact CF)
    . have h1:=iP.out
      have h2:=K3.out;rw[Lr,Nm];omega
    . refine(ch b9 (by omega) (by omega) (by omega) (fun e=>?_)).trans K4.out
      have h2:=(Gv.out b9 e).2;omega
  case done=>
   rintro D ys W4 hD eJ ⟨dN,q2,k1,k2,k3,k4,k5,k6⟩ eq;have ny:ys.map (fun x=>x.1.1)=(zU ps cls h).map (·.1):=by rw[show ys.map (fun x=>x.1.1)=(ys.map (·.1)).map (·.1) by rw[PP];rfl,eJ]
   have tZ:=k2.close (fun i hi ha=>by rw[ny];exact(nbr_adj HS.out.len hi).2 ha);have pC:=zH (k1.reno (No':=fun _=>False) (fun z hz=>hz.elim));have HBF4:=zH tZ;have Ut:As (Marks w.heap.size ({ target:=.collected D,args:=#[] }::ds) W4):=Marks.cons Gs.out (fun y hy=>k6 y hy) G'.out.below.size hD eq;clear ny tZ k1 k2 k4 k6 eJ eq dG G' Do Gs Df
   try dsimp only
   go_wp2_with fail;refine⟨_,?_,_,dN,q2,_,_,_,_,_,_,_,_,_,_,_,_,_,_,_,_,_,_,_,⟨rfl,by have:=HM.out;omega,pC.out,HBF4.out,Ut.out⟩,rfl⟩;rw[HM.out,k3];omega
  case stop=>
   intro D c pre W _ _ h;exact h.elim
end
section
open Go.RowKit Go.Shelf
attribute [local go_sem] Oper.semAt_some
def jI(a b:List Int)(k:Nat):List Int:=a.take k++b.drop k
theorem Xp(a b:List Int):jI a b 0=b:=by simp[jI]
theorem Ji{a b:List Int}(h:a.length=b.length){k:Nat}(hk:k=b.length):jI a b k=a:=by subst hk;simp[jI,<-h]
theorem uJ{a b:List Int}(h:a.length=b.length)(k:Nat):(jI a b k).length=b.length:=by simp[jI];omega
theorem Qk{a b:List Int}(h:a.length=b.length){k:Nat}(hk:k<b.length):(jI a b k)[k]'(by rw[uJ h];exact hk)=b[k]:=by
 unfold jI;rw[NU (by simp;omega)];simp[show min k a.length=k by omega]
theorem Jh{a b:List Int}(h:a.length=b.length){k:Nat}(hk:k<=b.length)(i:Nat):(jI a b k)[i]?=if i<k then a[i]? else b[i]?:=by
 unfold jI
 by_cases e:i<k
 . rw[Lj e,LC (by simp;omega),NY,Lj e]
 rw[Lg e,Ly (by simp;omega),Sc]
 congr 1
 simp;omega
theorem Yk{a b:List Int}(h:a.length=b.length){k:Nat}(hk:k<b.length):(jI a b k).set k (a[k]'(by omega))=jI a b (k+1):=by
 refine List.ext_getElem? fun i=>?_
 rw[Rs,Jh h (by omega),Jh h (by omega),uJ h]
 by_cases e:k=i
 . subst e
   rw[Lj rfl,Lj hk,Lj (by omega),Li]
 rw[Lg e]
 by_cases e2:i<k
 . rw[Lj e2,Lj (by omega)]
 rw[Lg e2,Lg (by omega)]
theorem Xq{a b:List Int}(h:a.length=b.length){k:Nat}(hk:k<b.length)(e:a[k]'(by omega)=b[k]):jI a b k=jI a b (k+1):=by
 rw[<-Yk h hk,e,<-Qk h hk];exact(List.set_getElem_self _).symm
def RetIA(xs:List Int)(n:Int)(w:Ba)(e:Ending)(w':Ba):Prop:=∃A c,e=Ak (.tuple #[I A xs.length c,O U n])/\IAt w' w'.heap.size A xs/\Am w.heap.size w w'
theorem RowAt.iat{w:Ba}{g:Nat}{xs:List Int}(h:RowAt w g xs):IAt w w.heap.size (J ⟨g,0,Z⟩) xs:=fun _=>⟨g,0,rfl,h.lt,fun i hi=>by rw[LI];exact h.cell i hi⟩
def YO(s:Sy)(g:Int)(set:List Bool)(w:Ba)(e:Ending)(w':Ba):Prop:=Am w.heap.size w w'/\((zw s g set≠0/\e=Ak (.tuple #[xx,I Z 0 0,O U (zw s g set)])) \/
 (zw s g set=0/\∃Ap kp bC bM AO co,e=Ak (.tuple #[.agg (stC (ptn s) Ap (psG s g).length kp bC bM),.slice AO (yv set).length co,O U 0])/\∀W,(∀k,w.heap.size<=k->k<w'.heap.size->W.heap[k]?=w'.heap[k]?)->StAt W w'.heap.size Ap bC bM (ptn s) (psG s g) (ya s)/\IAt W w'.heap.size AO (yr (yv set))))
theorem offE_take(set:List Bool)(k:Nat)(h:k<set.length):yv (set.take (k+1))=if set[k]=Aw then yv (set.take k)++[k] else yv (set.take k):=by
 rw[Ls h,offE_snoc,PV,RK (Px h)]
theorem jU(s:Sy)(hs:LowS s)(hf:yU s.p)(g:Int)(set:List Bool)(A SV AV AX AB:Bb)(kc ks kv kx kb:Nat)(w:Ba)(hS:SyAt w w.heap.size A SV AV AX s)(bG:BAt w w.heap.size AB set)(_dR:set.length<=1000000) :
  An Al 44 #[.agg (s.vs_ A kc SV ks AV kv AX kx),O U g,I AB set.length kb] w (YO s g set w):=by
 obtain⟨w1,ab,d0,d1,av,hB⟩:=yI w (s.vs_ A kc SV ks AV kv AX kx) #[O U 0,I Z 0 0,.map Z,.map Z] 39 101;have HR:=zH (read_any s hs hf g A SV AV AX kc ks kv kx w1 (hS.up hB));have HF:=zH (fun h=>xC (s:=s) (g:=g) hf h);have cj:=zH ((bG.keep hB).more hB.size);have be:As (zQ s g≠0->zw s g set=zQ s g):=fun h=>Lj h
 have ai:As (zQ s g=0->set.length≠ptn s->zw s g set=15):=fun h h1=>by unfold zw;rw[Lg (by simpa using h),Lj h1]
 have aj:As (zQ s g=0->set.length=ptn s->zw s g set=0):=fun h h1=>by unfold zw;rw[Lg (by simpa using h),Lg (by simpa using h1)]
 unfold YO stC xx;unfold RetSt stC xx at HR;unfold Sy.vs_ at ab d0 HR ⊢;obtain⟨r,hr⟩:=Kj (zQ s g);rw[hr] at HR HF be ai aj;obtain⟨R,de⟩:=Kj (zw s g set);rw[de] at be ai aj ⊢;have ag:=zH ab;have HB:=zH hB;have cy:=zH d1;obtain⟨p0,p1,p2,p3,p4,p5,p6,p7,p8,p9⟩:=zM d0;clear ab d0 d1 hB hS hr de hs hf bG;go_enter func44,ntmps44;go_wp2_with fail;rw[ag.out];go_wp2_with fail;refine HR.out.mono ?_;rintro e w2 ⟨ae,(⟨az,rfl⟩ | ⟨h0,Ap,kp,bC,bM,rfl,Oo⟩)⟩
 . have au:=zH (HB.out.trans (ae.mono (by omega)))
   have hR:As (R=r):=be.out az;have e0:(r != 0)=Av:=by simpa using az
   have d1:=Lb ae (by omega:w.heap.size+1<w1.heap.size) cy.out;have ff:=zH d1;clear p0 p1 p2 p3 p4 p5 p6 p7 p8 p9 ae HR ag HF be ai aj az d1 cy;go_upto_region 2 with fail
   obtain⟨w3,bL,d3,cz,aG⟩:=zn w2 #[O U 0,I Z 0 0,.map Z,.map Z] 101;rw[bL];have d1:=La aG ff.out;obtain⟨c0,c1,c2,c3,_⟩:=Ka d1;have f0:=zi d1 0;have f1:=zi d1 1;have f2:=zi d1 2;have f3:=zi d1 3;have l1:=zj d1;have od:=zH d1;have aC:=zH (Lc au.out aG);clear d1 ff bL d3 aG;go_wp2_with fail;obtain⟨W,hW,e1,_,e3⟩:=set4 od.out (O U 0) (I Z 0 0) (.map Z) (.map Z);rw[hW];obtain⟨q0,q1,q2,q3,_⟩:=Ka e1;refine LP (v:=.tuple #[xx,I Z 0 0,O U r]) (by simp[results,results44,go_sem,q0,q1,q2,q3,xx]) rfl ?_;rw[hR.out];exact⟨aC.out.trans (e3 _ (by omega)),.inl ⟨by simpa using e0,rfl⟩⟩
 have au:=zH (HB.out.trans (ae.mono (by omega)));have S2:=zH ((cj.out.keep ae).more ae.size);have cW:=zH (fun (W:Ba) (h:∀k,w1.heap.size<=k->k<w2.heap.size->W.heap[k]?=w2.heap[k]?)=>Oo W h);have nj:As (set.length≠ptn s->R=15):=fun h=>ai.out h0 h
 have iP:As (set.length=ptn s->R=0):=fun h=>aj.out h0 h
 obtain⟨f1,f2,f3⟩:=HF.out h0;have d1:=Lb ae (by omega:w.heap.size+1<w1.heap.size) cy.out;have ff:=zH d1;subst h0;obtain⟨PN,iL⟩:=Kj (ptn s);obtain⟨PS,lh⟩:=Kj (psG s g);rw[iL,lh] at cW;have lQ:=zH iL;have rT:=zH lh;have CS:=ae.size;rw[iL] at nj iP f1 f2;clear p0 p1 p2 p3 p4 p5 p6 p7 p8 p9 ae HR ag HF be ai aj Oo iL lh f3 d1 cy cj;go_upto_region 2 with fail
 rw[lQ.out,rT.out];obtain⟨w3,bL,d3,cz,aG⟩:=zn w2 #[O U (PN:Int),I Ap PS.length kp,.map (J bC),.map (J bM)] 101;rw[bL];have x0:=zh d3 0 rfl;have Gt:=zH d3;have sJ:=zH aG;have HBB3:=zH ((S2.out.keep aG).more aG.size);have d1:=La aG ff.out;have od:=zH d1;have aC:=zH (Lc au.out aG);obtain⟨c0,c1,c2,c3,_⟩:=Ka d1;have f0:=zi d1 0;have f1:=zi d1 1;have f2:=zi d1 2;have f3:=zi d1 3;have l1:=zj d1;clear bL d3 aG S2 ff d1 au
 by_cases hl:set.length=PN
 case neg=>
  have e1:((set.length:Int) != (PN:Int))=Av:=by simp;omega
  have hR:As (R=15):=nj.out hl;clear nj iP hl;go_wp2_with fail;obtain⟨W,hW,e1,_,e3⟩:=set4 od.out (O U 0) (I Z 0 0) (.map Z) (.map Z);rw[hW];obtain⟨q0,q1,q2,q3,_⟩:=Ka e1;refine LP (v:=.tuple #[xx,I Z 0 0,O U 15]) (by simp[results,results44,go_sem,q0,q1,q2,q3,xx]) rfl ?_;rw[hR.out];exact⟨aC.out.trans (e3 _ (by omega)),.inl ⟨by decide,rfl⟩⟩
 have e1:((set.length:Int) != (PN:Int))=Aw:=by rw[hl];simp
 have hR:As (R=0):=iP.out hl;clear nj iP hl;go_wp2_with fail
 go_loopw [11,32] (fun o i wr=>∃k:Nat,k<=set.length/\i=O U (k:Int)/\As (Own wr w3.heap.size o (yr (yv (set.take k))))/\As (Am w3.heap.size w3 wr)) (fun _ i _=>set.length-(Ar i).toNat)
 case atStart=>exact⟨0,by omega,rfl,Own.nil _ _,Ll _ _⟩
 obtain⟨k,hk,rfl,HO,hb⟩:=hrel
 by_cases hlt:k<set.length
 . obtain⟨b,off,eA,aY,z0⟩:=(HBB3.out.keep hb.out).at_ k hlt
   subst eA;have HT:=zH (offE_take set k hlt);obtain⟨y,hy⟩:=Kj (set[k]);rw[hy] at HT z0
   have aJ:(yr (yv (set.take k))).length<=1000000:=by
    rw[zK];have:=Yg (set.take k);simp at this;omega
   have dg:(0:Int)<=(k:Int):=by omega
   have aM:(k:Int)<(set.length:Int):=by omega
   clear hy c0 c1 c2 c3 f0 f1 f2 f3 x0
   cases y with
   | false=>
    have Gz:As (yv (set.take (k+1))=yv (set.take k)++[k]):=HT.out.trans (Lj rfl);clear HT;go_wp2_with (at_builtin;go_must (refine jL rfl _ _ rfl w3.heap.size u11 _ (k:Int) rfl HO.out rfl (by omega) hb.out.size ?_);intro v' w5 cA nC aF)
    go_roundw
    case rel=>exact⟨k+1,by omega,by go_num,by show Own _ _ _ _;rw[Gz.out];simpa[yr] using cA,hb.out.trans aF⟩
    case measure=>simp[Ar];omega
   | true=>
    have Gz:As (yv (set.take (k+1))=yv (set.take k)):=HT.out.trans (Lg (by simp));clear HT;go_wp2_with fail
    go_roundw
    case rel=>exact⟨k+1,by omega,by go_num,by rw[Gz.out];exact HO,hb⟩
    case measure=>simp[Ar];omega
 obtain rfl:k=set.length:=by omega
 have hO:=HO.out;rw[LK] at hO;obtain⟨AO,cO,eO,_,_,hI⟩:=hO.form;rw[zK] at eO;subst eO;have Bi:=zH hO;have d1:=Lb hb.out (by omega) od.out;have d3:=La hb.out Gt.out;have HD4:=zH d1;clear c0 c1 c2 c3 f0 f1 f2 f3 x0 od Gt hI hO HO hlt;obtain⟨c0,c1,c2,c3,_⟩:=Ka d1;have f0:=zi d1 0;have f1:=zi d1 1;have f2:=zi d1 2;have f3:=zi d1 3;have l2:=zj d1;obtain⟨x0,x1,x2,x3,_⟩:=Ka d3;clear d1 d3;go_wp2_with fail;obtain⟨W,hW,e1,e2,e3⟩:=set4 HD4.out (O U (PN:Int)) (I Ap PS.length kp) (.map (J bC)) (.map (J bM));rw[hW];obtain⟨q0,q1,q2,q3,_⟩:=Ka e1;refine LP (v:=.tuple #[Ai #[O U (PN:Int),I Ap PS.length kp,.map (J bC),.map (J bM)],.slice AO (yv set).length cO,O U 0]) (by simp[results,results44,go_sem,q0,q1,q2,q3]) rfl ?_;have aP:W.heap.size=wr.heap.size:=by rw[<-hW];simp[World.setCell]
 rw[lQ.out,rT.out];refine⟨(aC.out.trans (hb.out.mono (by omega))).trans (e3 _ (by omega)),.inr ⟨hR.out,Ap,kp,bC,bM,AO,cO,rfl,fun W9 h9=>⟨?_,?_⟩⟩⟩
 . refine(cW.out W9 fun q h1 h2=>?_).more (by have:=hb.out.size;omega)
   have:=hb.out.size;exact(h9 q (by omega) (by omega)).trans ((e2 q (by omega)).trans ((hb.out.block q (by omega)).trans (sJ.out.block q h2)))
 rw[aP];refine wC Bi.out fun q h1 h2=>(h9 q (by omega) (by omega)).trans (e2 q (by omega))
def RetBA(xs:List Bool)(n:Int)(w:Ba)(e:Ending)(w':Ba):Prop:=∃A c,e=Ak (.tuple #[I A xs.length c,O U n])/\BAt w' w'.heap.size A xs/\Am w.heap.size w w'
theorem Yc(s:Sy)(hs:LowS s)(hf:yU s.p)(g:Int)(set:List Bool)(A SV AV AX AB:Bb)(kc ks kv kx kb:Nat)(w:Ba)(hS:SyAt w w.heap.size A SV AV AX s)(bG:BAt w w.heap.size AB set)(dR:set.length<=1000000) :
  An Al 27 #[.agg (s.vs_ A kc SV ks AV kv AX kx),O U g,I AB set.length kb] w (RetIA (je s g set).1 (je s g set).2 w):=by
 obtain⟨w1,ab,d0,av,hB⟩:=zn w (s.vs_ A kc SV ks AV kv AX kx) 39;have HR:=zH (jU s hs hf g set A SV AV AX AB kc ks kv kx kb w1 (hS.up hB) ((bG.keep hB).more hB.size) dR);have HF:=zH (fun h=>xC (s:=s) (g:=g) hf h);have HG:=zH (fun h=>xz (s:=s) (g:=g) (set:=set) h);have be:As (zw s g set≠0->je s g set=([],zw s g set)):=fun h=>Lj h
 have ai:As (zw s g set=0->je s g set=(jl (ptn s) (qB (psG s g) (ya s)) (yv set),0)):=fun h=>by unfold je xN;rw[Lg (by simpa using h)]
 unfold YO stC xx at HR;unfold Sy.vs_ at ab d0 HR ⊢;obtain⟨r,hr⟩:=Kj (zw s g set);rw[hr] at HR HG be ai;obtain⟨R,de⟩:=Kj (je s g set);rw[de] at be ai ⊢;have ag:=zH ab;have HB:=zH hB;obtain⟨p0,p1,p2,p3,p4,p5,p6,p7,p8,p9⟩:=zM d0;clear ab d0 hB hS hr de hs hf bG;go_enter func27,ntmps27;go_wp2_with fail;rw[ag.out];go_wp2_with fail;refine HR.out.mono ?_;rintro e w2 ⟨ae,(⟨az,rfl⟩ | ⟨h0,Ap,kp,bC,bM,AO,cO,rfl,Ei⟩)⟩
 . have au:=zH (HB.out.trans (ae.mono (by omega)))
   have hR:As (R=([],r)):=be.out az;have e0:(r != 0)=Av:=by simpa using az
   clear p0 p1 p2 p3 p4 p5 p6 p7 p8 p9 ae HR ag HF be ai az HG;go_wp2_with fail;obtain⟨w3,bL,d3,cz,aG⟩:=zn w2 #[O U 0,I Z 0 0,.map Z,.map Z] 101;rw[bL];go_wp2_with fail
   go_ret2
   rw[hR.out];exact⟨Z,0,rfl,IAt.nil _ _ _,Lc au.out aG⟩
 have au:=zH (HB.out.trans (ae.mono (by omega)));have hR:As (R=(jl (ptn s) (qB (psG s g) (ya s)) (yv set),0)):=ai.out h0;obtain⟨g1,g2⟩:=HG.out h0;obtain⟨f1,f2,f3⟩:=HF.out g1;have tp:=zH (fun (X:Ba) (hX:StAt X X.heap.size Ap bC bM (ptn s) (psG s g) (ya s)) (hI:IAt X X.heap.size AO (yr (yv set)))=>JF (ptn s) f1 (by omega) Ap kp bC bM (psG s g) (by omega) (ya s) (yv set) (offE_lt g2) (by have:=Yg set;omega) AO cO X hX hI);unfold stC at tp;obtain⟨Oo,hO⟩:=Ei w2 fun _ _ _=>rfl
 have cW:=zH Oo;have HO:=zH hO;clear Ei;have GW:=zH (fun (f:List Int) (hl:f.length=ptn s) (h:Far (ptn s) (qB (psG s g) (ya s)) (fun i=>i∈yv set) (fun i=>f.getD i 0))=>uQ hl h);subst h0;obtain⟨PN,iL⟩:=Kj (ptn s);obtain⟨PS,lh⟩:=Kj (psG s g);rw[iL,lh] at hR tp cW GW ⊢;obtain⟨OL,Ir⟩:=Kj (yv set);rw[Ir] at hR tp GW HO ⊢;clear p0 p1 p2 p3 p4 p5 p6 p7 p8 p9 ae HR ag HF be ai Oo iL lh f1 f2 f3 g1 g2 HG hO Ir;go_wp2_with fail;obtain⟨w3,bL,d3,cz,aG⟩:=zn w2 #[O U (PN:Int),I Ap PS.length kp,.map (J bC),.map (J bM)] 101;rw[bL];obtain⟨x0,x1,x2,x3,_⟩:=Ka d3;have aC:=zH aG;have sC:=zH ((cW.out.keep aG).more aG.size);have mO:=zH ((HO.out.keep aG).more aG.size);clear bL d3 aG cW HO;go_wp2_with fail;refine(tp.out w3 sC.out mO.out).mono ?_;rintro e w4 ⟨out,g4,rfl,sk,l7,CJ,mw,aD⟩;have mL:=zH l7;have fB:=zH (au.out.trans ((aC.out.trans (aD.mono (by omega))).mono au.out.size));have fd:As (R=(out,0)):=by rw[As,hR.out,GW.out out CJ mw]
 have Sm:=zH CJ;clear l7 aD x0 x1 x2 x3 hR GW mw CJ;go_wp2_with fail
 go_ret2
 rw[fd.out];exact⟨J ⟨g4,0,Z⟩,PN,by rw[Sm.out];rfl,mL.out.iat,fB.out⟩
theorem held_any(s:Sy)(hs:LowS s)(hf:yU s.p)(g:Int)(set:List Bool)(A SV AV AX AB:Bb)(kc ks kv kx kb:Nat)(w:Ba)(hS:SyAt w w.heap.size A SV AV AX s)(bG:BAt w w.heap.size AB set)(dR:set.length<=1000000) :
  An Al 25 #[.agg (s.vs_ A kc SV ks AV kv AX kx),O U g,I AB set.length kb] w (RetBA (kM s g set).1 (kM s g set).2 w):=by
 obtain⟨w1,ab,d0,av,hB⟩:=zn w (s.vs_ A kc SV ks AV kv AX kx) 39;have HR:=zH (Yc s hs hf g set A SV AV AX AB kc ks kv kx kb w1 (hS.up hB) ((bG.keep hB).more hB.size) dR);have be:As (zw s g set≠0->je s g set=([],zw s g set)/\kM s g set=([],zw s g set)):=fun h=>⟨Lj h,Lj h⟩
 have ai:As (zw s g set=0->(je s g set).2=0/\(je s g set).1.length<=700/\kM s g set=((je s g set).1.map fun d=>decide (d<0),0)):=fun h=>by
  obtain⟨h1,h2⟩:=xz h;obtain⟨f1,f2,f3⟩:=xC hf h1;have BN:=far_ex (ptn s) (xN s g) (fun i=>i∈yv set);obtain⟨f,hl,mw⟩:=BN;have e1:je s g set=(f,0):=by unfold je;rw[Lg (by simpa using h),uQ hl mw]
  rw[e1];refine⟨rfl,by rw[hl];exact f2,?_⟩;unfold kM;rw[Lg (by simpa using h),Jw h2 mw hl (XR s g)]
 unfold Sy.vs_ at ab d0 HR ⊢;obtain⟨r,hr⟩:=Kj (zw s g set);rw[hr] at be ai;obtain⟨R,de⟩:=Kj (kM s g set);obtain⟨Q,hQQ⟩:=Kj (je s g set);rw[de,hQQ] at be ai;rw[de];rw[hQQ] at HR;have ag:=zH ab;have HB:=zH hB;obtain⟨p0,p1,p2,p3,p4,p5,p6,p7,p8,p9⟩:=zM d0;clear ab d0 hB hS hr de hs hf bG hQQ;go_enter func25,ntmps25;go_wp2_with fail;rw[ag.out];go_wp2_with fail;refine HR.out.mono ?_;rintro e w2 ⟨AO,cO,rfl,hI,ae⟩;have au:=zH (HB.out.trans (ae.mono (by omega)));have HI:=zH hI;clear p0 p1 p2 p3 p4 p5 p6 p7 p8 p9 ae HR ag hI
 by_cases h0:r=0
 . obtain⟨e1,e2,e3⟩:=ai.out h0
   rw[e1];have hR:=zH e3;obtain⟨q,hq⟩:=Kj Q.1;rw[hq] at HI hR e2 ⊢;have fl:=xm q.length (by omega);clear be ai e1 e3 hq h0;go_wp2_with fail;obtain⟨w3,bL,d3,cz,aG⟩:=zn w2 (xM (List.replicate q.length Aw)) 4;rw[bL];have tm:=zH (HI.out.keep aG);have aC:=zH (Lc au.out aG);have od:=zH d3;obtain⟨bs,aO⟩:∃bs:List Bool,q.map (fun d=>decide (d<0))=bs:=⟨_,rfl⟩;have aY:bs.length=q.length:=by rw[<-aO,LG]
   have fg:=zH aY;have dl:As (∀k (h:k<q.length),bs[k]?=J (decide (q[k]<0))):=fun k h=>by subst aO;simp[h]
   rw[aO] at hR;have dx:BRow w3 w2.heap.size (xq bs 0):=by rw[jk,aY];exact od.out
   have mI:=zH dx;clear bL d3 aG HI fl aO aY dx;go_wp2_with fail
   go_loopw [28] (fun i wr=>∃k:Nat,k<=q.length/\i=O U (k:Int)/\As (BRow wr w2.heap.size (xq bs k))/\As (Am w2.heap.size w3 wr)) (fun i _=>q.length-(Ar i).toNat)
   case atStart=>exact⟨0,by omega,rfl,mI.out,Ll _ _⟩
   obtain⟨k,hk,rfl,aK,hb⟩:=hrel;clear mI
   by_cases hlt:k<q.length
   . obtain⟨b,off,eA,aY,z0⟩:=(tm.out.keep hb.out).at_ k hlt
     subst eA;have dB:k<bs.length:=by rw[fg.out];exact hlt
     have ie:=j8 bs (Px dB);have y0:=zh aK.out k (qh (xq bs k) k (by omega));have f0:=zi aK.out k
     have eP:BRow (wr.setCell ⟨w2.heap.size,k,Z⟩ (Ah (decide (q[k]<0)))) w2.heap.size (xq bs (k+1)):=by
      have aI:bs[k]'dB=decide (q[k]<0):=by
       have:=dl.out k hlt;rw[Li dB] at this;exact NS this
      rw[<-aI,<-j7 bs dB];unfold BRow;rw[Lk wr _ k _ _ _ aK.out,jp]
     have i8:=zH eP;have rx:=zH (hb.out.setCell (p:=⟨w2.heap.size,k,Z⟩) (by show w2.heap.size<=w2.heap.size;omega) (Ah (decide (q[k]<0))));obtain⟨x,hx⟩:=Kj (q[k]);rw[hx] at z0 i8 rx;obtain⟨y,hy⟩:=Kj ((xq bs k)[k]'(by omega));rw[hy] at y0;have dg:(0:Int)<=(k:Int):=by omega
     have aM:(k:Int)<(q.length:Int):=by omega
     have hl3:=zj aK.out;clear eP ie dB hx hy aK hb;go_wp2_with fail
     go_roundw
     case rel=>exact⟨k+1,by omega,by go_num,i8,rx⟩
     simp[Ar];omega
   obtain rfl:k=q.length:=by omega
   have hbe:=aK.out;rw[<-fg.out,j9] at hbe;have rY:=zH hbe;clear hbe aK;go_wp2_with fail
   go_ret2
   rw[hR.out];exact⟨J ⟨w2.heap.size,0,Z⟩,q.length,by rw[fg.out];rfl,rY.out.at_ rY.out.lt,aC.out.trans (hb.out.mono au.out.size)⟩
 obtain⟨e1,e2⟩:=be.out h0;rw[e1];have hR:=zH e2;have e0:(r != 0)=Av:=by simpa using h0
 clear be ai e1 e2 h0 HI;go_wp2_with fail
 go_ret2
 rw[hR.out];exact⟨Z,0,rfl,BAt.nil _ _ _,au.out⟩
end
end Go.Proofs.YtkmbdfdaffmhjaaGreat
