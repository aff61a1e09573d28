/- Merged. -/
import Derived.Test.YtkmbdfdaffmhjaaGreatUc
import Derived.Deep.LoopGhost
import Derived.Laws.EntriesVeiled
open Go.Proofs.Tryz
open Go.Value renaming int->O,slice->I,agg->Ai,pointer->Aj
open Go.IntKind renaming i64->U
open Option renaming none->Z,some->J
open Go.Obj renaming cells->Ag
open Go.Ending renaming returned->Ak
open Go.Proofs.Tryz renaming prog->Al,func173->Sf
open Go.RowKit renaming Below->Am,intOf->Ar,Hid->As
open Go renaming Calls->An,Value->Au
open Bool renaming true->Av,false->Aw
open Go.RowKit.Below renaming setCell->LB
namespace Go.Proofs.YtkmbdfdaffmhjaaGreat
abbrev RD:=@Nat.le_mul_of_pos_right
abbrev PM:=@Nat.mul_comm
abbrev Sb:=@List.map_singleton
set_option maxRecDepth 100000
set_option maxHeartbeats 4000000
section
open Go.RowKit Go.Shelf
attribute [local go_sem] Oper.semAt_some
theorem xQ{B:Nat}{ds:List Deferred}{w w':Ba}(h:Marks B ds w)(hs:∀k:Nat,w.heap[k]?=J (Obj.deferred (J []))->w'.heap[k]?=J (Obj.deferred (J []))):Marks B ds w':=by
 obtain⟨rs,e,hn,hk⟩:=h;exact⟨rs,e,hn,fun r hr=>⟨(hk r hr).1,hs r (hk r hr).2⟩⟩
structure NmIn(B:Nat)(C:Array Au)(L:Int)(g7 g:Nat)(cs:List Int)(w W:Ba):Prop where
 below:Am B w W
 b0:W.heap[B]?=J (Ag C 27 (0,0))
 b1:W.heap[B+1]?=J (Ag #[O U L] 3 (0,0))
 b7:W.heap[g7]?=J (Ag #[I (J ⟨g,0,Z⟩) cs.length cs.length] 50 (0,0))
 row:RowAt W g cs
 h7:B+2<=g7
 hg:B+2<=g
theorem NmIn.on{B:Nat}{C:Array Au}{L:Int}{g7 g:Nat}{cs:List Int}{w W W':Ba}(h:NmIn B C L g7 g cs w W)(hb:Am W.heap.size W W'):NmIn B C L g7 g cs w W':=
 ⟨h.below.trans (hb.mono (by have:=zj h.b0;omega)),La hb h.b0,La hb h.b1,La hb h.b7,Lb hb h.row.lt h.row,h.h7,h.hg⟩
theorem NmIn.turn{B:Nat}{C:Array Au}{L:Int}{g7 g:Nat}{cs:List Int}{w W W':Ba}{row:Option Nat}(h:NmIn B C L g7 g cs w W)(hg:W.grownBy W' row)(hr:∀r,row=J r->B<=r/\∃o:Obj,W.heap[r]?=J o/\o.isCells=Aw):NmIn B C L g7 g cs w W':=
 ⟨h.below.grown hg (by have:=zj h.b0;omega) (fun k hk=>(hr k hk).1),(LN hg (fun r e=>(hr r e).2) h.b0 rfl).trans h.b0,(LN hg (fun r e=>(hr r e).2) h.b1 rfl).trans h.b1,
  (LN hg (fun r e=>(hr r e).2) h.b7 rfl).trans h.b7,(LN hg (fun r e=>(hr r e).2) h.row rfl).trans h.row,h.h7,h.hg⟩
theorem NmIn.setk{B:Nat}{C:Array Au}{L:Int}{g7 g:Nat}{cs:List Int}{w W:Ba}(h:NmIn B C L g7 g cs w W)(n j:Nat)(v:Au)(h7:g7<n)(hg:g<n):NmIn B C L g7 g cs w (W.setCell ⟨n,j,Z⟩ v):=by
 have h1:=h.h7
 exact⟨h.below.setCell (by show B<=n;omega) _,(Le W ⟨n,j,Z⟩ v B (by show B≠n;omega)).trans h.b0,(Le W ⟨n,j,Z⟩ v (B+1) (by show B+1≠n;omega)).trans h.b1,
  (Le W ⟨n,j,Z⟩ v g7 (by show g7≠n;omega)).trans h.b7,(Le W ⟨n,j,Z⟩ v g (by show g≠n;omega)).trans h.row,h.h7,h.hg⟩
theorem NmIn.swap{B:Nat}{C:Array Au}{L:Int}{g7 g n:Nat}{cs rf:List Int}{w W:Ba}(h:NmIn B C L g7 g cs w W)(hr:RowAt W n rf)(hn:B+2<=n)(az:n≠g7):NmIn B C L g7 n rf w (W.setCell ⟨g7,0,Z⟩ (I (J ⟨n,0,Z⟩) rf.length rf.length)):=by
 have h1:=h.h7;obtain⟨x1,x2,x3⟩:=qv h.b7 (I (J ⟨n,0,Z⟩) rf.length rf.length);exact⟨h.below.setCell (by show B<=g7;omega) _,(x3 B (by omega)).trans h.b0,(x3 (B+1) (by omega)).trans h.b1,x1,(x3 n az).trans hr,h.h7,hn⟩
theorem keeps_setk{D:Nat}{W:Ba}{n:Nat}{xs:List Int}(h:RowAt W n xs)(j:Nat)(v:Au):KeepsFrom D W (W.setCell ⟨n,j,Z⟩ v):=
 ⟨(zV W n j v).size,fun k o _ hk ho=>(Le W ⟨n,j,Z⟩ v k (by rintro rfl;rw[h] at hk;cases hk;cases ho)).trans hk⟩
theorem rep_arr(n:Nat):((List.replicate n (0:Int)).map (O U)).toArray=Array.replicate n (O U 0):=by simp
theorem number_any(a:Ad)(hf:FewA a)(hz:zJ a a.sts=0)(h1:1<=a.sts.length)(K L:Nat)(hK:K<=6)(hL:L<=1048576)(SV:Bb)(ks:Nat)(w:Ba)(hS:SAt w w.heap.size SV a.sts) :
  An Al 131 #[Ai #[O U a.n,I SV a.sts.length ks],O U K,O U L] w fun e w'=>e=Ak (O U ((xa L (yj a K 0):Nat):Int))/\Am w.heap.size w w':=by
 have fq:=hf.1;have HI:=zH (fun (bx:Nat) (w':Ba) (hb:w'.heap[bx]?=J (Ag #[O U a.n,I SV a.sts.length ks] 27)) (h:SAt w' w.heap.size SV a.sts) (hB:w.heap.size<=w'.heap.size)=>jW a hf SV ks w.heap.size bx w' hb h hB);have HZ:=zH (@xL a hz);have HS:=zH hS;clear hS hz hf;refine yg func131 rfl ?_;simp only[ntmps131,List.size_toArray,List.length_cons,List.length_nil,Nat.reduceAdd,Nat.reduceSub,Array.replicate_succ,Array.replicate_zero,List.push_toArray,List.append_toArray,List.nil_append,List.cons_append];go_wp2_with fail;obtain⟨w2,bh,b0,b1,aP,hB⟩:=yI w #[O U a.n,I SV a.sts.length ks] #[O U (L:Int)] 27 3;have dI:w2.heap.size=w.heap.size+2:=by rw[<-bh];simp
 rw[bh];obtain⟨w3,bL,b2,Hs,aG⟩:=zn w2 #[O U 1] 3;rw[bL];clear bh bL;rw[show w2.heap.size=w.heap.size+1+1 by omega] at b2;refine(QW a.sts.length (w.heap.size+1+1) h1 fq 1 w3 b2).mono ?_;rintro e w4 ⟨g,rfl,ov,ah,fG⟩
 have H4:As (NmIn w.heap.size #[O U a.n,I SV a.sts.length ks] L w4.heap.size g (cl a L 0 a.sts.length) w (w4.alloc (Ag #[I (J ⟨g,0,Z⟩) a.sts.length a.sts.length] 50))):=by
  have c0:=Lb fG (by omega) (Lb aG (by omega) b0);have c1:=Lb fG (by omega) (Lb aG (by omega) b1);have iy:=fG.size;refine⟨(hB.trans (aG.mono (by omega))).trans ((fG.mono (by omega)).trans ((Ll _ _).alloc (by omega) _)),yD c0 _,yD c1 _,?_,?_,by omega,by omega⟩
  . rw[jA];exact zx _ _
  rw[cl_first];exact yD ah _
 go_wp2_with fail;obtain⟨w5,dY⟩:=Kj (w4.alloc (Ag #[I (J ⟨g,0,Z⟩) a.sts.length a.sts.length] 50));rw[dY] at H4 ⊢;obtain⟨g7,iW⟩:=Kj w4.heap.size;rw[iW] at H4 ⊢;obtain⟨g0,sn⟩:∃g0,g0=g:=⟨_,rfl⟩;have H5:As (NmIn w.heap.size #[O U a.n,I SV a.sts.length ks] L g7 g (cl a L 0 a.sts.length) w w5):=H4.out;refine wp_loop_ghost (fun (m:Nat) (a':Act) (w':Ba)=>∃(ds:List Deferred) (k h:Nat) (u8 Kz Ky Kx Dz Dy Dx I9 I8:Au),(m=K-k/\k<=K/\As (NmIn w.heap.size #[O U a.n,I SV a.sts.length ks] L g7 h (cl a L k a.sts.length) w w')/\As (Marks w.heap.size ds w'))/\a'={ tmps:=#[Ai #[O U a.n,I SV a.sts.length ks],O U (K:Int),O U (L:Int),Aj (J ⟨w.heap.size,0,Z⟩),undef,Aj (J ⟨w.heap.size+1,0,Z⟩),O U 0,Aj (J ⟨g7,0,Z⟩),u8,undef,undef,I (J ⟨w.heap.size+1+1,0,Z⟩) 1 1,Aj (J ⟨w.heap.size,1,Z⟩),I SV a.sts.length ks,O U (a.sts.length:Int),I (J ⟨g0,0,Z⟩) a.sts.length a.sts.length,O U (K:Int),O U (k:Int),Kz,Ky,Kx,Dz,Dy,Dx,undef,undef,undef,undef,undef,undef,undef,undef,undef,undef,undef,undef,undef,undef,undef,undef,undef,undef,I9,I8,undef,undef,undef],defers:=ds }) K ?_ ?_
 . exact⟨[],0,g,_,_,_,_,_,_,_,_,_,⟨by omega,by omega,H5.out,Marks.nil _ _⟩,by rw[sn];rfl⟩
 clear H5 sn;rintro m a' wr ⟨ds,k,h,u8,Kz,Ky,Kx,Dz,Dy,Dx,I9,I8,⟨hm,hk,HN,MK⟩,rfl⟩;have rI:=jA a L k a.sts.length;have q7:=zh HN.out.b7 0 rfl;rw[rI] at q7
 by_cases hkK:k<K
 case neg=>
  obtain rfl:k=K:=by omega
  have c0:=HN.out.row.cell 0 (by omega);rw[YF] at c0;clear HI HZ;go_wp2_with fail;refine yo MK.out (v:=O U ((xa L (yj a k 0):Nat):Int)) (fun W=>by kernel_rfl) ?_;intro W hX;exact⟨rfl,HN.out.below.trans hX.below⟩
 case pos=>
 have fl:=wO a.sts.length h1 fq;obtain⟨q0,q1,_⟩:=Ke HN.out.b0;go_upto_region 5 with fail
 obtain⟨W1,dj,d0,d1,av,aV⟩:=yI wr (Array.replicate a.sts.length (O U 0)) #[I (J ⟨wr.heap.size,0,Z⟩) a.sts.length a.sts.length] 3 50;rw[dj];have ah:RowAt W1 wr.heap.size (qJ a L k a.sts.length []):=by rw[nextL_nil];unfold RowAt;rw[rep_arr];exact d0
 have nj:=HN.out.on aV;obtain⟨hn,CL⟩:=Kj wr.heap.size;have hg7n:g7<hn:=by rw[<-CL];exact zj HN.out.b7
 have hhg:h<hn:=by rw[<-CL];exact HN.out.row.lt
 have hBn:w.heap.size+1<hn:=by rw[<-CL];exact zj HN.out.b1
 have OW:As (Marks w.heap.size ds W1):=xQ (w:=wr) MK.out fun x hx=>(aV.block x (Ln.1 hx).1).trans hx
 rw[CL] at ah d1 av ⊢;obtain⟨q0,q1,_⟩:=Ke nj.b0;have dM:=zH nj;have EA:=zH ah;have cy:=zH d1;clear dj d0 d1 aV ah nj fl CL q7;go_wp2_with fail;refine(wJ a.n (I SV a.sts.length ks) W1).mono ?_;rintro e W2 ⟨rfl,dZ⟩;have bb:=zx W1 (Ag #[O U a.n,I SV a.sts.length ks] 27);have bE:Am W1.heap.size W1 W2:=by rw[<-dZ];exact zW _ _
 have cM:W2.heap.size=W1.heap.size+1:=by rw[<-dZ];simp
 rw[dZ] at bb;obtain⟨bx,cd⟩:=Kj W1.heap.size;have iP:=zH (dM.out.on bE);have dk:As (RowAt W2 hn (qJ a L k a.sts.length [])):=Lb bE EA.out.lt EA.out;have ff:=zH (La bE cy.out);have OV:As (Marks w.heap.size ds W2):=xQ (w:=W1) OW.out fun x hx=>(bE.block x (Ln.1 hx).1).trans hx
 rw[cd] at bb cM av ⊢;have dG:=zH (HI.out bx W2 bb (HS.out.keep iP.out.below) (by omega));clear dZ bb bE cd dM EA cy OW q0 q1;go_wp2_with fail
 refine qp rfl (NA Sf (by kernel_rfl) rfl) dG.out (by rintro x (h | rfl)<;>omega) (fun _=>rfl)
  (fun (pre:List { x:Int×Mv // x∈zO 0 a.sts }) (X:Ba)=>NmIn w.heap.size #[O U a.n,I SV a.sts.length ks] L g7 h (cl a L k a.sts.length) w X/\X.heap[hn+1]?=J (Ag #[I (J ⟨hn,0,Z⟩) a.sts.length a.sts.length] 50 (0,0))/\RowAt X hn (qJ a L k a.sts.length (pre.map (·.1)))/\W2.heap.size<=X.heap.size/\(∀y:Nat,W2.heap[y]?=J (Obj.deferred (J []))->X.heap[y]?=J (Obj.deferred (J []))))
  (fun _ _ _=>False)
  ?hI (fun _ _ _ _ _ h _ _=>h)
  ⟨iP.out,ff.out,dk.out,Ld _,fun _ h=>h⟩ (fun x=>x.2.cells) 78 ?a1 ?assign ?body ?done ?stop (fun _ _ h=>h.2.2.2.1)
 case hI=>
  intro s X X' row hX hg hr;refine⟨hX.1.turn hg (fun r e=>⟨by have:=(hr r e).1;omega,(hr r e).2⟩),(LN hg (fun r e=>(hr r e).2) hX.2.1 rfl).trans hX.2.1,(LN hg (fun r e=>(hr r e).2) hX.2.2.1 rfl).trans hX.2.2.1,Lu hX.2.2.2.1 hg.size,fun y hy=>?_⟩;have EW:=hX.2.2.2.2 y hy;have lw:=(Ln.1 hy).1;exact(hg.block y (by have:=hX.2.2.2.1;omega) (fun e=>by have:=(hr y e.symm).1;omega)).trans EW
 case assign=>
  intro l pre x X K' hI hK;obtain⟨g',fO⟩:∃g',g'=X.heap.size:=⟨_,rfl⟩;have HK:=zH (hK g' fO ⟨hI.1.on (zW X _),yD hI.2.1 _,yD hI.2.2.1 _,by have:=hI.2.2.2.1;simp;omega,fun y hy=>(Nj X _ y (Ln.1 (hI.2.2.2.2 y hy)).1).trans (hI.2.2.2.2 y hy)⟩);have HG:=zH fO;unfold Mv.cells at HK ⊢;dsimp only at HK ⊢;clear hK fO hI;gi_wp2;rw[<-HG.out];exact HK.out
 case body=>
  intro l pre x g W3 hg dK hI hlt;obtain⟨iM,pY,nR,T9,C7⟩:=hI;obtain⟨s,_,dR,Vd⟩:=Yh 0 a.sts x.1 x.2;obtain⟨_,_,z3,z4⟩:=HZ.out x.1.2 (Qh x.2);have dy:=nextL_step a L k a.sts.length (pre.map (·.1)) x.1 s Vd;obtain⟨t,et⟩:=Lp z3;have lA:t<a.sts.length:=by omega
  have dR:s<a.sts.length:=by omega
  have c8:=zh pY 0 rfl;have rS:=nR.cell s (by rw[nextL_len];omega);rw[wI] at rS;have fS:=nR.froz s;have q7:=zh iM.b7 0 rfl;rw[jA] at q7;have cT:=iM.row.cell t (by rw[jA];omega);rw[YF] at cT;have u7:=zh dK 7 (u:=O U x.1.2.to) rfl;rw[et] at u7;have q1:=zh iM.b1 0 rfl;rw[et] at dy;have Cw:=sat_add L (kP a k s (pre.map (·.1))) (yj a k (t:Int));have y1:=wk L (kP a k s (pre.map (·.1)));have y2:=wk L (yj a k (t:Int));rw[<-Cw] at dy;obtain⟨n1,cZ⟩:=Kj (xa L (kP a k s (pre.map (·.1))));obtain⟨n2,BH⟩:=Kj (xa L (yj a k (t:Int)));rw[cZ] at rS dy y1;rw[BH] at cT dy y2;have hl3:=nR.lt;have EH:=zH iM;have SG:=zH pY;have tm:=zH nR;have rV:=zH C7;have cW:=zH dy;clear iM pY nR C7 dy z3 z4 et cZ BH Cw dK hlt MK OV ff dk iP dG HI HS
  try dsimp only
  rw[Vd];clear Vd HZ;gi_wp2_with fail;refine kn 16 (by kernel_rfl) (by kernel_rfl) (by kernel_rfl) (by rintro⟨_,_,h⟩;exact h) ?_;simp only[List.take_succ_cons,List.take_zero,List.drop_succ_cons,List.drop_zero]
  repeat still_step
  try refine wpStill_nil ?_
  change wpList _ _ _ _ _ W3.drew;go_wp2_with fail;have hv:min ((n1:Int)+(n2:Int)) ((L:Int)+1)=((min (n1+n2) (L+1):Nat):Int):=by omega
  rw[hv];have cH:=tm.out.set s ((min (n1+n2) (L+1):Nat):Int);rw[<-cW.out] at cH;obtain⟨V,hV⟩:∃V:Au,O U ((min (n1+n2) (L+1):Nat):Int)=V:=⟨_,rfl⟩;rw[hV] at cH ⊢;have TF:¬(hn<w.heap.size\/hn=bx):=by omega
  refine⟨(keeps_setk tm.out s V).trans (xY (Ll _ _).drew),?_,(EH.out.setk hn s V (by omega) (by omega)).on (Ll _ _).drew,?_,?_,?_,?_⟩
  . have aM:=KeepB.setCell (W:=W3) (K:=fun k=>k<w.heap.size\/k=bx) (a:=⟨hn,s,Z⟩) TF V
    exact aM.trans (KeepB.drew _ _)
  . exact(Le W3 ⟨hn,s,Z⟩ V (hn+1) (by show hn+1≠hn;omega)).trans SG.out
  . show RowAt (W3.setCell ⟨hn,s,Z⟩ V) hn (qJ a L k a.sts.length ((pre++[x]).map (·.1)))
    rw[LF];exact cH
  . show W2.heap.size<=(W3.setCell ⟨hn,s,Z⟩ V).heap.size
    exact Lu T9 (zV W3 hn s V).size
  intro y hy;exact(Le W3 ⟨hn,s,Z⟩ V y (by rintro rfl;have h5:=rV.out _ hy;rw[tm.out] at h5;cases h5)).trans (rV.out y hy)
 case done=>
  intro D ys W3 hD eJ hI eq;obtain⟨iM,pY,nR,T9,C7⟩:=hI;rw[eJ,nextL_all] at nR;have c8:=zh pY 0 rfl;have q7:=zh iM.b7 0 rfl;have f7:=zi iM.b7 0;have hl7:=zj iM.b7;have EH:=zH iM;have tm:=zH nR;have rV:=zH C7;have Cg:=zH eq;clear iM pY nR C7 eq eJ HI dG ff dk iP HZ HS
  try dsimp only
  go_wp2_with fail;have Cv:=NmIn.swap EH.out tm.out (by omega) (by omega);rw[jA] at Cv;refine⟨K-(k+1),by omega,_,k+1,hn,_,_,_,_,_,_,_,_,_,⟨rfl,by omega,Cv,?_⟩,rfl⟩;refine Marks.cons OV.out (fun y hy=>?_) (by omega) hD ?_
  . exact(Le W3 ⟨g7,0,Z⟩ _ y (by rintro rfl;have:=rV.out _ hy;rw[EH.out.b7] at this;cases this)).trans (rV.out y hy)
  exact(Le W3 ⟨g7,0,Z⟩ _ D (by rintro rfl;have:=Cg.out;rw[EH.out.b7] at this;cases this)).trans Cg.out
 intro D c pre W _ _ h;exact h.elim
end
section
open Go.RowKit
attribute [local go_sem] Oper.semAt_some
theorem xt{a:Ad}(hf:FewA a)(h:ql a=0):zJ a a.sts=0/\1<=a.sts.length/\xG a=Av/\1<=a.n/\a.n<=5:=by
 by_cases h1:a.n<1\/5<a.n
 . rw[ul h1] at h;cases h
 by_cases h2:a.sts.length<1
 . rw[gj h1 h2] at h;cases h
 by_cases h3:zJ a a.sts=0
 . rw[um h1 (by omega) hf h3] at h
   by_cases h4:xG a=Av
   . exact⟨h3,by omega,h4,by omega,by omega⟩
   rw[Lg h4] at h;cases h
 rw[uk h1 (by omega) hf h3] at h;exact absurd h h3
def vB(L T:Nat):Int×Int:=if L<T then (0,17) else ((T:Int),0)
theorem uS(a:Ad)(hf:FewA a)(h:ql a=0)(K L:Nat)(hK:K<=6)(hL:L<=1048576)(SV:Bb)(ks:Nat)(w:Ba)(hS:SAt w w.heap.size SV a.sts) :
  An Al 85 #[Ai #[O U a.n,I SV a.sts.length ks],O U K,O U L] w fun e w'=>e=Ak (.tuple #[O U (vB L (yj a K 0)).1,O U (vB L (yj a K 0)).2])/\Am w.heap.size w w':=by
 obtain⟨z1,z2,_⟩:=xt hf h;have HC:=zH (fun (w':Ba) (h':SAt w' w'.heap.size SV a.sts)=>YN a hf SV ks w' h');rw[h] at HC;have HN:=zH (fun (w':Ba) (h':SAt w' w'.heap.size SV a.sts)=>number_any a hf z1 z2 K L hK hL SV ks w' h');have Ig:=sat_gt L (yj a K 0);have Cf:=zH (@sat_eq L (yj a K 0));have cG:=wk L (yj a K 0);obtain⟨T,hT⟩:=Kj (yj a K 0);rw[hT] at HN Cf Ig cG ⊢;obtain⟨r,hr⟩:=Kj (xa L T);rw[hr] at HN Cf Ig cG;obtain⟨w1,ab⟩:=Kj (w.alloc (Ag #[O U a.n,I SV a.sts.length ks] 27));have bj:=zx w (Ag #[O U a.n,I SV a.sts.length ks] 27);have aw:Am w.heap.size w w1:=by rw[<-ab];exact zW w _
 have eh:w1.heap.size=w.heap.size+1:=by rw[<-ab];simp
 rw[ab] at bj;have cj:=zH bj;have bW:=zH aw;have HS:=zH ((hS.keep aw).more (by omega:w.heap.size<=w1.heap.size));have ag:=zH ab;clear hS ab aw bj;go_enter func85,ntmps85;go_wp2_with fail;rw[ag.out];go_wp2_with fail;refine(HC.out w1 HS.out).mono ?_;rintro e w2 ⟨rfl,ae⟩;have au:=zH (bW.out.trans (ae.mono (by omega)));have fX:=zH ((HS.out.keep ae).more ae.size);have bQ:=La ae cj.out;obtain⟨q0,q1,_⟩:=Ke bQ;have cM:=ae.size;clear ae bQ HC ag;go_wp2_with fail
 all_goals first | (exfalso;omega) | skip
 refine(HN.out w2 fX.out).mono ?_;rintro e w3 ⟨rfl,ak⟩;have aC:=zH (au.out.trans (ak.mono (by omega)))
 by_cases hg:L<T
 . have fm:L<r:=Ig.2 hg
   have hR:As (vB L T=(0,17)):=Lj hg;go_wp2_with fail
   all_goals first | (exfalso;omega) | skip
   go_ret2
   rw[hR.out];exact⟨rfl,aC.out⟩
 have fm:¬L<r:=fun h=>hg (Ig.1 h)
 have hr:r=T:=(Cf.out (by omega)).symm▸rfl;have hR:As (vB L T=((T:Int),0)):=Lg hg;subst hr;go_wp2_with fail
 all_goals first | (exfalso;omega) | skip
 go_ret2
 rw[hR.out];exact⟨rfl,aC.out⟩
theorem JY(a:Ad)(hf:FewA a)(h:ql a=0)(K:Nat)(hK:K<=6)(SV:Bb)(ks:Nat)(w:Ba)(hS:SAt w w.heap.size SV a.sts) :
  An Al 84 #[Ai #[O U a.n,I SV a.sts.length ks],O U K] w fun e w'=>e=Ak (.tuple #[O U (vB 1048576 (yj a K 0)).1,O U (vB 1048576 (yj a K 0)).2])/\Am w.heap.size w w':=by
 have HN:=zH (fun (w':Ba) (h':SAt w' w'.heap.size SV a.sts)=>uS a hf h K 1048576 hK (Ld _) SV ks w' h');obtain⟨r,hr⟩:=Kj (vB 1048576 (yj a K 0));rw[hr] at HN ⊢;have aw:=zW w (Ag #[O U a.n,I SV a.sts.length ks] 27);have bW:=zH aw;have HS:=zH ((hS.keep aw).more aw.size);go_enter func84,ntmps84;go_wp2_with fail;refine(HN.out _ HS.out).mono ?_;rintro e w2 ⟨rfl,ae⟩;have au:=zH (bW.out.trans (ae.mono (by simp)));go_wp2_with fail
 go_ret2
 exact⟨rfl,au.out⟩
theorem words_any(a:Ad)(hf:FewA a)(h:ql a=0)(K:Nat)(hK:K<=6)(hT:yj a K 0<=4096)(SV:Bb)(ks:Nat)(w:Ba)(hS:SAt w w.heap.size SV a.sts) :
  An Al 49 #[Ai #[O U a.n,I SV a.sts.length ks],O U K] w fun e w'=>∃A c,e=Ak (.tuple #[.slice A (zL a K 0).length c,O U 0])/\WAt w' w'.heap.size A (zL a K 0)/\Am w.heap.size w w':=by
 obtain⟨z1,z2,_⟩:=xt hf h;have HC:=zH (fun (w':Ba) (h':SAt w' w'.heap.size SV a.sts)=>uS a hf h K 4096 hK (by omega) SV ks w' h');have hcut:vB 4096 (yj a K 0)=(((yj a K 0:Nat):Int),0):=Lg (by omega);rw[hcut] at HC;have HL:=zH (yK a K 0);obtain⟨T,sw⟩:=Kj (yj a K 0);rw[sw] at HC HL hT;have HF:=zH (JC a K hK SV ks z1 hf K);obtain⟨w1,ab,d0,d1,av,lj⟩:=yI w #[O U a.n,I SV a.sts.length ks] #[O U (K:Int)] 27 3;have HS:=zH ((hS.keep lj).more lj.size);have Be:=zH hS;have ec:=zH lj;have du:=zH d0;have cy:=zH d1;have ag:=zH ab;clear ab d0 d1 lj hS;go_enter func49,ntmps49;go_wp2_with fail;rw[ag.out];go_wp2_with fail;refine(HC.out w1 HS.out).mono ?_;rintro e w2 ⟨rfl,ae⟩;have au:=zH ae;have D0:=zH (La ae du.out);have D1:=zH (La ae cy.out);have ee:=ae.size;obtain⟨i0,hi,dx,ce,dI⟩:=yT kWd_ok;obtain⟨w3,fl,r1,r2⟩:=run_make_own (P:=Al) w2 w2.heap.size 113 124 i0 kWd.z 1 underlying113 hi dx ce U U T (by rw[dI];show 24*T<=_;omega) (by unfold maxLen;omega) (Ld _);have R1:=zH r1;have R2:=zH r2;go_wp2_with fail;have pR:=R2.out;have iH:=R2.out.size;obtain⟨w4,fh,e0,e1,iy,fG⟩:=yI w3 #[I (J ⟨w2.heap.size,0,Z⟩) 0 T] #[.func (.func 86) #[] #[Aj (J ⟨w.heap.size+1,0,Z⟩),Aj (J ⟨w3.heap.size,0,Z⟩),Aj (J ⟨w.heap.size,0,Z⟩),Aj (J ⟨w3.heap.size+1,0,Z⟩)]] 113 155;rw[fh]
 have B3:Am w2.heap.size w2 w3:=⟨pR.os,pR.tape,pR.output,pR.size,fun k hk=>pR.block k hk (by simp)⟩;have B4:Am w2.heap.size w2 w4:=B3.trans (fG.mono iH);have Bz:=La B4 D0.out;have UW:=La B4 D1.out;have iG:=zj D1.out;obtain⟨i1,hi,dx,ce,dI⟩:=yT Qo;obtain⟨w5,fl,r1,r2⟩:=run_make_own (P:=Al) w4.drew w4.drew.heap.size 124 76 i1 kRd.z 7 Rb hi dx ce U U K (by rw[dI];show 56*K<=_;omega) (by unfold maxLen;omega) (Ld _);have B5:Am w4.heap.size w4 w5:=JR ⟨r2.os,r2.tape,r2.output,r2.size,fun k hk=>r2.block k hk (by simp)⟩;have r1':OwnR kRd w5 w4.heap.size (I (J ⟨w4.heap.size,0,Z⟩) 0 K) 0 []:=r1;have CJ:w3.heap.size+1<w4.heap.size:=by omega
 have aT:As (Am w.heap.size w w5):=(ec.out.trans ((au.out.trans (B4.mono ee)).mono ec.out.size)).trans (B5.mono (by omega))
 have tp:As (FromIn a K SV ks w.heap.size (w.heap.size+1) w3.heap.size w.heap.size (w3.heap.size+1) w4.heap.size (I (J ⟨w2.heap.size,0,Z⟩) 0 T) [] [] w w5):=by
  refine⟨Lb B5 (by omega) UW,Lb B5 (by omega) e0,Lb B5 (by omega) Bz,Lb B5 (by omega) e1,?_,?_,?_,aT.out⟩
  . refine⟨[],rfl,?_,fun i h1 _=>absurd h1 (by simp)⟩
    have h3:OwnR kWd w3 w2.heap.size (I (J ⟨w2.heap.size,0,Z⟩) 0 T) 0 []:=R1.out;exact((h3.below fG (Ld _)).below B5 (Ld _)).low (by omega)
  . intro k hk
    have:w2.heap.size=k:=by simpa[Value.ownBlock] using hk
    have VZ:w2.heap.size<w3.heap.size:=(R1.out.lt w2.heap.size rfl).2;exact⟨by omega,by omega,by omega,by omega,by omega⟩
  exact r1'.low (by omega)
 have f4:w4.cell? ⟨w3.heap.size+1,0,Z⟩=J (.func (.func 86) #[] #[Aj (J ⟨w.heap.size+1,0,Z⟩),Aj (J ⟨w3.heap.size,0,Z⟩),Aj (J ⟨w.heap.size,0,Z⟩),Aj (J ⟨w3.heap.size+1,0,Z⟩)]):=zh e1 0 rfl;have k4:w4.cell? ⟨w.heap.size+1,0,Z⟩=J (O U K):=zh UW 0 rfl;have f5:=(B5.cell (p:=⟨w3.heap.size+1,0,Z⟩) (by show w3.heap.size+1<_;omega)).trans f4;have k5:=(B5.cell (p:=⟨w.heap.size+1,0,Z⟩) (by show w.heap.size+1<_;omega)).trans k4
 have ck:As (FromB w.heap.size (w.heap.size+1) w3.heap.size w.heap.size (w3.heap.size+1) w4.heap.size):=
  ⟨by omega,by omega,by omega,by omega,by omega,by omega,by omega,by omega,by omega,by omega,by omega,by omega⟩
 refine zr [(0,Av),(1,Av),(2,Aw),(3,Aw)]
  (fun W=>W.cell? ⟨w3.heap.size+1,0,Z⟩=J (.func (.func 86) #[] #[Aj (J ⟨w.heap.size+1,0,Z⟩),Aj (J ⟨w3.heap.size,0,Z⟩),Aj (J ⟨w.heap.size,0,Z⟩),Aj (J ⟨w3.heap.size+1,0,Z⟩)])/\W.cell? ⟨w.heap.size+1,0,Z⟩=J (O U K))
  (by kernel_rfl) (by kernel_rfl) ⟨f4,k4⟩ ?_
 repeat
  apply zk rfl
  . rintro K' aa W ⟨y0,y1⟩
    go_simp;exact aa
 refine zu rfl ?_;intro K' aa;go_simp;refine aa _ _ ⟨f5,k5⟩ ?_;refine yd rfl (by kernel_rfl) ?_;intro K' aa;go_simp;have tt:=HF.out 0 [] [] (I (J ⟨w2.heap.size,0,Z⟩) 0 T) w.heap.size (w.heap.size+1) w3.heap.size w.heap.size (w3.heap.size+1) w4.heap.size w w5 (by simp) (.inr ⟨by omega,by omega⟩) (by have:=HL.out;simp;omega) ck.out Be.out tp.out;refine tt.mono ?_;rintro e w6 ⟨⟨v6,rfl⟩,V6,H6⟩;rw[LW,show xf [] (zL a K 0)=zL a K 0 by simp[xf]] at H6;refine aa (fun _=>True) _ _ trivial ?_;refine zz ?_;obtain⟨A6,c6,rfl,_,_,pu⟩:=YI H6.out;have o6:=zh H6.hO 0 rfl;have dw:=zH H6.bel;have Ev:=zH pu;go_wp2_with fail
 go_ret2
 exact⟨A6,c6,rfl,Ev.out,dw.out⟩
end
section
open Go.RowKit
def RawL(B:Nat)(w:Ba)(A:Bb)(n:Nat)(cs:List Au):Prop:=0<n->∃b off,A=J ⟨b,off,Z⟩/\b<B/\∀(j:Nat) (u:Au),cs[j]?=J u->w.cell? ⟨b,off+j,Z⟩=J u
theorem RawL.raw{B:Nat}{w:Ba}{A:Bb}{n:Nat}{cs:List Au}(h:RawL B w A n cs)(hB:B<=w.heap.size):Raw w A n cs:=fun h0=>by
 obtain⟨b,off,e,hb,hc⟩:=h h0;exact⟨b,off,e,by omega,hc⟩
theorem RawL.keep{B:Nat}{w w':Ba}{A:Bb}{n:Nat}{cs:List Au}(h:RawL B w A n cs)(hb:Am B w w'):RawL B w' A n cs:=fun h0=>by
 obtain⟨b,off,e,hlt,hc⟩:=h h0;exact⟨b,off,e,hlt,fun j u hu=>(hb.cell (p:=⟨b,_,Z⟩) hlt).trans (hc j u hu)⟩
def CAtL(L0 B0:Nat)(w:Ba)(A:Bb)(xs:List Cs):Prop:=∃cs:List Au,cs.length=xs.length*3/\RawL B0 w A xs.length cs/\(∀u∈cs,u.oneCell'=Av) /\
  ∀(i:Nat) (hi:i<xs.length),∃d,cCs.lies (fun k=>L0<=k/\k<B0) w d xs[i]/\∀j u,d[j]?=J u->cs[i*3+j]?=J u
def SAtL(L0 B0:Nat)(w:Ba)(A:Bb)(xs:List (List Mv)):Prop:=∃cs:List Au,cs.length=xs.length*1/\RawL B0 w A xs.length cs/\(∀u∈cs,u.oneCell'=Av) /\
  ∀(i:Nat) (hi:i<xs.length),∃d,cMl.lies (fun k=>L0<=k/\k<B0) w d xs[i]/\∀j u,d[j]?=J u->cs[i*1+j]?=J u
section
variable {L0 B0:Nat} {w w':Ba} {A:Bb}
theorem CAtL.keep{xs:List Cs}(h:CAtL L0 B0 w A xs)(hb:Am B0 w w'):CAtL L0 B0 w' A xs:=by
 obtain⟨cs,h1,h2,h3,h4⟩:=h;refine⟨cs,h1,h2.keep hb,h3,fun i hi=>?_⟩;obtain⟨d,h5,h6⟩:=h4 i hi;exact⟨d,qg.keep h5 ⟨hb.size,fun k hk _=>hb.block k hk.2⟩,h6⟩
theorem SAtL.keep{xs:List (List Mv)}(h:SAtL L0 B0 w A xs)(hb:Am B0 w w'):SAtL L0 B0 w' A xs:=by
 obtain⟨cs,h1,h2,h3,h4⟩:=h;refine⟨cs,h1,h2.keep hb,h3,fun i hi=>?_⟩;obtain⟨d,h5,h6⟩:=h4 i hi;exact⟨d,kG.keep h5 ⟨hb.size,fun k hk _=>hb.block k hk.2⟩,h6⟩
theorem CAtL.raw{xs:List Cs}(h:CAtL L0 B0 w A xs)(hB:B0<=w.heap.size):∃cs:List Au,cs.length=xs.length*3/\Raw w A xs.length cs/\(∀u∈cs,u.oneCell'=Av) /\
  ∀(i:Nat) (hi:i<xs.length),∃d,cCs.lies (fun k=>L0<=k/\k<B0) w d xs[i]/\∀j u,d[j]?=J u->cs[i*3+j]?=J u:=by
 obtain⟨cs,h1,h2,h3,h4⟩:=h;exact⟨cs,h1,h2.raw hB,h3,h4⟩
theorem SAtL.raw{xs:List (List Mv)}(h:SAtL L0 B0 w A xs)(hB:B0<=w.heap.size):∃cs:List Au,cs.length=xs.length*1/\Raw w A xs.length cs/\(∀u∈cs,u.oneCell'=Av) /\
  ∀(i:Nat) (hi:i<xs.length),∃d,cMl.lies (fun k=>L0<=k/\k<B0) w d xs[i]/\∀j u,d[j]?=J u->cs[i*1+j]?=J u:=by
 obtain⟨cs,h1,h2,h3,h4⟩:=h;exact⟨cs,h1,h2.raw hB,h3,h4⟩
theorem CAtL.of{xs:List Cs}(h:CAt w B0 A xs)(hB:B0<=w.heap.size):CAtL 0 B0 w A xs:=by
 obtain⟨cs,h1,h2,h3,h4⟩:=h.raw hB;refine⟨cs,h1,fun h0=>?_,h3,fun i hi=>?_⟩
 . obtain⟨b,off,e,_,hc⟩:=h2 h0
   obtain⟨b',nn,e',cN,_⟩:=h h0;rw[e] at e';simp only[Option.some.injEq,Addr.mk.injEq,and_true] at e';exact⟨b,off,e,by omega,hc⟩
 obtain⟨d,h5,h6⟩:=h4 i hi;exact⟨d,qg.mono h5 fun k _ hk=>⟨Ni _,hk⟩,h6⟩
theorem SAtL.of{xs:List (List Mv)}(h:SAt w B0 A xs)(hB:B0<=w.heap.size):SAtL 0 B0 w A xs:=by
 obtain⟨cs,h1,h2,h3,h4⟩:=h.raw hB;refine⟨cs,h1,fun h0=>?_,h3,fun i hi=>?_⟩
 . obtain⟨b,off,e,_,hc⟩:=h2 h0
   obtain⟨b',nn,e',cN,_⟩:=h h0;rw[e] at e';simp only[Option.some.injEq,Addr.mk.injEq,and_true] at e';exact⟨b,off,e,by omega,hc⟩
 obtain⟨d,h5,h6⟩:=h4 i hi;exact⟨d,kG.mono h5 fun k _ hk=>⟨Ni _,hk⟩,h6⟩
end
end
section
open Go.RowKit
attribute [local go_sem] Oper.semAt_some
structure CpIn(B:Nat)(p:Pb)(A:Bb)(kc:Nat)(SV:Bb)(ks:Nat)(Ae:Array Au)(w W:Ba):Prop where
 bel:Am B w W
 b0:W.heap[B]?=J (Ag (p.vs A kc SV ks) 29 (0,0))
 b1:W.heap[B+1]?=J (Ag Ae 29 (0,0))
def Nbx(L0 B0 B k:Nat):Prop:=k≠B/\k≠B+1/\((L0<=k/\k<B0)\/B<=k)
theorem CpIn.on{B:Nat}{p:Pb}{A:Bb}{kc:Nat}{SV:Bb}{ks:Nat}{Ae:Array Au}{w W W':Ba}(h:CpIn B p A kc SV ks Ae w W)(hb:Am W.heap.size W W'):CpIn B p A kc SV ks Ae w W':=by
 have:=zj h.b1;exact⟨h.bel.trans (hb.mono (by omega)),Lb hb (by omega) h.b0,Lb hb (by omega) h.b1⟩
theorem CpIn.set{B:Nat}{p:Pb}{A:Bb}{kc:Nat}{SV:Bb}{ks:Nat}{Ae:Array Au}{w W:Ba}(h:CpIn B p A kc SV ks Ae w W){g:Nat}(hg:B+1<g)(o:Nat)(v:Au):CpIn B p A kc SV ks Ae w (W.setCell ⟨g,o,Z⟩ v):=
 ⟨h.bel.setCell (by show B<=g;omega) _,(Le W _ v B (by show B≠g;omega)).trans h.b0,(Le W _ v (B+1) (by show B+1≠g;omega)).trans h.b1⟩
theorem copied_any(p:Pb)(hf:Qz p)(hc1:1<=p.t.cases.length)(av:1<=p.a.sts.length)(A:Bb)(kc:Nat)(SV:Bb)(ks:Nat)(w:Ba)(L0 B0:Nat)(bG:B0<=w.heap.size)(hA:CAtL L0 B0 w A p.t.cases)(hS:SAtL L0 B0 w SV p.a.sts) :
  An Al 50 #[.agg (p.vs A kc SV ks)] w fun e w'=>∃g kc' gm ks',e=Ak (.agg (p.vs (J ⟨g,0,Z⟩) kc' (J ⟨gm,0,Z⟩) ks'))/\RowX cCs (fun b=>(L0<=b/\b<B0)\/w.heap.size<=b) w' g p.t.cases/\RowX cMl (fun b=>(L0<=b/\b<B0)\/w.heap.size<=b) w' gm p.a.sts/\w.heap.size<=g/\w.heap.size<=gm/\Am w.heap.size w w':=by
 have hfc:=hf.1.1;have Ih:=hf.2.1;obtain⟨w1,ab,d0,d1,aP,lj⟩:=yI w (p.vs A kc SV ks) #[O U 0,O U 0,O U 0,I Z 0 0,O U 0,I Z 0 0,O U 0] 29 29;have Gf:=lj.mono bG;have HS:=zH (hS.keep Gf);have Co:B0<=w1.heap.size:=by have:=lj.size;omega
 obtain⟨ccs,ccl,ccr,cc1,cce⟩:=(hA.keep Gf).raw Co;have HC:=zH (clone_kCs A p.t.cases.length kc ccs w1 ccl ccr cc1 (by omega));have ec:=zH lj;have du:=zH d0;have cy:=zH d1;have tr:=zH cce;have HFT:=zH hf.1;have SN:=zH hf.2;unfold Pb.vs at ab d0;have p3:=zh d0 3 rfl;have f3:=zi d0 3;have ag:=zH ab;clear ab d0 d1 lj Gf;unfold Pb.vs;go_enter func50,ntmps50;go_wp2_with fail;rw[ag.out];refine HC.out.mono ?_;rintro e w2 ⟨v2,rfl,lJ,ae⟩;obtain⟨A2,c2,rfl,hc2,fL,fm⟩:=lJ.form;obtain⟨g,rfl,_,dC,_⟩:=fm (by omega);have hge:w1.heap.size<=g:=(lJ.lt g rfl).1;have ee:=ae.size;have dK:w.heap.size+1<g:=by omega
 have R2:RowX cCs (Nbx L0 B0 w.heap.size) w2 g p.t.cases:=RowX.of_own qg lJ rfl rfl (fun i hi=>by
  obtain⟨d,h1,h2⟩:=tr.out i hi
  refine⟨d,qg.mono (qg.keep h1 ⟨ae.size,fun k hk _=>ae.block k (by omega)⟩) fun k _ hk=>⟨⟨by omega,by omega⟩,by omega⟩,h2⟩)
 have D0:=La ae du.out;have D1:=La ae cy.out;have p3:=zh D0 3 rfl;have f3:=zi D0 3;obtain⟨W3,ii⟩:=Kj (w2.setCell ⟨w.heap.size,3,Z⟩ (I (J ⟨g,0,Z⟩) p.t.cases.length c2))
 have H3:As (CpIn w.heap.size p (J ⟨g,0,Z⟩) c2 SV ks #[O U 0,O U 0,O U 0,I Z 0 0,O U 0,I Z 0 0,O U 0] w W3):=by
  rw[<-ii];refine⟨(ec.out.trans (ae.mono (by omega))).setCell (Ld _) _,?_,(Le w2 _ _ (w.heap.size+1) (by show w.heap.size+1≠w.heap.size;omega)).trans D1⟩;rw[Lk w2 w.heap.size 3 _ _ _ D0]
  rfl
 have R3:As (RowX cCs (Nbx L0 B0 w.heap.size) W3 g p.t.cases):=by rw[<-ii];exact R2.other qg 3 _ (by omega) (fun h=>h.1 rfl)
 have sC:As (SAtL L0 B0 W3 SV p.a.sts):=HS.out.keep (by
  rw[<-ii]
  exact((Below.mono ae (show w.heap.size<=w1.heap.size by omega)).setCell (Ld _) _).mono bG)
 have q3:W3.cell? ⟨w.heap.size,3,Z⟩=J (I (J ⟨g,0,Z⟩) p.t.cases.length c2):=zh H3.out.b0 3 rfl;clear R2 D0 D1 lJ ae hc2 fL HC tr;go_wp2_with fail;clear p3 f3 ii q3
 go_loopw [17] (fun i wr=>∃k:Nat,k<=p.t.cases.length/\i=O U (k:Int)/\As (CpIn w.heap.size p (J ⟨g,0,Z⟩) c2 SV ks #[O U 0,O U 0,O U 0,I Z 0 0,O U 0,I Z 0 0,O U 0] w wr)/\As (RowX cCs (Nbx L0 B0 w.heap.size) wr g p.t.cases)/\As (SAtL L0 B0 wr SV p.a.sts)) (fun i _=>p.t.cases.length-(Ar i).toNat)
 case atStart=>exact⟨0,by omega,rfl,H3.out,R3.out,sC.out⟩
 obtain⟨k,hk,rfl,HI,HR,HSr⟩:=hrel
 by_cases cJ:k<p.t.cases.length
 case neg=>
  obtain rfl:k=p.t.cases.length:=by omega
  have b0:=HI.out.b0;have q5:wr.cell? ⟨w.heap.size,5,Z⟩=J (I SV p.a.sts.length ks):=zh b0 5 rfl;have pj:=HI.out.bel.size;obtain⟨ccs,ccl,ccr,cc1,cce⟩:=HSr.out.raw (by omega);have HC:=zH (clone_kMl SV p.a.sts.length ks ccs wr ccl ccr cc1 (by omega));have tr:=zH cce;have cd:=zj HI.out.b1;go_wp2_with fail;refine HC.out.mono ?_;rintro e Hp ⟨v2,rfl,lJ,ae⟩;obtain⟨A2,c3,rfl,_,_,fm⟩:=lJ.form;obtain⟨gm,rfl,_,hgml,_⟩:=fm (by omega);have hgem:wr.heap.size<=gm:=(lJ.lt gm rfl).1;have ov:g<wr.heap.size:=HR.out.lt
  have R2:RowX cMl (fun b=>Nbx L0 B0 w.heap.size b/\b≠g) Hp gm p.a.sts:=RowX.of_own kG lJ rfl rfl (fun i hi=>by
   obtain⟨d,h1,h2⟩:=tr.out i hi
   exact⟨d,kG.mono (kG.keep h1 ⟨ae.size,fun k hk _=>ae.block k (by omega)⟩) fun k _ hk=>⟨⟨⟨by omega,by omega⟩,by omega⟩,by omega⟩,h2⟩)
  have I2:=HI.out.on ae;have U2:Hp.cell? ⟨w.heap.size,5,Z⟩=J (I SV p.a.sts.length ks):=zh I2.b0 5 rfl;have f5':=zi I2.b0 5;have RC:RowX cCs (fun b=>Nbx L0 B0 w.heap.size b/\b≠gm) Hp g p.t.cases:=(HR.out.mono qg fun b hb hs=>⟨hs,by omega⟩).below qg ae (Ld _);obtain⟨W3,ii⟩:=Kj (Hp.setCell ⟨w.heap.size,5,Z⟩ (I (J ⟨gm,0,Z⟩) p.a.sts.length c3))
  have H3:As (CpIn w.heap.size p (J ⟨g,0,Z⟩) c2 (J ⟨gm,0,Z⟩) c3 #[O U 0,O U 0,O U 0,I Z 0 0,O U 0,I Z 0 0,O U 0] w W3):=by
   rw[<-ii];refine⟨I2.bel.setCell (Ld _) _,?_,(Le Hp _ _ (w.heap.size+1) (by show w.heap.size+1≠w.heap.size;omega)).trans I2.b1⟩;rw[Lk Hp w.heap.size 5 _ _ _ I2.b0]
   rfl
  have R3:As (RowX cMl (fun b=>Nbx L0 B0 w.heap.size b/\b≠g) W3 gm p.a.sts):=by rw[<-ii];exact R2.other kG 5 _ (by omega) (fun h=>h.1.1 rfl)
  have RC3:As (RowX cCs (fun b=>Nbx L0 B0 w.heap.size b/\b≠gm) W3 g p.t.cases):=by rw[<-ii];exact RC.other qg 5 _ (by omega) (fun h=>h.1.1 rfl)
  have q6:W3.cell? ⟨w.heap.size,5,Z⟩=J (I (J ⟨gm,0,Z⟩) p.a.sts.length c3):=zh H3.out.b0 5 rfl;go_wp2_with fail
  go_loopw [48] (fun i wx=>∃k:Nat,k<=p.a.sts.length/\i=O U (k:Int)/\As (CpIn w.heap.size p (J ⟨g,0,Z⟩) c2 (J ⟨gm,0,Z⟩) c3 #[O U 0,O U 0,O U 0,I Z 0 0,O U 0,I Z 0 0,O U 0] w wx)/\As (RowX cMl (fun b=>Nbx L0 B0 w.heap.size b/\b≠g) wx gm p.a.sts)/\As (RowX cCs (fun b=>Nbx L0 B0 w.heap.size b/\b≠gm) wx g p.t.cases)) (fun i _=>p.a.sts.length-(Ar i).toNat)
  case atStart=>exact⟨0,by omega,rfl,H3.out,R3.out,RC3.out⟩
  obtain⟨k,hk,rfl,HI,HR,PQ⟩:=hrel
  by_cases cJ:k<p.a.sts.length
  case neg=>
   obtain rfl:k=p.a.sts.length:=by omega
   have b0:=HI.out.b0;have b1:=HI.out.b1;have c0:wr.cell? ⟨w.heap.size,0,Z⟩=J (O U p.t.n):=zh b0 0 rfl;have c1:wr.cell? ⟨w.heap.size,1,Z⟩=J (O U p.t.ins):=zh b0 1 rfl;have c2':wr.cell? ⟨w.heap.size,2,Z⟩=J (O U p.t.outs):=zh b0 2 rfl;have c3':wr.cell? ⟨w.heap.size,3,Z⟩=J (I (J ⟨g,0,Z⟩) p.t.cases.length c2):=zh b0 3 rfl;have c4:wr.cell? ⟨w.heap.size,4,Z⟩=J (O U p.a.n):=zh b0 4 rfl;have c5:wr.cell? ⟨w.heap.size,5,Z⟩=J (I (J ⟨gm,0,Z⟩) p.a.sts.length c3):=zh b0 5 rfl;have c6:wr.cell? ⟨w.heap.size,6,Z⟩=J (O U p.k):=zh b0 6 rfl;obtain⟨e0,e1,e2,e3,e4,e5,e6,_⟩:=Kg b1;have z0:=zi b1 0;have z1:=zi b1 1;have z2:=zi b1 2;have z3:=zi b1 3;have z4:=zi b1 4;have z5:=zi b1 5;have z6:=zi b1 6;clear b0 b1;have HB9:=zH HI.out.bel;have HCT:=zH PQ.out;have cW:=zH HR.out;have hgl1:=PQ.out.lt;have hgl2:=HR.out.lt;have hgm1:w.heap.size+1<gm:=by omega
   have Cc:=zH (fun (o:Nat) (v:Au) (W:Ba) (h:RowX cCs (fun b=>Nbx L0 B0 w.heap.size b/\b≠gm) W g p.t.cases)=>h.other qg o v (show w.heap.size+1≠g by omega) (fun h=>h.1.2.1 rfl));have Bi:=zH (fun (o:Nat) (v:Au) (W:Ba) (h:RowX cMl (fun b=>Nbx L0 B0 w.heap.size b/\b≠g) W gm p.a.sts)=>h.other kG o v (show w.heap.size+1≠gm by omega) (fun h=>h.1.2.1 rfl));clear HI HR PQ;go_wp2_with fail;refine LP (v:=.agg (p.vs (J ⟨g,0,Z⟩) c2 (J ⟨gm,0,Z⟩) c3)) (by simp[results,results50,go_sem,e0,e1,e2,e3,e4,e5,e6,Pb.vs]) rfl ?_;refine⟨g,c2,gm,c3,rfl,?_,?_,by omega,by omega,?_⟩
   . refine RowX.mono (S:=fun b=>Nbx L0 B0 w.heap.size b/\b≠gm) qg ?_ (fun b _ hs=>hs.1.2.2)
     exact Cc.out _ _ _ (Cc.out _ _ _ (Cc.out _ _ _ (Cc.out _ _ _ (Cc.out _ _ _ (Cc.out _ _ _ (Cc.out _ _ _ (HCT.out)))))))
   . refine RowX.mono (S:=fun b=>Nbx L0 B0 w.heap.size b/\b≠g) kG ?_ (fun b _ hs=>hs.1.2.2)
     exact Bi.out _ _ _ (Bi.out _ _ _ (Bi.out _ _ _ (Bi.out _ _ _ (Bi.out _ _ _ (Bi.out _ _ _ (Bi.out _ _ _ (cW.out)))))))
   have Fz:w.heap.size<=w.heap.size+1:=by omega
   exact(((((((HB9.out).setCell Fz _).setCell Fz _).setCell Fz _).setCell Fz _).setCell Fz _).setCell Fz _).setCell Fz _
  obtain⟨fW,fw,pV⟩:=HR.out;obtain⟨cs,⟨A0,k0,rfl,i0⟩,bN⟩:=pV k cJ
  have x0:wr.cell? ⟨gm,k,Z⟩=J (I A0 p.a.sts[k].length k0):=by
   have:=bN 0 _ rfl;change fW[k*1+0]?=_ at this;exact zh fw _ (by rw[<-this];congr 1;omega)
  have dg:(0:Int)<=(k:Int):=by omega
  have aM:(k:Int)<(p.a.sts.length:Int):=by omega
  have pQ:gm<wr.heap.size:=zj fw;have Ue:=zj HI.out.b1;have tO:=SN.out.each (Lh cJ);obtain⟨x,hx⟩:=Kj (p.a.sts[k]);have B9:=zH hx;rw[hx] at x0 i0 tO;have HC:=zH (clone_kMv A0 x.length k0 (kR x) wr.drew (vP x) (mcells_raw (w:=wr.drew) i0.mat) (mcells_one x) (by omega));have q5:wr.cell? ⟨w.heap.size,5,Z⟩=J (I (J ⟨gm,0,Z⟩) p.a.sts.length c3):=zh HI.out.b0 5 rfl;go_wp2_with fail
  refine zr [(0,Av),(1,Av),(2,Av),(3,Av),(4,Av),(5,Aw),(6,Aw),(7,Aw)]
   (fun W=>W.cell? ⟨w.heap.size,5,Z⟩=J (I (J ⟨gm,0,Z⟩) p.a.sts.length c3)) (by kernel_rfl) (by kernel_rfl) (by exact q5) ?_
  repeat
   apply zk rfl
   . rintro K' aa W y0
     go_simp;exact aa
  refine zu rfl ?_;intro K' aa;go_simp;refine HC.out.mono ?_;rintro e w5 ⟨v5,rfl,na,am⟩;have am:Am wr.heap.size wr w5:=JR am;have na:OwnR kMv w5 wr.heap.size v5 x.length (kR x):=na;obtain⟨A5,c5,rfl,_,_,sW⟩:=mcells_own na;have I5:=HI.out.on am;have U2:w5.cell? ⟨w.heap.size,5,Z⟩=J (I (J ⟨gm,0,Z⟩) p.a.sts.length c3):=zh I5.b0 5 rfl;refine aa _ _ U2 ?_;refine zu rfl ?_;intro K' aa;go_simp;refine aa _ _ U2 ?_;clear aa K';have dU:=HR.out.below kG am (Ld _);obtain⟨fW,fw,pV⟩:=dU;obtain⟨cs,⟨Q0,n0,rfl,_⟩,bN⟩:=pV k cJ
  have x1:w5.cell? ⟨gm,k,Z⟩=J (I Q0 p.a.sts[k].length n0):=by
   have:=bN 0 _ rfl;change fW[k*1+0]?=_ at this;exact zh fw _ (by rw[<-this];congr 1;omega)
  have y1:=zi fw k
  have hX:cMl.lies (fun b=>(fun b=>Nbx L0 B0 w.heap.size b/\b≠g) b/\b≠gm) w5 [I A5 x.length c5] p.a.sts[k]:=by
   rw[B9.out];have dC:=PQ.out.lt;exact⟨A5,c5,rfl,sW.mono fun b _ hb=>⟨⟨⟨by omega,by omega⟩,by omega⟩,by omega⟩⟩
  have HRn:=zH (RowX.set1 kG rfl (HR.out.below kG am (Ld _)) cJ hX);have Ox:w.heap.size+1<gm:=by omega
  have HIn:=zH (I5.set Ox k (I A5 x.length c5));have WB:gm≠g:=by omega
  have HRCn:=zH ((PQ.out.below qg am (Ld _)).other qg k (I A5 x.length c5) WB (fun h=>h.2 rfl));refine yd rfl (by kernel_rfl) ?_;intro K' aa;go_simp;refine aa (fun _=>True) _ _ trivial ?_;refine zz ?_;go_wp2_with fail
  go_roundw
  case rel=>exact⟨k+1,by omega,by go_num,HIn,HRn,HRCn⟩
  simp[Ar];omega
 obtain⟨fW,fw,pV⟩:=HR.out;obtain⟨cs,⟨A0,k0,A1,k1,A2,k2,rfl,i0,l1,l2⟩,bN⟩:=pV k cJ;have x0:wr.cell? ⟨g,k*3,Z⟩=J (I A0 p.t.cases[k].inp.length k0):=zh fw _ (bN 0 _ rfl);have x1:wr.cell? ⟨g,k*3+1,Z⟩=J (I A1 p.t.cases[k].out.length k1):=zh fw _ (bN 1 _ rfl);have x2:wr.cell? ⟨g,k*3+2,Z⟩=J (I A2 p.t.cases[k].calm.length k2):=zh fw _ (bN 2 _ rfl);have dg:(0:Int)<=(k:Int):=by omega
 have aM:(k:Int)<(p.t.cases.length:Int):=by omega
 have pQ:g<wr.heap.size:=zj fw;have Ue:=zj HI.out.b1;have IM:=HFT.out.2 p.t.cases[k] (Lh cJ);obtain⟨x,hx⟩:=Kj (p.t.cases[k]);have B9:=zH hx;rw[hx] at x0 x1 x2 i0 l1 l2 IM;go_wp2_with fail;obtain⟨W4,oA,g0,Fc,fG⟩:=zn wr #[I A0 x.inp.length k0,I A1 x.out.length k1,I A2 x.calm.length k2] 71;rw[oA];have H4:=HI.out.on fG;have p4:W4.cell? ⟨w.heap.size,3,Z⟩=J (I (J ⟨g,0,Z⟩) p.t.cases.length c2):=zh H4.b0 3 rfl;have GU:=zH i0.iat;have Su:=zH l1.lat;have mn:=zH l2.lat;have fB:=zH fG;have rW:=zH g0;have hN0:w.heap.size<W4.heap.size:=by omega
 clear i0 l1 l2 fG H4
 refine zr [(0,Av),(1,Av),(2,Av),(3,Av),(4,Av),(5,Av),(7,Av),(8,Av),(10,Av),(11,Av),(6,Aw),(9,Aw),(12,Aw),(13,Aw),(14,Aw),(15,Aw)]
  (fun W=>W.cell? ⟨w.heap.size,3,Z⟩=J (I (J ⟨g,0,Z⟩) p.t.cases.length c2)/\W.heap[wr.heap.size]?=J (Ag #[I A0 x.inp.length k0,I A1 x.out.length k1,I A2 x.calm.length k2] 71 (0,0)))
  (by kernel_rfl) (by kernel_rfl) ⟨p4,g0⟩ ?_
 repeat
  apply zk rfl
  . rintro K' aa W ⟨y0,y1⟩
    have z0:W.cell? ⟨wr.heap.size,0,Z⟩=J (I A0 x.inp.length k0):=zh y1 0 rfl;have z1:W.cell? ⟨wr.heap.size,1,Z⟩=J (I A1 x.out.length k1):=zh y1 1 rfl;have z2:W.cell? ⟨wr.heap.size,2,Z⟩=J (I A2 x.calm.length k2):=zh y1 2 rfl;clear y1;go_simp;exact aa
 clear p4 g0;have Vh:=fB.out.size
 -- the inputs
 refine zu rfl ?_;intro K' aa;go_simp;refine(YE A0 k0 x.inp W4.drew (((GU.out.keep fB.out).more Vh)) (by have:=IM.1;omega)).mono ?_;rintro e w5 ⟨A5,c5,rfl,Ww,am⟩;have am:Am W4.heap.size W4 w5:=JR am;have aT:=zH am;have Ww:IAtS (fun b=>W4.heap.size<=b) w5 A5 x.inp:=Ww;have rV:=zH Ww;have hwr5:=am.size;have E5:Am wr.heap.size wr w5:=fB.out.trans (am.mono (by omega));refine aa _ _ ⟨zh (HI.out.on E5).b0 3 rfl,Lb am (by omega) rW.out⟩ ?_
 -- the outputs
 refine zu rfl ?_;intro K' aa;go_simp;refine(gB A1 k1 x.out w5 ((Su.out.keep E5).more E5.size) (by have:=IM.2.1.1;omega) (fun v hv=>by have:=IM.2.1.2 v hv;omega)).mono ?_;rintro e w6 ⟨v6,rfl,Fs,cB⟩;obtain⟨A6,c6,rfl,_,_,Id⟩:=JO Fs;have dw:=zH cB;have EF:=zH Id;have Vg:=cB.size;have E6:Am wr.heap.size wr w6:=Lc E5 cB;refine aa _ _ ⟨zh (HI.out.on E6).b0 3 rfl,Lb cB (by omega) (Lb aT.out (by omega) rW.out)⟩ ?_
 -- the calm ones
 refine zu rfl ?_;intro K' aa;go_simp;refine(gB A2 k2 x.calm w6 ((mn.out.keep E6).more E6.size) (by have:=IM.2.2.1;omega) (fun v hv=>by have:=IM.2.2.2 v hv;omega)).mono ?_;rintro e w7 ⟨v7,rfl,H9,dE⟩;obtain⟨A7,c7,rfl,_,_,hl7⟩:=JO H9;have pD:=zH dE;have HL7:=zH hl7;have E7:Am wr.heap.size wr w7:=Lc E6 dE;have HE7:=zH E7;refine aa _ _ ⟨zh (HI.out.on E7).b0 3 rfl,Lb dE (by omega) (Lb dw.out (by omega) (Lb aT.out (by omega) rW.out))⟩ ?_;have Bf:=zH (HR.out.below qg E7 (Ld _));obtain⟨fW,fw,pV⟩:=Bf.out;obtain⟨cs,⟨Q0,n0,B1,n1,B2,n2,rfl,_,_,_⟩,bN⟩:=pV k cJ;have x0:w7.cell? ⟨g,k*3,Z⟩=J (I Q0 p.t.cases[k].inp.length n0):=zh fw _ (bN 0 _ rfl);have x1:w7.cell? ⟨g,k*3+1,Z⟩=J (I B1 p.t.cases[k].out.length n1):=zh fw _ (bN 1 _ rfl);have x2:w7.cell? ⟨g,k*3+2,Z⟩=J (I B2 p.t.cases[k].calm.length n2):=zh fw _ (bN 2 _ rfl);have y0:=zi fw (k*3);have y1:=zi fw (k*3+1);have y2:=zi fw (k*3+2);have q3:w7.cell? ⟨w.heap.size,3,Z⟩=J (I (J ⟨g,0,Z⟩) p.t.cases.length c2):=zh (HI.out.on E7).b0 3 rfl;have HKK:=zH ((dE.block wr.heap.size (by omega)).trans (Lb dw.out (by omega) (Lb aT.out (by omega) rW.out)));refine zu rfl ?_;intro K' aa;go_simp;refine aa _ _ ⟨q3,HKK.out⟩ ?_;refine zu rfl ?_;intro K' aa;go_simp;refine aa _ _ ⟨q3,HKK.out⟩ ?_;refine yd rfl (by kernel_rfl) ?_;intro K' aa;go_simp
 refine aa (fun _=>True) _ _ trivial ?_;refine zz ?_
 have hX:cCs.lies (fun b=>Nbx L0 B0 w.heap.size b/\b≠g) w7 [I A5 x.inp.length c5,I A6 x.out.length c6,I A7 x.calm.length c7] p.t.cases[k]:=by
  rw[B9.out];refine⟨A5,c5,A6,c6,A7,c7,rfl,?_,?_,?_⟩
  . exact(rV.out.on (dw.out.trans (pD.out.mono Vg))).mono fun b _ hb=>⟨⟨by omega,by omega⟩,by omega⟩
  . exact(EF.out.on pD.out).mono fun b _ hb=>⟨⟨by omega,by omega⟩,by omega⟩
  exact HL7.out.mono fun b _ hb=>⟨⟨by omega,by omega⟩,by omega⟩
 have HRn:=zH (Bf.out.set3 cJ hX);have Ox:w.heap.size+1<g:=dK;have HIn:=zH ((((HI.out.on HE7.out).set Ox (k*3) (I A5 x.inp.length c5)).set Ox (k*3+1) (I A6 x.out.length c6)).set Ox (k*3+2) (I A7 x.calm.length c7))
 have HSn:As (SAtL L0 B0 (((w7.setCell ⟨g,k*3,Z⟩ (I A5 x.inp.length c5)).setCell ⟨g,k*3+1,Z⟩ (I A6 x.out.length c6)).setCell ⟨g,k*3+2,Z⟩ (I A7 x.calm.length c7)) SV p.a.sts):=
  HSr.out.keep (((((HE7.out.mono (by omega:w.heap.size<=wr.heap.size)).setCell (by show w.heap.size<=g;omega) _).setCell (by show w.heap.size<=g;omega) _).setCell (by show w.heap.size<=g;omega) _).mono bG)
 go_wp2_with fail
 go_roundw
 case rel=>exact⟨k+1,by omega,by go_num,HIn,HRn,HSn⟩
 simp[Ar];omega
theorem yp{p:Pb}(h:zZ p=0):xp p.t=0/\ql p.a=0/\p.t.n=p.a.n/\0<=p.k/\p.k<=6:=by
 by_cases h1:xp p.t=0
 case neg=>rw[vZ h1] at h;exact absurd h h1
 by_cases h2:ql p.a=0
 case neg=>rw[wu h1 h2] at h;exact absurd h h2
 by_cases h3:p.t.n=p.a.n
 case neg=>rw[X5 h1 h2 h3] at h;cases h
 by_cases h4:p.k<0\/6<p.k
 . rw[X6 h1 h2 h3 h4] at h;cases h
 exact⟨h1,h2,h3,by omega,by omega⟩
theorem xj{t:Tk}(h:xp t=0):1<=t.cases.length/\1<=t.n/\t.n<=5:=by
 unfold xp at h
 split at h
 . cases h
 split at h
 . cases h
 omega
def yt(p:Pb):Nat:=yj p.a p.k.toNat 0*p.t.cases.length
def ui(p:Pb):Int×Int:=if zZ p≠0 then (0,zZ p) else vB 1048576 (yt p)
theorem ecount_any(p:Pb)(hf:Qz p)(A:Bb)(kc:Nat)(SV:Bb)(ks:Nat)(w:Ba)(hA:CAt w w.heap.size A p.t.cases)(hS:SAt w w.heap.size SV p.a.sts) :
  An Al 48 #[.agg (p.vs A kc SV ks)] w fun e w'=>e=Ak (.tuple #[O U (ui p).1,O U (ui p).2])/\Am w.heap.size w w':=by
 have HP:=zH (fun (w':Ba) (h:CAt w' w'.heap.size A p.t.cases) (h2:SAt w' w'.heap.size SV p.a.sts)=>pcheck_any p hf A kc SV ks w' h h2);have HF:=zH (@yp p);have st:=hf.1.1;have Bw:=zH (fun (h:ql p.a=0) (K:Nat) (hK:K<=6) (w':Ba) (h':SAt w' w'.heap.size SV p.a.sts)=>JY p.a hf.2 h K hK SV ks w' h');have ai:As (zZ p≠0->ui p=(0,zZ p)):=fun h=>Lj h
 have aj:As (zZ p=0->ui p=vB 1048576 (yt p)):=fun h=>Lg (by simpa using h)
 obtain⟨E,hE⟩:=Kj (ui p);rw[hE] at ai aj ⊢;obtain⟨pe,lD⟩:=Kj (zZ p);rw[lD] at ai aj HF HP;obtain⟨w1,ab⟩:=Kj (w.alloc (Ag (p.vs A kc SV ks) 29));have bj:=zx w (Ag (p.vs A kc SV ks) 29);have aw:Am w.heap.size w w1:=by rw[<-ab];exact zW w _
 have eh:w1.heap.size=w.heap.size+1:=by rw[<-ab];simp
 rw[ab] at bj;unfold Pb.vs at ab bj HP ⊢;have cj:=zH bj;have bW:=zH aw;have HA:=zH ((hA.keep aw).more (by omega:w.heap.size<=w1.heap.size));have HS:=zH ((hS.keep aw).more (by omega:w.heap.size<=w1.heap.size));have ag:=zH ab;have q3:=zh bj 3 rfl;have q5:=zh bj 5 rfl;have q6:=zh bj 6 rfl;clear hA hS ab aw bj;go_enter func48,ntmps48;go_wp2_with fail;rw[ag.out];go_wp2_with fail;refine(HP.out w1 HA.out HS.out).mono ?_;rintro e w2 ⟨rfl,ae⟩;have B2:=zH (bW.out.trans (ae.mono (by omega)));have fX:=zH ((HS.out.keep ae).more ae.size);have bQ:=La ae cj.out;have au:=zH bQ;have cM:=ae.size;clear ae HP ag q3 q5 q6;have q4:=zh bQ 4 rfl;have q5:=zh bQ 5 rfl;have q6:=zh bQ 6 rfl;clear bQ
 by_cases h1:pe=0
 case neg=>
  have hR:=zH (ai.out h1);have e0:(pe != 0)=Av:=by simpa using h1
  clear ai aj h1 HF Bw;go_wp2_with fail
  go_ret2
  rw[hR.out];exact⟨rfl,B2.out⟩
 case pos=>
 have hR:=zH (aj.out h1);obtain⟨f1,f2,f3,f4,f5⟩:=HF.out h1;obtain⟨K,hk⟩:=Lp f4;have HN:=zH (Bw.out f2 K (by omega));obtain⟨c1,_⟩:=xj f1;rw[hk] at q6;have hx:yt p=yj p.a K 0*p.t.cases.length:=by unfold yt;rw[hk];rfl
 rw[hx] at hR;subst h1;obtain⟨T,hT⟩:=Kj (yj p.a K 0);rw[hT] at HN hR;clear ai aj HF Bw f1 f2 f3 f4 hx hT;go_wp2_with fail;refine(HN.out w2 fX.out).mono ?_;rintro e w3 ⟨rfl,ak⟩;have B3:=zH (B2.out.trans (ak.mono (by omega)));have bQ:=La ak au.out;have q3:=zh bQ 3 rfl;obtain⟨cn,FP⟩:=Kj p.t.cases.length;rw[FP] at q3 c1 st hR
 by_cases hg:1048576<T
 . have hm:1048576<T*cn:=LH hg (RD T c1)
   have fd:As (E=(0,17)):=hR.out.trans (Lj hm);have hC:vB 1048576 T=(0,17):=Lj hg;rw[hC];go_wp2_with fail
   go_ret2
   rw[fd.out];exact⟨rfl,B3.out⟩
 have hC:vB 1048576 T=((T:Int),0):=Lg hg;rw[hC];have se:T*cn<=1048576*30:=LU (by omega) st;have hw:IntKind.i64.wrap ((T:Int)*(cn:Int))=((T*cn:Nat):Int):=by rw[Lo,<-Int.natCast_mul];omega
 obtain⟨m,hm⟩:=Kj (T*cn);rw[hm] at hR se hw
 by_cases hg:1048576<m
 . have fd:As (E=(0,17)):=hR.out.trans (Lj hg)
   go_wp2_with fail
   all_goals first | (exfalso;omega) | skip
   go_ret2
   rw[fd.out];exact⟨rfl,B3.out⟩
 have fd:As (E=((m:Int),0)):=hR.out.trans (Lg hg);go_wp2_with fail
 all_goals first | (exfalso;omega) | skip
 go_ret2
 rw[fd.out];exact⟨by first | rfl | rw[hw],B3.out⟩
end
section
open Go.RowKit Go.Shelf
def yU(p:Pb):Prop:=Qz p/\(zZ p=0->yt p<=60\/4096<yt p)
def zY(p:Pb):Sy×Int:=if zZ p≠0 then (qo,zZ p) else if 4096<yt p then (qo,17) else (qM p,0)
theorem xn{p:Pb}(h:zZ p≠0):zY p=(qo,zZ p):=Lj h
theorem xA{p:Pb}(h:zZ p=0)(h2:4096<yt p):zY p=(qo,17):=by unfold zY;rw[Lg (by simpa using h),Lj h2]
theorem qA{p:Pb}(h:zZ p=0)(h2:yt p<=4096):zY p=(qM p,0):=by unfold zY;rw[Lg (by simpa using h),Lg (by omega)]
def vA(ac:List (List Rd))(l:List (Nat×Nat)):List (Nat×List Rd):=l.map fun x=>(x.1,ac.getD x.2 [])
theorem prsW_snoc(ac:List (List Rd))(l:List (Nat×Nat))(x:Nat×Nat):vA ac (l++[x])=vA ac l++[(x.1,ac.getD x.2 [])]:=by simp[vA]
theorem prsW_row(ac:List (List Rd))(i:Nat):vA ac ((List.range ac.length).map fun j=>(i,j))=ac.map fun w=>(i,w):=by
 unfold vA;rw[PP];refine NO (by simp) fun j h1 h2=>?_
 simp at h1;simp[h1]
theorem Q2(ac:List (List Rd)):∀(m i:Nat),vA ac (zt ac.length i m)=(List.range m).flatMap fun d=>ac.map fun w=>(i+d,w)
 | 0,_=>rfl
 | m+1,i=>by
  rw[zt,vA,LF];have h1:=prsW_row ac i;have h2:=Q2 ac m (i+1);unfold vA at h1 h2;rw[h1,h2,List.range_succ_eq_map,Nr,List.flatMap_map]
  have e:(fun d=>ac.map fun w=>(i+1+d,w))=(fun d=>ac.map fun w=>(i+(d+1),w)):=by
   funext d;rw[show i+1+d=i+(d+1) by omega]
  rw[e];rfl
theorem Xj(p:Pb)(K:Nat)(hK:p.k=(K:Int)):vA (zL p.a K 0) (zt (zL p.a K 0).length 0 p.t.cases.length)=zE p:=by
 rw[Q2];unfold zE;rw[hK]
 have e:(fun d=>(zL p.a K 0).map fun w=>(0+d,w))=(fun d=>(zL p.a ((K:Int).toNat) 0).map fun w=>(d,w)):=by
  funext d;rw[LI];rfl
 rw[e]
theorem jT(n:Nat):∀(m i:Nat),(zt n i m).length=m*n
 | 0,_=>by simp[zt]
 | m+1,i=>by rw[zt,Lr,jT n m (i+1)];simp;rw[Rr];omega
theorem qc(p:Pb)(l:List (Nat×List Rd)):(zI p l).2.length=l.length:=by
 have key:∀n,n<=l.length->(zI p (l.take n)).2.length=n:=by
  intro n
  induction n with
  | zero=>intro _;rfl
  | succ n ih=>
   intro hl;rw[Ls (by omega),qw,Lr,ih (by omega)];rfl
 have:=key l.length (Ld _);rwa[LK] at this
theorem Z0(p:Pb)(hn:p.t.n.toNat<=5)(l:List (Nat×List Rd))(h:∀x∈l,x.2.length<=6):(zI p l).1.length<=l.length*35:=by
 have key:∀n,n<=l.length->(zI p (l.take n)).1.length<=n*35:=by
  intro n
  induction n with
  | zero=>intro _;simp[jQ]
  | succ n ih=>
   intro hl;rw[Ls (by omega),qw];have h1:=ih (by omega);obtain⟨x,hx⟩:=Kj (l[n]);have h3:=h l[n] (Lh _);rw[hx] at h3 ⊢;have h2:=jf (zI p (l.take n)).1 p.t.n.toNat (yA p x.1) x.2 x.2.length;have h4:(x.2.length+1)*p.t.n.toNat<=7*5:=LU (by omega) hn;dsimp only;omega
 have:=key l.length (Ld _);rwa[LK] at this
end
section
open Go.RowKit Go.Shelf
structure BlIn(p:Pb)(D B bB bM b7:Nat)(SC:Au->Array Au)(WR:Ba)(l:List (Nat×List Rd))(V E:Au)(X:Ba):Prop where
 wr:Wrote (fun k=>k=bB\/k=bM\/k=b7) WR X
 bd:BdIn B bB bM p.t.n V (zI p l).1 X
 sys:X.heap[b7]?=J (Ag (SC E) 39 (0,0))
 out:OwnX Qw (fun k=>D<=k/\V.ownBlock≠J k) X D E (zI p l).2
 no:∀k,V.ownBlock=J k->D<=k/\E.ownBlock≠J k
structure BlB(D B bB bM b7:Nat)(WR:Ba):Prop where
 d:WR.heap.size=D
 b:bB<D
 m:bM<D
 s:b7<D
 lo:B<=bB/\B<=bM/\B<=b7
 bs:bB≠b7
 ms:bM≠b7
section
variable {p:Pb} {D B bB bM b7:Nat} {SC:Au->Array Au} {WR X:Ba} {l:List (Nat×List Rd)} {V E:Au}
theorem BlIn.big(h:BlIn p D B bB bM b7 SC WR l V E X)(hb:BlB D B bB bM b7 WR):D<=X.heap.size:=by have:=h.wr.size;have:=hb.d;omega
theorem BlIn.bel(h:BlIn p D B bB bM b7 SC WR l V E X)(hb:BlB D B bB bM b7 WR):Am B WR X:=h.wr.below (by have:=hb.d;have:=hb.lo;have:=hb.b;omega) fun k hk hr=>by
 have:=hb.lo;rcases hr with e | e | e<;>omega
theorem BlIn.same(h:BlIn p D B bB bM b7 SC WR l V E X)(hb:BlB D B bB bM b7 WR){k:Nat}(hk:k<D)(h1:k≠bB)(h2:k≠bM)(h3:k≠b7):X.heap[k]?=WR.heap[k]?:=
 h.wr.block k (by have:=hb.d;omega) fun hr=>by rcases hr with e | e | e<;>contradiction
theorem BlIn.turn(h:BlIn p D B bB bM b7 SC WR l V E X)(hb:BlB D B bB bM b7 WR){X':Ba}{row:Option Nat}(hg:X.grownBy X' row)(hr:∀r,row=J r->D<=r/\∃o:Obj,X.heap[r]?=J o/\o.isCells=Aw):BlIn p D B bB bM b7 SC WR l V E X':=by
 have hc:∀(k:Nat) (o:Obj),X.heap[k]?=J o->o.isCells=Av->X'.heap[k]?=J o:=fun k o hk ho=>(LN hg (fun r e=>(hr r e).2) hk ho).trans hk
 obtain⟨m,hm⟩:=h.bd.num;refine⟨h.wr.trans (Wrote.of_grown (R:=fun k=>D<=k) hg (fun k e _=>(hr k e).1)) (fun k hk e=>by have:=hb.d;omega),⟨hc _ _ h.bd.hB rfl,⟨m,hm.same (hg.block bM hm.lt fun e=>by have:=(hr bM e.symm).1;have:=hb.m;omega)⟩,?_,h.bd.ne,h.bd.bm,h.bd.lo⟩,hc _ _ h.sys rfl,h.out.turn zX hg.size hc,h.no⟩;refine⟨h.bd.own.1,?_⟩;rcases h.bd.own.2 with hn | ⟨g,cap,cur,pF,cN,fO,rest⟩
 . exact .inl hn
 exact .inr ⟨g,cap,cur,pF,cN,hc g _ fO rfl,rest⟩
theorem BlIn.outn(h:BlIn p D B bB bM b7 SC WR l V E X)(hb:BlB D B bB bM b7 WR){w2 w3:Ba}{V':Au}(h2:Am X.heap.size X w2)(ho:BdOn bB bM V w2 V' w3) :
  OwnX Qw (fun k=>D<=k/\V'.ownBlock≠J k) w3 D E (zI p l).2/\∀k,V'.ownBlock=J k->D<=k/\E.ownBlock≠J k:=by
 have hs:=h2.size;have hD:=h.big hb;have oS:=h.out.lt
 have h1:OwnX Qw (fun k=>(D<=k/\V.ownBlock≠J k)/\V'.ownBlock≠J k) w2 D E (zI p l).2:=
  (h.out.mono (S':=fun k=>(D<=k/\V.ownBlock≠J k)/\V'.ownBlock≠J k) zX fun k hk hs=>⟨hs,fun e=>by
   rcases ho.2 k e with e | e
   . exact hs.2 e
   . omega⟩).below zX h2 (Ld _)
 refine⟨(h1.keep zX (ho.1.keep fun k _ hs hr=>?_) fun k hk=>ho.1.block k (by have:=(oS k hk).2;omega) fun hr=>?_).mono zX fun k _ hs=>⟨hs.1.1,hs.2⟩,fun k hk=>?_⟩
 . rcases hr with e | e | e
   . have:=hb.b;have:=hs.1.1;omega
   . have:=hb.m;have:=hs.1.1;omega
   exact hs.1.2 e
 . have:=(oS k hk).1
   rcases hr with e | e | e
   . have:=hb.b;omega
   . have:=hb.m;omega
   exact(h.no k e).2 hk
 rcases ho.2 k hk with e | e
 . exact h.no k e
 exact⟨by omega,fun e2=>by have:=(oS k e2).2;omega⟩
theorem BlIn.lies(h:BlIn p D B bB bM b7 SC WR l V E X)(hb:BlB D B bB bM b7 WR){w2 w3 W4:Ba}{V' v:Au}{i:Nat}{word:List Rd}{views:List (List Int)}{A2 A3:Bb}{c2 c3:Nat}(h2:Am X.heap.size X w2)(ho:BdOn bB bM V w2 V' w3)(h4:Am w3.heap.size w3 W4)
  (hw:RAtS (fun k=>X.heap.size<=k) w2 A2 word) (hv:LAtS (fun k=>(w2.heap.size<=k/\V'.ownBlock≠J k)\/v.ownBlock=J k) w3 A3 views) (dr:∀k,v.ownBlock=J k->w2.heap.size<=k) (DG:∀k,V'.ownBlock=J k->v.ownBlock≠J k) (WU:word.length<=c2) :
  Qw.lies (fun k=>(D<=k/\V'.ownBlock≠J k)/\E.ownBlock≠J k) W4 [O U i,I A2 word.length c2,I A3 views.length c3] ⟨i,word,views⟩:=by
 have hs:=h2.size;have hD:=h.big hb;have oS:=h.out.lt;have Vj:=h.bd.own.lt;refine⟨A2,c2,A3,c3,rfl,?_,?_,WU⟩
 . have h5:RAtS (fun k=>X.heap.size<=k/\k<w2.heap.size) w2 A2 word:=hw.mono fun k hk hs=>⟨hs,hk⟩
   have h6:=h5.keep (ho.1.keep fun k _ hs hr=>by
    rcases hr with e | e | e
    . have:=hb.b;omega
    . have:=hb.m;omega
    . have:=(Vj k e).2;omega)
   have h7:RAtS (fun k=>(D<=k/\V'.ownBlock≠J k)/\E.ownBlock≠J k) w3 A2 word:=h6.mono fun k _ hs=>⟨⟨by omega,fun e=>by
    rcases ho.2 k e with e | e
    . have:=(Vj k e).2;omega
    . omega⟩,fun e=>by have:=(oS k e).2;omega⟩
   exact h7.on h4
 have h7 : LAtS (fun k => (D <= k /\ V'.ownBlock ≠ J k) /\ E.ownBlock ≠ J k) w3 A3 views := hv.mono fun k _ hs => by
  rcases hs with hs | hs
  . exact⟨⟨by omega,hs.2⟩,fun e=>by have:=(oS k e).2;omega⟩
  . have:=dr k hs
    exact⟨⟨by omega,fun e=>DG k e hs⟩,fun e=>by have:=(oS k e).2;omega⟩
 exact h7.on h4
theorem BlIn.next(h:BlIn p D B bB bM b7 SC WR l V E X)(hb:BlB D B bB bM b7 WR){w2 w3 W4 w5:Ba}{V':Au}{x:Nat×List Rd}{cs:List Au}{aW:List (List Au)}{g' cap:Nat}(h2:Am X.heap.size X w2)(ho:BdOn bB bM V w2 V' w3)(h4:Am w3.heap.size w3 W4)
  (hd:BdIn B bB bM p.t.n V' (zC (zI p l).1 p.t.n.toNat (yA p x.1) x.2 x.2.length).1 w3)
  (oM:∀E':Au,(SC E).setIfInBounds 9 E'=SC E')
  (aA:aW.length=(zI p l).2.length) (bN:∀(i:Nat) (h1:i<aW.length) (h2:i<(zI p l).2.length),Qw.lies (fun k=>(D<=k/\V'.ownBlock≠J k)/\E.ownBlock≠J k) W4 aW[i] (zI p l).2[i])
  (hX:Qw.lies (fun k=>(D<=k/\V'.ownBlock≠J k)/\E.ownBlock≠J k) W4 cs ⟨x.1,x.2,(zC (zI p l).1 p.t.n.toNat (yA p x.1) x.2 x.2.length).2⟩)
  (hr:OwnR kXn w5 D (I (J ⟨g',0,Z⟩) ((zI p l).2.length+1) cap) ((zI p l).2.length+1) (aW.flatten++cs)) (hg:W4.grownBy w5 E.ownBlock) (aI:E.ownBlock=J g'\/g'=W4.heap.size) :
  BlIn p D B bB bM b7 SC WR (l++[x]) V' (I (J ⟨g',0,Z⟩) ((zI p l).2.length+1) cap) (w5.setCell ⟨b7,9,Z⟩ (I (J ⟨g',0,Z⟩) ((zI p l).2.length+1) cap)) /\
   KeepsFrom D X (w5.setCell ⟨b7,9,Z⟩ (I (J ⟨g',0,Z⟩) ((zI p l).2.length+1) cap)) /\
   Wrote (fun k=>k=bB\/k=bM\/k=b7\/D<=k) X (w5.setCell ⟨b7,9,Z⟩ (I (J ⟨g',0,Z⟩) ((zI p l).2.length+1) cap)):=by
 have hs:=h2.size;have hD:=h.big hb;have cz:=ho.1.size;have iy:=h4.size;have oS:=h.out.lt;have Vj:=h.bd.own.lt;obtain⟨_,nc⟩:=h.outn hb h2 ho;have dC:=hr.lt g' rfl;have aY:=hb.lo;obtain⟨e1,e2,e3⟩:bB<D/\bM<D/\b7<D:=⟨hb.b,hb.m,hb.s⟩;have hEb:∀k,k<D->E.ownBlock≠J k:=fun k hk e=>by have:=(oS k e).1;omega
 have hV7:∀k,V'.ownBlock=J k->D<=k:=fun k e=>(nc k e).1
 have hW:Wrote (fun k=>k=bB\/k=bM\/k=b7\/V.ownBlock=J k\/E.ownBlock=J k) X (w5.setCell ⟨b7,9,Z⟩ (I (J ⟨g',0,Z⟩) ((zI p l).2.length+1) cap)):=by
  refine((((Wrote.of_below (R:=fun k=>k=bB\/k=bM\/k=b7\/V.ownBlock=J k\/E.ownBlock=J k) h2).trans ho.1 fun k _ hr=>?_).trans (Wrote.of_below (R:=fun _=>False) h4) fun _ _ h=>h.elim).trans (Wrote.of_grown (R:=fun k=>E.ownBlock=J k) hg fun _ e _=>e) fun k _ e=>?_).trans (Wrote.of_grown (R:=fun k=>k=b7) (zV w5 b7 9 _) fun k e _=>by cases e;rfl) fun k _ e=>?_
  . rcases hr with e | e | e
    . exact .inl e
    . exact .inr (.inl e)
    exact .inr (.inr (.inr (.inl e)))
  . exact .inr (.inr (.inr (.inr e)))
  exact .inr (.inr (.inl e))
 have bn:w5.heap[b7]?=J (Ag (SC E) 39 (0,0)):=by
  refine(hg.block b7 (by omega) fun e=>hEb b7 e3 e.symm).trans ((h4.block b7 (by omega)).trans ((ho.1.block b7 (by omega) fun hr=>?_).trans ((h2.block b7 (by omega)).trans h.sys)));rcases hr with e | e | e
  . exact hb.bs e.symm
  . exact hb.ms e.symm
  have:=(h.no b7 e).1;omega
 have TS:=((hd.on h4).grown hg (fun e=>hEb bB e1 e) (fun e=>hEb bM e2 e) (fun k hk e=>(nc k hk).2 e)).set (g:=b7) (fun e=>hb.bs e.symm) (fun e=>hb.ms e.symm) (fun e=>by have:=hV7 b7 e;omega) 9 (I (J ⟨g',0,Z⟩) ((zI p l).2.length+1) cap);have dm:=qw p l x;refine⟨⟨?_,?_,?_,?_,?_⟩,?_,hW.more fun k _ hr=>?_⟩
 . refine h.wr.trans hW fun k hk hr=>?_
   have:=hb.d;rcases hr with e | e | e | e | e
   . exact .inl e
   . exact .inr (.inl e)
   . exact .inr (.inr e)
   . have:=(h.no k e).1;omega
   have:=(oS k e).1;omega
 . rw[dm];exact TS
 . rw[Lk w5 b7 9 _ _ _ bn,oM]
 . rw[dm]
   have h8:=OwnX.app zX aA bN hX hr hg aI;refine h8.kept zX (zV w5 b7 9 _) (.inr (fun e=>?_)) (fun k e=>.inl fun hs=>?_)
   . have:g'=b7:=by simpa[Value.ownBlock] using e
     omega
   cases e;have:=hs.1;omega
 . intro k hk
   refine⟨hV7 k hk,fun e=>?_⟩;have:g'=k:=by simpa[Value.ownBlock] using e
   subst this;rcases aI with e | e
   . exact(nc g' hk).2 e
   have:=(hd.own.lt g' hk).2;omega
 . refine⟨hW.size,fun k o hk lJ hcf=>(hW.block k (zj lJ) fun hr=>?_).trans lJ⟩
   rcases hr with e | e | e | e | e
   . omega
   . omega
   . omega
   . rcases h.bd.own.2 with ⟨hn,_⟩ | ⟨g,ap,cur,pF,_,fO,_⟩
     . rw[hn] at e;cases e
     rw[pF] at e;cases e;rw[fO] at lJ;cases lJ;cases hcf
   obtain⟨css2,_,fi,_⟩:=h.out;rcases fi.2 with ⟨hn,_⟩ | ⟨g,ap,cur,pF,_,fO,_⟩
   . rw[hn] at e;cases e
   rw[pF] at e;cases e;rw[fO] at lJ;cases lJ;cases hcf
 rcases hr with e | e | e | e | e
 . exact .inl e
 . exact .inr (.inl e)
 . exact .inr (.inr (.inl e))
 . exact .inr (.inr (.inr (h.no k e).1))
 exact .inr (.inr (.inr (oS k e).1))
end
end
section
open Go.RowKit
theorem jv(w:Ba)(c1 c2 c3:Array Au)(t1 t2 t3:TypeId):∃W0,((w.alloc (Ag c1 t1)).alloc (Ag c2 t2)).alloc (Ag c3 t3)=W0/\W0.heap[w.heap.size]?=J (Ag c1 t1 (0,0))/\W0.heap[w.heap.size+1]?=J (Ag c2 t2 (0,0)) /\
  W0.heap[w.heap.size+1+1]?=J (Ag c3 t3 (0,0))/\W0.heap.size=w.heap.size+3/\Am w.heap.size w W0:=
 ⟨_,rfl,yD (yD (zx _ _) _) _,yD (by have:=zx (w.alloc (Ag c1 t1)) (Ag c2 t2);rwa[NX] at this) _,
  by have:=zx ((w.alloc (Ag c1 t1)).alloc (Ag c2 t2)) (Ag c3 t3);rwa[NX,NX] at this,by simp,bel3 w _ _ _⟩
def PutCut(n:Int)(vs:List Vw)(v:Vw)(g:Nat)(w1:Ba)(s:Au)(wx:Ba):Prop:=
 s=Aj (J ⟨g,0,Z⟩)/\∃A cap,wx.cell? ⟨g,0,Z⟩=J (O U n)/\wx.cell? ⟨g,1,Z⟩=J (I A (vs.length+1) cap)/\OwnV wx (g+1) (I A (vs.length+1) cap) (vs++[v])/\Am g w1 wx
theorem put_any(n:Int)(A:Bb)(cap:Nat)(vs:List Vw)(v:Vw)(w:Ba)(hT:TArg w A cap vs)(hl:vs.length<100000) :
  An Al 140 #[Ai #[O U n,I A vs.length cap],.agg v.cells] w (RetPut n A cap vs v w):=by
 have HT:=zH hT;have so:=hT.few;go_enter func140,ntmps140;unfold Vw.cells;go_wp2_with fail;obtain⟨W0,dT,b0,b1,b2,aP,bG⟩:=jv w #[O U n,I A vs.length cap] v.cells #[O U 0,I Z 0 0] 36 133 36;unfold Vw.cells at dT;rw[dT];have c0:W0.heap[w.heap.size+1]?=J (Ag v.cells 133 (0,0)):=b1;have On:=HT.out.keep bG;refine(index_any n A cap vs v W0 W0.heap.size (Ld _) On.rows (by omega)).mono ?_;rintro e w1 ⟨rfl,hb⟩;have HV:As (w1.heap[w.heap.size+1]?=J (Ag v.cells 133 (0,0))):=Lb hb (by omega) c0;have d0:=Lb hb (by omega) b0;have d2:=Lb hb (by omega) b2;have hT1:=zH (On.keep hb);have B1:As (Am w.heap.size w w1):=bG.trans (hb.mono (by omega));have l0:w.heap.size+3<=w1.heap.size:=by have:=hb.size;omega
 obtain⟨t0,t1,_⟩:=Ke d0;obtain⟨r0,r1,_⟩:=Ke d2;have f0:=zi d2 0;have f1:=zi d2 1
 by_cases hv:v∈vs
 . have hz:=zH hv
   have h0:0<=kJ vs v:=Ju hv;go_wp2_with fail;have aO:As (Am w.heap.size w ((w1.setCell ⟨w.heap.size+1+1,0,Z⟩ (O U n)).setCell ⟨w.heap.size+1+1,1,Z⟩ (I A vs.length cap))):=(B1.out.setCell (by simp;omega) _).setCell (by simp;omega) _;exact LP (v:=.tuple #[Ai #[O U n,I A vs.length cap],O U (kJ vs v)]) (by simp[results,results140,go_sem,r0,r1]) rfl ⟨aO.out,fun _=>rfl,fun h=>absurd hz.out h⟩
 have hz:As (v∉vs):=hv;have h0:kJ vs v=-1:=by unfold kJ;rw[Lg hv]
 have h1:kJ vs v<0:=by omega
 go_upto_region 5 with fail
 obtain⟨W2,dZ,g0,ee,bE⟩:=zn w1 #[O U n,I Z 0 0] 36;rw[dZ];clear dZ;have Eh:W2.heap[w.heap.size+1]?=J (Ag v.cells 133 (0,0)):=Lb bE (by omega) HV.out;have D0:W2.heap[w.heap.size]?=J (Ag #[O U n,I A vs.length cap] 36 (0,0)):=Lb bE (by omega) d0;have D2:W2.heap[w.heap.size+1+1]?=J (Ag #[O U 0,I Z 0 0] 36 (0,0)):=Lb bE (by omega) d2;have x0:W2.cell? ⟨w.heap.size+1,0,Z⟩=J (O U v.p):=zh Eh 0 rfl;have x1:W2.cell? ⟨w.heap.size+1,1,Z⟩=J (O U v.r):=zh Eh 1 rfl;have x2:W2.cell? ⟨w.heap.size+1,2,Z⟩=J (O U v.i):=zh Eh 2 rfl;have x3:W2.cell? ⟨w.heap.size+1,3,Z⟩=J (O U v.h0):=zh Eh 3 rfl;have x4:W2.cell? ⟨w.heap.size+1,4,Z⟩=J (O U v.h1):=zh Eh 4 rfl;have x5:W2.cell? ⟨w.heap.size+1,5,Z⟩=J (O U v.h2):=zh Eh 5 rfl;have x6:W2.cell? ⟨w.heap.size+1,6,Z⟩=J (O U v.h3):=zh Eh 6 rfl;have x7:W2.cell? ⟨w.heap.size+1,7,Z⟩=J (O U v.h4):=zh Eh 7 rfl;have s1:W2.cell? ⟨w.heap.size,1,Z⟩=J (I A vs.length cap):=zh D0 1 rfl;have y1:W2.cell? ⟨w1.heap.size,1,Z⟩=J (I Z 0 0):=zh g0 1 rfl;have y0:W2.cell? ⟨w1.heap.size,0,Z⟩=J (O U n):=zh g0 0 rfl;have BX:=zH bE;have l3:w.heap.size<W2.heap.size:=by omega
 have z1:=zi g0 1;have l2:w1.heap.size<W2.heap.size:=by omega
 have Aa:=zH (hT1.out.keep bE);have B2:As (Am w.heap.size w W2):=Lc B1.out bE;have du:=zH d0;have ff:=zH d2;clear d0 d2 t0 t1 r0 r1 f0 f1 bE ee
 go_cut [7] (fun s7 wx=>PutCut n vs v w1.heap.size w1 s7 wx)
 case first=>
  go_region_law ((first
    | (refine step_appv0 (by rfl) (.tmp 19) (.tmp 21) (by rfl) W2.heap.size (by rfl) A cap vs (by rfl) (by first | exact Aa.out.keep (Ll _ _).drew | exact Aa.out.keep (zW W2 _).drew) (by simp) ?_;intro A1 OR wA fb cV;have hG:W2.grownBy wA Z:=(by first | exact⟨cV.os,cV.tape,cV.output,cV.size,cV.block⟩ | exact xd (o:=Ag v.cells 133) ⟨cV.os,cV.tape,cV.output,cV.size,cV.block⟩);have e0:=yw hG x0 (by simp);have e1:=yw hG x1 (by simp);have e2:=yw hG x2 (by simp);have e3:=yw hG x3 (by simp);have e4:=yw hG x4 (by simp);have e5:=yw hG x5 (by simp);have e6:=yw hG x6 (by simp);have e7:=yw hG x7 (by simp);have e8:=yw hG y1 (by simp);have e9:=uf hG z1 l2 (by simp);have rO:W2.heap.size<=wA.heap.size:=hG.size)
    | (refine ZU (by rfl) (.tmp 22) (.tmp 24) (by rfl) W2.heap.size _ vs v (by rfl) (fb.alloc _) (by omega) wA.heap.size (by rfl) (zx wA _) (by first | omega | (simp;omega)) ?_;intro A3 lN wB tK aX;have hH:wA.grownBy wB (I A1 vs.length OR).ownBlock:=(by first | exact⟨aX.os,aX.tape,aX.output,aX.size,aX.block⟩ | exact xd (o:=Ag v.cells 133) ⟨aX.os,aX.tape,aX.output,aX.size,aX.block⟩);have h8:=yw hH e8 (fb.ne (by omega));have h9:=uf hH e9 (by omega) (fb.ne (by omega));have h10:Am w1.heap.size w1 wB:=(BX.out.grown hG (by omega) (by simp)).grown hH (by omega) (fun k hk=>by have:=(fb.lt k hk).1;omega);have Ui:=yw hH (yw hG y0 (by simp)) (fb.ne (by omega)))
    | (refine ZU (by rfl) (.tmp 22) (.tmp 24) (by rfl) W2.heap.size _ vs v (by rfl) (fb) (by omega) W2.heap.size (by rfl) (grown_heap cV (zx W2 _) (by simp)) (by first | omega | (simp;omega)) ?_;intro A3 lN wB tK aX;have hH:wA.grownBy wB (I A1 vs.length OR).ownBlock:=(by first | exact⟨aX.os,aX.tape,aX.output,aX.size,aX.block⟩ | exact xd (o:=Ag v.cells 133) ⟨aX.os,aX.tape,aX.output,aX.size,aX.block⟩);have h8:=yw hH e8 (fb.ne (by omega));have h9:=uf hH e9 (by omega) (fb.ne (by omega));have h10:Am w1.heap.size w1 wB:=(BX.out.grown hG (by omega) (by simp)).grown hH (by omega) (fun k hk=>by have:=(fb.lt k hk).1;omega);have Ui:=yw hH (yw hG y0 (by simp)) (fb.ne (by omega)))))
  all_goals
   go_wp2_with fail
   go_meet
   refine⟨rfl,A3,lN,by simp[go_sem,Ui],by simp[go_sem,h8],?_,h10.setCell (by simp) _⟩;exact(OwnV.kept tK (ue wB w1.heap.size 1 _) (Or.inr (tK.ne l2))).low l2
 obtain⟨rfl,A3,lN,c0,c1,hT3,aG⟩:=hcut;have D0:=Lb aG (by omega) du.out;have D2:=Lb aG (by omega) ff.out;have t1:wc.cell? ⟨w.heap.size,1,Z⟩=J (I A vs.length cap):=zh D0 1 rfl;obtain⟨r0,r1,_⟩:=Ke D2;have f0:=zi D2 0;have f1:=zi D2 1;have HT3:=zH hT3;have aC:As (Am w.heap.size w wc):=Lc B1.out aG;go_wp2_with fail
 go_region
 all_goals
  go_wp2_with fail;have aO:As (Am w.heap.size w (((wc.setCell ⟨w.heap.size+1+1,0,Z⟩ (O U n)).setCell ⟨w.heap.size+1+1,1,Z⟩ (I A3 (vs.length+1) lN)).drew)):=((aC.out.setCell (by simp;omega) _).setCell (by simp;omega) _).drew
  have WN:OwnV ((wc.setCell ⟨w.heap.size+1+1,0,Z⟩ (O U n)).setCell ⟨w.heap.size+1+1,1,Z⟩ (I A3 (vs.length+1) lN)) (w1.heap.size+1) (I A3 (vs.length+1) lN) (vs++[v]):=
   (HT3.out.kept (ue wc (w.heap.size+1+1) 0 _) (Or.inr (HT3.out.ne (by omega)))).kept (ue _ (w.heap.size+1+1) 1 _) (Or.inr (HT3.out.ne (by omega)))
  exact LP (v:=.tuple #[Ai #[O U n,I A3 (vs.length+1) lN],O U vs.length]) (by simp[results,results140,go_sem,r0,r1]) rfl ⟨aO.out,fun h=>absurd h hz.out,fun _=>⟨A3,lN,rfl,(OwnV.drew WN).low (by have:=B1.out.size;omega)⟩⟩
end
section
open Go.RowKit Go.Shelf
attribute [local go_sem] Oper.semAt_some
theorem vm{w X:Ba}{g h B:Nat}{a0 a1 a2 a3 a4 a5 a6 a7 a8 a9 u0:Au}(v0 v1 v2 v3 v4 v5 v6 v7 v8 v9 u:Au)(hg:X.heap[g]?=J (Ag #[a0,a1,a2,a3,a4,a5,a6,a7,a8,a9] 39 (0,0)))(hh:X.heap[h]?=J (Ag #[u0] 47 (0,0)))
  (az:g≠h) (hB:Am B w X) (h1:B<=g) (h2:B<=h) :
  (((((((((((X.setCell ⟨g,0,Z⟩ v0).setCell ⟨g,1,Z⟩ v1).setCell ⟨g,2,Z⟩ v2).setCell ⟨g,3,Z⟩ v3).setCell ⟨g,4,Z⟩ v4).setCell ⟨g,5,Z⟩ v5).setCell ⟨g,6,Z⟩ v6).setCell ⟨g,7,Z⟩ v7).setCell ⟨g,8,Z⟩ v8).setCell ⟨g,9,Z⟩ v9).setCell ⟨h,0,Z⟩ u).heap[g]?=J (Ag #[v0,v1,v2,v3,v4,v5,v6,v7,v8,v9] 39 (0,0))/\(((((((((((X.setCell ⟨g,0,Z⟩ v0).setCell ⟨g,1,Z⟩ v1).setCell ⟨g,2,Z⟩ v2).setCell ⟨g,3,Z⟩ v3).setCell ⟨g,4,Z⟩ v4).setCell ⟨g,5,Z⟩ v5).setCell ⟨g,6,Z⟩ v6).setCell ⟨g,7,Z⟩ v7).setCell ⟨g,8,Z⟩ v8).setCell ⟨g,9,Z⟩ v9).setCell ⟨h,0,Z⟩ u).heap[h]?=J (Ag #[u] 47 (0,0))/\Am B w (((((((((((X.setCell ⟨g,0,Z⟩ v0).setCell ⟨g,1,Z⟩ v1).setCell ⟨g,2,Z⟩ v2).setCell ⟨g,3,Z⟩ v3).setCell ⟨g,4,Z⟩ v4).setCell ⟨g,5,Z⟩ v5).setCell ⟨g,6,Z⟩ v6).setCell ⟨g,7,Z⟩ v7).setCell ⟨g,8,Z⟩ v8).setCell ⟨g,9,Z⟩ v9).setCell ⟨h,0,Z⟩ u) /\
   (((((((((((X.setCell ⟨g,0,Z⟩ v0).setCell ⟨g,1,Z⟩ v1).setCell ⟨g,2,Z⟩ v2).setCell ⟨g,3,Z⟩ v3).setCell ⟨g,4,Z⟩ v4).setCell ⟨g,5,Z⟩ v5).setCell ⟨g,6,Z⟩ v6).setCell ⟨g,7,Z⟩ v7).setCell ⟨g,8,Z⟩ v8).setCell ⟨g,9,Z⟩ v9).setCell ⟨h,0,Z⟩ u).heap.size=X.heap.size/\(∀k,k≠g->k≠h->(((((((((((X.setCell ⟨g,0,Z⟩ v0).setCell ⟨g,1,Z⟩ v1).setCell ⟨g,2,Z⟩ v2).setCell ⟨g,3,Z⟩ v3).setCell ⟨g,4,Z⟩ v4).setCell ⟨g,5,Z⟩ v5).setCell ⟨g,6,Z⟩ v6).setCell ⟨g,7,Z⟩ v7).setCell ⟨g,8,Z⟩ v8).setCell ⟨g,9,Z⟩ v9).setCell ⟨h,0,Z⟩ u).heap[k]?=X.heap[k]?):=by
 have k0:(X.setCell ⟨g,0,Z⟩ v0).heap[g]?=J (Ag #[v0,a1,a2,a3,a4,a5,a6,a7,a8,a9] 39 (0,0)):=Lk _ g 0 _ _ v0 hg;have k1:((X.setCell ⟨g,0,Z⟩ v0).setCell ⟨g,1,Z⟩ v1).heap[g]?=J (Ag #[v0,v1,a2,a3,a4,a5,a6,a7,a8,a9] 39 (0,0)):=Lk _ g 1 _ _ v1 k0;have k2:(((X.setCell ⟨g,0,Z⟩ v0).setCell ⟨g,1,Z⟩ v1).setCell ⟨g,2,Z⟩ v2).heap[g]?=J (Ag #[v0,v1,v2,a3,a4,a5,a6,a7,a8,a9] 39 (0,0)):=Lk _ g 2 _ _ v2 k1;have k3:((((X.setCell ⟨g,0,Z⟩ v0).setCell ⟨g,1,Z⟩ v1).setCell ⟨g,2,Z⟩ v2).setCell ⟨g,3,Z⟩ v3).heap[g]?=J (Ag #[v0,v1,v2,v3,a4,a5,a6,a7,a8,a9] 39 (0,0)):=Lk _ g 3 _ _ v3 k2;have k4:(((((X.setCell ⟨g,0,Z⟩ v0).setCell ⟨g,1,Z⟩ v1).setCell ⟨g,2,Z⟩ v2).setCell ⟨g,3,Z⟩ v3).setCell ⟨g,4,Z⟩ v4).heap[g]?=J (Ag #[v0,v1,v2,v3,v4,a5,a6,a7,a8,a9] 39 (0,0)):=Lk _ g 4 _ _ v4 k3;have k5:((((((X.setCell ⟨g,0,Z⟩ v0).setCell ⟨g,1,Z⟩ v1).setCell ⟨g,2,Z⟩ v2).setCell ⟨g,3,Z⟩ v3).setCell ⟨g,4,Z⟩ v4).setCell ⟨g,5,Z⟩ v5).heap[g]?=J (Ag #[v0,v1,v2,v3,v4,v5,a6,a7,a8,a9] 39 (0,0)):=Lk _ g 5 _ _ v5 k4;have k6:(((((((X.setCell ⟨g,0,Z⟩ v0).setCell ⟨g,1,Z⟩ v1).setCell ⟨g,2,Z⟩ v2).setCell ⟨g,3,Z⟩ v3).setCell ⟨g,4,Z⟩ v4).setCell ⟨g,5,Z⟩ v5).setCell ⟨g,6,Z⟩ v6).heap[g]?=J (Ag #[v0,v1,v2,v3,v4,v5,v6,a7,a8,a9] 39 (0,0)):=Lk _ g 6 _ _ v6 k5
 have k7:((((((((X.setCell ⟨g,0,Z⟩ v0).setCell ⟨g,1,Z⟩ v1).setCell ⟨g,2,Z⟩ v2).setCell ⟨g,3,Z⟩ v3).setCell ⟨g,4,Z⟩ v4).setCell ⟨g,5,Z⟩ v5).setCell ⟨g,6,Z⟩ v6).setCell ⟨g,7,Z⟩ v7).heap[g]?=J (Ag #[v0,v1,v2,v3,v4,v5,v6,v7,a8,a9] 39 (0,0)):=Lk _ g 7 _ _ v7 k6;have k8:(((((((((X.setCell ⟨g,0,Z⟩ v0).setCell ⟨g,1,Z⟩ v1).setCell ⟨g,2,Z⟩ v2).setCell ⟨g,3,Z⟩ v3).setCell ⟨g,4,Z⟩ v4).setCell ⟨g,5,Z⟩ v5).setCell ⟨g,6,Z⟩ v6).setCell ⟨g,7,Z⟩ v7).setCell ⟨g,8,Z⟩ v8).heap[g]?=J (Ag #[v0,v1,v2,v3,v4,v5,v6,v7,v8,a9] 39 (0,0)):=Lk _ g 8 _ _ v8 k7;have k9:((((((((((X.setCell ⟨g,0,Z⟩ v0).setCell ⟨g,1,Z⟩ v1).setCell ⟨g,2,Z⟩ v2).setCell ⟨g,3,Z⟩ v3).setCell ⟨g,4,Z⟩ v4).setCell ⟨g,5,Z⟩ v5).setCell ⟨g,6,Z⟩ v6).setCell ⟨g,7,Z⟩ v7).setCell ⟨g,8,Z⟩ v8).setCell ⟨g,9,Z⟩ v9).heap[g]?=J (Ag #[v0,v1,v2,v3,v4,v5,v6,v7,v8,v9] 39 (0,0)):=Lk _ g 9 _ _ v9 k8
 have l9:=(Le _ ⟨g,9,Z⟩ v9 h (N9 az)).trans ((Le _ ⟨g,8,Z⟩ v8 h (N9 az)).trans ((Le _ ⟨g,7,Z⟩ v7 h (N9 az)).trans ((Le _ ⟨g,6,Z⟩ v6 h (N9 az)).trans ((Le _ ⟨g,5,Z⟩ v5 h (N9 az)).trans ((Le _ ⟨g,4,Z⟩ v4 h (N9 az)).trans ((Le _ ⟨g,3,Z⟩ v3 h (N9 az)).trans ((Le _ ⟨g,2,Z⟩ v2 h (N9 az)).trans ((Le _ ⟨g,1,Z⟩ v1 h (N9 az)).trans ((Le _ ⟨g,0,Z⟩ v0 h (N9 az)).trans (hh))))))))));refine⟨(Le _ ⟨h,0,Z⟩ u g az).trans k9,?_,?_,by simp,fun k n1 n2=>?_⟩
 . rw[Lk _ h 0 _ _ u l9];rfl
 . refine LB (p:=⟨h,0,Z⟩) ?_ h2 _
   refine LB (p:=⟨g,9,Z⟩) ?_ h1 _;refine LB (p:=⟨g,8,Z⟩) ?_ h1 _;refine LB (p:=⟨g,7,Z⟩) ?_ h1 _;refine LB (p:=⟨g,6,Z⟩) ?_ h1 _;refine LB (p:=⟨g,5,Z⟩) ?_ h1 _;refine LB (p:=⟨g,4,Z⟩) ?_ h1 _;refine LB (p:=⟨g,3,Z⟩) ?_ h1 _;refine LB (p:=⟨g,2,Z⟩) ?_ h1 _;refine LB (p:=⟨g,1,Z⟩) ?_ h1 _;refine LB (p:=⟨g,0,Z⟩) ?_ h1 _;exact hB
 refine(Le _ ⟨h,0,Z⟩ u k n2).trans ?_;refine(Le _ ⟨g,9,Z⟩ v9 k n1).trans ?_;refine(Le _ ⟨g,8,Z⟩ v8 k n1).trans ?_;refine(Le _ ⟨g,7,Z⟩ v7 k n1).trans ?_;refine(Le _ ⟨g,6,Z⟩ v6 k n1).trans ?_;refine(Le _ ⟨g,5,Z⟩ v5 k n1).trans ?_;refine(Le _ ⟨g,4,Z⟩ v4 k n1).trans ?_;refine(Le _ ⟨g,3,Z⟩ v3 k n1).trans ?_;refine(Le _ ⟨g,2,Z⟩ v2 k n1).trans ?_;refine(Le _ ⟨g,1,Z⟩ v1 k n1).trans ?_;exact Le _ ⟨g,0,Z⟩ v0 k n1
theorem X9(w:Ba)(o:Obj):∃W0,w.alloc o=W0/\W0.heap[w.heap.size]?=J o/\W0.heap.size=w.heap.size+1/\Am w.heap.size w W0:=⟨_,rfl,zx _ _,by simp,zW w _⟩
theorem uU{t:Tk}:∀ {q:Option Cs} {l:List Cs},jo t q l=0->∀c∈l,(c.inp.length:Int)=t.n
 | _,[],_,c,hc=>by cases hc
 | q,d::l,h,c,hc=>by
  rw[jo] at h
  split at h
  . rename_i h1;exact absurd h h1
  . rename_i h1
    rcases L9.1 hc with rfl | hc
    . have h2:qO t q c=0:=by simpa using h1
      unfold qO at h2
      split at h2
      . rename_i h3;exact absurd h2 h3
      . rename_i h3
        have h4:zN c.inp t.n t.ins=0:=by simpa using h3
        unfold zN at h4
        split at h4
        . cases h4
        . rename_i h5;simpa using h5
    . exact uU h c hc
theorem ZQ{t:Tk}(h:xp t=0):∀c∈t.cases,(c.inp.length:Int)=t.n:=by
 unfold xp at h
 split at h
 . cases h
 split at h
 . cases h
 exact uU (by unfold xD at h;rwa[Nl] at h)
theorem RowX.turnC{α:Type}{C:Ct α}(ok:CtOk C){S:Nat->Prop}{w w':Ba}{g:Nat}{xs:List α}(h:RowX C S w g xs)(hs:w.heap.size<=w'.heap.size)(hc:∀(k:Nat) (o:Obj),w.heap[k]?=J o->o.isCells=Av->w'.heap[k]?=J o):RowX C S w' g xs:=by
 obtain⟨fW,h1,h2⟩:=h;refine⟨fW,hc _ _ h1 rfl,fun i hi=>?_⟩;obtain⟨cs,h3,h4⟩:=h2 i hi;exact⟨cs,ok.keepC h3 (KeepC.of_cells _ hs hc),h4⟩
theorem OwnV.of_same{w w':Ba}{base:Nat}{v:Au}{vs:List Vw}(h:OwnV w base v vs)(hk:∀k,v.ownBlock=J k->w'.heap[k]?=w.heap[k]?):OwnV w' base v vs:=by
 refine⟨h.1,?_⟩;rcases h.2 with hn | ⟨g,cap,cur,hv,hb,hg,rest⟩
 . exact .inl hn
 exact .inr ⟨g,cap,cur,hv,hb,(hk g (by rw[hv];rfl)).trans hg,rest⟩
def RetSys(r:Sy×Int)(w:Ba)(e:Ending)(w':Ba):Prop:=∃A kc SV ks AV kv AX kx,e=Ak (.tuple #[.agg (r.1.vs_ A kc SV ks AV kv AX kx),O U r.2])/\SyAt w' w'.heap.size A SV AV AX r.1/\r.1.vs.length<=kv/\kv<=maxLen/\Am w.heap.size w w'
theorem RetSys.zero{w W:Ba}(n:Int)(h:Am w.heap.size w W):RetSys (qo,n) w (Ak (.tuple #[Ai #[O U 0,O U 0,O U 0,I Z 0 0,O U 0,I Z 0 0,O U 0,O U 0,I Z 0 0,I Z 0 0],O U n])) W:=
 ⟨Z,0,Z,0,Z,0,Z,0,rfl,⟨CAt.nil _ _ _,SAt.nil _ _ _,fun h=>absurd h (by simp[qo]),XAt.nil _ _ _⟩,Ld _,Ni _,h⟩
def RetSysF(L0 B0:Nat)(r:Sy×Int)(w:Ba)(e:Ending)(w':Ba):Prop:=∃A kc SV ks AV kv AX kx,e=Ak (.tuple #[.agg (r.1.vs_ A kc SV ks AV kv AX kx),O U r.2]) /\
 (∀W':Ba,w'.heap.size<=W'.heap.size->(∀k,((L0<=k/\k<B0)\/w.heap.size<=k)->k<w'.heap.size->W'.heap[k]?=w'.heap[k]?)->SyAt W' W'.heap.size A SV AV AX r.1)/\r.1.vs.length<=kv/\kv<=maxLen/\Am w.heap.size w w'
theorem RetSysF.zero{L0 B0:Nat}{w W:Ba}(n:Int)(h:Am w.heap.size w W):RetSysF L0 B0 (qo,n) w (Ak (.tuple #[Ai #[O U 0,O U 0,O U 0,I Z 0 0,O U 0,I Z 0 0,O U 0,O U 0,I Z 0 0,I Z 0 0],O U n])) W:=
 ⟨Z,0,Z,0,Z,0,Z,0,rfl,fun W' _ _=>⟨CAt.nil _ _ _,SAt.nil _ _ _,fun h=>absurd h (by simp[qo]),XAt.nil _ _ _⟩,Ld _,Ni _,h⟩
theorem RetSysF.sys{L0 B0:Nat}{r:Sy×Int}{w W:Ba}{e:Ending}(h:RetSysF L0 B0 r w e W):RetSys r w e W:=by
 obtain⟨A,kc,SV,ks,AV,kv,AX,kx,he,h1,h2,h3,h4⟩:=h;exact⟨A,kc,SV,ks,AV,kv,AX,kx,he,h1 W (Ld _) (fun _ _ _=>rfl),h2,h3,h4⟩
theorem buildL_any(p:Pb)(hf:yU p)(A:Bb)(kc:Nat)(SV:Bb)(ks:Nat)(w:Ba)(L0 B0:Nat)(bG:B0<=w.heap.size)(ON:CAt w B0 A p.t.cases)(Ou:SAt w B0 SV p.a.sts)(Gj:CAtL L0 B0 w A p.t.cases)(Ga:SAtL L0 B0 w SV p.a.sts) :
  An Al 31 #[.agg (p.vs A kc SV ks)] w (RetSysF L0 B0 (zY p) w):=by
 have hA:=ON.more bG;have hS:=Ou.more bG;have UV:=zH Gj;have Be:=zH Ga;clear Gj Ga ON Ou;have Bw:=zH (fun (W:Ba) (h1:CAt W W.heap.size A p.t.cases) (h2:SAt W W.heap.size SV p.a.sts)=>ecount_any p hf.1 A kc SV ks W h1 h2);have ai:=zH (@xn p);have aj:=zH (@xA p);have ax:=zH (@qA p);have mQ:=zH hf;obtain⟨w1,ab,d0,d1,d2,aP,lj⟩:=jv w (p.vs A kc SV ks) #[O U 0,O U 0,O U 0,I Z 0 0,O U 0,I Z 0 0,O U 0,O U 0,I Z 0 0,I Z 0 0] #[O U 0] 29 39 47;have HA:=zH hA;have HS:=zH hS;have ec:=zH lj;have du:=zH d0;have cy:=zH d1;have ff:=zH d2;have SX:=Bw.out w1 ((hA.keep lj).more lj.size) ((hS.keep lj).more lj.size);have SX:=zH SX;unfold Pb.vs at ab d0 SX ⊢;obtain⟨q0,q1,q2,q3,q4,q5,q6,_⟩:=Kg d0;have ag:=zH ab;clear ab d0 d1 d2 lj hA hS hf Bw;refine yg func31 rfl ?_;simp only[ntmps31,List.size_toArray,List.length_cons,List.length_nil,Nat.reduceAdd,Nat.reduceSub,Array.replicate_succ,Array.replicate_zero,List.push_toArray,List.append_toArray,List.nil_append,List.cons_append];go_wp2_with fail;rw[ag.out];go_wp2_with fail;refine SX.out.mono ?_;rintro e w2 ⟨rfl,ae⟩;clear SX ag q0 q1 q2 q3 q4 q5 q6;have D0:=zH (La ae du.out);have D1:=zH (La ae cy.out);have D2:=zH (La ae ff.out);have B2:=zH (ec.out.trans (ae.mono (by omega)));have ee:=ae.size;clear ae
 by_cases lD:zZ p=0
 case neg=>
  have rM:ui p=(0,zZ p):=Lj lD;rw[rM,ai.out lD];have e0:(zZ p != 0)=Av:=by simpa using lD
  obtain⟨pe,Mh⟩:=Kj (zZ p);rw[Mh] at e0 ⊢;have x0:w2.cell? ⟨w.heap.size+1,0,Z⟩=J (O U 0):=zh D1.out 0 rfl;have f0:=zi D1.out 0;have x1:w2.cell? ⟨w.heap.size+1,1,Z⟩=J (O U 0):=zh D1.out 1 rfl;have f1:=zi D1.out 1;have x2:w2.cell? ⟨w.heap.size+1,2,Z⟩=J (O U 0):=zh D1.out 2 rfl;have f2:=zi D1.out 2;have x3:w2.cell? ⟨w.heap.size+1,3,Z⟩=J (I Z 0 0):=zh D1.out 3 rfl;have f3:=zi D1.out 3;have x4:w2.cell? ⟨w.heap.size+1,4,Z⟩=J (O U 0):=zh D1.out 4 rfl;have f4:=zi D1.out 4;have x5:w2.cell? ⟨w.heap.size+1,5,Z⟩=J (I Z 0 0):=zh D1.out 5 rfl;have f5:=zi D1.out 5;have x6:w2.cell? ⟨w.heap.size+1,6,Z⟩=J (O U 0):=zh D1.out 6 rfl;have f6:=zi D1.out 6;have x7:w2.cell? ⟨w.heap.size+1,7,Z⟩=J (O U 0):=zh D1.out 7 rfl;have f7:=zi D1.out 7;have x8:w2.cell? ⟨w.heap.size+1,8,Z⟩=J (I Z 0 0):=zh D1.out 8 rfl;have f8:=zi D1.out 8;have x9:w2.cell? ⟨w.heap.size+1,9,Z⟩=J (I Z 0 0):=zh D1.out 9 rfl;have f9:=zi D1.out 9;have y0:w2.cell? ⟨w.heap.size+1+1,0,Z⟩=J (O U 0):=zh D2.out 0 rfl;have g0:=zi D2.out 0;go_wp2_with fail;obtain⟨k1,k2,k3,_,_⟩:=vm (O U 0) (O U 0) (O U 0) (I Z 0 0) (O U 0) (I Z 0 0) (O U 0) (O U 0) (I Z 0 0) (I Z 0 0) (O U pe) D1.out D2.out (by omega) B2.out (by omega:w.heap.size<=w.heap.size+1) (by omega:w.heap.size<=w.heap.size+1+1);refine xk (B:=w.heap.size) (Marks.nil _ _) ?_
  intro W hX;have c0:W.cell? ⟨w.heap.size+1,0,Z⟩=J (O U 0):=hX.cell (zh k1 0 rfl);have c1:W.cell? ⟨w.heap.size+1,1,Z⟩=J (O U 0):=hX.cell (zh k1 1 rfl);have c2:W.cell? ⟨w.heap.size+1,2,Z⟩=J (O U 0):=hX.cell (zh k1 2 rfl);have c3:W.cell? ⟨w.heap.size+1,3,Z⟩=J (I Z 0 0):=hX.cell (zh k1 3 rfl);have c4:W.cell? ⟨w.heap.size+1,4,Z⟩=J (O U 0):=hX.cell (zh k1 4 rfl);have c5:W.cell? ⟨w.heap.size+1,5,Z⟩=J (I Z 0 0):=hX.cell (zh k1 5 rfl);have c6:W.cell? ⟨w.heap.size+1,6,Z⟩=J (O U 0):=hX.cell (zh k1 6 rfl);have c7:W.cell? ⟨w.heap.size+1,7,Z⟩=J (O U 0):=hX.cell (zh k1 7 rfl);have c8:W.cell? ⟨w.heap.size+1,8,Z⟩=J (I Z 0 0):=hX.cell (zh k1 8 rfl);have c9:W.cell? ⟨w.heap.size+1,9,Z⟩=J (I Z 0 0):=hX.cell (zh k1 9 rfl);have Gq:W.cell? ⟨w.heap.size+1+1,0,Z⟩=J (O U pe):=hX.cell (zh k2 0 rfl);have hR:=RetSysF.zero (L0:=L0) (B0:=B0) pe (k3.trans hX.below);rw[ai.out lD,Mh];exact⟨_,by simp[results,results31,go_sem,c0,c1,c2,c3,c4,c5,c6,c7,c8,c9,Gq],hR⟩
 case pos=>
 have rM:ui p=vB 1048576 (yt p):=Lg (by simpa using lD);rw[rM]
 by_cases hT:4096<yt p
 case pos=>
  have HB:=zH (aj.out lD hT)
  by_cases Aa:1048576<yt p
  case pos=>
   have nI:vB 1048576 (yt p)=(0,17):=Lj Aa;rw[nI];clear ai aj ax rM hT Aa nI mQ lD;have x0:w2.cell? ⟨w.heap.size+1,0,Z⟩=J (O U 0):=zh D1.out 0 rfl;have f0:=zi D1.out 0;have x1:w2.cell? ⟨w.heap.size+1,1,Z⟩=J (O U 0):=zh D1.out 1 rfl;have f1:=zi D1.out 1;have x2:w2.cell? ⟨w.heap.size+1,2,Z⟩=J (O U 0):=zh D1.out 2 rfl;have f2:=zi D1.out 2;have x3:w2.cell? ⟨w.heap.size+1,3,Z⟩=J (I Z 0 0):=zh D1.out 3 rfl;have f3:=zi D1.out 3;have x4:w2.cell? ⟨w.heap.size+1,4,Z⟩=J (O U 0):=zh D1.out 4 rfl;have f4:=zi D1.out 4;have x5:w2.cell? ⟨w.heap.size+1,5,Z⟩=J (I Z 0 0):=zh D1.out 5 rfl;have f5:=zi D1.out 5;have x6:w2.cell? ⟨w.heap.size+1,6,Z⟩=J (O U 0):=zh D1.out 6 rfl;have f6:=zi D1.out 6;have x7:w2.cell? ⟨w.heap.size+1,7,Z⟩=J (O U 0):=zh D1.out 7 rfl;have f7:=zi D1.out 7;have x8:w2.cell? ⟨w.heap.size+1,8,Z⟩=J (I Z 0 0):=zh D1.out 8 rfl;have f8:=zi D1.out 8;have x9:w2.cell? ⟨w.heap.size+1,9,Z⟩=J (I Z 0 0):=zh D1.out 9 rfl;have f9:=zi D1.out 9;have y0:w2.cell? ⟨w.heap.size+1+1,0,Z⟩=J (O U 0):=zh D2.out 0 rfl;have g0:=zi D2.out 0;go_wp2_with fail
   obtain⟨k1,k2,k3,_,_⟩:=vm (O U 0) (O U 0) (O U 0) (I Z 0 0) (O U 0) (I Z 0 0) (O U 0) (O U 0) (I Z 0 0) (I Z 0 0) (O U 17) D1.out D2.out (by omega) B2.out (by omega:w.heap.size<=w.heap.size+1) (by omega:w.heap.size<=w.heap.size+1+1);refine xk (B:=w.heap.size) (Marks.nil _ _) ?_;intro W hX;have c0:W.cell? ⟨w.heap.size+1,0,Z⟩=J (O U 0):=hX.cell (zh k1 0 rfl);have c1:W.cell? ⟨w.heap.size+1,1,Z⟩=J (O U 0):=hX.cell (zh k1 1 rfl);have c2:W.cell? ⟨w.heap.size+1,2,Z⟩=J (O U 0):=hX.cell (zh k1 2 rfl);have c3:W.cell? ⟨w.heap.size+1,3,Z⟩=J (I Z 0 0):=hX.cell (zh k1 3 rfl);have c4:W.cell? ⟨w.heap.size+1,4,Z⟩=J (O U 0):=hX.cell (zh k1 4 rfl);have c5:W.cell? ⟨w.heap.size+1,5,Z⟩=J (I Z 0 0):=hX.cell (zh k1 5 rfl);have c6:W.cell? ⟨w.heap.size+1,6,Z⟩=J (O U 0):=hX.cell (zh k1 6 rfl);have c7:W.cell? ⟨w.heap.size+1,7,Z⟩=J (O U 0):=hX.cell (zh k1 7 rfl);have c8:W.cell? ⟨w.heap.size+1,8,Z⟩=J (I Z 0 0):=hX.cell (zh k1 8 rfl);have c9:W.cell? ⟨w.heap.size+1,9,Z⟩=J (I Z 0 0):=hX.cell (zh k1 9 rfl);have Gq:W.cell? ⟨w.heap.size+1+1,0,Z⟩=J (O U 17):=hX.cell (zh k2 0 rfl);have hR:=RetSysF.zero (L0:=L0) (B0:=B0) 17 (k3.trans hX.below);rw[HB.out];exact⟨_,by simp[results,results31,go_sem,c0,c1,c2,c3,c4,c5,c6,c7,c8,c9,Gq],hR⟩
  have nI:vB 1048576 (yt p)=((yt p:Int),0):=Lg Aa;rw[nI];obtain⟨T,sw⟩:=Kj (yt p);rw[sw] at hT Aa ⊢;have hT3:(4096:Int)<(T:Int):=by omega
  clear ai aj ax rM nI mQ lD sw;have x0:w2.cell? ⟨w.heap.size+1,0,Z⟩=J (O U 0):=zh D1.out 0 rfl;have f0:=zi D1.out 0;have x1:w2.cell? ⟨w.heap.size+1,1,Z⟩=J (O U 0):=zh D1.out 1 rfl;have f1:=zi D1.out 1;have x2:w2.cell? ⟨w.heap.size+1,2,Z⟩=J (O U 0):=zh D1.out 2 rfl;have f2:=zi D1.out 2;have x3:w2.cell? ⟨w.heap.size+1,3,Z⟩=J (I Z 0 0):=zh D1.out 3 rfl;have f3:=zi D1.out 3;have x4:w2.cell? ⟨w.heap.size+1,4,Z⟩=J (O U 0):=zh D1.out 4 rfl;have f4:=zi D1.out 4;have x5:w2.cell? ⟨w.heap.size+1,5,Z⟩=J (I Z 0 0):=zh D1.out 5 rfl;have f5:=zi D1.out 5;have x6:w2.cell? ⟨w.heap.size+1,6,Z⟩=J (O U 0):=zh D1.out 6 rfl;have f6:=zi D1.out 6;have x7:w2.cell? ⟨w.heap.size+1,7,Z⟩=J (O U 0):=zh D1.out 7 rfl;have f7:=zi D1.out 7;have x8:w2.cell? ⟨w.heap.size+1,8,Z⟩=J (I Z 0 0):=zh D1.out 8 rfl;have f8:=zi D1.out 8;have x9:w2.cell? ⟨w.heap.size+1,9,Z⟩=J (I Z 0 0):=zh D1.out 9 rfl;have f9:=zi D1.out 9;have y0:w2.cell? ⟨w.heap.size+1+1,0,Z⟩=J (O U 0):=zh D2.out 0 rfl;have g0:=zi D2.out 0;go_wp2_with fail;obtain⟨k1,k2,k3,_,_⟩:=vm (O U 0) (O U 0) (O U 0) (I Z 0 0) (O U 0) (I Z 0 0) (O U 0) (O U 0) (I Z 0 0) (I Z 0 0) (O U 17) D1.out D2.out (by omega) B2.out (by omega:w.heap.size<=w.heap.size+1) (by omega:w.heap.size<=w.heap.size+1+1);refine xk (B:=w.heap.size) (Marks.nil _ _) ?_
  intro W hX;have c0:W.cell? ⟨w.heap.size+1,0,Z⟩=J (O U 0):=hX.cell (zh k1 0 rfl);have c1:W.cell? ⟨w.heap.size+1,1,Z⟩=J (O U 0):=hX.cell (zh k1 1 rfl);have c2:W.cell? ⟨w.heap.size+1,2,Z⟩=J (O U 0):=hX.cell (zh k1 2 rfl);have c3:W.cell? ⟨w.heap.size+1,3,Z⟩=J (I Z 0 0):=hX.cell (zh k1 3 rfl);have c4:W.cell? ⟨w.heap.size+1,4,Z⟩=J (O U 0):=hX.cell (zh k1 4 rfl);have c5:W.cell? ⟨w.heap.size+1,5,Z⟩=J (I Z 0 0):=hX.cell (zh k1 5 rfl);have c6:W.cell? ⟨w.heap.size+1,6,Z⟩=J (O U 0):=hX.cell (zh k1 6 rfl);have c7:W.cell? ⟨w.heap.size+1,7,Z⟩=J (O U 0):=hX.cell (zh k1 7 rfl);have c8:W.cell? ⟨w.heap.size+1,8,Z⟩=J (I Z 0 0):=hX.cell (zh k1 8 rfl);have c9:W.cell? ⟨w.heap.size+1,9,Z⟩=J (I Z 0 0):=hX.cell (zh k1 9 rfl);have Gq:W.cell? ⟨w.heap.size+1+1,0,Z⟩=J (O U 17):=hX.cell (zh k2 0 rfl);have hR:=RetSysF.zero (L0:=L0) (B0:=B0) 17 (k3.trans hX.below);rw[HB.out];exact⟨_,by simp[results,results31,go_sem,c0,c1,c2,c3,c4,c5,c6,c7,c8,c9,Gq],hR⟩
 case neg=>
 have nI:vB 1048576 (yt p)=((yt p:Int),0):=Lg (by omega);rw[nI];have HB:=zH (ax.out lD (by omega));have mG:yt p<=60:=by have:=mQ.out.2 lD;omega
 obtain⟨fE,sT,nx,tJ,Fo⟩:=yp lD;obtain⟨K,hK⟩:=Lp tJ;obtain⟨sr,cZ,nd⟩:=xj fE;have OE:K<=6:=by omega
 have sq:yt p=yj p.a K 0*p.t.cases.length:=by unfold yt;rw[hK];rfl
 have FO:yj p.a K 0<=60:=by
  have:=RD (yj p.a K 0) sr;omega
 have mz:=B2.out;have HWO:=zH (words_any p.a mQ.out.1.2 sT K (by omega) (by omega) SV ks w2 ((HS.out.keep mz).more mz.size));have pf:=zH hK;obtain⟨T,sw⟩:=Kj (yt p);rw[sw] at mG sq ⊢;have eG:=zH sw;have SO:=zH sq;have hT3:¬(4096:Int)<(T:Int):=by omega
 have q4:=zh D0.out 4 rfl;have q5:=zh D0.out 5 rfl;have q6:w2.cell? ⟨w.heap.size,6,Z⟩=J (O U (K:Int)):=by rw[<-hK];exact zh D0.out 6 rfl
 obtain⟨N,hN⟩:=Lp (show 0<=p.t.n by omega);have dM:=zH hN;have Bg:=zH sT;have lQ:=zH nx;have HTI:=zH (ZQ fE);clear ai aj ax rM nI hT sw sq hK lD fE sT nx tJ Fo mz hN;go_wp2_with fail;refine HWO.out.mono ?_;rintro e w3 ⟨AW,cw,rfl,ii,ak⟩;clear q4 q5 q6 HWO;have lB:=ak.size;have D03:=zH (La ak D0.out);have D13:=zH (La ak D1.out);have D23:=zH (La ak D2.out);have B3:=zH (B2.out.trans (ak.mono (by omega)));have fy:=zH ii;have av:=(xt mQ.out.1.2 Bg.out).2.1;have HCP:=zH (copied_any p mQ.out.1 sr av A kc SV ks w3 L0 B0 (Lu bG B3.out.size) (UV.out.keep (B3.out.mono bG)) (Be.out.keep (B3.out.mono bG)));unfold Pb.vs at HCP;obtain⟨q0,q1,q2,q3,q4,q5,q6,_⟩:=Kg D03.out;clear ak ii D0 D1 D2 B2;go_wp2_with fail;refine HCP.out.mono ?_;rintro e w4 ⟨g4,BE,Uj,BD,rfl,hA4,hS4,sk,hgm4,aD⟩;obtain⟨A4,Gi⟩:∃A4:Bb,A4=J ⟨g4,0,Z⟩:=⟨_,rfl⟩;obtain⟨BZ,F9⟩:∃S4:Bb,S4=J ⟨Uj,0,Z⟩:=⟨_,rfl⟩;rw[<-Gi,<-F9];have HA4e:=zH Gi;have HS4e:=zH F9;clear Gi F9;have Fc:=aD.size;have Bz:=zH (La aD D03.out);have UW:=zH (La aD D13.out);have D24:=zH (La aD D23.out);have B4:=zH (B3.out.trans (aD.mono (by omega)));have Hj:=zH hA4;have Bd:=zH hS4;have im:=zH ((fy.out.keep aD).more aD.size);unfold Pb.vs
 have p0:w4.cell? ⟨w.heap.size,0,Z⟩=J (O U p.t.n):=zh Bz.out 0 rfl;have p1:w4.cell? ⟨w.heap.size,1,Z⟩=J (O U p.t.ins):=zh Bz.out 1 rfl;have p2:w4.cell? ⟨w.heap.size,2,Z⟩=J (O U p.t.outs):=zh Bz.out 2 rfl;have p3:w4.cell? ⟨w.heap.size,3,Z⟩=J (I A p.t.cases.length kc):=zh Bz.out 3 rfl;have p4:w4.cell? ⟨w.heap.size,4,Z⟩=J (O U p.a.n):=zh Bz.out 4 rfl;have p5:w4.cell? ⟨w.heap.size,5,Z⟩=J (I SV p.a.sts.length ks):=zh Bz.out 5 rfl;have p6:w4.cell? ⟨w.heap.size,6,Z⟩=J (O U p.k):=zh Bz.out 6 rfl;have fh:w.heap.size<w4.heap.size:=by omega
 clear hA4 hS4 aD q0 q1 q2 q3 q4 q5 q6 HCP D03 D13 D23 fy;have iD:=@run_makeMap Al;have ic:w.heap.size<w4.heap.size+1:=by omega
 have ld:w.heap.size<w4.heap.size+1+1:=by omega
 have sL:w.heap.size<w4.heap.size+1+1+1:=by omega
 have oe:w.heap.size<w4.heap.size+1+1+1+1:=by omega
 go_wp2_with fail;obtain⟨W5,dQ,x5,cY,ea⟩:=X9 w4 (Ag #[O U p.t.n,O U p.t.ins,O U p.t.outs,I A4 p.t.cases.length BE,O U p.a.n,I BZ p.a.sts.length BD,O U p.k,O U 0,I Z 0 0,I Z 0 0] 39);rw[dQ];obtain⟨W6,pu,x6,fD,iN⟩:=X9 W5 (.map #[] 0);rw[pu];obtain⟨W7,po,x7,fC,OM⟩:=X9 W6 (Ag #[O U p.t.n,I Z 0 0,.map (J (w4.heap.size+1))] 120);rw[po];obtain⟨W8,hW8,x8,sc,Iw⟩:=X9 W7 (Ag #[Aj (J ⟨w4.heap.size+1+1,0,Z⟩)] 117);rw[hW8];have oo:MapOf (fun v:Vw=>.agg v.cells) W6 W5.heap.size 0 (uD []):=by rw[<-pu,numF_nil];exact MapOf.made W5
 have C':Am w4.heap.size w4 W8:=ea.trans ((iN.mono (by omega)).trans ((OM.mono (by omega)).trans (Iw.mono (by omega))));have D08:=zH (Lb C' (by omega) Bz.out);clear dQ pu po hW8 iD p0 p1 p2 p3 p4 p5 p6 ic ld sL oe;have BN:=execs_any p A kc SV ks AW (zL p.a K 0).length cw W8;unfold Pb.vs at BN;refine BN.mono ?_;rintro e W9 ⟨rfl,tc⟩;have sO:W9.heap.size=w4.heap.size+6:=by rw[<-tc];simp;omega
 have sy:Am W8.heap.size W8 W9:=by rw[<-tc];exact uj W8 _ _
 have C':Am w4.heap.size w4 W8:=ea.trans ((iN.mono (by omega)).trans ((OM.mono (by omega)).trans (Iw.mono (by omega))));have C9:Am w4.heap.size w4 W9:=C'.trans (sy.mono (by omega));have VJ:W9.heap[W8.heap.size]?=J (Ag (p.vs A kc SV ks) 29 (0,0)):=by rw[<-tc];exact yD (zx W8 _) _
 have Hy:W9.heap[W8.heap.size+1]?=J (Ag #[.slice AW (zL p.a K 0).length cw] 113 (0,0)):=by
  rw[<-tc];have:=zx (W8.alloc (Ag (p.vs A kc SV ks) 29)) (Ag #[.slice AW (zL p.a K 0).length cw] 113);rwa[NX] at this
 have y5:=Lb sy (by omega) (Lb Iw (by omega) (Lb OM (by omega) (Lb iN (by omega) x5)));have y7:=Lb sy (by omega) (Lb Iw (by omega) x7);have y8:=Lb sy (by omega) x8;have ym:=((oo.same (OM.block _ (by omega))).same (Iw.block _ (by omega))).same (sy.block _ (by omega));rw[cY] at ym;rw[fD,cY] at y7;rw[fC,fD,cY] at y8;have Uw:=zH y8;have HP9:=zH VJ;have h8e:W8.heap.size=w4.heap.size+1+1+1+1:=by omega
 -- the words' slices
 obtain⟨sl,dR⟩:∃sl:Nat->Au,sl=fun j=>match AW with | some ad=>(w4.cell? ⟨ad.block,ad.off+j,Z⟩).getD undef | none=>undef:=⟨_,rfl⟩
 have HSL:As (∀(j:Nat) (hj:j<(zL p.a K 0).length),∃A' c,sl j=.slice A' (zL p.a K 0)[j].length c/\RAt w4 w4.heap.size A' (zL p.a K 0)[j]):=fun j hj=>by
  obtain⟨b,off,A',c,e,_,hc,hr⟩:=im.out.at_ j hj;subst e;refine⟨A',c,?_,hr⟩;rw[dR];show(w4.cell? ⟨b,off+j,Z⟩).getD undef=_;rw[hc];rfl
 have pW:SlAt w4 w4.heap.size AW (zL p.a K 0).length sl:=fun j hj=>by
  obtain⟨b,off,A',c,e,hb,hc,hr⟩:=im.out.at_ j hj;subst e;refine⟨b,off,rfl,hb,?_⟩;rw[dR];show _=J ((w4.cell? ⟨b,off+j,Z⟩).getD undef);rw[hc];rfl
 have mU:(zL p.a K 0).length<=60:=by rw[yK];exact FO
 have dG:=zH (JI (p.vs A kc SV ks) p.t.cases.length mQ.out.1.1.1 A kc rfl AW (zL p.a K 0).length cw (by omega) sl w4.heap.size W8.heap.size (W8.heap.size+1) W9 VJ Hy (pW.same fun k hk=>C9.block k hk) C9.size);obtain⟨SC,F8⟩:∃SC:Au->Array Au,SC=fun E=>#[O U p.t.n,O U p.t.ins,O U p.t.outs,I A4 p.t.cases.length BE,O U p.a.n,I BZ p.a.sts.length BD,O U p.k,O U 0,I Z 0 0,E]:=⟨_,rfl⟩
 have H0:As (BlIn p W9.heap.size w4.heap.size (w4.heap.size+1+1) (w4.heap.size+1) w4.heap.size SC W9 [] (I Z 0 0) (I Z 0 0) W9):=
  ⟨Wrote.refl _ _,⟨y7,⟨0,ym⟩,OwnV.nil _ _,fun k e=>(by cases e),by omega,by omega,by omega⟩,by rw[F8];exact y5,OwnX.nil _ _ _ _,fun k e=>(by cases e)⟩
 have cj:As (BlB W9.heap.size w4.heap.size (w4.heap.size+1+1) (w4.heap.size+1) w4.heap.size W9):=⟨rfl,by omega,by omega,by omega,⟨by omega,by omega,by omega⟩,by omega,by omega⟩;have tf:=zH F8;have Hf:=zH C9;have PU:=zH Hy;clear BN tc sy C' C9 VJ Hy y5 y7 y8 ym dR pW F8 oo x5 x6 x7 x8 ea iN OM Iw;rw[h8e];rw[h8e] at dG HP9 PU;go_wp2_with fail
 refine un rfl (NA func91 (by kernel_rfl) rfl) dG.out (by rintro k (h | rfl | rfl)<;>omega) (fun _=>rfl)
  (fun (pre:List { x:Nat×Nat // x∈zt (zL p.a K 0).length 0 p.t.cases.length }) (X:Ba)=>∃V E,BlIn p W9.heap.size w4.heap.size (w4.heap.size+1+1) (w4.heap.size+1) w4.heap.size SC W9 (vA (zL p.a K 0) (pre.map (·.1))) V E X)
  (fun _ _ _=>False) ?hI (fun _ _ _ _ _ h _ _=>h) ⟨_,_,H0.out⟩ ?a1 ?assign ?body ?done ?stop
 case hI=>
  rintro s X X' row ⟨V,E,h⟩ hg hr;exact⟨V,E,h.turn cj.out hg hr⟩
 case assign=>
  intro l x X K' hK;gi_wp2;exact hK
 case body=>
  rintro l pre x X ⟨V,E,hI⟩ hlt;obtain⟨oH,sa,To⟩:=xX _ _ _ x.2;have oT:=Hf.out;have ma:=hI.bel cj.out;have bz:Am w.heap.size w X:=B4.out.trans ((oT.trans ma).mono (by omega));have hM:x.1.1<p.t.cases.length:=by omega
  obtain⟨bc,oc,A0,c0,A1,c1,A2,c2,eA,hbc,i0,_,_,I0,_,_⟩:=(HA.out.keep bz).row x.1.1 hM;subst eA;obtain⟨AL,cl_,esl,hRL⟩:=HSL.out x.1.2 To;have oI:=Lh (l:=zL p.a K 0) To;have iI:(zL p.a K 0).getD x.1.2 []=(zL p.a K 0)[x.1.2]:=by rw[Lf,Li To];rfl
  have tS:yA p x.1.1=p.t.cases[x.1.1].inp:=by unfold yA;rw[Lf,Li hM];rfl
  obtain⟨word,mT⟩:=Kj ((zL p.a K 0)[x.1.2]);rw[mT] at esl hRL oI iI;have ns:=xy p.a K 0 word oI;have IC:=zH (ju p.a K 0 word oI);obtain⟨AV,kv,rfl⟩:=hI.bd.own.lit;obtain⟨AE,ke,rfl,_,_,_⟩:=hI.out.form zX;have rp:=zH hI;have aJ:(vA (zL p.a K 0) (pre.map (·.1))).length=pre.length:=by simp[vA]
  have so:=Z0 p (by omega) (vA (zL p.a K 0) (pre.map (·.1))) (fun y hy=>by
   obtain⟨z,hz,rfl⟩:=LS.1 hy;obtain⟨z2,dI,rfl⟩:=LS.1 hz;have h2:=(xX _ _ _ z2.2).2.2;have e2:(zL p.a K 0).getD z2.1.2 []=(zL p.a K 0)[z2.1.2]:=by rw[Lf,Li h2];rfl
   show((zL p.a K 0).getD z2.1.2 []).length<=6;rw[e2,xy p.a K 0 _ (Lh h2)]
   exact OE)
  rw[aJ] at so
  have rF:pre.length<60:=by
   have h6:(zt (zL p.a K 0).length 0 p.t.cases.length).length<=60:=by
    rw[jT,yK,PM];have:=SO.out;omega
   omega
  obtain⟨PL,hPL⟩:=Kj (vA (zL p.a K 0) (pre.map (·.1)));have PZ:=zH hPL;rw[hPL] at hI rp so aJ;have hD9:=hI.big cj.out;have e7:X.cell? ⟨w4.heap.size,9,Z⟩=J (.slice AE (zI p PL).2.length ke):=zh hI.sys 9 (by rw[tf.out];rfl);have f7:=zi hI.sys 9;have e8:X.cell? ⟨w4.heap.size+1+1+1,0,Z⟩=J (Aj (J ⟨w4.heap.size+1+1,0,Z⟩)):=zh ((hI.same cj.out (by omega) (by omega) (by omega) (by omega)).trans Uw.out) 0 rfl;have e3:X.cell? ⟨w.heap.size,3,Z⟩=J (I (J ⟨bc,oc,Z⟩) p.t.cases.length kc):=zh (Lb ma (by omega) (Lb oT (by omega) Bz.out)) 3 rfl;have hI0:((x.1.1:Nat):Int)<(p.t.cases.length:Int):=by omega
  have iM:(0:Int)<=((x.1.1:Nat):Int):=by omega
  have aS:As (∀W,Am X.heap.size X W->W.cell? ⟨w4.heap.size,9,Z⟩=J (.slice AE (zI p PL).2.length ke)/\W.cell? ⟨w4.heap.size+1+1+1,0,Z⟩=J (Aj (J ⟨w4.heap.size+1+1,0,Z⟩))/\W.cell? ⟨w.heap.size,3,Z⟩=J (I (J ⟨bc,oc,Z⟩) p.t.cases.length kc)/\W.cell? ⟨bc,oc+x.1.1*3,Z⟩=J (I A0 p.t.cases[x.1.1].inp.length c0)):=fun W hW=>
   ⟨(hW.cell (p:=⟨w4.heap.size,9,Z⟩) (by show w4.heap.size<_;omega)).trans e7,(hW.cell (p:=⟨w4.heap.size+1+1+1,0,Z⟩) (by show w4.heap.size+1+1+1<_;omega)).trans e8,(hW.cell (p:=⟨w.heap.size,3,Z⟩) (by show w.heap.size<_;omega)).trans e3,(hW.cell (p:=⟨bc,_,Z⟩) (by show bc<_;omega)).trans i0⟩
  have SM:=zH so;have O3:=zH ns;have HGD:=zH iI;have HINP:=zH tS;have GU:=zH I0;have cX:=zH hRL;have bD:=zH ma;clear hI ma bz iI tS ns so aJ mT oI I0 hRL hPL
  try dsimp only
  rw[esl];gi_wp2_with fail
  refine zS [(0,Av),(1,Av),(2,Av),(3,Av),(5,Av),(6,Av),(7,Av),(8,Av),(9,Av),(10,Av),(11,Av),(12,Av),(13,Av),(4,Aw),(14,Aw),(15,Aw),(16,Aw),(17,Aw),(18,Aw),(19,Aw)]
   (fun W=>W.cell? ⟨w4.heap.size,9,Z⟩=J (.slice AE (zI p PL).2.length ke)/\W.cell? ⟨w4.heap.size+1+1+1,0,Z⟩=J (Aj (J ⟨w4.heap.size+1+1,0,Z⟩))/\W.cell? ⟨w.heap.size,3,Z⟩=J (I (J ⟨bc,oc,Z⟩) p.t.cases.length kc)/\W.cell? ⟨bc,oc+x.1.1*3,Z⟩=J (I A0 p.t.cases[x.1.1].inp.length c0))
   (by kernel_rfl) (by kernel_rfl) (by kernel_rfl) (by rintro⟨_,_,h⟩;exact h) (aS.out _ (Ll _ _).drew) ?_
  clear e7 e8 e3 i0
  repeat
   apply zk rfl
   . rintro K' aa W ⟨y0,y1,y2,y3⟩
     go_simp;exact aa
  have Iq:RAt X w4.heap.size AL word:=cX.out.keep (Hf.out.trans bD.out)
  -- the word's copy
  refine zu rfl ?_;intro K' aa;go_simp;refine(XG AL word.length cl_ (yQ word) X.drew (xJ word) (Yb (w:=X.drew) (Iq.more (by show w4.heap.size<=X.heap.size;omega))) (vY word) (by have:=O3.out;omega)).mono ?_;rintro e w5 ⟨v5,rfl,na,am⟩;have am:Am X.heap.size X w5:=JR am;have na:OwnR kRd w5 X.heap.size v5 word.length (yQ word):=na;obtain⟨A5,c5,rfl,Eb,_,sW⟩:=vX na;have HCP5:=zH Eb;clear Eb;refine aa _ _ (aS.out _ am) ?_;clear aa K' na
  -- the views
  refine zu rfl ?_;intro K' aa;go_simp;have FV:=rp.out.bd.on am;rw[dM.out] at FV;have cY:=am.size;have cx:(p.t.cases[x.1.1].inp).length=N:=by have:=HTI.out _ (Lh hM);have:=dM.out;omega
  have hIX:IAt w5 w4.heap.size A0 p.t.cases[x.1.1].inp:=(GU.out.keep (am.mono (by omega:w.heap.size<=X.heap.size))).more (by omega)
  have ED:=zH (play_any w4.heap.size (w4.heap.size+1+1) (w4.heap.size+1) N (by have:=dM.out;omega) (by have:=dM.out;omega) (.slice AV (zI p PL).1.length kv) (zI p PL).1 (by have:=SM.out;omega) p.t.cases[x.1.1].inp cx word (by have:=O3.out;omega) (fun r hr=>by
   obtain⟨m,hm,rfl⟩:=IC.out r hr;obtain⟨z1,z2,_⟩:=xL (xt mQ.out.1.2 Bg.out).1 m hm
   exact⟨z1,by rw[z2,<-lQ.out,dM.out]⟩) A0 AL c0 cl_ w5 (by omega) FV hIX (Iq.keep (am.mono (by omega))))
  refine ED.out.mono ?_;rintro e w6 ⟨v6,V6,rfl,TR,Fs,Tn,Mp⟩;obtain⟨UY,Tj,rfl⟩:=TR.own.lit;obtain⟨VV,T3⟩:=Kj ((zC (zI p PL).1 N p.t.cases[x.1.1].inp word word.length).1);have ID:=zH T3
  have hVVl:VV.length<=4000:=by
   have h2:=jf (zI p PL).1 N p.t.cases[x.1.1].inp word word.length;have h4:(word.length+1)*N<=7*5:=LU (by have:=O3.out;omega) (by have:=dM.out;omega);have h5:=SM.out;rw[T3] at h2;omega
  rw[T3] at TR Fs Tn Mp;clear T3;clear ED FV Iq hIX cx;obtain⟨A6,c6,rfl,_,_,Id⟩:=XM Tn;have DH:=fun k hk=>(Tn.lt k hk).1
  have aT:=zH am;have HL5:=zH sW;have tq:=zH TR;have rm:=zH Fs;have EF:=zH Id;have HN6:=zH Mp;have Gx:=zH DH;have hs6b:=Fs.1.size
  have Bm:As (∀(k o:Nat) (u:Au),k≠w4.heap.size+1+1->k≠w4.heap.size+1->k<W9.heap.size->w5.cell? ⟨k,o,Z⟩=J u->w6.cell? ⟨k,o,Z⟩=J u):=fun k o u h1 h2 h3 hc=>
   (LL (Fs.1.block k (by omega) fun hr=>by
    rcases hr with e | e | e
    . exact h1 e
    . exact h2 e
    . have:=(rp.out.no k e).1;omega)).trans hc
  have k5:=aS.out _ am
  have k6:w6.cell? ⟨w4.heap.size,9,Z⟩=J (.slice AE (zI p PL).2.length ke)/\w6.cell? ⟨w4.heap.size+1+1+1,0,Z⟩=J (Aj (J ⟨w4.heap.size+1+1,0,Z⟩))/\w6.cell? ⟨w.heap.size,3,Z⟩=J (I (J ⟨bc,oc,Z⟩) p.t.cases.length kc)/\w6.cell? ⟨bc,oc+x.1.1*3,Z⟩=J (I A0 p.t.cases[x.1.1].inp.length c0):=
   ⟨Bm.out _ _ _ (by omega) (by omega) (by omega) k5.1,Bm.out _ _ _ (by omega) (by omega) (by omega) k5.2.1,Bm.out _ _ _ (by omega) (by omega) (by omega) k5.2.2.1,Bm.out _ _ _ (by omega) (by omega) (by omega) k5.2.2.2⟩
  refine aa _ _ k6 ?_;clear aa K' am sW TR Fs Tn Id Mp DH k5;have GS:=zH k6;obtain⟨VS,hVS⟩:=Kj ((zC (zI p PL).1 N p.t.cases[x.1.1].inp word word.length).2);have Gu:=zH hVS;rw[hVS] at EF Gx HN6 ⊢;clear hVS k6
  -- the execution
  refine zu rfl ?_;intro K' aa;go_simp;refine aa _ _ GS.out ?_;clear aa K';refine zu rfl ?_;intro K' aa;go_simp;obtain⟨IA,Oj,d7,hs7e,ra⟩:=zn w6 #[O U x.1.1,I A5 word.length c5,I A6 VS.length c6] 128;rw[Oj];clear Oj
  have k7:IA.cell? ⟨w4.heap.size,9,Z⟩=J (.slice AE (zI p PL).2.length ke)/\IA.cell? ⟨w4.heap.size+1+1+1,0,Z⟩=J (Aj (J ⟨w4.heap.size+1+1,0,Z⟩))/\IA.cell? ⟨w.heap.size,3,Z⟩=J (I (J ⟨bc,oc,Z⟩) p.t.cases.length kc)/\IA.cell? ⟨bc,oc+x.1.1*3,Z⟩=J (I A0 p.t.cases[x.1.1].inp.length c0):=
   ⟨(ra.cell (p:=⟨w4.heap.size,9,Z⟩) (by show w4.heap.size<_;omega)).trans GS.out.1,(ra.cell (p:=⟨w4.heap.size+1+1+1,0,Z⟩) (by show w4.heap.size+1+1+1<_;omega)).trans GS.out.2.1,(ra.cell (p:=⟨w.heap.size,3,Z⟩) (by show w.heap.size<_;omega)).trans GS.out.2.2.1,(ra.cell (p:=⟨bc,_,Z⟩) (by show bc<_;omega)).trans GS.out.2.2.2⟩
  refine aa _ _ k7 ?_;clear aa K';refine zu rfl ?_;intro K' aa;rw[Lj (by rfl)];have eN:=rp.out.outn cj.out aT.out rm.out;have eM:=qc p PL;have aJ:PL.length=pre.length:=by rw[<-PZ.out];simp[vA]
  obtain⟨aW,aA,l',bN⟩:=eN.1.below zX ra (Ld _);refine qP kXn_ok (.tmp 50) (.tmp 65) (by rfl) W9.heap.size (.slice AE (zI p PL).2.length ke) (zI p PL).2.length aW.flatten (by rfl) l' w6.heap.size #[O U x.1.1,I A5 word.length c5,I A6 VS.length c6] (by rfl) d7 rfl (by simp[Value.oneCell']) (by omega) (by omega) _ rfl ?_;intro g' cap w8 hr hg aI My;clear eM aJ;have hX:=rp.out.lies (i:=x.1.1) (c2:=c5) (c3:=c6) cj.out aT.out rm.out ra HL5.out EF.out Gx.out HN6.out HCP5.out
  have hPW:zC (zI p PL).1 p.t.n.toNat (yA p x.1.1) word word.length=zC (zI p PL).1 N p.t.cases[x.1.1].inp word word.length:=by
   rw[HINP.out,show p.t.n.toNat=N by have:=dM.out;omega]
  have WS:BdIn w4.heap.size (w4.heap.size+1+1) (w4.heap.size+1) p.t.n (I UY VV.length Tj) (zC (zI p PL).1 p.t.n.toNat (yA p x.1.1) word word.length).1 w6:=by
   rw[hPW,ID.out,dM.out];exact tq.out
  have hX7:Qw.lies (fun k=>(W9.heap.size<=k/\(I UY VV.length Tj).ownBlock≠J k)/\(I AE (zI p PL).2.length ke).ownBlock≠J k) IA [O U x.1.1,I A5 word.length c5,I A6 VS.length c6] ⟨x.1.1,word,(zC (zI p PL).1 p.t.n.toNat (yA p x.1.1) word word.length).2⟩:=by rw[hPW,Gu.out];exact hX
  have II:=rp.out.next (x:=(x.1.1,word)) cj.out aT.out rm.out ra WS (fun E'=>by rw[tf.out];rfl) aA bN hX7 hr hg aI;have II:=zH II;have Em:=rp.out.out.lt
  have k8:∀(k o:Nat) (u:Au),k<W9.heap.size->IA.cell? ⟨k,o,Z⟩=J u->w8.cell? ⟨k,o,Z⟩=J u:=fun k o u h3 hc=>
   (LL (hg.block k (by omega) fun e=>by have:=(Em k e.symm).1;omega)).trans hc
  have sc:=hg.size;have HP8:=zH (⟨k8 _ _ _ (by omega) k7.1,k8 _ _ _ (by omega) k7.2.1,k8 _ _ _ (by omega) k7.2.2.1,k8 _ _ _ (by omega) k7.2.2.2⟩:w8.cell? ⟨w4.heap.size,9,Z⟩=J (.slice AE (zI p PL).2.length ke)/\w8.cell? ⟨w4.heap.size+1+1+1,0,Z⟩=J (Aj (J ⟨w4.heap.size+1+1,0,Z⟩))/\w8.cell? ⟨w.heap.size,3,Z⟩=J (I (J ⟨bc,oc,Z⟩) p.t.cases.length kc)/\w8.cell? ⟨bc,oc+x.1.1*3,Z⟩=J (I A0 p.t.cases[x.1.1].inp.length c0))
  have f8:w8.frozen? ⟨w4.heap.size,9,Z⟩=Aw:=by
   have z:=II.out.1.sys;have z2:=zi z 9;rwa[World.frozen?_setCell] at z2
  refine aa _ _ HP8.out ?_;clear aa K' hr hg aI hX hX7 aA l' bN eN k7 k8 WS hPW;refine zu rfl ?_;intro K' aa;go_simp;refine aa _ _ HP8.out ?_;clear aa K';have e9:=HP8.out.1;refine yd rfl (by kernel_rfl) ?_;intro K' aa;go_simp;refine aa (fun _=>True) _ _ trivial ?_;refine zz ?_;clear aa K' e9 f8
  try dsimp only
  obtain⟨WF,dP⟩:=Kj (w8.setCell ⟨w4.heap.size,9,Z⟩ (I (J ⟨g',0,Z⟩) ((zI p PL).2.length+1) cap));rw[dP] at II ⊢;clear dP;have El:=II.out.1;have a8:WF.cell? ⟨w4.heap.size+1+1+1,0,Z⟩=J (Aj (J ⟨w4.heap.size+1+1,0,Z⟩)):=zh ((El.same cj.out (by omega) (by omega) (by omega) (by omega)).trans Uw.out) 0 rfl;have b8:WF.cell? ⟨w4.heap.size+1+1,1,Z⟩=J (I UY VV.length Tj):=zh El.bd.hB 1 rfl;have hng:¬(8192:Int)<(VV.length:Int):=by omega
  clear El;gi_wp2_with fail;have El:=II.out;rw[sO] at El;refine⟨El.2.1,El.2.2.keep fun k hk hs hr=>?_,⟨I UY VV.length Tj,I (J ⟨g',0,Z⟩) ((zI p PL).2.length+1) cap,?_⟩⟩
  . have:=oT.size
    rcases hs with hs | hs | hs<;>rcases hr with e | e | e | e<;>omega
  rw[LF,Sb,prsW_snoc,PZ.out,HGD.out];exact El.1
 case done=>
  rintro D ys X hD eJ ⟨V,E,hI⟩ eq;rw[eJ,Xj p K pf.out] at hI;obtain⟨AV,kv,rfl⟩:=hI.bd.own.lit;obtain⟨AE,ke,rfl,hke1,hke2,_⟩:=hI.out.form zX;have rp:=zH hI;have oT:=Hf.out;have ma:=hI.bel cj.out;have hD9:=hI.big cj.out;have Cg:=zH eq;have hDX:D<X.heap.size:=zj eq;have e8:X.cell? ⟨w4.heap.size+1+1+1,0,Z⟩=J (Aj (J ⟨w4.heap.size+1+1,0,Z⟩)):=zh ((hI.same cj.out (by omega) (by omega) (by omega) (by omega)).trans Uw.out) 0 rfl;have Fd:=hI.sys;rw[tf.out] at Fd;have t7:X.cell? ⟨w4.heap.size,7,Z⟩=J (O U 0):=zh Fd 7 rfl;have t8:X.cell? ⟨w4.heap.size,8,Z⟩=J (I Z 0 0):=zh Fd 8 rfl;have u7:=zi Fd 7;have u8:=zi Fd 8;have fH:=zH Fd;have bD:=zH ma;have aR:=hI.bd.hB;have N1X:=(ma.block (w.heap.size+1) (by omega)).trans (Lb oT (by omega) UW.out);have N2X:=(ma.block (w.heap.size+1+1) (by omega)).trans (Lb oT (by omega) D24.out);have nj:=zH N1X;have iP:=zH N2X;clear hI ma Fd eq eJ H0 dG N1X N2X;go_wp2_with fail
  refine zr [(0,Av),(1,Av),(2,Av),(3,Av),(4,Av),(5,Av),(6,Av),(7,Av),(8,Aw),(9,Aw),(10,Aw)]
   (fun W=>W.cell? ⟨w4.heap.size+1+1+1,0,Z⟩=J (Aj (J ⟨w4.heap.size+1+1,0,Z⟩))/\W.heap[w4.heap.size+1+1]?=J (Ag #[O U p.t.n,.slice AV (zI p (zE p)).1.length kv,.map (J (w4.heap.size+1))] 120 (0,0)))
   (by kernel_rfl) (by kernel_rfl) ⟨e8,aR⟩ ?_
  clear e8 aR
  repeat
   apply zk rfl
   . rintro K' aa W ⟨y0,y1⟩
     have z0:W.cell? ⟨w4.heap.size+1+1,0,Z⟩=J (O U p.t.n):=zh y1 0 rfl;have z1:W.cell? ⟨w4.heap.size+1+1,1,Z⟩=J (.slice AV (zI p (zE p)).1.length kv):=zh y1 1 rfl;clear y1;go_simp;exact aa
  have e8:X.cell? ⟨w4.heap.size+1+1+1,0,Z⟩=J (Aj (J ⟨w4.heap.size+1+1,0,Z⟩)):=zh ((rp.out.same cj.out (by omega) (by omega) (by omega) (by omega)).trans Uw.out) 0 rfl;refine zu rfl ?_;intro K' aa;go_simp;refine aa _ _ ⟨e8,rp.out.bd.hB⟩ ?_;clear aa K';refine zu rfl ?_;intro K' aa;go_simp;refine aa _ _ ⟨e8,rp.out.bd.hB⟩ ?_;clear aa K';refine yd rfl (by kernel_rfl) ?_;intro K' aa;go_simp;refine aa (fun _=>True) _ _ trivial ?_;refine zz ?_;clear aa K' e8 t7 t8 u7 u8;obtain⟨W7,po⟩:=Kj (((X.setCell ⟨w4.heap.size,7,Z⟩ (O U p.t.n)).setCell ⟨w4.heap.size,8,Z⟩ (.slice AV (zI p (zE p)).1.length kv)).drew)
  have fC:W7.heap[w4.heap.size]?=J (Ag #[O U p.t.n,O U p.t.ins,O U p.t.outs,I A4 p.t.cases.length BE,O U p.a.n,I BZ p.a.sts.length BD,O U p.k,O U p.t.n,.slice AV (zI p (zE p)).1.length kv,.slice AE (zI p (zE p)).2.length ke] 39 (0,0)):=by
   rw[<-po];have q1:(X.setCell ⟨w4.heap.size,7,Z⟩ (O U p.t.n)).heap[w4.heap.size]?=J (Ag #[O U p.t.n,O U p.t.ins,O U p.t.outs,I A4 p.t.cases.length BE,O U p.a.n,I BZ p.a.sts.length BD,O U p.k,O U p.t.n,I Z 0 0,.slice AE (zI p (zE p)).2.length ke] 39 (0,0)):=Lk X w4.heap.size 7 _ _ _ fH.out;exact Lk _ w4.heap.size 8 _ _ _ q1
  have H9:∀k,k≠w4.heap.size->W7.heap[k]?=X.heap[k]?:=fun k hk=>by
   rw[<-po];exact(Le _ ⟨w4.heap.size,8,Z⟩ _ k hk).trans (Le _ ⟨w4.heap.size,7,Z⟩ _ k hk)
  have dE:Am w.heap.size w W7:=by
   rw[<-po];exact(((B4.out.trans ((oT.trans bD.out).mono (by omega))).setCell (p:=⟨w4.heap.size,7,Z⟩) (by show w.heap.size<=w4.heap.size;omega) _).setCell (p:=⟨w4.heap.size,8,Z⟩) (by show w.heap.size<=w4.heap.size;omega) _).drew
  have U9:W7.heap.size=X.heap.size:=by rw[<-po];show(World.setCell _ _ _).heap.size=_;simp
  have mf:=(H9 (w.heap.size+1) (by omega)).trans nj.out;have Us:=(H9 (w.heap.size+1+1) (by omega)).trans iP.out;have s0:W7.cell? ⟨w4.heap.size,0,Z⟩=J (O U p.t.n):=zh fC 0 rfl;have s1:W7.cell? ⟨w4.heap.size,1,Z⟩=J (O U p.t.ins):=zh fC 1 rfl;have s2:W7.cell? ⟨w4.heap.size,2,Z⟩=J (O U p.t.outs):=zh fC 2 rfl;have s3:W7.cell? ⟨w4.heap.size,3,Z⟩=J (I A4 p.t.cases.length BE):=zh fC 3 rfl;have s4:W7.cell? ⟨w4.heap.size,4,Z⟩=J (O U p.a.n):=zh fC 4 rfl;have s5:W7.cell? ⟨w4.heap.size,5,Z⟩=J (I BZ p.a.sts.length BD):=zh fC 5 rfl;have s6:W7.cell? ⟨w4.heap.size,6,Z⟩=J (O U p.k):=zh fC 6 rfl;have s7:W7.cell? ⟨w4.heap.size,7,Z⟩=J (O U p.t.n):=zh fC 7 rfl;have s8:W7.cell? ⟨w4.heap.size,8,Z⟩=J (.slice AV (zI p (zE p)).1.length kv):=zh fC 8 rfl;have s9:W7.cell? ⟨w4.heap.size,9,Z⟩=J (.slice AE (zI p (zE p)).2.length ke):=zh fC 9 rfl;have n0:W7.cell? ⟨w.heap.size+1,0,Z⟩=J (O U 0):=zh mf 0 rfl;have m0:=zi mf 0;have n1:W7.cell? ⟨w.heap.size+1,1,Z⟩=J (O U 0):=zh mf 1 rfl;have m1:=zi mf 1;have n2:W7.cell? ⟨w.heap.size+1,2,Z⟩=J (O U 0):=zh mf 2 rfl;have m2:=zi mf 2;have n3:W7.cell? ⟨w.heap.size+1,3,Z⟩=J (I Z 0 0):=zh mf 3 rfl;have m3:=zi mf 3;have n4:W7.cell? ⟨w.heap.size+1,4,Z⟩=J (O U 0):=zh mf 4 rfl;have m4:=zi mf 4;have n5:W7.cell? ⟨w.heap.size+1,5,Z⟩=J (I Z 0 0):=zh mf 5 rfl
  have m5:=zi mf 5;have n6:W7.cell? ⟨w.heap.size+1,6,Z⟩=J (O U 0):=zh mf 6 rfl;have m6:=zi mf 6;have n7:W7.cell? ⟨w.heap.size+1,7,Z⟩=J (O U 0):=zh mf 7 rfl;have m7:=zi mf 7;have n8:W7.cell? ⟨w.heap.size+1,8,Z⟩=J (I Z 0 0):=zh mf 8 rfl;have m8:=zi mf 8;have n9:W7.cell? ⟨w.heap.size+1,9,Z⟩=J (I Z 0 0):=zh mf 9 rfl;have m9:=zi mf 9;have Ti:W7.cell? ⟨w.heap.size+1+1,0,Z⟩=J (O U 0):=zh Us 0 rfl;have m10:=zi Us 0;have tk:=zH H9;have pD:=zH dE;have HN17:=zH mf;have HN27:=zH Us;rw[po];clear po H9 dE mf Us fC;go_wp2_with fail;obtain⟨k1,k2,k3,k4,k5⟩:=vm (O U p.t.n) (O U p.t.ins) (O U p.t.outs) (I A4 p.t.cases.length BE) (O U p.a.n) (I BZ p.a.sts.length BD) (O U p.k) (O U p.t.n) (.slice AV (zI p (zE p)).1.length kv) (.slice AE (zI p (zE p)).2.length ke) (O U 0) HN17.out HN27.out (by omega) pD.out (by omega:w.heap.size<=w.heap.size+1) (by omega:w.heap.size<=w.heap.size+1+1)
  obtain⟨WF,dP⟩:=Kj ((((((((((((W7.setCell ⟨w.heap.size+1,0,Z⟩ (O U p.t.n)).setCell ⟨w.heap.size+1,1,Z⟩ (O U p.t.ins)).setCell ⟨w.heap.size+1,2,Z⟩ (O U p.t.outs)).setCell ⟨w.heap.size+1,3,Z⟩ (I A4 p.t.cases.length BE)).setCell ⟨w.heap.size+1,4,Z⟩ (O U p.a.n)).setCell ⟨w.heap.size+1,5,Z⟩ (I BZ p.a.sts.length BD)).setCell ⟨w.heap.size+1,6,Z⟩ (O U p.k)).setCell ⟨w.heap.size+1,7,Z⟩ (O U p.t.n)).setCell ⟨w.heap.size+1,8,Z⟩ (.slice AV (zI p (zE p)).1.length kv)).setCell ⟨w.heap.size+1,9,Z⟩ (.slice AE (zI p (zE p)).2.length ke)).setCell ⟨w.heap.size+1+1,0,Z⟩ (O U 0)));rw[dP] at k1 k2 k3 k4 k5 ⊢;clear dP;have aZ:∀k,k≠w4.heap.size->k≠w.heap.size+1->k≠w.heap.size+1+1->WF.heap[k]?=X.heap[k]?:=fun k a b c=>(k5 k b c).trans (tk.out k a)
  have hsf:WF.heap.size=X.heap.size:=k4.trans U9;have hDf:WF.heap[D]?=J (.deferred (J [])):=(aZ D (by omega) (by omega) (by omega)).trans Cg.out
  have CI:∀k,k<w4.heap.size->k≠w.heap.size+1->k≠w.heap.size+1+1->WF.heap[k]?=w4.heap[k]?:=fun k a b c=>
   (aZ k (by omega) b c).trans ((bD.out.block k a).trans (oT.block k a))
  have DI:w4.heap.size<=WF.heap.size:=by omega
  have RA:RowX cCs (fun b=>((L0<=b/\b<B0)\/w3.heap.size<=b)/\b<w4.heap.size) WF g4 p.t.cases:=(Hj.out.mono qg fun b hb hs=>⟨hs,hb⟩).keep qg ⟨DI,fun k hk _=>CI k hk.1.2 (by have:=hk.1.1;omega) (by have:=hk.1.1;omega)⟩ (CI g4 Hj.out.lt (by omega) (by omega));have RS:RowX cMl (fun b=>((L0<=b/\b<B0)\/w3.heap.size<=b)/\b<w4.heap.size) WF Uj p.a.sts:=(Bd.out.mono kG fun b hb hs=>⟨hs,hb⟩).keep kG ⟨DI,fun k hk _=>CI k hk.1.2 (by have:=hk.1.1;omega) (by have:=hk.1.1;omega)⟩ (CI Uj Bd.out.lt (by omega) (by omega))
  have RV:OwnV WF w4.heap.size (.slice AV (zI p (zE p)).1.length kv) (zI p (zE p)).1:=rp.out.bd.own.of_same fun k hk=>by
   have:=(rp.out.no k hk).1;exact aZ k (by omega) (by omega) (by omega)
  have RX:OwnX Qw (fun k=>W9.heap.size<=k/\(I AV (zI p (zE p)).1.length kv).ownBlock≠J k) WF W9.heap.size (.slice AE (zI p (zE p)).2.length ke) (zI p (zE p)).2:=
   rp.out.out.keep zX ⟨by omega,fun k hk _=>aZ k (by have:=hk.1;omega) (by have:=hk.1;omega) (by have:=hk.1;omega)⟩ fun k hk=>by
    have:=(rp.out.out.lt k hk).1;exact aZ k (by omega) (by omega) (by omega)
  have rF:(zE p).length<=60:=by
   have h1:=congrArg List.length (Xj p K pf.out);rw[vA,LG,jT,yK] at h1;have:=SO.out;rw[<-h1,PM];omega
  have so:=Z0 p (by have:=dM.out;omega) (zE p) (fun y hy=>by
   unfold zE at hy;obtain⟨d,_,hy⟩:=Nw.1 hy;obtain⟨w',lZ,rfl⟩:=LS.1 hy;show w'.length<=6;rw[xy p.a _ 0 w' lZ,pf.out]
   exact OE)
  refine xk (B:=W9.heap.size) (kC (by omega) hDf) ?_;intro W hX;have c0:W.cell? ⟨w.heap.size+1,0,Z⟩=J (O U p.t.n):=hX.cell (zh k1 0 rfl);have c1:W.cell? ⟨w.heap.size+1,1,Z⟩=J (O U p.t.ins):=hX.cell (zh k1 1 rfl);have c2:W.cell? ⟨w.heap.size+1,2,Z⟩=J (O U p.t.outs):=hX.cell (zh k1 2 rfl);have c3:W.cell? ⟨w.heap.size+1,3,Z⟩=J (I A4 p.t.cases.length BE):=hX.cell (zh k1 3 rfl);have c4:W.cell? ⟨w.heap.size+1,4,Z⟩=J (O U p.a.n):=hX.cell (zh k1 4 rfl);have c5:W.cell? ⟨w.heap.size+1,5,Z⟩=J (I BZ p.a.sts.length BD):=hX.cell (zh k1 5 rfl);have c6:W.cell? ⟨w.heap.size+1,6,Z⟩=J (O U p.k):=hX.cell (zh k1 6 rfl);have c7:W.cell? ⟨w.heap.size+1,7,Z⟩=J (O U p.t.n):=hX.cell (zh k1 7 rfl);have c8:W.cell? ⟨w.heap.size+1,8,Z⟩=J (.slice AV (zI p (zE p)).1.length kv):=hX.cell (zh k1 8 rfl);have c9:W.cell? ⟨w.heap.size+1,9,Z⟩=J (.slice AE (zI p (zE p)).2.length ke):=hX.cell (zh k1 9 rfl);have Gq:W.cell? ⟨w.heap.size+1+1,0,Z⟩=J (O U 0):=hX.cell (zh k2 0 rfl);have T1:=hX.below.size;obtain⟨AV',kv',eV,T5⟩:=(show OwnV W w4.heap.size _ _ from hX.own RV).form (by omega)
  cases eV
  obtain⟨AE',ke',eE,_,_,T2,_⟩:=wZ (RX.turn zX T1 hX.same)
  cases eE
  refine⟨.tuple #[Ai #[O U p.t.n,O U p.t.ins,O U p.t.outs,I A4 p.t.cases.length BE,O U p.a.n,I BZ p.a.sts.length BD,O U p.k,O U p.t.n,.slice AV (zI p (zE p)).1.length kv,.slice AE (zI p (zE p)).2.length ke],O U 0],by simp[results,results31,go_sem,c0,c1,c2,c3,c4,c5,c6,c7,c8,c9,Gq],?_⟩;rw[HB.out];refine⟨A4,BE,BZ,BD,AV,kv,AE,ke,rfl,fun W' U8 rA=>⟨?_,?_,?_,?_⟩,T5.lec,T5.lem,k3.trans (hX.below.mono (by omega))⟩
  . rw[HA4e.out]
    have R:=RA.turnC qg T1 hX.same;have sk:=Hj.out.lt;exact(R.keep qg ⟨U8,fun k hk hl=>rA k (by have:=hk.1.1;omega) hl⟩ (rA g4 (by omega) (by omega))).cat
  . rw[HS4e.out]
    have R:=RS.turnC kG T1 hX.same;have sk:=Bd.out.lt;exact(R.keep kG ⟨U8,fun k hk hl=>rA k (by have:=hk.1.1;omega) hl⟩ (rA Uj (by omega) (by omega))).sat
  . have RV2:=(show OwnV W w4.heap.size _ _ from hX.own RV)
    obtain⟨AV',kv',eV,T5⟩:=(RV2.of_same (w':=W') fun k hk=>rA k (.inr (by have:=(OwnV.lt RV2 k hk).1;omega)) (OwnV.lt RV2 k hk).2).form (by omega)
    cases eV
    exact T5.rows
  have RX2:=RX.turn zX T1 hX.same;obtain⟨AE',ke',eE,_,_,T2,_⟩:=wZ (RX2.keep (w':=W') zX ⟨U8,fun k hk hl=>rA k (.inr (by have:=hk.1;omega)) hl⟩ fun k hk=>rA k (.inr (by have:=(RX2.lt k hk).1;omega)) (RX2.lt k hk).2)
  cases eE
  exact T2
 intro D c pre W _ _ h;exact h.elim
theorem YJ(p:Pb)(hf:yU p)(A:Bb)(kc:Nat)(SV:Bb)(ks:Nat)(w:Ba)(B0:Nat)(bG:B0<=w.heap.size)(Gj:CAt w B0 A p.t.cases)(Ga:SAt w B0 SV p.a.sts) :
  An Al 31 #[.agg (p.vs A kc SV ks)] w (RetSysF 0 B0 (zY p) w):=
 buildL_any p hf A kc SV ks w 0 B0 bG Gj Ga (CAtL.of Gj bG) (SAtL.of Ga bG)
theorem XN(p:Pb)(hf:yU p)(A:Bb)(kc:Nat)(SV:Bb)(ks:Nat)(w:Ba)(hA:CAt w w.heap.size A p.t.cases)(hS:SAt w w.heap.size SV p.a.sts) :
  An Al 31 #[.agg (p.vs A kc SV ks)] w (RetSys (zY p) w):=
 (YJ p hf A kc SV ks w w.heap.size (Ld _) hA hS).mono fun _ _ h=>h.sys
end
section
open Go.RowKit
attribute [local go_sem] Oper.semAt_some
def hq(f:Nat->Int)(k j:Nat):Int:=if j<k then f j else 0
def vq(p r i:Int)(f:Nat->Int)(k:Nat):Array Au:=#[O U p,O U r,O U i,O U (hq f k 0),O U (hq f k 1),O U (hq f k 2),O U (hq f k 3),O U (hq f k 4)]
theorem J6(p r i:Int)(f:Nat->Int)(k:Nat)(hk:k<5):(vq p r i f k).setIfInBounds (3+k) (O U (f k))=vq p r i f (k+1):=by
 match k,hk with
 | 0,_=>rfl
 | 1,_=>rfl
 | 2,_=>rfl
 | 3,_=>rfl
 | 4,_=>rfl
theorem vq_set2(p r i:Int)(f:Nat->Int)(k:Nat)(hk:k<5)(u:Au):((vq p r i f k).setIfInBounds (3+k) u).setIfInBounds (3+k) (O U (f k))=vq p r i f (k+1):=by
 match k,hk with
 | 0,_=>rfl
 | 1,_=>rfl
 | 2,_=>rfl
 | 3,_=>rfl
 | 4,_=>rfl
theorem vq_at(p r i:Int)(f:Nat->Int)(k:Nat)(hk:k<5):(vq p r i f k)[3+k]?=J (O U 0):=by
 match k,hk with
 | 0,_=>rfl
 | 1,_=>rfl
 | 2,_=>rfl
 | 3,_=>rfl
 | 4,_=>rfl
theorem first_any(p:Nat)(i:Int)(w:Ba):An Al 138 #[O U (p:Int),O U i] w fun e w'=>e=Ak (.agg (yR p i).cells)/\Am w.heap.size w w':=by
 obtain⟨w1,ab,d0,d1,av,hB⟩:=yI w (#[O U 0,O U 0,O U 0,O U 0,O U 0,O U 0,O U 0,O U 0]) (vq p 0 i (fun _=>-1) 0) 133 133;have ag:=zH ab;go_enter func138,ntmps138;go_wp2_with fail;rw[show((w.alloc (Ag #[O U 0,O U 0,O U 0,O U 0,O U 0,O U 0,O U 0,O U 0] 133)).alloc (Ag #[O U p,O U 0,O U i,O U 0,O U 0,O U 0,O U 0,O U 0] 133))=w1 from ag.out];have H0:=zH d0;have H1:=zH d1;have HB:=zH hB
 go_loopw [6] (fun j wr=>∃k:Nat,k<=5/\j=O U (k:Int)/\As (wr.heap[w.heap.size]?=J (Ag #[O U 0,O U 0,O U 0,O U 0,O U 0,O U 0,O U 0,O U 0] 133 (0,0)))/\As (wr.heap[w.heap.size+1]?=J (Ag (vq p 0 i (fun _=>-1) k) 133 (0,0)))/\As (Am w.heap.size w wr)) (fun j _=>5-(Ar j).toNat)
 case atStart=>exact⟨0,by omega,rfl,H0.out,H1.out,HB.out⟩
 obtain⟨k,hk,rfl,H0,H1,Bx⟩:=hrel
 by_cases sh:k<5
 case neg=>
  obtain rfl:k=5:=by omega
  have x0:wr.cell? ⟨w.heap.size+1,0,Z⟩=J (O U p):=zh H1.out 0 rfl;have x1:wr.cell? ⟨w.heap.size+1,1,Z⟩=J (O U 0):=zh H1.out 1 rfl;have x2:wr.cell? ⟨w.heap.size+1,2,Z⟩=J (O U i):=zh H1.out 2 rfl;have x3:wr.cell? ⟨w.heap.size+1,3,Z⟩=J (O U (-1)):=zh H1.out 3 rfl;have x4:wr.cell? ⟨w.heap.size+1,4,Z⟩=J (O U (-1)):=zh H1.out 4 rfl;have x5:wr.cell? ⟨w.heap.size+1,5,Z⟩=J (O U (-1)):=zh H1.out 5 rfl;have x6:wr.cell? ⟨w.heap.size+1,6,Z⟩=J (O U (-1)):=zh H1.out 6 rfl;have x7:wr.cell? ⟨w.heap.size+1,7,Z⟩=J (O U (-1)):=zh H1.out 7 rfl;have y0:wr.cell? ⟨w.heap.size,0,Z⟩=J (O U 0):=zh H0.out 0 rfl;have y1:wr.cell? ⟨w.heap.size,1,Z⟩=J (O U 0):=zh H0.out 1 rfl;have y2:wr.cell? ⟨w.heap.size,2,Z⟩=J (O U 0):=zh H0.out 2 rfl;have y3:wr.cell? ⟨w.heap.size,3,Z⟩=J (O U 0):=zh H0.out 3 rfl;have y4:wr.cell? ⟨w.heap.size,4,Z⟩=J (O U 0):=zh H0.out 4 rfl;have y5:wr.cell? ⟨w.heap.size,5,Z⟩=J (O U 0):=zh H0.out 5 rfl;have y6:wr.cell? ⟨w.heap.size,6,Z⟩=J (O U 0):=zh H0.out 6 rfl;have y7:wr.cell? ⟨w.heap.size,7,Z⟩=J (O U 0):=zh H0.out 7 rfl;have f0:=zi H0.out 0;have f1:=zi H0.out 1;have f2:=zi H0.out 2;have f3:=zi H0.out 3;have f4:=zi H0.out 4;have f5:=zi H0.out 5;have f6:=zi H0.out 6;have f7:=zi H0.out 7;go_wp2_with fail
  refine LP (v:=Ai #[O U p,O U 0,O U i,O U (-1),O U (-1),O U (-1),O U (-1),O U (-1)]) (by simp[results,results138,go_sem,y0,y1,y2,y3,y4,y5,y6,y7]) rfl ⟨rfl,?_⟩;exact(((((((Bx.out.setCell (Ld _) _).setCell (Ld _) _).setCell (Ld _) _).setCell (Ld _) _).setCell (Ld _) _).setCell (Ld _) _).setCell (Ld _) _).setCell (Ld _) _
 have x0:=zh H1.out (3+k) (vq_at _ _ _ _ k sh);have f0:=zi H1.out (3+k);have dg:(0:Int)<=(k:Int):=by omega
 have aM:(k:Int)<5:=by omega
 go_wp2_with fail
 go_roundw
 case rel=>exact⟨k+1,by omega,by go_num,(Le wr _ _ w.heap.size (by show w.heap.size≠w.heap.size+1;omega)).trans H0.out,by show _=_;rw[Lk wr _ (3+k) _ _ _ H1.out,J6 _ _ _ (fun _=>-1) k sh],Bx.out.setCell (by show w.heap.size<=w.heap.size+1;omega) _⟩
 simp[Ar];omega
theorem seen_any(r:Rd)(K p:Nat)(hp:p<5)(hs:0<=r.h p/\r.h p<32)(A:Bb)(ca:Nat)(row:List Int)(hn:r.n=(row.length:Int))(_h5:row.length<=5)(w:Ba)(hI:IAt w w.heap.size A row) :
  An Al 139 #[.agg r.gcells,O U (K:Int),O U (p:Int),I A row.length ca] w fun e w'=>e=Ak (.agg (qn r K p row).cells)/\Am w.heap.size w w':=by
 obtain⟨s,pj⟩:∃s:Nat,r.h p=(s:Int):=⟨(r.h p).toNat,by omega⟩;have Vv:s<32:=by omega
 have HH:=zH (fun q hq w=>ZB s q Vv hq w);have HSR:=zH pj;have HN:=zH hn;clear hn pj hs;obtain⟨w1,ab,g0,d0,d1,av,hB⟩:=jv w r.gcells #[O U 0,O U 0,O U 0,O U 0,O U 0,O U 0,O U 0,O U 0] (vq p K 0 (yh r p row) 0) 74 133 133;have ag:=zH ab;go_enter func139,ntmps139;unfold Rd.gcells;go_wp2_with fail;rw[show(((w.alloc (Ag #[O U r.n,O U r.h0,O U r.h1,O U r.h2,O U r.h3,O U r.h4] 74)).alloc (Ag #[O U 0,O U 0,O U 0,O U 0,O U 0,O U 0,O U 0,O U 0] 133)).alloc (Ag #[O U p,O U K,O U 0,O U 0,O U 0,O U 0,O U 0,O U 0] 133))=w1 from ag.out];have HG:=zH g0;have H0:=zH d0;have H1:=zH d1;have HB:=zH hB;have HI:=zH hI
 go_loopw [10] (fun j wr=>∃k:Nat,k<=5/\j=O U (k:Int)/\As (wr.heap[w.heap.size]?=J (Ag r.gcells 74 (0,0)))/\As (wr.heap[w.heap.size+1]?=J (Ag #[O U 0,O U 0,O U 0,O U 0,O U 0,O U 0,O U 0,O U 0] 133 (0,0)))/\As (wr.heap[w.heap.size+1+1]?=J (Ag (vq p K 0 (yh r p row) k) 133 (0,0)))/\As (Am w.heap.size w wr)) (fun j _=>5-(Ar j).toNat)
 case atStart=>exact⟨0,by omega,rfl,HG.out,H0.out,H1.out,HB.out⟩
 obtain⟨k,hk,rfl,HG,H0,H1,Bx⟩:=hrel
 by_cases sh:k<5
 case neg=>
  obtain rfl:k=5:=by omega
  have x0:wr.cell? ⟨w.heap.size+1+1,0,Z⟩=J (O U p):=zh H1.out 0 rfl;have x1:wr.cell? ⟨w.heap.size+1+1,1,Z⟩=J (O U K):=zh H1.out 1 rfl;have x2:wr.cell? ⟨w.heap.size+1+1,2,Z⟩=J (O U 0):=zh H1.out 2 rfl;have x3:wr.cell? ⟨w.heap.size+1+1,3,Z⟩=J (O U (yh r p row 0)):=zh H1.out 3 rfl;have x4:wr.cell? ⟨w.heap.size+1+1,4,Z⟩=J (O U (yh r p row 1)):=zh H1.out 4 rfl;have x5:wr.cell? ⟨w.heap.size+1+1,5,Z⟩=J (O U (yh r p row 2)):=zh H1.out 5 rfl;have x6:wr.cell? ⟨w.heap.size+1+1,6,Z⟩=J (O U (yh r p row 3)):=zh H1.out 6 rfl;have x7:wr.cell? ⟨w.heap.size+1+1,7,Z⟩=J (O U (yh r p row 4)):=zh H1.out 7 rfl;have y0:wr.cell? ⟨w.heap.size+1,0,Z⟩=J (O U 0):=zh H0.out 0 rfl;have y1:wr.cell? ⟨w.heap.size+1,1,Z⟩=J (O U 0):=zh H0.out 1 rfl;have y2:wr.cell? ⟨w.heap.size+1,2,Z⟩=J (O U 0):=zh H0.out 2 rfl;have y3:wr.cell? ⟨w.heap.size+1,3,Z⟩=J (O U 0):=zh H0.out 3 rfl;have y4:wr.cell? ⟨w.heap.size+1,4,Z⟩=J (O U 0):=zh H0.out 4 rfl;have y5:wr.cell? ⟨w.heap.size+1,5,Z⟩=J (O U 0):=zh H0.out 5 rfl;have y6:wr.cell? ⟨w.heap.size+1,6,Z⟩=J (O U 0):=zh H0.out 6 rfl;have y7:wr.cell? ⟨w.heap.size+1,7,Z⟩=J (O U 0):=zh H0.out 7 rfl;have f0:=zi H0.out 0;have f1:=zi H0.out 1;have f2:=zi H0.out 2;have f3:=zi H0.out 3;have f4:=zi H0.out 4;have f5:=zi H0.out 5;have f6:=zi H0.out 6;have f7:=zi H0.out 7;go_wp2_with fail
  refine LP (v:=.agg (qn r K p row).cells) (by unfold qn Vw.cells;simp[results,results139,go_sem,y0,y1,y2,y3,y4,y5,y6,y7]) rfl ⟨rfl,?_⟩;exact((((((((Bx.out.setCell (by show w.heap.size<=w.heap.size+1;omega) _).setCell (by show w.heap.size<=w.heap.size+1;omega) _).setCell (by show w.heap.size<=w.heap.size+1;omega) _).setCell (by show w.heap.size<=w.heap.size+1;omega) _).setCell (by show w.heap.size<=w.heap.size+1;omega) _).setCell (by show w.heap.size<=w.heap.size+1;omega) _).setCell (by show w.heap.size<=w.heap.size+1;omega) _).setCell (by show w.heap.size<=w.heap.size+1;omega) _)
 have x0:=zh H1.out (3+k) (vq_at _ _ _ _ k sh);have f0:=zi H1.out (3+k);have g0:wr.cell? ⟨w.heap.size,0,Z⟩=J (O U (row.length:Int)):=by rw[<-HN.out];exact zh HG.out 0 rfl
 have gp:wr.cell? ⟨w.heap.size,1+p,Z⟩=J (O U (s:Int)):=by
  rw[<-HSR.out]
  match p,hp with
  | 0,_=>exact zh HG.out 1 rfl
  | 1,_=>exact zh HG.out 2 rfl
  | 2,_=>exact zh HG.out 3 rfl
  | 3,_=>exact zh HG.out 4 rfl
  | 4,_=>exact zh HG.out 5 rfl
 have dg:(0:Int)<=(k:Int):=by omega
 have aM:(k:Int)<5:=by omega
 have iB:(0:Int)<=(p:Int):=by omega
 have iS:(p:Int)<5:=by omega
 have HS:As ((wr.setCell ⟨w.heap.size+1+1,3+k,Z⟩ (O U (-1))).heap[w.heap.size+1+1]?=J (Ag ((vq p K 0 (yh r p row) k).setIfInBounds (3+k) (O U (-1))) 133 (0,0))):=Lk wr _ (3+k) _ _ _ H1.out
 by_cases hq:k<row.length
 case neg=>
  have hE:As (yh r p row k=-1):=by unfold yh;exact Lg (fun h=>hq h.1)
  have mZ:¬((k:Int)<(row.length:Int)):=by omega
  go_wp2_with fail
  go_roundw
  case rel=>exact⟨k+1,by omega,by go_num,((Le wr _ _ w.heap.size (by show w.heap.size≠w.heap.size+1+1;omega)).trans HG.out),((Le wr _ _ (w.heap.size+1) (by show w.heap.size+1≠w.heap.size+1+1;omega)).trans H0.out),(HS.out.trans (by have e:=J6 p K 0 (yh r p row) k sh;rw[hE.out] at e;rw[e])),(Bx.out.setCell (by show w.heap.size<=w.heap.size+1+1;omega) _)⟩
  simp[Ar];omega
 have mZ:((k:Int)<(row.length:Int)):=by omega
 by_cases hb:s.testBit k=Av
 case neg=>
  have hE:As (yh r p row k=-1):=by unfold yh;exact Lg (fun h=>hb (by have h2:=h.2;rw[HSR.out] at h2;exact h2))
  go_wp2_with (go_at_call 159;refine(HH.out k sh _).mono ?_;rintro e w' ⟨rfl,lZ⟩;obtain rfl:=lZ.symm)
  go_roundw
  case rel=>exact⟨k+1,by omega,by go_num,((Le wr _ _ w.heap.size (by show w.heap.size≠w.heap.size+1+1;omega)).trans HG.out),((Le wr _ _ (w.heap.size+1) (by show w.heap.size+1≠w.heap.size+1+1;omega)).trans H0.out),(HS.out.trans (by have e:=J6 p K 0 (yh r p row) k sh;rw[hE.out] at e;rw[e])),(Bx.out.setCell (by show w.heap.size<=w.heap.size+1+1;omega) _)⟩
  simp[Ar];omega
 have hE:As (yh r p row k=row[k]):=by
  unfold yh;rw[Lj ⟨hq,by rw[HSR.out];exact hb⟩,Lf,Li hq];rfl
 have HX:=zH ((HI.out.keep Bx.out).at_ k hq);obtain⟨ba,off,rfl,hlt,hc⟩:=HX.out;have f1:=zi HS.out (3+k);go_wp2_with (go_at_call 159;refine(HH.out k sh _).mono ?_;rintro e w' ⟨rfl,lZ⟩;obtain rfl:=lZ.symm)
 go_roundw
 case rel=>exact⟨k+1,by omega,by go_num,((Le _ _ _ w.heap.size (by show w.heap.size≠w.heap.size+1+1;omega)).trans ((Le wr _ _ w.heap.size (by show w.heap.size≠w.heap.size+1+1;omega)).trans HG.out)),((Le _ _ _ (w.heap.size+1) (by show w.heap.size+1≠w.heap.size+1+1;omega)).trans ((Le wr _ _ (w.heap.size+1) (by show w.heap.size+1≠w.heap.size+1+1;omega)).trans H0.out)),(by show _=_;rw[Lk _ _ (3+k) _ _ _ HS.out,<-hE.out,vq_set2 _ _ _ (yh r p row) k sh]),((Bx.out.setCell (by show w.heap.size<=w.heap.size+1+1;omega) _).setCell (by show w.heap.size<=w.heap.size+1+1;omega) _)⟩
 simp[Ar];omega
end
section
open Go.RowKit Go.Shelf
structure Bt(D bs:Nat)(SC:Au->Au->Array Au)(WR:Ba)(vs:List Vw)(xs:List Exn)(V E:Au)(X:Ba):Prop where
 wr:Wrote (fun k=>k=bs) WR X
 wd:WR.heap.size<=D
 big:D<=X.heap.size
 bsl:bs<D
 sys:X.heap[bs]?=J (Ag (SC V E) 39 (0,0))
 tb:OwnV X D V vs
 out:OwnX Qw (fun k=>bs<k) X D E xs
 no:∀k,V.ownBlock=J k->E.ownBlock≠J k
structure Bq(D bs bx:Nat)(SC:Au->Au->Array Au)(WR:Ba)(c:Int)(wv:Au)(vs:List Vw)(xs:List Exn)(views:List (List Int))(row:List Int)(V E Y L:Au)(X:Ba):Prop where
 wr:Wrote (fun k=>k=bs) WR X
 wd:WR.heap.size<=D
 big:D<=X.heap.size
 bsl:bs<D
 sys:X.heap[bs]?=J (Ag (SC V E) 39 (0,0))
 x:X.heap[bx]?=J (Ag #[O U c,wv,Y] 128 (0,0))
 hx:D<=bx
 tb:OwnV X D V vs
 out:OwnX Qw (fun k=>bs<k/\k≠bx/\Y.ownBlock≠J k/\L.ownBlock≠J k) X D E xs
 vw:OwnX cIs (fun k=>D<=k/\k≠bx/\E.ownBlock≠J k/\L.ownBlock≠J k) X D Y views
 row:OwnR kIn X D L row.length (row.map (O U))
 nV:∀k,V.ownBlock=J k->k≠bx/\E.ownBlock≠J k/\Y.ownBlock≠J k/\L.ownBlock≠J k
 nE:∀k,E.ownBlock=J k->k≠bx/\Y.ownBlock≠J k/\L.ownBlock≠J k
 nY:∀k,Y.ownBlock=J k->k≠bx/\L.ownBlock≠J k
 nL:∀k,L.ownBlock=J k->k≠bx
section
variable {D bs bx:Nat} {SC:Au->Au->Array Au} {WR X:Ba} {c:Int} {wv:Au} {vs:List Vw} {xs:List Exn} {views:List (List Int)} {row:List Int} {V E Y L:Au}
theorem OwnV.lt'{w:Ba}{base:Nat}{v:Au}{vs:List Vw}(h:OwnV w base v vs):∀k,v.ownBlock=J k->base<=k/\k<w.heap.size:=Ry h
theorem Bq.bxl(h:Bq D bs bx SC WR c wv vs xs views row V E Y L X):bx<X.heap.size:=(Ln.1 h.x).1
theorem Bt.on(h:Bt D bs SC WR vs xs V E X){X':Ba}(hb:Am X.heap.size X X'):Bt D bs SC WR vs xs V E X':=
 ⟨h.wr.trans (Wrote.of_below (R:=fun _=>False) hb) (fun _ _ h=>h.elim),h.wd,by have:=hb.size;have:=h.big;omega,h.bsl,Lb hb (by have:=h.bsl;have:=h.big;omega) h.sys,
  h.tb.of_same fun k hk=>hb.block k (h.tb.lt' k hk).2,h.out.below zX hb (Ld _),h.no⟩
theorem Bq.on(h:Bq D bs bx SC WR c wv vs xs views row V E Y L X){X':Ba}(hb:Am X.heap.size X X'):Bq D bs bx SC WR c wv vs xs views row V E Y L X':=
 ⟨h.wr.trans (Wrote.of_below (R:=fun _=>False) hb) (fun _ _ h=>h.elim),h.wd,by have:=hb.size;have:=h.big;omega,h.bsl,Lb hb (by have:=h.bsl;have:=h.big;omega) h.sys,
  Lb hb h.bxl h.x,h.hx,h.tb.of_same fun k hk=>hb.block k (h.tb.lt' k hk).2,h.out.below zX hb (Ld _),h.vw.below yV hb (Ld _),h.row.below hb (Ld _),h.nV,h.nE,h.nY,h.nL⟩
theorem Bt.start(h:Bt D bs SC WR vs xs V E X){X':Ba}(hb:Am X.heap.size X X')(hx:X'.heap[X.heap.size]?=J (Ag #[O U c,wv,I Z 0 0] 128 (0,0))) :
  Bq D bs X.heap.size SC WR c wv vs xs [] [] V E (I Z 0 0) (I Z 0 0) X':=by
 have h':=h.on hb;refine⟨h'.wr,h'.wd,h'.big,h'.bsl,h'.sys,hx,h.big,h'.tb,?_,OwnX.nil _ _ _ _,OwnR.nil _ _ _,fun k hk=>?_,fun k hk=>?_,fun k hk=>?_,fun k hk=>?_⟩
 . refine OwnX.below zX (OwnX.mono zX h.out fun k hk hs=>⟨hs,by omega,?_,?_⟩) hb (Ld _)
   . simp[Value.ownBlock]
   simp[Value.ownBlock]
 . have:=(h.tb.lt' k hk).2
   exact⟨by omega,h.no k hk,by simp[Value.ownBlock],by simp[Value.ownBlock]⟩
 . have:=(h.out.lt k hk).2
   exact⟨by omega,by simp[Value.ownBlock],by simp[Value.ownBlock]⟩
 . simp[Value.ownBlock] at hk
 simp[Value.ownBlock] at hk
theorem Bq.put(h:Bq D bs bx SC WR c wv vs xs views row V E Y L X){W:Ba}(hb:Am X.heap.size X W){V' u:Au}{ES:List Vw}(hT:OwnV W D V' ES)(hV:∀k,V'.ownBlock=J k->V.ownBlock=J k\/X.heap.size<=k)
  (h7:(SC V E).setIfInBounds 7 u=SC V E) (h8:(SC V E).setIfInBounds 8 V'=SC V' E) :
  Bq D bs bx SC WR c wv ES xs views row V' E Y L ((W.setCell ⟨bs,7,Z⟩ u).setCell ⟨bs,8,Z⟩ V'):=by
 have h1:=h.on hb;have aO:=h.bsl;have cd:=h.hx;obtain⟨W',td⟩:=Kj ((W.setCell ⟨bs,7,Z⟩ u).setCell ⟨bs,8,Z⟩ V')
 have hk:∀k,k≠bs->W'.heap[k]?=W.heap[k]?:=fun k hk=>by
  rw[<-td];exact(Le _ ⟨bs,8,Z⟩ _ k hk).trans (Le _ ⟨bs,7,Z⟩ _ k hk)
 have hz:W'.heap.size=W.heap.size:=by rw[<-td];simp
 have hs:W'.heap[bs]?=J (Ag (SC V' E) 39 (0,0)):=by
  rw[<-td];have q:=Lk W bs 7 _ _ u h1.sys;rw[h7] at q;have q2:=Lk _ bs 8 _ _ V' q;rwa[h8] at q2
 have hw:Wrote (fun k=>k=bs) W W':=by
  rw[<-td];exact⟨rfl,rfl,rfl,by simp,fun k _ hk=>(Le _ ⟨bs,8,Z⟩ _ k hk).trans (Le _ ⟨bs,7,Z⟩ _ k hk)⟩
 rw[td];refine⟨h1.wr.trans hw (fun k _ e=>e),h.wd,by have:=h1.big;omega,h.bsl,hs,(hk _ (by omega)).trans h1.x,h.hx,hT.of_same fun k e=>hk k (by have:=(hT.lt' k e).1;omega),?_,?_,?_,fun k e=>?_,h.nE,h.nY,h.nL⟩
 . exact h1.out.keep zX ⟨by omega,fun k hs _=>hk k (by have:=hs.1;omega)⟩ fun k e=>hk k (by have:=(h1.out.lt k e).1;omega)
 . exact h1.vw.keep yV ⟨by omega,fun k hs _=>hk k (by have:=hs.1;omega)⟩ fun k e=>hk k (by have:=(h1.vw.lt k e).1;omega)
 . refine h1.row.kept (row:=J bs) ⟨hw.os,hw.tape,hw.output,hw.size,fun k _ hn=>hk k (fun e=>hn (by rw[e]))⟩ (Or.inr (h1.row.ne (by omega)))
 rcases hV k e with e | e
 . exact h.nV k e
 have aY:=h.bxl;exact⟨by omega,fun e2=>by have:=(h.out.lt k e2).2;omega,fun e2=>by have:=(h.vw.lt k e2).2;omega,fun e2=>by have:=(h.row.lt k e2).2;omega⟩
theorem Y4(W:Ba)(b o:Nat)(u:Au):Wrote (fun k=>k=b) W (W.setCell ⟨b,o,Z⟩ u):=⟨rfl,rfl,rfl,by simp,fun k _ hn=>Le W ⟨b,o,Z⟩ u k hn⟩
theorem OwnX.aside{α:Type}{C:Ct α}(ok:CtOk C){S:Nat->Prop}{W w5:Ba}{v L:Au}{xs:List α}{g' n cap:Nat}(h:OwnX C S W D v xs)(hS:∀k,S k->L.ownBlock≠J k)(hg:W.grownBy w5 L.ownBlock)(az:∀k,v.ownBlock=J k->L.ownBlock≠J k)
  (aI:L.ownBlock=J g'\/g'=W.heap.size):OwnX C (fun k=>S k/\(I (J ⟨g',0,Z⟩) n cap).ownBlock≠J k) w5 D v xs:=by
 have h1:OwnX C (fun k=>S k/\(I (J ⟨g',0,Z⟩) n cap).ownBlock≠J k) W D v xs:=OwnX.mono ok h fun k hk hs=>⟨hs,fun e=>by
  have e2:g'=k:=by simpa[Value.ownBlock] using e
  rcases aI with e3 | e3
  . exact hS k hs (by rw[e3,e2])
  . omega⟩
 refine h1.kept ok hg ?_ fun k hk=>.inl fun hs=>hS k hs.1 hk
 cases hv:v.ownBlock with
 | none=>exact .inl rfl
 | some k=>exact .inr fun e=>az k hv e.symm
theorem OwnV.aside{W w5:Ba}{v L:Au}{vs:List Vw}(h:OwnV W D v vs)(hg:W.grownBy w5 L.ownBlock)(az:∀k,v.ownBlock=J k->L.ownBlock≠J k):OwnV w5 D v vs:=
 h.of_same fun k hk=>hg.block k (h.lt' k hk).2 fun e=>az k hk e.symm
theorem qD{L:Au}{W:Ba}{g' n cap:Nat}{P:Nat->Prop}(aI:L.ownBlock=J g'\/g'=W.heap.size)(h1:∀k,L.ownBlock=J k->P k)(h2:P W.heap.size):∀k,(I (J ⟨g',0,Z⟩) n cap).ownBlock=J k->P k:=fun k e=>by
 have e2:g'=k:=by simpa[Value.ownBlock] using e
 subst e2;rcases aI with e3 | e3
 . exact h1 g' e3
 . rw[e3];exact h2
theorem Bq.push(h:Bq D bs bx SC WR c wv vs xs views row V E Y L X){W w5:Ba}(hb:Am X.heap.size X W){i:Int}{g' cap:Nat}
  (hr:OwnR kIn w5 D (I (J ⟨g',0,Z⟩) (row.length+1) cap) (row.length+1) (row.map (O U)++[O U i])) (hg:W.grownBy w5 L.ownBlock) (aI:L.ownBlock=J g'\/g'=W.heap.size) :
  Bq D bs bx SC WR c wv vs xs views (row++[i]) V E Y (I (J ⟨g',0,Z⟩) (row.length+1) cap) w5:=by
 have h1:=h.on hb;have aJ:=h1.row.lt;have aO:=h.bsl;have cd:=h.hx;have hbig:=h1.big;have In:=h1.tb.lt';have Em:=h1.out.lt;have hYl:=h1.vw.lt;have aY:=h1.bxl;have hgz:=hg.size;refine⟨h1.wr.trans (Wrote.of_grown (R:=fun k=>D<=k) hg (fun k e _=>(aJ k e).1)) (fun k hk e=>by have:=h.wd;omega),h.wd,by omega,h.bsl,?_,?_,h.hx,h1.tb.aside hg fun k e=>(h.nV k e).2.2.2,?_,?_,by simpa using hr,fun k e=>?_,fun k e=>?_,fun k e=>?_,?_⟩
 . exact(hg.block bs (by omega) fun e=>by have:=(aJ bs e.symm).1;omega).trans h1.sys
 . exact(hg.block bx aY fun e=>h.nL bx e.symm rfl).trans h1.x
 . exact OwnX.mono zX (h1.out.aside zX (n:=row.length+1) (cap:=cap) (fun k hs=>hs.2.2.2) hg (fun k e=>(h.nE k e).2.2) aI) fun k _ hs=>⟨hs.1.1,hs.1.2.1,hs.1.2.2.1,hs.2⟩
 . exact OwnX.mono yV (h1.vw.aside yV (n:=row.length+1) (cap:=cap) (fun k hs=>hs.2.2.2) hg (fun k e=>(h.nY k e).2) aI) fun k _ hs=>⟨hs.1.1,hs.1.2.1,hs.1.2.2.1,hs.2⟩
 . exact⟨(h.nV k e).1,(h.nV k e).2.1,(h.nV k e).2.2.1,fun e2=>qD (P:=fun j=>V.ownBlock≠J j) aI (fun j ej ev=>(h.nV j ev).2.2.2 ej) (fun ev=>by have:=(In _ ev).2;omega) k e2 e⟩
 . exact⟨(h.nE k e).1,(h.nE k e).2.1,fun e2=>qD (P:=fun j=>E.ownBlock≠J j) aI (fun j ej ev=>(h.nE j ev).2.2 ej) (fun ev=>by have:=(Em _ ev).2;omega) k e2 e⟩
 . exact⟨(h.nY k e).1,fun e2=>qD (P:=fun j=>Y.ownBlock≠J j) aI (fun j ej ev=>(h.nY j ev).2 ej) (fun ev=>by have:=(hYl _ ev).2;omega) k e2 e⟩
 exact qD aI h.nL (by omega)
theorem Bq.close(h:Bq D bs bx SC WR c wv vs xs views row V E Y L X){W w5:Ba}(hb:Am X.heap.size X W){g' cap:Nat}{aW:List (List Au)}(aA:aW.length=views.length)
  (bN:∀(i:Nat) (h1:i<aW.length) (h2:i<views.length),cIs.lies (fun k=>(D<=k/\k≠bx/\E.ownBlock≠J k/\L.ownBlock≠J k)/\Y.ownBlock≠J k) W aW[i] views[i])
  (hr:OwnR kIs w5 D (I (J ⟨g',0,Z⟩) (views.length+1) cap) (views.length+1) (aW.flatten++[L])) (hg:W.grownBy w5 Y.ownBlock) (aI:Y.ownBlock=J g'\/g'=W.heap.size) :
  Bq D bs bx SC WR c wv vs xs (views++[row]) [] V E (I (J ⟨g',0,Z⟩) (views.length+1) cap) (I Z 0 0) (w5.setCell ⟨bx,2,Z⟩ (I (J ⟨g',0,Z⟩) (views.length+1) cap)):=by
 have h1:=h.on hb;have aJ:=h1.vw.lt;have aO:=h.bsl;have cd:=h.hx;have hbig:=h1.big;have In:=h1.tb.lt';have Em:=h1.out.lt;have T8:=h1.row.lt;have aY:=h1.bxl;have hgz:=hg.size;obtain⟨A,cL,eL,_,_,hLc⟩:=h1.row.form
 have hX:cIs.lies (fun k=>(D<=k/\k≠bx/\E.ownBlock≠J k)/\Y.ownBlock≠J k) W [L] row:=by
  refine⟨A,cL,by rw[eL],fun h0=>?_⟩;obtain⟨g,hA,FG,dC,hc⟩:=hLc h0;refine⟨g,0,hA,⟨⟨(T8 g FG).1,h.nL g FG,fun e=>(h.nE g e).2.2 FG⟩,fun e=>(h.nY g e).2 FG⟩,dC,fun i hi=>?_⟩;rw[LI];exact hc i _ (by simp[hi])
 have hv:=OwnX.app yV (S:=fun k=>D<=k/\k≠bx/\E.ownBlock≠J k) aA (fun i i1 i2=>yV.mono (bN i i1 i2) fun k _ hs=>⟨⟨hs.1.1,hs.1.2.1,hs.1.2.2.1⟩,hs.2⟩) hX hr hg aI;have iT:=h1.out.aside zX (n:=views.length+1) (cap:=cap) (fun k hs=>hs.2.2.1) hg (fun k e=>(h.nE k e).2.1) aI;have hgx:w5.heap[bx]?=J (Ag #[O U c,wv,Y] 128 (0,0)):=(hg.block bx aY fun e=>(h.nY bx e.symm).1 rfl).trans h1.x;have CM:w5.heap[bs]?=J (Ag (SC V E) 39 (0,0)):=(hg.block bs (by omega) fun e=>by have:=(aJ bs e.symm).1;omega).trans h1.sys;have hk:∀k,k≠bx->(w5.setCell ⟨bx,2,Z⟩ (I (J ⟨g',0,Z⟩) (views.length+1) cap)).heap[k]?=w5.heap[k]?:=fun k hk=>Le w5 ⟨bx,2,Z⟩ _ k hk
 have hw:Wrote (fun k=>D<=k) W (w5.setCell ⟨bx,2,Z⟩ (I (J ⟨g',0,Z⟩) (views.length+1) cap)):=
  (Wrote.of_grown (R:=fun k=>D<=k) hg (fun k e _=>(aJ k e).1)).trans (Y4 w5 bx 2 _) (fun k _ e=>by omega)
 refine⟨h1.wr.trans hw (fun k hk e=>by have:=h.wd;omega),h.wd,by simp;omega,h.bsl,(hk bs (by omega)).trans CM,?_,h.hx,?_,?_,?_,OwnR.nil _ _ _,fun k e=>?_,fun k e=>?_,fun k e=>?_,fun k e=>?_⟩
 . rw[Lk w5 bx 2 _ _ _ hgx];rfl
 . exact(h1.tb.aside hg fun k e=>(h.nV k e).2.2.1).of_same fun k e=>hk k (h.nV k e).1
 . exact OwnX.mono zX (iT.keep zX ⟨by simp,fun k hs _=>hk k hs.1.2.1⟩ fun k e=>hk k (h.nE k e).1) fun k _ hs=>⟨hs.1.1,hs.1.2.1,hs.2,by simp[Value.ownBlock]⟩
 . refine OwnX.mono yV (hv.keep yV ⟨by simp,fun k hs _=>hk k hs.2.1⟩ fun k e=>hk k ?_) fun k _ hs=>⟨hs.1,hs.2.1,hs.2.2,by simp[Value.ownBlock]⟩
   exact qD (P:=fun j=>j≠bx) aI (fun j e=>(h.nY j e).1) (by omega) k e
 . exact⟨(h.nV k e).1,(h.nV k e).2.1,fun e2=>qD (P:=fun j=>V.ownBlock≠J j) aI (fun j ej ev=>(h.nV j ev).2.2.1 ej) (fun ev=>by have:=(In _ ev).2;omega) k e2 e,by simp[Value.ownBlock]⟩
 . exact⟨(h.nE k e).1,fun e2=>qD (P:=fun j=>E.ownBlock≠J j) aI (fun j ej ev=>(h.nE j ev).2.1 ej) (fun ev=>by have:=(Em _ ev).2;omega) k e2 e,by simp[Value.ownBlock]⟩
 . exact⟨qD (P:=fun j=>j≠bx) aI (fun j e=>(h.nY j e).1) (by omega) k e,by simp[Value.ownBlock]⟩
 simp[Value.ownBlock] at e
theorem Bq.done(h:Bq D bs bx SC WR c wv vs xs views [] V E Y (I Z 0 0) X){W w5:Ba}(hb:Am X.heap.size X W){g' cap A2 c2 A3 c3:_}{aW:List (List Au)}{word:List Rd}(aA:aW.length=xs.length)
  (bN:∀(i:Nat) (h1:i<aW.length) (h2:i<xs.length),Qw.lies (fun k=>(bs<k/\k≠bx/\Y.ownBlock≠J k/\(I Z 0 0).ownBlock≠J k)/\E.ownBlock≠J k) W aW[i] xs[i])
  (hwv:wv=I A2 word.length c2) (hYv:Y=I A3 views.length c3) (hw:RAtS (fun k=>bs<k/\k<D) WR A2 word) (sL:word.length<=c2)
  (hr:OwnR kXn w5 D (I (J ⟨g',0,Z⟩) (xs.length+1) cap) (xs.length+1) (aW.flatten++[O U c,wv,Y])) (hg:W.grownBy w5 E.ownBlock) (aI:E.ownBlock=J g'\/g'=W.heap.size)
  (h9:(SC V E).setIfInBounds 9 (I (J ⟨g',0,Z⟩) (xs.length+1) cap)=SC V (I (J ⟨g',0,Z⟩) (xs.length+1) cap)) :
  Bt D bs SC WR vs (xs++[⟨c,word,views⟩]) V (I (J ⟨g',0,Z⟩) (xs.length+1) cap) (w5.setCell ⟨bs,9,Z⟩ (I (J ⟨g',0,Z⟩) (xs.length+1) cap)):=by
 have h1:=h.on hb;have aJ:=h1.out.lt;have aO:=h.bsl;have cd:=h.hx;have hbig:=h1.big;have In:=h1.tb.lt';have hYl:=h1.vw.lt;have hgz:=hg.size;obtain⟨A3',c3',e3,_,_,hL⟩:=XM h1.vw;rw[hYv] at e3
 cases e3
 have hX:Qw.lies (fun k=>bs<k/\E.ownBlock≠J k) W [O U c,wv,Y] ⟨c,word,views⟩:=by
  refine⟨A2,c2,A3,c3,by rw[hwv,hYv],?_,?_,sL⟩
  . exact(hw.keep ⟨h1.wr.size,fun k hk hl=>h1.wr.block k hl (fun e=>by have:=hk.1;omega)⟩).mono fun k _ hs=>⟨hs.1,fun e=>by have:=(aJ k e).1;have:=hs.2;omega⟩
  refine hL.mono fun k _ hs=>?_
  rcases hs with hs | hs
  . exact⟨by have:=hs.1;omega,hs.2.2.1⟩
  exact⟨by have:=(hYl k hs).1;omega,fun e=>(h.nE k e).2.1 hs⟩
 have hv:=OwnX.app zX (S:=fun k=>bs<k) aA (fun i i1 i2=>zX.mono (bN i i1 i2) fun k _ hs=>⟨hs.1.1,hs.2⟩) hX hr hg aI;have CM:w5.heap[bs]?=J (Ag (SC V E) 39 (0,0)):=(hg.block bs (by omega) fun e=>by have:=(aJ bs e.symm).1;omega).trans h1.sys;have hk:∀k,k≠bs->(w5.setCell ⟨bs,9,Z⟩ (I (J ⟨g',0,Z⟩) (xs.length+1) cap)).heap[k]?=w5.heap[k]?:=fun k hk=>Le w5 ⟨bs,9,Z⟩ _ k hk
 have eK:Wrote (fun k=>k=bs\/D<=k) W (w5.setCell ⟨bs,9,Z⟩ (I (J ⟨g',0,Z⟩) (xs.length+1) cap)):=
  (Wrote.of_grown (R:=fun k=>k=bs\/D<=k) hg (fun k e _=>.inr (aJ k e).1)).trans (Y4 w5 bs 9 _) (fun k _ e=>.inl e)
 refine⟨h1.wr.trans eK (fun k hk e=>by have:=h.wd;omega),h.wd,by simp;omega,h.bsl,?_,?_,?_,fun k e=>?_⟩
 . rw[Lk w5 bs 9 _ _ _ CM,h9]
 . exact(h1.tb.aside hg fun k e=>(h.nV k e).2.1).of_same fun k e=>hk k (by have:=(In k e).1;omega)
 . refine hv.keep zX ⟨by simp,fun k hs _=>hk k (by omega)⟩ fun k e=>hk k ?_
   exact qD (P:=fun j=>j≠bs) aI (fun j e=>by have:=(aJ j e).1;omega) (by omega) k e
 exact fun e2=>qD (P:=fun j=>V.ownBlock≠J j) aI (fun j ej ev=>(h.nV j ev).2.1 ej) (fun ev=>by have:=(In _ ev).2;omega) k e2 e
end
end
section
open Go.RowKit Go.Shelf
def stQ(vs:List Vw)(N:Nat)(inp:List Int)(word:List Rd):Nat->List Vw×List (List Int)
 | 0=>(vs,[])
 | k+1=>zC vs N inp word k
def fQ(inp:List Int)(word:List Rd)(views:List (List Int)):Nat->Nat->Vw
 | 0=>f0 inp
 | k+1=>fk word k (views.getD k [])
theorem stQ_succ(vs:List Vw)(N:Nat)(inp:List Int)(word:List Rd)(k:Nat) :
  stQ vs N inp word (k+1)=((yx (fQ inp word (stQ vs N inp word k).2 k) (stQ vs N inp word k).1 N).1,(stQ vs N inp word k).2++[(yx (fQ inp word (stQ vs N inp word k).2 k) (stQ vs N inp word k).1 N).2]):=by
 cases k<;>rfl
theorem stQ_len(vs:List Vw)(N:Nat)(inp:List Int)(word:List Rd)(k:Nat):(stQ vs N inp word k).2.length=k:=by
 cases k
 . rfl
 exact yH _ _ _ _ _
theorem stQ_few(vs:List Vw)(N:Nat)(inp:List Int)(word:List Rd)(k:Nat):(stQ vs N inp word k).1.length<=vs.length+k*N:=by
 cases k
 . simp[stQ]
 exact jf _ _ _ _ _
theorem stQ_row(vs:List Vw)(N:Nat)(inp:List Int)(word:List Rd)(k j:Nat)(hj:j<(stQ vs N inp word k).2.length):((stQ vs N inp word k).2[j]).length=N:=by
 cases k with
 | zero=>exact absurd hj (by simp[stQ])
 | succ k=>exact ko _ _ _ _ k _ (Lh hj)
def pcs(ac:List (List Rd))(c:Nat):List (Nat×List Rd):=(List.range c).flatMap fun i=>ac.map fun w=>(i,w)
theorem Q8(ac:List (List Rd))(c:Nat):pcs ac (c+1)=pcs ac c++ac.map fun w=>(c,w):=by
 unfold pcs;rw[P4,P7];simp
theorem X7(p:Pb):zE p=pcs (zL p.a p.k.toNat 0) p.t.cases.length:=rfl
def pcw(ac:List (List Rd))(c j:Nat):List (Nat×List Rd):=pcs ac c++(ac.take j).map fun w=>(c,w)
theorem Q7(ac:List (List Rd))(c:Nat):pcw ac c 0=pcs ac c:=by simp[pcw]
theorem pcw_succ(ac:List (List Rd))(c j:Nat)(hj:j<ac.length):pcw ac c (j+1)=pcw ac c j++[(c,ac[j])]:=by
 unfold pcw;rw[Ls hj,LF,Sb,L6]
theorem pcw_end(ac:List (List Rd))(c:Nat):pcw ac c ac.length=pcs ac (c+1):=by
 unfold pcw;rw[LK,Q8]
theorem Zw(ac:List (List Rd)):∀c,(pcs ac c).length=c*ac.length
 | 0=>by simp[pcs]
 | c+1=>by rw[Q8,Lr,Zw ac c,LG,Rr];omega
theorem pcw_len(ac:List (List Rd))(c j:Nat)(hj:j<=ac.length):(pcw ac c j).length=c*ac.length+j:=by
 unfold pcw;rw[Lr,Zw,LG,PV,RK hj]
theorem pcw_mem(ac:List (List Rd))(c j:Nat):∀x∈pcw ac c j,x.2∈ac:=fun x hx=>by
 unfold pcw at hx;rcases LX.1 hx with hx | hx
 . unfold pcs at hx
   obtain⟨_,_,hx⟩:=Nw.1 hx;obtain⟨_,h,rfl⟩:=LS.1 hx;exact h
 . obtain⟨_,h,rfl⟩:=LS.1 hx
   exact List.mem_of_mem_take h
theorem Xg(p:Pb)(ac:List (List Rd))(hn:p.t.n.toNat<=5)(hw:∀w∈ac,w.length<=6)(c j:Nat)(hj:j<=ac.length)(mG:c*ac.length+j<=60):(zI p (pcw ac c j)).1.length<=2100/\(zI p (pcw ac c j)).2.length=c*ac.length+j:=by
 have h1:=Z0 p hn (pcw ac c j) fun x hx=>hw _ (pcw_mem ac c j x hx)
 rw[pcw_len ac c j hj] at h1;refine⟨by omega,?_⟩;rw[qc,pcw_len ac c j hj]
theorem ZZ(p:Pb)(ac:List (List Rd))(hn:p.t.n.toNat<=5)(hw:∀w∈ac,w.length<=6)(c:Nat)(mG:c*ac.length<=60):(zI p (pcs ac c)).1.length<=2100:=by
 have:=(Xg p ac hn hw c 0 (Ni _) (by omega)).1;rwa[Q7] at this
theorem put_out{n:Int}{AV:Bb}{kv:Nat}{vs:List Vw}{v:Vw}{W w':Ba}{e:Ending}{D:Nat}(h:RetPut n AV kv vs v W e w')(hO:OwnV W D (I AV vs.length kv) vs)(hD:D<=W.heap.size) :
  ∃A3 k3,e=Ak (.tuple #[Ai #[O U n,.slice A3 (qd vs v).1.length k3],O U (qd vs v).2])/\OwnV w' D (.slice A3 (qd vs v).1.length k3) (qd vs v).1 /\
   (∀k,(I A3 (qd vs v).1.length k3).ownBlock=J k->(I AV vs.length kv).ownBlock=J k\/W.heap.size<=k)/\Am W.heap.size W w':=by
 obtain⟨hb,h1,h2⟩:=h
 by_cases hm:v∈vs
 . rw[QZ hm]
   exact⟨AV,kv,h1 hm,hO.of_same fun k hk=>hb.block k (hO.lt' k hk).2,fun k hk=>.inl hk,hb⟩
 rw[putW_no hm];obtain⟨A3,k3,e3,ho⟩:=h2 hm;have hl:(vs++[v]).length=vs.length+1:=by simp
 dsimp only;rw[hl];exact⟨A3,k3,e3,ho.low hD,fun k hk=>.inr (ho.lt' k hk).1,hb⟩
theorem kK{w X:Ba}{g B:Nat}{a0 a1 a2 a3 a4 a5 a6 a7 a8 a9:Au}(v0 v1 v2 v3 v4 v5 v6 v7 v8 v9:Au)(hg:X.heap[g]?=J (Ag #[a0,a1,a2,a3,a4,a5,a6,a7,a8,a9] 39 (0,0)))(hB:Am B w X)(h1:B<=g) :
  ((((((((((X.setCell ⟨g,0,Z⟩ v0).setCell ⟨g,1,Z⟩ v1).setCell ⟨g,2,Z⟩ v2).setCell ⟨g,3,Z⟩ v3).setCell ⟨g,4,Z⟩ v4).setCell ⟨g,5,Z⟩ v5).setCell ⟨g,6,Z⟩ v6).setCell ⟨g,7,Z⟩ v7).setCell ⟨g,8,Z⟩ v8).setCell ⟨g,9,Z⟩ v9).heap[g]?=J (Ag #[v0,v1,v2,v3,v4,v5,v6,v7,v8,v9] 39 (0,0))/\Am B w ((((((((((X.setCell ⟨g,0,Z⟩ v0).setCell ⟨g,1,Z⟩ v1).setCell ⟨g,2,Z⟩ v2).setCell ⟨g,3,Z⟩ v3).setCell ⟨g,4,Z⟩ v4).setCell ⟨g,5,Z⟩ v5).setCell ⟨g,6,Z⟩ v6).setCell ⟨g,7,Z⟩ v7).setCell ⟨g,8,Z⟩ v8).setCell ⟨g,9,Z⟩ v9)/\Am g X ((((((((((X.setCell ⟨g,0,Z⟩ v0).setCell ⟨g,1,Z⟩ v1).setCell ⟨g,2,Z⟩ v2).setCell ⟨g,3,Z⟩ v3).setCell ⟨g,4,Z⟩ v4).setCell ⟨g,5,Z⟩ v5).setCell ⟨g,6,Z⟩ v6).setCell ⟨g,7,Z⟩ v7).setCell ⟨g,8,Z⟩ v8).setCell ⟨g,9,Z⟩ v9)/\(∀k,k≠g->((((((((((X.setCell ⟨g,0,Z⟩ v0).setCell ⟨g,1,Z⟩ v1).setCell ⟨g,2,Z⟩ v2).setCell ⟨g,3,Z⟩ v3).setCell ⟨g,4,Z⟩ v4).setCell ⟨g,5,Z⟩ v5).setCell ⟨g,6,Z⟩ v6).setCell ⟨g,7,Z⟩ v7).setCell ⟨g,8,Z⟩ v8).setCell ⟨g,9,Z⟩ v9).heap[k]?=X.heap[k]?)/\((((((((((X.setCell ⟨g,0,Z⟩ v0).setCell ⟨g,1,Z⟩ v1).setCell ⟨g,2,Z⟩ v2).setCell ⟨g,3,Z⟩ v3).setCell ⟨g,4,Z⟩ v4).setCell ⟨g,5,Z⟩ v5).setCell ⟨g,6,Z⟩ v6).setCell ⟨g,7,Z⟩ v7).setCell ⟨g,8,Z⟩ v8).setCell ⟨g,9,Z⟩ v9).heap.size=X.heap.size:=by
 have k0:(X.setCell ⟨g,0,Z⟩ v0).heap[g]?=J (Ag #[v0,a1,a2,a3,a4,a5,a6,a7,a8,a9] 39 (0,0)):=Lk _ g 0 _ _ v0 hg;have k1:((X.setCell ⟨g,0,Z⟩ v0).setCell ⟨g,1,Z⟩ v1).heap[g]?=J (Ag #[v0,v1,a2,a3,a4,a5,a6,a7,a8,a9] 39 (0,0)):=Lk _ g 1 _ _ v1 k0;have k2:(((X.setCell ⟨g,0,Z⟩ v0).setCell ⟨g,1,Z⟩ v1).setCell ⟨g,2,Z⟩ v2).heap[g]?=J (Ag #[v0,v1,v2,a3,a4,a5,a6,a7,a8,a9] 39 (0,0)):=Lk _ g 2 _ _ v2 k1;have k3:((((X.setCell ⟨g,0,Z⟩ v0).setCell ⟨g,1,Z⟩ v1).setCell ⟨g,2,Z⟩ v2).setCell ⟨g,3,Z⟩ v3).heap[g]?=J (Ag #[v0,v1,v2,v3,a4,a5,a6,a7,a8,a9] 39 (0,0)):=Lk _ g 3 _ _ v3 k2;have k4:(((((X.setCell ⟨g,0,Z⟩ v0).setCell ⟨g,1,Z⟩ v1).setCell ⟨g,2,Z⟩ v2).setCell ⟨g,3,Z⟩ v3).setCell ⟨g,4,Z⟩ v4).heap[g]?=J (Ag #[v0,v1,v2,v3,v4,a5,a6,a7,a8,a9] 39 (0,0)):=Lk _ g 4 _ _ v4 k3;have k5:((((((X.setCell ⟨g,0,Z⟩ v0).setCell ⟨g,1,Z⟩ v1).setCell ⟨g,2,Z⟩ v2).setCell ⟨g,3,Z⟩ v3).setCell ⟨g,4,Z⟩ v4).setCell ⟨g,5,Z⟩ v5).heap[g]?=J (Ag #[v0,v1,v2,v3,v4,v5,a6,a7,a8,a9] 39 (0,0)):=Lk _ g 5 _ _ v5 k4;have k6:(((((((X.setCell ⟨g,0,Z⟩ v0).setCell ⟨g,1,Z⟩ v1).setCell ⟨g,2,Z⟩ v2).setCell ⟨g,3,Z⟩ v3).setCell ⟨g,4,Z⟩ v4).setCell ⟨g,5,Z⟩ v5).setCell ⟨g,6,Z⟩ v6).heap[g]?=J (Ag #[v0,v1,v2,v3,v4,v5,v6,a7,a8,a9] 39 (0,0)):=Lk _ g 6 _ _ v6 k5
 have k7:((((((((X.setCell ⟨g,0,Z⟩ v0).setCell ⟨g,1,Z⟩ v1).setCell ⟨g,2,Z⟩ v2).setCell ⟨g,3,Z⟩ v3).setCell ⟨g,4,Z⟩ v4).setCell ⟨g,5,Z⟩ v5).setCell ⟨g,6,Z⟩ v6).setCell ⟨g,7,Z⟩ v7).heap[g]?=J (Ag #[v0,v1,v2,v3,v4,v5,v6,v7,a8,a9] 39 (0,0)):=Lk _ g 7 _ _ v7 k6;have k8:(((((((((X.setCell ⟨g,0,Z⟩ v0).setCell ⟨g,1,Z⟩ v1).setCell ⟨g,2,Z⟩ v2).setCell ⟨g,3,Z⟩ v3).setCell ⟨g,4,Z⟩ v4).setCell ⟨g,5,Z⟩ v5).setCell ⟨g,6,Z⟩ v6).setCell ⟨g,7,Z⟩ v7).setCell ⟨g,8,Z⟩ v8).heap[g]?=J (Ag #[v0,v1,v2,v3,v4,v5,v6,v7,v8,a9] 39 (0,0)):=Lk _ g 8 _ _ v8 k7;have k9:((((((((((X.setCell ⟨g,0,Z⟩ v0).setCell ⟨g,1,Z⟩ v1).setCell ⟨g,2,Z⟩ v2).setCell ⟨g,3,Z⟩ v3).setCell ⟨g,4,Z⟩ v4).setCell ⟨g,5,Z⟩ v5).setCell ⟨g,6,Z⟩ v6).setCell ⟨g,7,Z⟩ v7).setCell ⟨g,8,Z⟩ v8).setCell ⟨g,9,Z⟩ v9).heap[g]?=J (Ag #[v0,v1,v2,v3,v4,v5,v6,v7,v8,v9] 39 (0,0)):=Lk _ g 9 _ _ v9 k8;refine⟨k9,?_,?_,fun k hk=>?_,by simp⟩
 . refine LB (p:=⟨g,9,Z⟩) ?_ h1 _
   refine LB (p:=⟨g,8,Z⟩) ?_ h1 _;refine LB (p:=⟨g,7,Z⟩) ?_ h1 _;refine LB (p:=⟨g,6,Z⟩) ?_ h1 _;refine LB (p:=⟨g,5,Z⟩) ?_ h1 _;refine LB (p:=⟨g,4,Z⟩) ?_ h1 _;refine LB (p:=⟨g,3,Z⟩) ?_ h1 _;refine LB (p:=⟨g,2,Z⟩) ?_ h1 _;refine LB (p:=⟨g,1,Z⟩) ?_ h1 _;refine LB (p:=⟨g,0,Z⟩) ?_ h1 _;exact hB
 . refine LB (p:=⟨g,9,Z⟩) ?_ (Ld _) _
   refine LB (p:=⟨g,8,Z⟩) ?_ (Ld _) _;refine LB (p:=⟨g,7,Z⟩) ?_ (Ld _) _;refine LB (p:=⟨g,6,Z⟩) ?_ (Ld _) _;refine LB (p:=⟨g,5,Z⟩) ?_ (Ld _) _;refine LB (p:=⟨g,4,Z⟩) ?_ (Ld _) _;refine LB (p:=⟨g,3,Z⟩) ?_ (Ld _) _;refine LB (p:=⟨g,2,Z⟩) ?_ (Ld _) _;refine LB (p:=⟨g,1,Z⟩) ?_ (Ld _) _;refine LB (p:=⟨g,0,Z⟩) ?_ (Ld _) _;exact Ll _ _
 exact((Le _ ⟨g,9,Z⟩ v9 k hk).trans ((Le _ ⟨g,8,Z⟩ v8 k hk).trans ((Le _ ⟨g,7,Z⟩ v7 k hk).trans ((Le _ ⟨g,6,Z⟩ v6 k hk).trans ((Le _ ⟨g,5,Z⟩ v5 k hk).trans ((Le _ ⟨g,4,Z⟩ v4 k hk).trans ((Le _ ⟨g,3,Z⟩ v3 k hk).trans ((Le _ ⟨g,2,Z⟩ v2 k hk).trans ((Le _ ⟨g,1,Z⟩ v1 k hk).trans (Le _ ⟨g,0,Z⟩ v0 k hk))))))))))
theorem vw_store8{w X:Ba}{g B:Nat}{a0 a1 a2 a3 a4 a5 a6 a7:Au}(v:Vw)(hg:X.heap[g]?=J (Ag #[a0,a1,a2,a3,a4,a5,a6,a7] 133 (0,0)))(hB:Am B w X)(h1:B<=g) :
  ((((((((X.setCell ⟨g,0,Z⟩ (O U v.p)).setCell ⟨g,1,Z⟩ (O U v.r)).setCell ⟨g,2,Z⟩ (O U v.i)).setCell ⟨g,3,Z⟩ (O U v.h0)).setCell ⟨g,4,Z⟩ (O U v.h1)).setCell ⟨g,5,Z⟩ (O U v.h2)).setCell ⟨g,6,Z⟩ (O U v.h3)).setCell ⟨g,7,Z⟩ (O U v.h4)).heap[g]?=J (Ag v.cells 133 (0,0))/\Am B w ((((((((X.setCell ⟨g,0,Z⟩ (O U v.p)).setCell ⟨g,1,Z⟩ (O U v.r)).setCell ⟨g,2,Z⟩ (O U v.i)).setCell ⟨g,3,Z⟩ (O U v.h0)).setCell ⟨g,4,Z⟩ (O U v.h1)).setCell ⟨g,5,Z⟩ (O U v.h2)).setCell ⟨g,6,Z⟩ (O U v.h3)).setCell ⟨g,7,Z⟩ (O U v.h4)):=by
 have k0:(X.setCell ⟨g,0,Z⟩ (O U v.p)).heap[g]?=J (Ag #[O U v.p,a1,a2,a3,a4,a5,a6,a7] 133 (0,0)):=Lk _ g 0 _ _ _ hg;have k1:((X.setCell ⟨g,0,Z⟩ (O U v.p)).setCell ⟨g,1,Z⟩ (O U v.r)).heap[g]?=J (Ag #[O U v.p,O U v.r,a2,a3,a4,a5,a6,a7] 133 (0,0)):=Lk _ g 1 _ _ _ k0;have k2:(((X.setCell ⟨g,0,Z⟩ (O U v.p)).setCell ⟨g,1,Z⟩ (O U v.r)).setCell ⟨g,2,Z⟩ (O U v.i)).heap[g]?=J (Ag #[O U v.p,O U v.r,O U v.i,a3,a4,a5,a6,a7] 133 (0,0)):=Lk _ g 2 _ _ _ k1;have k3:((((X.setCell ⟨g,0,Z⟩ (O U v.p)).setCell ⟨g,1,Z⟩ (O U v.r)).setCell ⟨g,2,Z⟩ (O U v.i)).setCell ⟨g,3,Z⟩ (O U v.h0)).heap[g]?=J (Ag #[O U v.p,O U v.r,O U v.i,O U v.h0,a4,a5,a6,a7] 133 (0,0)):=Lk _ g 3 _ _ _ k2;have k4:(((((X.setCell ⟨g,0,Z⟩ (O U v.p)).setCell ⟨g,1,Z⟩ (O U v.r)).setCell ⟨g,2,Z⟩ (O U v.i)).setCell ⟨g,3,Z⟩ (O U v.h0)).setCell ⟨g,4,Z⟩ (O U v.h1)).heap[g]?=J (Ag #[O U v.p,O U v.r,O U v.i,O U v.h0,O U v.h1,a5,a6,a7] 133 (0,0)):=Lk _ g 4 _ _ _ k3
 have k5:((((((X.setCell ⟨g,0,Z⟩ (O U v.p)).setCell ⟨g,1,Z⟩ (O U v.r)).setCell ⟨g,2,Z⟩ (O U v.i)).setCell ⟨g,3,Z⟩ (O U v.h0)).setCell ⟨g,4,Z⟩ (O U v.h1)).setCell ⟨g,5,Z⟩ (O U v.h2)).heap[g]?=J (Ag #[O U v.p,O U v.r,O U v.i,O U v.h0,O U v.h1,O U v.h2,a6,a7] 133 (0,0)):=Lk _ g 5 _ _ _ k4;have k6:(((((((X.setCell ⟨g,0,Z⟩ (O U v.p)).setCell ⟨g,1,Z⟩ (O U v.r)).setCell ⟨g,2,Z⟩ (O U v.i)).setCell ⟨g,3,Z⟩ (O U v.h0)).setCell ⟨g,4,Z⟩ (O U v.h1)).setCell ⟨g,5,Z⟩ (O U v.h2)).setCell ⟨g,6,Z⟩ (O U v.h3)).heap[g]?=J (Ag #[O U v.p,O U v.r,O U v.i,O U v.h0,O U v.h1,O U v.h2,O U v.h3,a7] 133 (0,0)):=Lk _ g 6 _ _ _ k5;have k7:((((((((X.setCell ⟨g,0,Z⟩ (O U v.p)).setCell ⟨g,1,Z⟩ (O U v.r)).setCell ⟨g,2,Z⟩ (O U v.i)).setCell ⟨g,3,Z⟩ (O U v.h0)).setCell ⟨g,4,Z⟩ (O U v.h1)).setCell ⟨g,5,Z⟩ (O U v.h2)).setCell ⟨g,6,Z⟩ (O U v.h3)).setCell ⟨g,7,Z⟩ (O U v.h4)).heap[g]?=J (Ag #[O U v.p,O U v.r,O U v.i,O U v.h0,O U v.h1,O U v.h2,O U v.h3,O U v.h4] 133 (0,0)):=Lk _ g 7 _ _ _ k6;refine⟨k7,?_⟩;refine LB (p:=⟨g,7,Z⟩) ?_ h1 _;refine LB (p:=⟨g,6,Z⟩) ?_ h1 _;refine LB (p:=⟨g,5,Z⟩) ?_ h1 _
 refine LB (p:=⟨g,4,Z⟩) ?_ h1 _;refine LB (p:=⟨g,3,Z⟩) ?_ h1 _;refine LB (p:=⟨g,2,Z⟩) ?_ h1 _;refine LB (p:=⟨g,1,Z⟩) ?_ h1 _;refine LB (p:=⟨g,0,Z⟩) ?_ h1 _;exact hB
def WdsAt(bs D:Nat)(WR:Ba)(AW:Bb)(ac:List (List Rd)):Prop:=∀(i:Nat) (h:i<ac.length),∃g A c,AW=J ⟨g,0,Z⟩/\bs<g/\g<D/\WR.cell? ⟨g,i,Z⟩=J (I A ac[i].length c)/\RAtS (fun k=>bs<k/\k<D) WR A ac[i]/\ac[i].length<=c
theorem WdsAt.of{bs D:Nat}{w w':Ba}{v:Au}{ac:List (List Rd)}(h:OwnX cWd (fun b=>w.heap.size<=b) w' w.heap.size v ac)(hb:bs<w.heap.size)(hD:w'.heap.size=D) :
  ∃AW cw,v=I AW ac.length cw/\WdsAt bs D w' AW ac:=by
 obtain⟨A,cap,e,_,_,h3⟩:=h.form qz;refine⟨A,cap,e,fun i hi=>?_⟩;obtain⟨g,hA,hg,hl,hc⟩:=h3 (by omega);obtain⟨cs,⟨A2,c2,e2,hR,hRc⟩,hu⟩:=hc i hi;subst e2;refine⟨g,A2,c2,hA,by omega,by omega,?_,hR.mono fun k hk hs=>⟨by have:=hs.1;omega,by omega⟩,hRc⟩;have:=hu 0 _ rfl;simpa[cWd,kWd] using this
end
end Go.Proofs.YtkmbdfdaffmhjaaGreat
