/- Merged. -/
import Derived.Test.YtkmbdfdaffmhjaaGreatTc
import Derived.Deep.LoopGhost
import Derived.Laws.EntriesVeiled
open Go.Proofs.Tryz
open Go.Value renaming int->O,slice->I,agg->Ai,pointer->Aj
open Go.IntKind renaming i64->U
open Option renaming none->Z,some->J
open Go.Obj renaming cells->Ag
open Go.Ending renaming returned->Ak
open Go.Proofs.Tryz renaming prog->Al,func173->RY
open Go.RowKit renaming Below->Am,intOf->Ap,Hid->Aq
open Go renaming Calls->An,Value->Ar
open Bool renaming true->Au,false->Aw
open List renaming flatMap_cons->NB
open Go.RowKit.Below renaming setCell->LC
namespace Go.Proofs.YtkmbdfdaffmhjaaGreat
abbrev Ro:=@Nat.le_mul_of_pos_right
abbrev PA:=@Nat.mul_comm
set_option maxRecDepth 100000
set_option maxHeartbeats 4000000
section
open Go.RowKit Go.Shelf
attribute [local go_sem] Oper.semAt_some
theorem Yj{B:Nat}{ds:List Deferred}{w w':Ba}(h:Marks B ds w)(hs:∀k:Nat,w.heap[k]?=J (Obj.deferred (J []))->w'.heap[k]?=J (Obj.deferred (J []))):Marks B ds w':=by
 obtain⟨rs,e,hn,hk⟩:=h;exact⟨rs,e,hn,fun r hr=>⟨(hk r hr).1,hs r (hk r hr).2⟩⟩
structure NmIn(B:Nat)(C:Array Ar)(L:Int)(g7 g:Nat)(cs:List Int)(w W:Ba):Prop where
 below:Am B w W
 b0:W.heap[B]?=J (Ag C 27 (0,0))
 b1:W.heap[B+1]?=J (Ag #[O U L] 3 (0,0))
 b7:W.heap[g7]?=J (Ag #[I (J ⟨g,0,Z⟩) cs.length cs.length] 50 (0,0))
 row:RowAt W g cs
 h7:B+2<=g7
 hg:B+2<=g
theorem NmIn.on{B:Nat}{C:Array Ar}{L:Int}{g7 g:Nat}{cs:List Int}{w W W':Ba}(h:NmIn B C L g7 g cs w W)(hb:Am W.heap.size W W'):NmIn B C L g7 g cs w W':=
 ⟨h.below.trans (hb.mono (by have:=zk h.b0;omega)),La hb h.b0,La hb h.b1,La hb h.b7,Lb hb h.row.lt h.row,h.h7,h.hg⟩
theorem NmIn.turn{B:Nat}{C:Array Ar}{L:Int}{g7 g:Nat}{cs:List Int}{w W W':Ba}{row:Option Nat}(h:NmIn B C L g7 g cs w W)(hg:W.grownBy W' row)(hr:∀r,row=J r->B<=r/\∃o:Obj,W.heap[r]?=J o/\o.isCells=Aw):NmIn B C L g7 g cs w W':=
 ⟨h.below.grown hg (by have:=zk h.b0;omega) (fun k hk=>(hr k hk).1),(Nd hg (fun r e=>(hr r e).2) h.b0 rfl).trans h.b0,(Nd hg (fun r e=>(hr r e).2) h.b1 rfl).trans h.b1,
  (Nd hg (fun r e=>(hr r e).2) h.b7 rfl).trans h.b7,(Nd hg (fun r e=>(hr r e).2) h.row rfl).trans h.row,h.h7,h.hg⟩
theorem NmIn.setk{B:Nat}{C:Array Ar}{L:Int}{g7 g:Nat}{cs:List Int}{w W:Ba}(h:NmIn B C L g7 g cs w W)(n j:Nat)(v:Ar)(h7:g7<n)(hg:g<n):NmIn B C L g7 g cs w (W.setCell ⟨n,j,Z⟩ v):=by
 have h1:=h.h7
 exact⟨h.below.setCell (by show B<=n;omega) _,(Lf W ⟨n,j,Z⟩ v B (by show B≠n;omega)).trans h.b0,(Lf W ⟨n,j,Z⟩ v (B+1) (by show B+1≠n;omega)).trans h.b1,
  (Lf W ⟨n,j,Z⟩ v g7 (by show g7≠n;omega)).trans h.b7,(Lf W ⟨n,j,Z⟩ v g (by show g≠n;omega)).trans h.row,h.h7,h.hg⟩
theorem NmIn.swap{B:Nat}{C:Array Ar}{L:Int}{g7 g n:Nat}{cs rk:List Int}{w W:Ba}(h:NmIn B C L g7 g cs w W)(hr:RowAt W n rk)(hn:B+2<=n)(bC:n≠g7):NmIn B C L g7 n rk w (W.setCell ⟨g7,0,Z⟩ (I (J ⟨n,0,Z⟩) rk.length rk.length)):=by
 have h1:=h.h7;obtain⟨x1,x2,x3⟩:=qK h.b7 (I (J ⟨n,0,Z⟩) rk.length rk.length);exact⟨h.below.setCell (by show B<=g7;omega) _,(x3 B (by omega)).trans h.b0,(x3 (B+1) (by omega)).trans h.b1,x1,(x3 n bC).trans hr,h.h7,hn⟩
theorem keeps_setk{D:Nat}{W:Ba}{n:Nat}{xs:List Int}(h:RowAt W n xs)(j:Nat)(v:Ar):KeepsFrom D W (W.setCell ⟨n,j,Z⟩ v):=
 ⟨(zQ W n j v).size,fun k o _ hk ho=>(Lf W ⟨n,j,Z⟩ v k (by rintro rfl;rw[h] at hk;cases hk;cases ho)).trans hk⟩
theorem rep_arr(n:Nat):((List.replicate n (0:Int)).map (O U)).toArray=Array.replicate n (O U 0):=by simp
theorem number_any(a:Ad)(hf:FewA a)(hz:zG a a.sts=0)(h1:1<=a.sts.length)(K L:Nat)(hK:K<=6)(hL:L<=1048576)(SV:Bb)(ks:Nat)(w:Ba)(hS:SAt w w.heap.size SV a.sts) :
  An Al 131 #[Ai #[O U a.n,I SV a.sts.length ks],O U K,O U L] w fun e w'=>e=Ak (O U ((xd L (yf a K 0):Nat):Int))/\Am w.heap.size w w':=by
 have iE:=hf.1;have HI:=zH (fun (bx:Nat) (w':Ba) (hb:w'.heap[bx]?=J (Ag #[O U a.n,I SV a.sts.length ks] 27)) (h:SAt w' w.heap.size SV a.sts) (hB:w.heap.size<=w'.heap.size)=>jW a hf SV ks w.heap.size bx w' hb h hB);have HZ:=zH (@xL a hz);have HS:=zH hS;clear hS hz hf;refine yr func131 rfl ?_;simp only[ntmps131,List.size_toArray,List.length_cons,List.length_nil,Nat.reduceAdd,Nat.reduceSub,Array.replicate_succ,Array.replicate_zero,List.push_toArray,List.append_toArray,List.nil_append,List.cons_append];go_wp2_with fail;obtain⟨w2,aC,b0,b1,bL,hB⟩:=xk w #[O U a.n,I SV a.sts.length ks] #[O U (L:Int)] 27 3;have ep:w2.heap.size=w.heap.size+2:=by rw[<-aC];simp
 rw[aC];obtain⟨w3,cO,b2,hz3,ck⟩:=zm w2 #[O U 1] 3;rw[cO];clear aC cO;rw[show w2.heap.size=w.heap.size+1+1 by omega] at b2;refine(QE a.sts.length (w.heap.size+1+1) h1 iE 1 w3 b2).mono ?_;rintro e w4 ⟨g,rfl,DQ,an,fZ⟩
 have H4:Aq (NmIn w.heap.size #[O U a.n,I SV a.sts.length ks] L w4.heap.size g (cl a L 0 a.sts.length) w (w4.alloc (Ag #[I (J ⟨g,0,Z⟩) a.sts.length a.sts.length] 50))):=by
  have c0:=Lb fZ (by omega) (Lb ck (by omega) b0);have c1:=Lb fZ (by omega) (Lb ck (by omega) b1);have iU:=fZ.size;refine⟨(hB.trans (ck.mono (by omega))).trans ((fZ.mono (by omega)).trans ((Li _ _).alloc (by omega) _)),xa c0 _,xa c1 _,?_,?_,by omega,by omega⟩
  . rw[jE];exact zx _ _
  rw[cl_first];exact xa an _
 go_wp2_with fail;obtain⟨w5,eU⟩:=Kk (w4.alloc (Ag #[I (J ⟨g,0,Z⟩) a.sts.length a.sts.length] 50));rw[eU] at H4 ⊢;obtain⟨g7,mM⟩:=Kk w4.heap.size;rw[mM] at H4 ⊢;obtain⟨g0,su⟩:∃g0,g0=g:=⟨_,rfl⟩;have H5:Aq (NmIn w.heap.size #[O U a.n,I SV a.sts.length ks] L g7 g (cl a L 0 a.sts.length) w w5):=H4.out;refine wp_loop_ghost (fun (m:Nat) (a':Act) (w':Ba)=>∃(ds:List Deferred) (k h:Nat) (u8 u18 u19 u20 u21 u22 u23 u42 u43:Ar),(m=K-k/\k<=K/\Aq (NmIn w.heap.size #[O U a.n,I SV a.sts.length ks] L g7 h (cl a L k a.sts.length) w w')/\Aq (Marks w.heap.size ds w'))/\a'={ tmps:=#[Ai #[O U a.n,I SV a.sts.length ks],O U (K:Int),O U (L:Int),Aj (J ⟨w.heap.size,0,Z⟩),undef,Aj (J ⟨w.heap.size+1,0,Z⟩),O U 0,Aj (J ⟨g7,0,Z⟩),u8,undef,undef,I (J ⟨w.heap.size+1+1,0,Z⟩) 1 1,Aj (J ⟨w.heap.size,1,Z⟩),I SV a.sts.length ks,O U (a.sts.length:Int),I (J ⟨g0,0,Z⟩) a.sts.length a.sts.length,O U (K:Int),O U (k:Int),u18,u19,u20,u21,u22,u23,undef,undef,undef,undef,undef,undef,undef,undef,undef,undef,undef,undef,undef,undef,undef,undef,undef,undef,u42,u43,undef,undef,undef],defers:=ds }) K ?_ ?_
 . exact⟨[],0,g,_,_,_,_,_,_,_,_,_,⟨by omega,by omega,H5.out,Marks.nil _ _⟩,by rw[su];rfl⟩
 clear H5 su;rintro m a' wr ⟨ds,k,h,u8,u18,u19,u20,u21,u22,u23,u42,u43,⟨hm,hk,HN,MK⟩,rfl⟩;have rJ:=jE a L k a.sts.length;have q7:=zh HN.out.b7 0 rfl;rw[rJ] at q7
 by_cases hkK:k<K
 case neg=>
  obtain rfl:k=K:=by omega
  have c0:=HN.out.row.cell 0 (by omega);rw[YF] at c0;clear HI HZ;go_wp2_with fail;refine yU MK.out (v:=O U ((xd L (yf a k 0):Nat):Int)) (fun W=>by kernel_rfl) ?_;intro W hX;exact⟨rfl,HN.out.below.trans hX.below⟩
 case pos=>
 have iD:=wU a.sts.length h1 iE;obtain⟨q0,q1,_⟩:=Ke HN.out.b0;go_upto_region 5 with fail
 obtain⟨W1,fG,d0,d1,aw,aB⟩:=xk wr (Array.replicate a.sts.length (O U 0)) #[I (J ⟨wr.heap.size,0,Z⟩) a.sts.length a.sts.length] 3 50;rw[fG];have an:RowAt W1 wr.heap.size (qE a L k a.sts.length []):=by rw[nextL_nil];unfold RowAt;rw[rep_arr];exact d0
 have rt:=HN.out.on aB;obtain⟨hn,Mg⟩:=Kk wr.heap.size;have hg7n:g7<hn:=by rw[<-Mg];exact zk HN.out.b7
 have hhg:h<hn:=by rw[<-Mg];exact HN.out.row.lt
 have hBn:w.heap.size+1<hn:=by rw[<-Mg];exact zk HN.out.b1
 have MK1:Aq (Marks w.heap.size ds W1):=Yj (w:=wr) MK.out fun x hx=>(aB.block x (Ln.1 hx).1).trans hx
 rw[Mg] at an d1 aw ⊢;obtain⟨q0,q1,_⟩:=Ke rt.b0;have ee:=zH rt;have EG:=zH an;have eQ:=zH d1;clear fG d0 d1 aB an rt iD Mg q7;go_wp2_with fail;refine(wR a.n (I SV a.sts.length ks) W1).mono ?_;rintro e W2 ⟨rfl,ij⟩;have bb:=zx W1 (Ag #[O U a.n,I SV a.sts.length ks] 27);have az:Am W1.heap.size W1 W2:=by rw[<-ij];exact zU _ _
 have bQ:W2.heap.size=W1.heap.size+1:=by rw[<-ij];simp
 rw[ij] at bb;obtain⟨bx,ce⟩:=Kk W1.heap.size;have oh:=zH (ee.out.on az);have dH:Aq (RowAt W2 hn (qE a L k a.sts.length [])):=Lb az EG.out.lt EG.out;have mi:=zH (La az eQ.out);have MK2:Aq (Marks w.heap.size ds W2):=Yj (w:=W1) MK1.out fun x hx=>(az.block x (Ln.1 hx).1).trans hx
 rw[ce] at bb bQ aw ⊢;have ib:=zH (HI.out bx W2 bb (HS.out.keep oh.out.below) (by omega));clear ij bb az ce ee EG eQ MK1 q0 q1;go_wp2_with fail
 refine kR rfl (NC RY (by kernel_rfl) rfl) ib.out (by rintro x (h | rfl)<;>omega) (fun _=>rfl)
  (fun (pre:List { x:Int×Mv // x∈zM 0 a.sts }) (X:Ba)=>NmIn w.heap.size #[O U a.n,I SV a.sts.length ks] L g7 h (cl a L k a.sts.length) w X/\X.heap[hn+1]?=J (Ag #[I (J ⟨hn,0,Z⟩) a.sts.length a.sts.length] 50 (0,0))/\RowAt X hn (qE a L k a.sts.length (pre.map (·.1)))/\W2.heap.size<=X.heap.size/\(∀y:Nat,W2.heap[y]?=J (Obj.deferred (J []))->X.heap[y]?=J (Obj.deferred (J []))))
  (fun _ _ _=>False)
  ?hI (fun _ _ _ _ _ h _ _=>h)
  ⟨oh.out,mi.out,dH.out,Ld _,fun _ h=>h⟩ (fun x=>x.2.cells) 78 ?a1 ?assign ?body ?done ?stop (fun _ _ h=>h.2.2.2.1)
 case hI=>
  intro s X X' row hX hg hr;refine⟨hX.1.turn hg (fun r e=>⟨by have:=(hr r e).1;omega,(hr r e).2⟩),(Nd hg (fun r e=>(hr r e).2) hX.2.1 rfl).trans hX.2.1,(Nd hg (fun r e=>(hr r e).2) hX.2.2.1 rfl).trans hX.2.2.1,Lr hX.2.2.2.1 hg.size,fun y hy=>?_⟩;have Uy:=hX.2.2.2.2 y hy;have nB:=(Ln.1 hy).1;exact(hg.block y (by have:=hX.2.2.2.1;omega) (fun e=>by have:=(hr y e.symm).1;omega)).trans Uy
 case assign=>
  intro l pre x X K' hI hK;obtain⟨g',nK⟩:∃g',g'=X.heap.size:=⟨_,rfl⟩;have HK:=zH (hK g' nK ⟨hI.1.on (zU X _),xa hI.2.1 _,xa hI.2.2.1 _,by have:=hI.2.2.2.1;simp;omega,fun y hy=>(NP X _ y (Ln.1 (hI.2.2.2.2 y hy)).1).trans (hI.2.2.2.2 y hy)⟩);have HG:=zH nK;unfold Mv.cells at HK ⊢;dsimp only at HK ⊢;clear hK nK hI;gi_wp2;rw[<-HG.out];exact HK.out
 case body=>
  intro l pre x g W3 hg lr hI ac;obtain⟨nR,Ax,nQ,S2,CO⟩:=hI;obtain⟨s,_,mz,UA⟩:=Yg 0 a.sts x.1 x.2;obtain⟨_,_,z3,z4⟩:=HZ.out x.1.2 (XX x.2);have dW:=nextL_step a L k a.sts.length (pre.map (·.1)) x.1 s UA;obtain⟨t,et⟩:=Ls z3;have rF:t<a.sts.length:=by omega
  have mz:s<a.sts.length:=by omega
  have c8:=zh Ax 0 rfl;have rS:=nQ.cell s (by rw[nextL_len];omega);rw[wQ] at rS;have fS:=nQ.froz s;have q7:=zh nR.b7 0 rfl;rw[jE] at q7;have cT:=nR.row.cell t (by rw[jE];omega);rw[YF] at cT;have u7:=zh lr 7 (u:=O U x.1.2.to) rfl;rw[et] at u7;have q1:=zh nR.b1 0 rfl;rw[et] at dW;have Co:=sat_add L (kJ a k s (pre.map (·.1))) (yf a k (t:Int));have y1:=ww L (kJ a k s (pre.map (·.1)));have y2:=ww L (yf a k (t:Int));rw[<-Co] at dW;obtain⟨n1,dG⟩:=Kk (xd L (kJ a k s (pre.map (·.1))));obtain⟨n2,sZ⟩:=Kk (xd L (yf a k (t:Int)));rw[dG] at rS dW y1;rw[sZ] at cT dW y2;have hl3:=nQ.lt;have EO:=zH nR;have OP:=zH Ax;have BO:=zH nQ;have rY:=zH CO;have en:=zH dW;clear nR Ax nQ CO dW z3 z4 et dG sZ Co lr ac MK MK2 mi dH oh ib HI HS
  try dsimp only
  rw[UA];clear UA HZ;gi_wp2_with fail;refine vX 16 (by kernel_rfl) (by kernel_rfl) (by kernel_rfl) (by rintro⟨_,_,h⟩;exact h) ?_;simp only[List.take_succ_cons,List.take_zero,List.drop_succ_cons,List.drop_zero]
  repeat still_step
  try refine wpStill_nil ?_
  change wpList _ _ _ _ _ W3.drew;go_wp2_with fail;have hv:min ((n1:Int)+(n2:Int)) ((L:Int)+1)=((min (n1+n2) (L+1):Nat):Int):=by omega
  rw[hv];have iB:=BO.out.set s ((min (n1+n2) (L+1):Nat):Int);rw[<-en.out] at iB;obtain⟨V,hV⟩:∃V:Ar,O U ((min (n1+n2) (L+1):Nat):Int)=V:=⟨_,rfl⟩;rw[hV] at iB ⊢;have hnk:¬(hn<w.heap.size\/hn=bx):=by omega
  refine⟨(keeps_setk BO.out s V).trans (xX (Li _ _).drew),?_,(EO.out.setk hn s V (by omega) (by omega)).on (Li _ _).drew,?_,?_,?_,?_⟩
  . have aW:=KeepB.setCell (W:=W3) (K:=fun k=>k<w.heap.size\/k=bx) (a:=⟨hn,s,Z⟩) hnk V
    exact aW.trans (KeepB.drew _ _)
  . exact(Lf W3 ⟨hn,s,Z⟩ V (hn+1) (by show hn+1≠hn;omega)).trans OP.out
  . show RowAt (W3.setCell ⟨hn,s,Z⟩ V) hn (qE a L k a.sts.length ((pre++[x]).map (·.1)))
    rw[LK];exact iB
  . show W2.heap.size<=(W3.setCell ⟨hn,s,Z⟩ V).heap.size
    exact Lr S2 (zQ W3 hn s V).size
  intro y hy;exact(Lf W3 ⟨hn,s,Z⟩ V y (by rintro rfl;have h5:=rY.out _ hy;rw[BO.out] at h5;cases h5)).trans (rY.out y hy)
 case done=>
  intro D ys W3 hD iy hI ik;obtain⟨nR,Ax,nQ,S2,CO⟩:=hI;rw[iy,nextL_all] at nQ;have c8:=zh Ax 0 rfl;have q7:=zh nR.b7 0 rfl;have f7:=zi nR.b7 0;have FY:=zk nR.b7;have EO:=zH nR;have BO:=zH nQ;have rY:=zH CO;have BP:=zH ik;clear nR Ax nQ CO ik iy HI ib mi dH oh HZ HS
  try dsimp only
  go_wp2_with fail;have Id:=NmIn.swap EO.out BO.out (by omega) (by omega);rw[jE] at Id;refine⟨K-(k+1),by omega,_,k+1,hn,_,_,_,_,_,_,_,_,_,⟨rfl,by omega,Id,?_⟩,rfl⟩;refine Marks.cons MK2.out (fun y hy=>?_) (by omega) hD ?_
  . exact(Lf W3 ⟨g7,0,Z⟩ _ y (by rintro rfl;have:=rY.out _ hy;rw[EO.out.b7] at this;cases this)).trans (rY.out y hy)
  exact(Lf W3 ⟨g7,0,Z⟩ _ D (by rintro rfl;have:=BP.out;rw[EO.out.b7] at this;cases this)).trans BP.out
 intro D c pre W _ _ h;exact h.elim
end
section
open Go.RowKit
attribute [local go_sem] Oper.semAt_some
theorem xq{a:Ad}(hf:FewA a)(h:qn a=0):zG a a.sts=0/\1<=a.sts.length/\xF a=Au/\1<=a.n/\a.n<=5:=by
 by_cases h1:a.n<1\/5<a.n
 . rw[uq h1] at h;cases h
 by_cases h2:a.sts.length<1
 . rw[gt h1 h2] at h;cases h
 by_cases h3:zG a a.sts=0
 . rw[ur h1 (by omega) hf h3] at h
   by_cases h4:xF a=Au
   . exact⟨h3,by omega,h4,by omega,by omega⟩
   rw[Lg h4] at h;cases h
 rw[uo h1 (by omega) hf h3] at h;exact absurd h h3
def vz(L T:Nat):Int×Int:=if L<T then (0,17) else ((T:Int),0)
theorem uU(a:Ad)(hf:FewA a)(h:qn a=0)(K L:Nat)(hK:K<=6)(hL:L<=1048576)(SV:Bb)(ks:Nat)(w:Ba)(hS:SAt w w.heap.size SV a.sts) :
  An Al 85 #[Ai #[O U a.n,I SV a.sts.length ks],O U K,O U L] w fun e w'=>e=Ak (.tuple #[O U (vz L (yf a K 0)).1,O U (vz L (yf a K 0)).2])/\Am w.heap.size w w':=by
 obtain⟨z1,z2,_⟩:=xq hf h;have HC:=zH (fun (w':Ba) (h':SAt w' w'.heap.size SV a.sts)=>YN a hf SV ks w' h');rw[h] at HC;have HN:=zH (fun (w':Ba) (h':SAt w' w'.heap.size SV a.sts)=>number_any a hf z1 z2 K L hK hL SV ks w' h');have SL:=sat_gt L (yf a K 0);have ES:=zH (@sat_eq L (yf a K 0));have ed:=ww L (yf a K 0);obtain⟨T,hT⟩:=Kk (yf a K 0);rw[hT] at HN ES SL ed ⊢;obtain⟨r,hr⟩:=Kk (xd L T);rw[hr] at HN ES SL ed;obtain⟨w1,ae⟩:=Kk (w.alloc (Ag #[O U a.n,I SV a.sts.length ks] 27));have cj:=zx w (Ag #[O U a.n,I SV a.sts.length ks] 27);have aD:Am w.heap.size w w1:=by rw[<-ae];exact zU w _
 have fa:w1.heap.size=w.heap.size+1:=by rw[<-ae];simp
 rw[ae] at cj;have cX:=zH cj;have cI:=zH aD;have HS:=zH ((hS.keep aD).more (by omega:w.heap.size<=w1.heap.size));have ak:=zH ae;clear hS ae aD cj;go_enter func85,ntmps85;go_wp2_with fail;rw[ak.out];go_wp2_with fail;refine(HC.out w1 HS.out).mono ?_;rintro e w2 ⟨rfl,ah⟩;have aT:=zH (cI.out.trans (ah.mono (by omega)));have fJ:=zH ((HS.out.keep ah).more ah.size);have cH:=La ah cX.out;obtain⟨q0,q1,_⟩:=Ke cH;have bQ:=ah.size;clear ah cH HC ak;go_wp2_with fail
 all_goals first | (exfalso;omega) | skip
 refine(HN.out w2 fJ.out).mono ?_;rintro e w3 ⟨rfl,al⟩;have bK:=zH (aT.out.trans (al.mono (by omega)))
 by_cases hg:L<T
 . have mC:L<r:=SL.2 hg
   have hR:Aq (vz L T=(0,17)):=Lj hg;go_wp2_with fail
   all_goals first | (exfalso;omega) | skip
   go_ret2
   rw[hR.out];exact⟨rfl,bK.out⟩
 have mC:¬L<r:=fun h=>hg (SL.1 h)
 have hr:r=T:=(ES.out (by omega)).symm▸rfl;have hR:Aq (vz L T=((T:Int),0)):=Lg hg;subst hr;go_wp2_with fail
 all_goals first | (exfalso;omega) | skip
 go_ret2
 rw[hR.out];exact⟨rfl,bK.out⟩
theorem JK(a:Ad)(hf:FewA a)(h:qn a=0)(K:Nat)(hK:K<=6)(SV:Bb)(ks:Nat)(w:Ba)(hS:SAt w w.heap.size SV a.sts) :
  An Al 84 #[Ai #[O U a.n,I SV a.sts.length ks],O U K] w fun e w'=>e=Ak (.tuple #[O U (vz 1048576 (yf a K 0)).1,O U (vz 1048576 (yf a K 0)).2])/\Am w.heap.size w w':=by
 have HN:=zH (fun (w':Ba) (h':SAt w' w'.heap.size SV a.sts)=>uU a hf h K 1048576 hK (Ld _) SV ks w' h');obtain⟨r,hr⟩:=Kk (vz 1048576 (yf a K 0));rw[hr] at HN ⊢;have aD:=zU w (Ag #[O U a.n,I SV a.sts.length ks] 27);have cI:=zH aD;have HS:=zH ((hS.keep aD).more aD.size);go_enter func84,ntmps84;go_wp2_with fail;refine(HN.out _ HS.out).mono ?_;rintro e w2 ⟨rfl,ah⟩;have aT:=zH (cI.out.trans (ah.mono (by simp)));go_wp2_with fail
 go_ret2
 exact⟨rfl,aT.out⟩
theorem words_any(a:Ad)(hf:FewA a)(h:qn a=0)(K:Nat)(hK:K<=6)(hT:yf a K 0<=4096)(SV:Bb)(ks:Nat)(w:Ba)(hS:SAt w w.heap.size SV a.sts) :
  An Al 49 #[Ai #[O U a.n,I SV a.sts.length ks],O U K] w fun e w'=>∃A c,e=Ak (.tuple #[.slice A (zI a K 0).length c,O U 0])/\WAt w' w'.heap.size A (zI a K 0)/\Am w.heap.size w w':=by
 obtain⟨z1,z2,_⟩:=xq hf h;have HC:=zH (fun (w':Ba) (h':SAt w' w'.heap.size SV a.sts)=>uU a hf h K 4096 hK (by omega) SV ks w' h');have hcut:vz 4096 (yf a K 0)=(((yf a K 0:Nat):Int),0):=Lg (by omega);rw[hcut] at HC;have HL:=zH (yK a K 0);obtain⟨T,sC⟩:=Kk (yf a K 0);rw[sC] at HC HL hT;have HF:=zH (Jg a K hK SV ks z1 hf K);obtain⟨w1,ae,d0,d1,aw,lN⟩:=xk w #[O U a.n,I SV a.sts.length ks] #[O U (K:Int)] 27 3;have HS:=zH ((hS.keep lN).more lN.size);have EE:=zH hS;have eS:=zH lN;have dU:=zH d0;have eQ:=zH d1;have ak:=zH ae;clear ae d0 d1 lN hS;go_enter func49,ntmps49;go_wp2_with fail;rw[ak.out];go_wp2_with fail;refine(HC.out w1 HS.out).mono ?_;rintro e w2 ⟨rfl,ah⟩;have aT:=zH ah;have D0:=zH (La ah dU.out);have D1:=zH (La ah eQ.out);have eZ:=ah.size;obtain⟨i0,hi,eO,cY,ep⟩:=xe kWd_ok;obtain⟨w3,iD,r1,r2⟩:=run_make_own (P:=Al) w2 w2.heap.size 113 124 i0 kWd.z 1 underlying113 hi eO cY U U T (by rw[ep];show 24*T<=_;omega) (by unfold maxLen;omega) (Ld _);have R1:=zH r1;have R2:=zH r2;go_wp2_with fail;have oS:=R2.out;have px:=R2.out.size;obtain⟨w4,ip,e0,e1,iU,fZ⟩:=xk w3 #[I (J ⟨w2.heap.size,0,Z⟩) 0 T] #[.func (.func 86) #[] #[Aj (J ⟨w.heap.size+1,0,Z⟩),Aj (J ⟨w3.heap.size,0,Z⟩),Aj (J ⟨w.heap.size,0,Z⟩),Aj (J ⟨w3.heap.size+1,0,Z⟩)]] 113 155;rw[ip]
 have B3:Am w2.heap.size w2 w3:=⟨oS.os,oS.tape,oS.output,oS.size,fun k hk=>oS.block k hk (by simp)⟩;have B4:Am w2.heap.size w2 w4:=B3.trans (fZ.mono px);have Bm:=La B4 D0.out;have T0:=La B4 D1.out;have oR:=zk D1.out;obtain⟨i1,hi,eO,cY,ep⟩:=xe X0;obtain⟨w5,iD,r1,r2⟩:=run_make_own (P:=Al) w4.drew w4.drew.heap.size 124 76 i1 kRd.z 7 PU hi eO cY U U K (by rw[ep];show 56*K<=_;omega) (by unfold maxLen;omega) (Ld _);have B5:Am w4.heap.size w4 w5:=JB ⟨r2.os,r2.tape,r2.output,r2.size,fun k hk=>r2.block k hk (by simp)⟩;have r1':OwnR kRd w5 w4.heap.size (I (J ⟨w4.heap.size,0,Z⟩) 0 K) 0 []:=r1;have hl4:w3.heap.size+1<w4.heap.size:=by omega
 have aK:Aq (Am w.heap.size w w5):=(eS.out.trans ((aT.out.trans (B4.mono eZ)).mono eS.out.size)).trans (B5.mono (by omega))
 have HFI:Aq (FromIn a K SV ks w.heap.size (w.heap.size+1) w3.heap.size w.heap.size (w3.heap.size+1) w4.heap.size (I (J ⟨w2.heap.size,0,Z⟩) 0 T) [] [] w w5):=by
  refine⟨Lb B5 (by omega) T0,Lb B5 (by omega) e0,Lb B5 (by omega) Bm,Lb B5 (by omega) e1,?_,?_,?_,aK.out⟩
  . refine⟨[],rfl,?_,fun i h1 _=>absurd h1 (by simp)⟩
    have h3:OwnR kWd w3 w2.heap.size (I (J ⟨w2.heap.size,0,Z⟩) 0 T) 0 []:=R1.out;exact((h3.below fZ (Ld _)).below B5 (Ld _)).low (by omega)
  . intro k hk
    have:w2.heap.size=k:=by simpa[Value.ownBlock] using hk
    have Vc:w2.heap.size<w3.heap.size:=(R1.out.lt w2.heap.size rfl).2;exact⟨by omega,by omega,by omega,by omega,by omega⟩
  exact r1'.low (by omega)
 have f4:w4.cell? ⟨w3.heap.size+1,0,Z⟩=J (.func (.func 86) #[] #[Aj (J ⟨w.heap.size+1,0,Z⟩),Aj (J ⟨w3.heap.size,0,Z⟩),Aj (J ⟨w.heap.size,0,Z⟩),Aj (J ⟨w3.heap.size+1,0,Z⟩)]):=zh e1 0 rfl;have k4:w4.cell? ⟨w.heap.size+1,0,Z⟩=J (O U K):=zh T0 0 rfl;have f5:=(B5.cell (p:=⟨w3.heap.size+1,0,Z⟩) (by show w3.heap.size+1<_;omega)).trans f4;have k5:=(B5.cell (p:=⟨w.heap.size+1,0,Z⟩) (by show w.heap.size+1<_;omega)).trans k4
 have cF:Aq (FromB w.heap.size (w.heap.size+1) w3.heap.size w.heap.size (w3.heap.size+1) w4.heap.size):=
  ⟨by omega,by omega,by omega,by omega,by omega,by omega,by omega,by omega,by omega,by omega,by omega,by omega⟩
 refine zt [(0,Au),(1,Au),(2,Aw),(3,Aw)]
  (fun W=>W.cell? ⟨w3.heap.size+1,0,Z⟩=J (.func (.func 86) #[] #[Aj (J ⟨w.heap.size+1,0,Z⟩),Aj (J ⟨w3.heap.size,0,Z⟩),Aj (J ⟨w.heap.size,0,Z⟩),Aj (J ⟨w3.heap.size+1,0,Z⟩)])/\W.cell? ⟨w.heap.size+1,0,Z⟩=J (O U K))
  (by kernel_rfl) (by kernel_rfl) ⟨f4,k4⟩ ?_
 repeat
  apply zj rfl
  . rintro K' aa W ⟨y0,y1⟩
    go_simp;exact aa
 refine zn rfl ?_;intro K' aa;go_simp;refine aa _ _ ⟨f5,k5⟩ ?_;refine yb rfl (by kernel_rfl) ?_;intro K' aa;go_simp;have BQ:=HF.out 0 [] [] (I (J ⟨w2.heap.size,0,Z⟩) 0 T) w.heap.size (w.heap.size+1) w3.heap.size w.heap.size (w3.heap.size+1) w4.heap.size w w5 (by simp) (.inr ⟨by omega,by omega⟩) (by have:=HL.out;simp;omega) cF.out EE.out HFI.out;refine BQ.mono ?_;rintro e w6 ⟨⟨v6,rfl⟩,V6,H6⟩;rw[Nc,show yT [] (zI a K 0)=zI a K 0 by simp[yT]] at H6;refine aa (fun _=>True) _ _ trivial ?_;refine zy ?_;obtain⟨A6,c6,rfl,_,_,pA⟩:=YI H6.out;have o6:=zh H6.hO 0 rfl;have fh:=zH H6.bel;have EB:=zH pA;go_wp2_with fail
 go_ret2
 exact⟨A6,c6,rfl,EB.out,fh.out⟩
end
section
open Go.RowKit
def RawL(B:Nat)(w:Ba)(A:Bb)(n:Nat)(cs:List Ar):Prop:=0<n->∃b off,A=J ⟨b,off,Z⟩/\b<B/\∀(j:Nat) (u:Ar),cs[j]?=J u->w.cell? ⟨b,off+j,Z⟩=J u
theorem RawL.raw{B:Nat}{w:Ba}{A:Bb}{n:Nat}{cs:List Ar}(h:RawL B w A n cs)(hB:B<=w.heap.size):Raw w A n cs:=fun h0=>by
 obtain⟨b,off,e,hb,hc⟩:=h h0;exact⟨b,off,e,by omega,hc⟩
theorem RawL.keep{B:Nat}{w w':Ba}{A:Bb}{n:Nat}{cs:List Ar}(h:RawL B w A n cs)(hb:Am B w w'):RawL B w' A n cs:=fun h0=>by
 obtain⟨b,off,e,ac,hc⟩:=h h0;exact⟨b,off,e,ac,fun j u hu=>(hb.cell (p:=⟨b,_,Z⟩) ac).trans (hc j u hu)⟩
def CAtL(L0 B0:Nat)(w:Ba)(A:Bb)(xs:List Cs):Prop:=∃cs:List Ar,cs.length=xs.length*3/\RawL B0 w A xs.length cs/\(∀u∈cs,u.oneCell'=Au) /\
  ∀(i:Nat) (hi:i<xs.length),∃d,cCs.lies (fun k=>L0<=k/\k<B0) w d xs[i]/\∀j u,d[j]?=J u->cs[i*3+j]?=J u
def SAtL(L0 B0:Nat)(w:Ba)(A:Bb)(xs:List (List Mv)):Prop:=∃cs:List Ar,cs.length=xs.length*1/\RawL B0 w A xs.length cs/\(∀u∈cs,u.oneCell'=Au) /\
  ∀(i:Nat) (hi:i<xs.length),∃d,cMl.lies (fun k=>L0<=k/\k<B0) w d xs[i]/\∀j u,d[j]?=J u->cs[i*1+j]?=J u
section
variable {L0 B0:Nat} {w w':Ba} {A:Bb}
theorem CAtL.keep{xs:List Cs}(h:CAtL L0 B0 w A xs)(hb:Am B0 w w'):CAtL L0 B0 w' A xs:=by
 obtain⟨cs,h1,h2,h3,h4⟩:=h;refine⟨cs,h1,h2.keep hb,h3,fun i hi=>?_⟩;obtain⟨d,h5,h6⟩:=h4 i hi;exact⟨d,qj.keep h5 ⟨hb.size,fun k hk _=>hb.block k hk.2⟩,h6⟩
theorem SAtL.keep{xs:List (List Mv)}(h:SAtL L0 B0 w A xs)(hb:Am B0 w w'):SAtL L0 B0 w' A xs:=by
 obtain⟨cs,h1,h2,h3,h4⟩:=h;refine⟨cs,h1,h2.keep hb,h3,fun i hi=>?_⟩;obtain⟨d,h5,h6⟩:=h4 i hi;exact⟨d,ku.keep h5 ⟨hb.size,fun k hk _=>hb.block k hk.2⟩,h6⟩
theorem CAtL.raw{xs:List Cs}(h:CAtL L0 B0 w A xs)(hB:B0<=w.heap.size):∃cs:List Ar,cs.length=xs.length*3/\Raw w A xs.length cs/\(∀u∈cs,u.oneCell'=Au) /\
  ∀(i:Nat) (hi:i<xs.length),∃d,cCs.lies (fun k=>L0<=k/\k<B0) w d xs[i]/\∀j u,d[j]?=J u->cs[i*3+j]?=J u:=by
 obtain⟨cs,h1,h2,h3,h4⟩:=h;exact⟨cs,h1,h2.raw hB,h3,h4⟩
theorem SAtL.raw{xs:List (List Mv)}(h:SAtL L0 B0 w A xs)(hB:B0<=w.heap.size):∃cs:List Ar,cs.length=xs.length*1/\Raw w A xs.length cs/\(∀u∈cs,u.oneCell'=Au) /\
  ∀(i:Nat) (hi:i<xs.length),∃d,cMl.lies (fun k=>L0<=k/\k<B0) w d xs[i]/\∀j u,d[j]?=J u->cs[i*1+j]?=J u:=by
 obtain⟨cs,h1,h2,h3,h4⟩:=h;exact⟨cs,h1,h2.raw hB,h3,h4⟩
theorem CAtL.of{xs:List Cs}(h:CAt w B0 A xs)(hB:B0<=w.heap.size):CAtL 0 B0 w A xs:=by
 obtain⟨cs,h1,h2,h3,h4⟩:=h.raw hB;refine⟨cs,h1,fun h0=>?_,h3,fun i hi=>?_⟩
 . obtain⟨b,off,e,_,hc⟩:=h2 h0
   obtain⟨b',ny,e',dZ,_⟩:=h h0;rw[e] at e';simp only[Option.some.injEq,Addr.mk.injEq,and_true] at e';exact⟨b,off,e,by omega,hc⟩
 obtain⟨d,h5,h6⟩:=h4 i hi;exact⟨d,qj.mono h5 fun k _ hk=>⟨Nz _,hk⟩,h6⟩
theorem SAtL.of{xs:List (List Mv)}(h:SAt w B0 A xs)(hB:B0<=w.heap.size):SAtL 0 B0 w A xs:=by
 obtain⟨cs,h1,h2,h3,h4⟩:=h.raw hB;refine⟨cs,h1,fun h0=>?_,h3,fun i hi=>?_⟩
 . obtain⟨b,off,e,_,hc⟩:=h2 h0
   obtain⟨b',ny,e',dZ,_⟩:=h h0;rw[e] at e';simp only[Option.some.injEq,Addr.mk.injEq,and_true] at e';exact⟨b,off,e,by omega,hc⟩
 obtain⟨d,h5,h6⟩:=h4 i hi;exact⟨d,ku.mono h5 fun k _ hk=>⟨Nz _,hk⟩,h6⟩
end
end
section
open Go.RowKit
attribute [local go_sem] Oper.semAt_some
structure CpIn(B:Nat)(p:Pb)(A:Bb)(kc:Nat)(SV:Bb)(ks:Nat)(Ae:Array Ar)(w W:Ba):Prop where
 bel:Am B w W
 b0:W.heap[B]?=J (Ag (p.vs A kc SV ks) 29 (0,0))
 b1:W.heap[B+1]?=J (Ag Ae 29 (0,0))
def Nbx(L0 B0 B k:Nat):Prop:=k≠B/\k≠B+1/\((L0<=k/\k<B0)\/B<=k)
theorem CpIn.on{B:Nat}{p:Pb}{A:Bb}{kc:Nat}{SV:Bb}{ks:Nat}{Ae:Array Ar}{w W W':Ba}(h:CpIn B p A kc SV ks Ae w W)(hb:Am W.heap.size W W'):CpIn B p A kc SV ks Ae w W':=by
 have:=zk h.b1;exact⟨h.bel.trans (hb.mono (by omega)),Lb hb (by omega) h.b0,Lb hb (by omega) h.b1⟩
theorem CpIn.set{B:Nat}{p:Pb}{A:Bb}{kc:Nat}{SV:Bb}{ks:Nat}{Ae:Array Ar}{w W:Ba}(h:CpIn B p A kc SV ks Ae w W){g:Nat}(hg:B+1<g)(o:Nat)(v:Ar):CpIn B p A kc SV ks Ae w (W.setCell ⟨g,o,Z⟩ v):=
 ⟨h.bel.setCell (by show B<=g;omega) _,(Lf W _ v B (by show B≠g;omega)).trans h.b0,(Lf W _ v (B+1) (by show B+1≠g;omega)).trans h.b1⟩
theorem copied_any(p:Pb)(hf:Qg p)(hc1:1<=p.t.cases.length)(aw:1<=p.a.sts.length)(A:Bb)(kc:Nat)(SV:Bb)(ks:Nat)(w:Ba)(L0 B0:Nat)(dl:B0<=w.heap.size)(hA:CAtL L0 B0 w A p.t.cases)(hS:SAtL L0 B0 w SV p.a.sts) :
  An Al 50 #[.agg (p.vs A kc SV ks)] w fun e w'=>∃g kc' gm ks',e=Ak (.agg (p.vs (J ⟨g,0,Z⟩) kc' (J ⟨gm,0,Z⟩) ks'))/\RowX cCs (fun b=>(L0<=b/\b<B0)\/w.heap.size<=b) w' g p.t.cases/\RowX cMl (fun b=>(L0<=b/\b<B0)\/w.heap.size<=b) w' gm p.a.sts/\w.heap.size<=g/\w.heap.size<=gm/\Am w.heap.size w w':=by
 have hfc:=hf.1.1;have rO:=hf.2.1;obtain⟨w1,ae,d0,d1,bL,lN⟩:=xk w (p.vs A kc SV ks) #[O U 0,O U 0,O U 0,I Z 0 0,O U 0,I Z 0 0,O U 0] 29 29;have GI:=lN.mono dl;have HS:=zH (hS.keep GI);have Cj:B0<=w1.heap.size:=by have:=lN.size;omega
 obtain⟨ccs,ccl,ccr,cc1,cce⟩:=(hA.keep GI).raw Cj;have HC:=zH (clone_kCs A p.t.cases.length kc ccs w1 ccl ccr cc1 (by omega));have eS:=zH lN;have dU:=zH d0;have eQ:=zH d1;have I4:=zH cce;have HFT:=zH hf.1;have Dg:=zH hf.2;unfold Pb.vs at ae d0;have p3:=zh d0 3 rfl;have f3:=zi d0 3;have ak:=zH ae;clear ae d0 d1 lN GI;unfold Pb.vs;go_enter func50,ntmps50;go_wp2_with fail;rw[ak.out];refine HC.out.mono ?_;rintro e w2 ⟨v2,rfl,oO,ah⟩;obtain⟨A2,c2,rfl,hc2,mL,mC⟩:=oO.form;obtain⟨g,rfl,_,fd,_⟩:=mC (by omega);have DR:w1.heap.size<=g:=(oO.lt g rfl).1;have eZ:=ah.size;have lr:w.heap.size+1<g:=by omega
 have R2:RowX cCs (Nbx L0 B0 w.heap.size) w2 g p.t.cases:=RowX.of_own qj oO rfl rfl (fun i hi=>by
  obtain⟨d,h1,h2⟩:=I4.out i hi
  refine⟨d,qj.mono (qj.keep h1 ⟨ah.size,fun k hk _=>ah.block k (by omega)⟩) fun k _ hk=>⟨⟨by omega,by omega⟩,by omega⟩,h2⟩)
 have D0:=La ah dU.out;have D1:=La ah eQ.out;have p3:=zh D0 3 rfl;have f3:=zi D0 3;obtain⟨W3,nP⟩:=Kk (w2.setCell ⟨w.heap.size,3,Z⟩ (I (J ⟨g,0,Z⟩) p.t.cases.length c2))
 have H3:Aq (CpIn w.heap.size p (J ⟨g,0,Z⟩) c2 SV ks #[O U 0,O U 0,O U 0,I Z 0 0,O U 0,I Z 0 0,O U 0] w W3):=by
  rw[<-nP];refine⟨(eS.out.trans (ah.mono (by omega))).setCell (Ld _) _,?_,(Lf w2 _ _ (w.heap.size+1) (by show w.heap.size+1≠w.heap.size;omega)).trans D1⟩;rw[Lk w2 w.heap.size 3 _ _ _ D0]
  rfl
 have R3:Aq (RowX cCs (Nbx L0 B0 w.heap.size) W3 g p.t.cases):=by rw[<-nP];exact R2.other qj 3 _ (by omega) (fun h=>h.1 rfl)
 have rU:Aq (SAtL L0 B0 W3 SV p.a.sts):=HS.out.keep (by
  rw[<-nP]
  exact((Below.mono ah (show w.heap.size<=w1.heap.size by omega)).setCell (Ld _) _).mono dl)
 have q3:W3.cell? ⟨w.heap.size,3,Z⟩=J (I (J ⟨g,0,Z⟩) p.t.cases.length c2):=zh H3.out.b0 3 rfl;clear R2 D0 D1 oO ah hc2 mL HC I4;go_wp2_with fail;clear p3 f3 nP q3
 go_loopw [17] (fun i wr=>∃k:Nat,k<=p.t.cases.length/\i=O U (k:Int)/\Aq (CpIn w.heap.size p (J ⟨g,0,Z⟩) c2 SV ks #[O U 0,O U 0,O U 0,I Z 0 0,O U 0,I Z 0 0,O U 0] w wr)/\Aq (RowX cCs (Nbx L0 B0 w.heap.size) wr g p.t.cases)/\Aq (SAtL L0 B0 wr SV p.a.sts)) (fun i _=>p.t.cases.length-(Ap i).toNat)
 case atStart=>exact⟨0,by omega,rfl,H3.out,R3.out,rU.out⟩
 obtain⟨k,hk,rfl,HI,HR,HSr⟩:=hrel
 by_cases dy:k<p.t.cases.length
 case neg=>
  obtain rfl:k=p.t.cases.length:=by omega
  have b0:=HI.out.b0;have q5:wr.cell? ⟨w.heap.size,5,Z⟩=J (I SV p.a.sts.length ks):=zh b0 5 rfl;have oz:=HI.out.bel.size;obtain⟨ccs,ccl,ccr,cc1,cce⟩:=HSr.out.raw (by omega);have HC:=zH (clone_kMl SV p.a.sts.length ks ccs wr ccl ccr cc1 (by omega));have I4:=zH cce;have ce:=zk HI.out.b1;go_wp2_with fail;refine HC.out.mono ?_;rintro e Hv ⟨v2,rfl,oO,ah⟩;obtain⟨A2,c3,rfl,_,_,mC⟩:=oO.form;obtain⟨gm,rfl,_,hgml,_⟩:=mC (by omega);have hgem:wr.heap.size<=gm:=(oO.lt gm rfl).1;have DQ:g<wr.heap.size:=HR.out.lt
  have R2:RowX cMl (fun b=>Nbx L0 B0 w.heap.size b/\b≠g) Hv gm p.a.sts:=RowX.of_own ku oO rfl rfl (fun i hi=>by
   obtain⟨d,h1,h2⟩:=I4.out i hi
   exact⟨d,ku.mono (ku.keep h1 ⟨ah.size,fun k hk _=>ah.block k (by omega)⟩) fun k _ hk=>⟨⟨⟨by omega,by omega⟩,by omega⟩,by omega⟩,h2⟩)
  have I2:=HI.out.on ah;have T5:Hv.cell? ⟨w.heap.size,5,Z⟩=J (I SV p.a.sts.length ks):=zh I2.b0 5 rfl;have f5':=zi I2.b0 5;have RC:RowX cCs (fun b=>Nbx L0 B0 w.heap.size b/\b≠gm) Hv g p.t.cases:=(HR.out.mono qj fun b hb hs=>⟨hs,by omega⟩).below qj ah (Ld _);obtain⟨W3,nP⟩:=Kk (Hv.setCell ⟨w.heap.size,5,Z⟩ (I (J ⟨gm,0,Z⟩) p.a.sts.length c3))
  have H3:Aq (CpIn w.heap.size p (J ⟨g,0,Z⟩) c2 (J ⟨gm,0,Z⟩) c3 #[O U 0,O U 0,O U 0,I Z 0 0,O U 0,I Z 0 0,O U 0] w W3):=by
   rw[<-nP];refine⟨I2.bel.setCell (Ld _) _,?_,(Lf Hv _ _ (w.heap.size+1) (by show w.heap.size+1≠w.heap.size;omega)).trans I2.b1⟩;rw[Lk Hv w.heap.size 5 _ _ _ I2.b0]
   rfl
  have R3:Aq (RowX cMl (fun b=>Nbx L0 B0 w.heap.size b/\b≠g) W3 gm p.a.sts):=by rw[<-nP];exact R2.other ku 5 _ (by omega) (fun h=>h.1.1 rfl)
  have RC3:Aq (RowX cCs (fun b=>Nbx L0 B0 w.heap.size b/\b≠gm) W3 g p.t.cases):=by rw[<-nP];exact RC.other qj 5 _ (by omega) (fun h=>h.1.1 rfl)
  have q6:W3.cell? ⟨w.heap.size,5,Z⟩=J (I (J ⟨gm,0,Z⟩) p.a.sts.length c3):=zh H3.out.b0 5 rfl;go_wp2_with fail
  go_loopw [48] (fun i wx=>∃k:Nat,k<=p.a.sts.length/\i=O U (k:Int)/\Aq (CpIn w.heap.size p (J ⟨g,0,Z⟩) c2 (J ⟨gm,0,Z⟩) c3 #[O U 0,O U 0,O U 0,I Z 0 0,O U 0,I Z 0 0,O U 0] w wx)/\Aq (RowX cMl (fun b=>Nbx L0 B0 w.heap.size b/\b≠g) wx gm p.a.sts)/\Aq (RowX cCs (fun b=>Nbx L0 B0 w.heap.size b/\b≠gm) wx g p.t.cases)) (fun i _=>p.a.sts.length-(Ap i).toNat)
  case atStart=>exact⟨0,by omega,rfl,H3.out,R3.out,RC3.out⟩
  obtain⟨k,hk,rfl,HI,HR,Oy⟩:=hrel
  by_cases dy:k<p.a.sts.length
  case neg=>
   obtain rfl:k=p.a.sts.length:=by omega
   have b0:=HI.out.b0;have b1:=HI.out.b1;have c0:wr.cell? ⟨w.heap.size,0,Z⟩=J (O U p.t.n):=zh b0 0 rfl;have c1:wr.cell? ⟨w.heap.size,1,Z⟩=J (O U p.t.ins):=zh b0 1 rfl;have c2':wr.cell? ⟨w.heap.size,2,Z⟩=J (O U p.t.outs):=zh b0 2 rfl;have c3':wr.cell? ⟨w.heap.size,3,Z⟩=J (I (J ⟨g,0,Z⟩) p.t.cases.length c2):=zh b0 3 rfl;have c4:wr.cell? ⟨w.heap.size,4,Z⟩=J (O U p.a.n):=zh b0 4 rfl;have c5:wr.cell? ⟨w.heap.size,5,Z⟩=J (I (J ⟨gm,0,Z⟩) p.a.sts.length c3):=zh b0 5 rfl;have c6:wr.cell? ⟨w.heap.size,6,Z⟩=J (O U p.k):=zh b0 6 rfl;obtain⟨e0,e1,e2,e3,e4,e5,e6,_⟩:=Kg b1;have z0:=zi b1 0;have z1:=zi b1 1;have z2:=zi b1 2;have z3:=zi b1 3;have z4:=zi b1 4;have z5:=zi b1 5;have z6:=zi b1 6;clear b0 b1;have HB9:=zH HI.out.bel;have HCT:=zH Oy.out;have en:=zH HR.out;have hgl1:=Oy.out.lt;have hgl2:=HR.out.lt;have hgm1:w.heap.size+1<gm:=by omega
   have Hc:=zH (fun (o:Nat) (v:Ar) (W:Ba) (h:RowX cCs (fun b=>Nbx L0 B0 w.heap.size b/\b≠gm) W g p.t.cases)=>h.other qj o v (show w.heap.size+1≠g by omega) (fun h=>h.1.2.1 rfl));have C':=zH (fun (o:Nat) (v:Ar) (W:Ba) (h:RowX cMl (fun b=>Nbx L0 B0 w.heap.size b/\b≠g) W gm p.a.sts)=>h.other ku o v (show w.heap.size+1≠gm by omega) (fun h=>h.1.2.1 rfl));clear HI HR Oy;go_wp2_with fail;refine LI (v:=.agg (p.vs (J ⟨g,0,Z⟩) c2 (J ⟨gm,0,Z⟩) c3)) (by simp[results,results50,go_sem,e0,e1,e2,e3,e4,e5,e6,Pb.vs]) rfl ?_;refine⟨g,c2,gm,c3,rfl,?_,?_,by omega,by omega,?_⟩
   . refine RowX.mono (S:=fun b=>Nbx L0 B0 w.heap.size b/\b≠gm) qj ?_ (fun b _ hs=>hs.1.2.2)
     exact Hc.out _ _ _ (Hc.out _ _ _ (Hc.out _ _ _ (Hc.out _ _ _ (Hc.out _ _ _ (Hc.out _ _ _ (Hc.out _ _ _ (HCT.out)))))))
   . refine RowX.mono (S:=fun b=>Nbx L0 B0 w.heap.size b/\b≠g) ku ?_ (fun b _ hs=>hs.1.2.2)
     exact C'.out _ _ _ (C'.out _ _ _ (C'.out _ _ _ (C'.out _ _ _ (C'.out _ _ _ (C'.out _ _ _ (C'.out _ _ _ (en.out)))))))
   have FX:w.heap.size<=w.heap.size+1:=by omega
   exact(((((((HB9.out).setCell FX _).setCell FX _).setCell FX _).setCell FX _).setCell FX _).setCell FX _).setCell FX _
  obtain⟨iu,fP,ra⟩:=HR.out;obtain⟨cs,⟨A0,k0,rfl,i0⟩,cN⟩:=ra k dy
  have x0:wr.cell? ⟨gm,k,Z⟩=J (I A0 p.a.sts[k].length k0):=by
   have:=cN 0 _ rfl;change iu[k*1+0]?=_ at this;exact zh fP _ (by rw[<-this];congr 1;omega)
  have dS:(0:Int)<=(k:Int):=by omega
  have aW:(k:Int)<(p.a.sts.length:Int):=by omega
  have sr:gm<wr.heap.size:=zk fP;have S7:=zk HI.out.b1;have tN:=Dg.out.each (Le dy);obtain⟨x,hx⟩:=Kk (p.a.sts[k]);have BI:=zH hx;rw[hx] at x0 i0 tN;have HC:=zH (clone_kMv A0 x.length k0 (kM x) wr.drew (vN x) (mcells_raw (w:=wr.drew) i0.mat) (mcells_one x) (by omega));have q5:wr.cell? ⟨w.heap.size,5,Z⟩=J (I (J ⟨gm,0,Z⟩) p.a.sts.length c3):=zh HI.out.b0 5 rfl;go_wp2_with fail
  refine zt [(0,Au),(1,Au),(2,Au),(3,Au),(4,Au),(5,Aw),(6,Aw),(7,Aw)]
   (fun W=>W.cell? ⟨w.heap.size,5,Z⟩=J (I (J ⟨gm,0,Z⟩) p.a.sts.length c3)) (by kernel_rfl) (by kernel_rfl) (by exact q5) ?_
  repeat
   apply zj rfl
   . rintro K' aa W y0
     go_simp;exact aa
  refine zn rfl ?_;intro K' aa;go_simp;refine HC.out.mono ?_;rintro e w5 ⟨v5,rfl,pQ,aj⟩;have aj:Am wr.heap.size wr w5:=JB aj;have pQ:OwnR kMv w5 wr.heap.size v5 x.length (kM x):=pQ;obtain⟨A5,c5,rfl,_,_,ta⟩:=mcells_own pQ;have I5:=HI.out.on aj;have T5:w5.cell? ⟨w.heap.size,5,Z⟩=J (I (J ⟨gm,0,Z⟩) p.a.sts.length c3):=zh I5.b0 5 rfl;refine aa _ _ T5 ?_;refine zn rfl ?_;intro K' aa;go_simp;refine aa _ _ T5 ?_;clear aa K';have ez:=HR.out.below ku aj (Ld _);obtain⟨iu,fP,ra⟩:=ez;obtain⟨cs,⟨Q0,n0,rfl,_⟩,cN⟩:=ra k dy
  have x1:w5.cell? ⟨gm,k,Z⟩=J (I Q0 p.a.sts[k].length n0):=by
   have:=cN 0 _ rfl;change iu[k*1+0]?=_ at this;exact zh fP _ (by rw[<-this];congr 1;omega)
  have y1:=zi fP k
  have hX:cMl.lies (fun b=>(fun b=>Nbx L0 B0 w.heap.size b/\b≠g) b/\b≠gm) w5 [I A5 x.length c5] p.a.sts[k]:=by
   rw[BI.out];have fd:=Oy.out.lt;exact⟨A5,c5,rfl,ta.mono fun b _ hb=>⟨⟨⟨by omega,by omega⟩,by omega⟩,by omega⟩⟩
  have HRn:=zH (RowX.set1 ku rfl (HR.out.below ku aj (Ld _)) dy hX);have MM:w.heap.size+1<gm:=by omega
  have HIn:=zH (I5.set MM k (I A5 x.length c5));have Vz:gm≠g:=by omega
  have HRCn:=zH ((Oy.out.below qj aj (Ld _)).other qj k (I A5 x.length c5) Vz (fun h=>h.2 rfl));refine yb rfl (by kernel_rfl) ?_;intro K' aa;go_simp;refine aa (fun _=>True) _ _ trivial ?_;refine zy ?_;go_wp2_with fail
  go_roundw
  case rel=>exact⟨k+1,by omega,by go_num,HIn,HRn,HRCn⟩
  simp[Ap];omega
 obtain⟨iu,fP,ra⟩:=HR.out;obtain⟨cs,⟨A0,k0,A1,k1,A2,k2,rfl,i0,l1,l2⟩,cN⟩:=ra k dy;have x0:wr.cell? ⟨g,k*3,Z⟩=J (I A0 p.t.cases[k].inp.length k0):=zh fP _ (cN 0 _ rfl);have x1:wr.cell? ⟨g,k*3+1,Z⟩=J (I A1 p.t.cases[k].out.length k1):=zh fP _ (cN 1 _ rfl);have x2:wr.cell? ⟨g,k*3+2,Z⟩=J (I A2 p.t.cases[k].calm.length k2):=zh fP _ (cN 2 _ rfl);have dS:(0:Int)<=(k:Int):=by omega
 have aW:(k:Int)<(p.t.cases.length:Int):=by omega
 have sr:g<wr.heap.size:=zk fP;have S7:=zk HI.out.b1;have IV:=HFT.out.2 p.t.cases[k] (Le dy);obtain⟨x,hx⟩:=Kk (p.t.cases[k]);have BI:=zH hx;rw[hx] at x0 x1 x2 i0 l1 l2 IV;go_wp2_with fail;obtain⟨W4,tg,g0,FF,fZ⟩:=zm wr #[I A0 x.inp.length k0,I A1 x.out.length k1,I A2 x.calm.length k2] 71;rw[tg];have H4:=HI.out.on fZ;have p4:W4.cell? ⟨w.heap.size,3,Z⟩=J (I (J ⟨g,0,Z⟩) p.t.cases.length c2):=zh H4.b0 3 rfl;have Hi:=zH i0.iat;have OJ:=zH l1.lat;have ns:=zH l2.lat;have fK:=zH fZ;have rZ:=zH g0;have hN0:w.heap.size<W4.heap.size:=by omega
 clear i0 l1 l2 fZ H4
 refine zt [(0,Au),(1,Au),(2,Au),(3,Au),(4,Au),(5,Au),(7,Au),(8,Au),(10,Au),(11,Au),(6,Aw),(9,Aw),(12,Aw),(13,Aw),(14,Aw),(15,Aw)]
  (fun W=>W.cell? ⟨w.heap.size,3,Z⟩=J (I (J ⟨g,0,Z⟩) p.t.cases.length c2)/\W.heap[wr.heap.size]?=J (Ag #[I A0 x.inp.length k0,I A1 x.out.length k1,I A2 x.calm.length k2] 71 (0,0)))
  (by kernel_rfl) (by kernel_rfl) ⟨p4,g0⟩ ?_
 repeat
  apply zj rfl
  . rintro K' aa W ⟨y0,y1⟩
    have z0:W.cell? ⟨wr.heap.size,0,Z⟩=J (I A0 x.inp.length k0):=zh y1 0 rfl;have z1:W.cell? ⟨wr.heap.size,1,Z⟩=J (I A1 x.out.length k1):=zh y1 1 rfl;have z2:W.cell? ⟨wr.heap.size,2,Z⟩=J (I A2 x.calm.length k2):=zh y1 2 rfl;clear y1;go_simp;exact aa
 clear p4 g0;have UD:=fK.out.size
 -- the inputs
 refine zn rfl ?_;intro K' aa;go_simp;refine(YE A0 k0 x.inp W4.drew (((Hi.out.keep fK.out).more UD)) (by have:=IV.1;omega)).mono ?_;rintro e w5 ⟨A5,c5,rfl,Vx,aj⟩;have aj:Am W4.heap.size W4 w5:=JB aj;have aK:=zH aj;have Vx:IAtS (fun b=>W4.heap.size<=b) w5 A5 x.inp:=Vx;have rY:=zH Vx;have hwr5:=aj.size;have E5:Am wr.heap.size wr w5:=fK.out.trans (aj.mono (by omega));refine aa _ _ ⟨zh (HI.out.on E5).b0 3 rfl,Lb aj (by omega) rZ.out⟩ ?_
 -- the outputs
 refine zn rfl ?_;intro K' aa;go_simp;refine(gD A1 k1 x.out w5 ((OJ.out.keep E5).more E5.size) (by have:=IV.2.1.1;omega) (fun v hv=>by have:=IV.2.1.2 v hv;omega)).mono ?_;rintro e w6 ⟨v6,rfl,FR,dj⟩;obtain⟨A6,c6,rfl,_,_,SE⟩:=Jw FR;have fh:=zH dj;have EM:=zH SE;have UC:=dj.size;have E6:Am wr.heap.size wr w6:=Lc E5 dj;refine aa _ _ ⟨zh (HI.out.on E6).b0 3 rfl,Lb dj (by omega) (Lb aK.out (by omega) rZ.out)⟩ ?_
 -- the calm ones
 refine zn rfl ?_;intro K' aa;go_simp;refine(gD A2 k2 x.calm w6 ((ns.out.keep E6).more E6.size) (by have:=IV.2.2.1;omega) (fun v hv=>by have:=IV.2.2.2 v hv;omega)).mono ?_;rintro e w7 ⟨v7,rfl,Ij,dk⟩;obtain⟨A7,c7,rfl,_,_,FY⟩:=Jw Ij;have BR:=zH dk;have HL7:=zH FY;have E7:Am wr.heap.size wr w7:=Lc E6 dk;have HE7:=zH E7;refine aa _ _ ⟨zh (HI.out.on E7).b0 3 rfl,Lb dk (by omega) (Lb fh.out (by omega) (Lb aK.out (by omega) rZ.out))⟩ ?_;have EI:=zH (HR.out.below qj E7 (Ld _));obtain⟨iu,fP,ra⟩:=EI.out;obtain⟨cs,⟨Q0,n0,B1,n1,B2,n2,rfl,_,_,_⟩,cN⟩:=ra k dy;have x0:w7.cell? ⟨g,k*3,Z⟩=J (I Q0 p.t.cases[k].inp.length n0):=zh fP _ (cN 0 _ rfl);have x1:w7.cell? ⟨g,k*3+1,Z⟩=J (I B1 p.t.cases[k].out.length n1):=zh fP _ (cN 1 _ rfl);have x2:w7.cell? ⟨g,k*3+2,Z⟩=J (I B2 p.t.cases[k].calm.length n2):=zh fP _ (cN 2 _ rfl);have y0:=zi fP (k*3);have y1:=zi fP (k*3+1);have y2:=zi fP (k*3+2);have q3:w7.cell? ⟨w.heap.size,3,Z⟩=J (I (J ⟨g,0,Z⟩) p.t.cases.length c2):=zh (HI.out.on E7).b0 3 rfl;have HKK:=zH ((dk.block wr.heap.size (by omega)).trans (Lb fh.out (by omega) (Lb aK.out (by omega) rZ.out)));refine zn rfl ?_;intro K' aa;go_simp;refine aa _ _ ⟨q3,HKK.out⟩ ?_;refine zn rfl ?_;intro K' aa;go_simp;refine aa _ _ ⟨q3,HKK.out⟩ ?_;refine yb rfl (by kernel_rfl) ?_;intro K' aa;go_simp
 refine aa (fun _=>True) _ _ trivial ?_;refine zy ?_
 have hX:cCs.lies (fun b=>Nbx L0 B0 w.heap.size b/\b≠g) w7 [I A5 x.inp.length c5,I A6 x.out.length c6,I A7 x.calm.length c7] p.t.cases[k]:=by
  rw[BI.out];refine⟨A5,c5,A6,c6,A7,c7,rfl,?_,?_,?_⟩
  . exact(rY.out.on (fh.out.trans (BR.out.mono UC))).mono fun b _ hb=>⟨⟨by omega,by omega⟩,by omega⟩
  . exact(EM.out.on BR.out).mono fun b _ hb=>⟨⟨by omega,by omega⟩,by omega⟩
  exact HL7.out.mono fun b _ hb=>⟨⟨by omega,by omega⟩,by omega⟩
 have HRn:=zH (EI.out.set3 dy hX);have MM:w.heap.size+1<g:=lr;have HIn:=zH ((((HI.out.on HE7.out).set MM (k*3) (I A5 x.inp.length c5)).set MM (k*3+1) (I A6 x.out.length c6)).set MM (k*3+2) (I A7 x.calm.length c7))
 have HSn:Aq (SAtL L0 B0 (((w7.setCell ⟨g,k*3,Z⟩ (I A5 x.inp.length c5)).setCell ⟨g,k*3+1,Z⟩ (I A6 x.out.length c6)).setCell ⟨g,k*3+2,Z⟩ (I A7 x.calm.length c7)) SV p.a.sts):=
  HSr.out.keep (((((HE7.out.mono (by omega:w.heap.size<=wr.heap.size)).setCell (by show w.heap.size<=g;omega) _).setCell (by show w.heap.size<=g;omega) _).setCell (by show w.heap.size<=g;omega) _).mono dl)
 go_wp2_with fail
 go_roundw
 case rel=>exact⟨k+1,by omega,by go_num,HIn,HRn,HSn⟩
 simp[Ap];omega
theorem yg{p:Pb}(h:zV p=0):xp p.t=0/\qn p.a=0/\p.t.n=p.a.n/\0<=p.k/\p.k<=6:=by
 by_cases h1:xp p.t=0
 case neg=>rw[ua h1] at h;exact absurd h h1
 by_cases h2:qn p.a=0
 case neg=>rw[wJ h1 h2] at h;exact absurd h h2
 by_cases h3:p.t.n=p.a.n
 case neg=>rw[XQ h1 h2 h3] at h;cases h
 by_cases h4:p.k<0\/6<p.k
 . rw[XR h1 h2 h3 h4] at h;cases h
 exact⟨h1,h2,h3,by omega,by omega⟩
theorem xg{t:Tk}(h:xp t=0):1<=t.cases.length/\1<=t.n/\t.n<=5:=by
 unfold xp at h
 split at h
 . cases h
 split at h
 . cases h
 omega
def yh(p:Pb):Nat:=yf p.a p.k.toNat 0*p.t.cases.length
def um(p:Pb):Int×Int:=if zV p≠0 then (0,zV p) else vz 1048576 (yh p)
theorem ecount_any(p:Pb)(hf:Qg p)(A:Bb)(kc:Nat)(SV:Bb)(ks:Nat)(w:Ba)(hA:CAt w w.heap.size A p.t.cases)(hS:SAt w w.heap.size SV p.a.sts) :
  An Al 48 #[.agg (p.vs A kc SV ks)] w fun e w'=>e=Ak (.tuple #[O U (um p).1,O U (um p).2])/\Am w.heap.size w w':=by
 have HP:=zH (fun (w':Ba) (h:CAt w' w'.heap.size A p.t.cases) (h2:SAt w' w'.heap.size SV p.a.sts)=>pcheck_any p hf A kc SV ks w' h h2);have HF:=zH (@yg p);have sy:=hf.1.1;have Bh:=zH (fun (h:qn p.a=0) (K:Nat) (hK:K<=6) (w':Ba) (h':SAt w' w'.heap.size SV p.a.sts)=>JK p.a hf.2 h K hK SV ks w' h');have aq:Aq (zV p≠0->um p=(0,zV p)):=fun h=>Lj h
 have am:Aq (zV p=0->um p=vz 1048576 (yh p)):=fun h=>Lg (by simpa using h)
 obtain⟨E,hE⟩:=Kk (um p);rw[hE] at aq am ⊢;obtain⟨pe,nH⟩:=Kk (zV p);rw[nH] at aq am HF HP;obtain⟨w1,ae⟩:=Kk (w.alloc (Ag (p.vs A kc SV ks) 29));have cj:=zx w (Ag (p.vs A kc SV ks) 29);have aD:Am w.heap.size w w1:=by rw[<-ae];exact zU w _
 have fa:w1.heap.size=w.heap.size+1:=by rw[<-ae];simp
 rw[ae] at cj;unfold Pb.vs at ae cj HP ⊢;have cX:=zH cj;have cI:=zH aD;have HA:=zH ((hA.keep aD).more (by omega:w.heap.size<=w1.heap.size));have HS:=zH ((hS.keep aD).more (by omega:w.heap.size<=w1.heap.size));have ak:=zH ae;have q3:=zh cj 3 rfl;have q5:=zh cj 5 rfl;have q6:=zh cj 6 rfl;clear hA hS ae aD cj;go_enter func48,ntmps48;go_wp2_with fail;rw[ak.out];go_wp2_with fail;refine(HP.out w1 HA.out HS.out).mono ?_;rintro e w2 ⟨rfl,ah⟩;have B2:=zH (cI.out.trans (ah.mono (by omega)));have fJ:=zH ((HS.out.keep ah).more ah.size);have cH:=La ah cX.out;have aT:=zH cH;have bQ:=ah.size;clear ah HP ak q3 q5 q6;have q4:=zh cH 4 rfl;have q5:=zh cH 5 rfl;have q6:=zh cH 6 rfl;clear cH
 by_cases h1:pe=0
 case neg=>
  have hR:=zH (aq.out h1);have e0:(pe != 0)=Au:=by simpa using h1
  clear aq am h1 HF Bh;go_wp2_with fail
  go_ret2
  rw[hR.out];exact⟨rfl,B2.out⟩
 case pos=>
 have hR:=zH (am.out h1);obtain⟨f1,f2,f3,f4,f5⟩:=HF.out h1;obtain⟨K,hk⟩:=Ls f4;have HN:=zH (Bh.out f2 K (by omega));obtain⟨c1,_⟩:=xg f1;rw[hk] at q6;have hx:yh p=yf p.a K 0*p.t.cases.length:=by unfold yh;rw[hk];rfl
 rw[hx] at hR;subst h1;obtain⟨T,hT⟩:=Kk (yf p.a K 0);rw[hT] at HN hR;clear aq am HF Bh f1 f2 f3 f4 hx hT;go_wp2_with fail;refine(HN.out w2 fJ.out).mono ?_;rintro e w3 ⟨rfl,al⟩;have B3:=zH (B2.out.trans (al.mono (by omega)));have cH:=La al aT.out;have q3:=zh cH 3 rfl;obtain⟨cn,Gk⟩:=Kk p.t.cases.length;rw[Gk] at q3 c1 sy hR
 by_cases hg:1048576<T
 . have hm:1048576<T*cn:=LE hg (Ro T c1)
   have nh:Aq (E=(0,17)):=hR.out.trans (Lj hm);have hC:vz 1048576 T=(0,17):=Lj hg;rw[hC];go_wp2_with fail
   go_ret2
   rw[nh.out];exact⟨rfl,B3.out⟩
 have hC:vz 1048576 T=((T:Int),0):=Lg hg;rw[hC];have sn:T*cn<=1048576*30:=LV (by omega) sy;have hw:IntKind.i64.wrap ((T:Int)*(cn:Int))=((T*cn:Nat):Int):=by rw[Ll,<-Int.natCast_mul];omega
 obtain⟨m,hm⟩:=Kk (T*cn);rw[hm] at hR sn hw
 by_cases hg:1048576<m
 . have nh:Aq (E=(0,17)):=hR.out.trans (Lj hg)
   go_wp2_with fail
   all_goals first | (exfalso;omega) | skip
   go_ret2
   rw[nh.out];exact⟨rfl,B3.out⟩
 have nh:Aq (E=((m:Int),0)):=hR.out.trans (Lg hg);go_wp2_with fail
 all_goals first | (exfalso;omega) | skip
 go_ret2
 rw[nh.out];exact⟨by first | rfl | rw[hw],B3.out⟩
end
section
open Go.RowKit Go.Shelf
def xu(p:Pb):Prop:=Qg p/\(zV p=0->yh p<=60\/4096<yh p)
def zT(p:Pb):Sy×Int:=if zV p≠0 then (qo,zV p) else if 4096<yh p then (qo,17) else (zO p,0)
theorem xm{p:Pb}(h:zV p≠0):zT p=(qo,zV p):=Lj h
theorem xA{p:Pb}(h:zV p=0)(h2:4096<yh p):zT p=(qo,17):=by unfold zT;rw[Lg (by simpa using h),Lj h2]
theorem qy{p:Pb}(h:zV p=0)(h2:yh p<=4096):zT p=(zO p,0):=by unfold zT;rw[Lg (by simpa using h),Lg (by omega)]
def vu(af:List (List Rd))(l:List (Nat×Nat)):List (Nat×List Rd):=l.map fun x=>(x.1,af.getD x.2 [])
theorem prsW_snoc(af:List (List Rd))(l:List (Nat×Nat))(x:Nat×Nat):vu af (l++[x])=vu af l++[(x.1,af.getD x.2 [])]:=by simp[vu]
theorem prsW_row(af:List (List Rd))(i:Nat):vu af ((List.range af.length).map fun j=>(i,j))=af.map fun w=>(i,w):=by
 unfold vu;rw[PR];refine Pn (by simp) fun j h1 h2=>?_
 simp at h1;simp[h1]
theorem QJ(af:List (List Rd)):∀(m i:Nat),vu af (zu af.length i m)=(List.range m).flatMap fun d=>af.map fun w=>(i+d,w)
 | 0,_=>rfl
 | m+1,i=>by
  rw[zu,vu,LK];have h1:=prsW_row af i;have h2:=QJ af m (i+1);unfold vu at h1 h2;rw[h1,h2,List.range_succ_eq_map,NB,List.flatMap_map]
  have e:(fun d=>af.map fun w=>(i+1+d,w))=(fun d=>af.map fun w=>(i+(d+1),w)):=by
   funext d;rw[show i+1+d=i+(d+1) by omega]
  rw[e];rfl
theorem Xf(p:Pb)(K:Nat)(hK:p.k=(K:Int)):vu (zI p.a K 0) (zu (zI p.a K 0).length 0 p.t.cases.length)=zC p:=by
 rw[QJ];unfold zC;rw[hK]
 have e:(fun d=>(zI p.a K 0).map fun w=>(0+d,w))=(fun d=>(zI p.a ((K:Int).toNat) 0).map fun w=>(d,w)):=by
  funext d;rw[LQ];rfl
 rw[e]
theorem jU(n:Nat):∀(m i:Nat),(zu n i m).length=m*n
 | 0,_=>by simp[zu]
 | m+1,i=>by rw[zu,Lv,jU n m (i+1)];simp;rw[Rf];omega
theorem qc(p:Pb)(l:List (Nat×List Rd)):(zE p l).2.length=l.length:=by
 have key:∀n,n<=l.length->(zE p (l.take n)).2.length=n:=by
  intro n
  induction n with
  | zero=>intro _;rfl
  | succ n ih=>
   intro hl;rw[Lq (by omega),qu,Lv,ih (by omega)];rfl
 have:=key l.length (Ld _);rwa[LS] at this
theorem ZZ(p:Pb)(hn:p.t.n.toNat<=5)(l:List (Nat×List Rd))(h:∀x∈l,x.2.length<=6):(zE p l).1.length<=l.length*35:=by
 have key:∀n,n<=l.length->(zE p (l.take n)).1.length<=n*35:=by
  intro n
  induction n with
  | zero=>intro _;simp[jR]
  | succ n ih=>
   intro hl;rw[Lq (by omega),qu];have h1:=ih (by omega);obtain⟨x,hx⟩:=Kk (l[n]);have h3:=h l[n] (Le _);rw[hx] at h3 ⊢;have h2:=jb (zE p (l.take n)).1 p.t.n.toNat (yy p x.1) x.2 x.2.length;have h4:(x.2.length+1)*p.t.n.toNat<=7*5:=LV (by omega) hn;dsimp only;omega
 have:=key l.length (Ld _);rwa[LS] at this
end
section
open Go.RowKit Go.Shelf
structure BlIn(p:Pb)(D B bB bM b7:Nat)(SC:Ar->Array Ar)(WR:Ba)(l:List (Nat×List Rd))(V E:Ar)(X:Ba):Prop where
 wr:Wrote (fun k=>k=bB\/k=bM\/k=b7) WR X
 bd:BdIn B bB bM p.t.n V (zE p l).1 X
 sys:X.heap[b7]?=J (Ag (SC E) 39 (0,0))
 out:OwnX Qc (fun k=>D<=k/\V.ownBlock≠J k) X D E (zE p l).2
 no:∀k,V.ownBlock=J k->D<=k/\E.ownBlock≠J k
structure BlB(D B bB bM b7:Nat)(WR:Ba):Prop where
 d:WR.heap.size=D
 b:bB<D
 m:bM<D
 s:b7<D
 lo:B<=bB/\B<=bM/\B<=b7
 bs:bB≠b7
 ms:bM≠b7
section
variable {p:Pb} {D B bB bM b7:Nat} {SC:Ar->Array Ar} {WR X:Ba} {l:List (Nat×List Rd)} {V E:Ar}
theorem BlIn.big(h:BlIn p D B bB bM b7 SC WR l V E X)(hb:BlB D B bB bM b7 WR):D<=X.heap.size:=by have:=h.wr.size;have:=hb.d;omega
theorem BlIn.bel(h:BlIn p D B bB bM b7 SC WR l V E X)(hb:BlB D B bB bM b7 WR):Am B WR X:=h.wr.below (by have:=hb.d;have:=hb.lo;have:=hb.b;omega) fun k hk hr=>by
 have:=hb.lo;rcases hr with e | e | e<;>omega
theorem BlIn.same(h:BlIn p D B bB bM b7 SC WR l V E X)(hb:BlB D B bB bM b7 WR){k:Nat}(hk:k<D)(h1:k≠bB)(h2:k≠bM)(h3:k≠b7):X.heap[k]?=WR.heap[k]?:=
 h.wr.block k (by have:=hb.d;omega) fun hr=>by rcases hr with e | e | e<;>contradiction
theorem BlIn.turn(h:BlIn p D B bB bM b7 SC WR l V E X)(hb:BlB D B bB bM b7 WR){X':Ba}{row:Option Nat}(hg:X.grownBy X' row)(hr:∀r,row=J r->D<=r/\∃o:Obj,X.heap[r]?=J o/\o.isCells=Aw):BlIn p D B bB bM b7 SC WR l V E X':=by
 have hc:∀(k:Nat) (o:Obj),X.heap[k]?=J o->o.isCells=Au->X'.heap[k]?=J o:=fun k o hk ho=>(Nd hg (fun r e=>(hr r e).2) hk ho).trans hk
 obtain⟨m,hm⟩:=h.bd.num;refine⟨h.wr.trans (Wrote.of_grown (R:=fun k=>D<=k) hg (fun k e _=>(hr k e).1)) (fun k hk e=>by have:=hb.d;omega),⟨hc _ _ h.bd.hB rfl,⟨m,hm.same (hg.block bM hm.lt fun e=>by have:=(hr bM e.symm).1;have:=hb.m;omega)⟩,?_,h.bd.ne,h.bd.bm,h.bd.lo⟩,hc _ _ h.sys rfl,h.out.turn zS hg.size hc,h.no⟩;refine⟨h.bd.own.1,?_⟩;rcases h.bd.own.2 with hn | ⟨g,cap,cur,Bs,dZ,nK,rest⟩
 . exact .inl hn
 exact .inr ⟨g,cap,cur,Bs,dZ,hc g _ nK rfl,rest⟩
theorem BlIn.outn(h:BlIn p D B bB bM b7 SC WR l V E X)(hb:BlB D B bB bM b7 WR){w2 w3:Ba}{V':Ar}(h2:Am X.heap.size X w2)(ho:BdOn bB bM V w2 V' w3) :
  OwnX Qc (fun k=>D<=k/\V'.ownBlock≠J k) w3 D E (zE p l).2/\∀k,V'.ownBlock=J k->D<=k/\E.ownBlock≠J k:=by
 have hs:=h2.size;have hD:=h.big hb;have oT:=h.out.lt
 have h1:OwnX Qc (fun k=>(D<=k/\V.ownBlock≠J k)/\V'.ownBlock≠J k) w2 D E (zE p l).2:=
  (h.out.mono (S':=fun k=>(D<=k/\V.ownBlock≠J k)/\V'.ownBlock≠J k) zS fun k hk hs=>⟨hs,fun e=>by
   rcases ho.2 k e with e | e
   . exact hs.2 e
   . omega⟩).below zS h2 (Ld _)
 refine⟨(h1.keep zS (ho.1.keep fun k _ hs hr=>?_) fun k hk=>ho.1.block k (by have:=(oT k hk).2;omega) fun hr=>?_).mono zS fun k _ hs=>⟨hs.1.1,hs.2⟩,fun k hk=>?_⟩
 . rcases hr with e | e | e
   . have:=hb.b;have:=hs.1.1;omega
   . have:=hb.m;have:=hs.1.1;omega
   exact hs.1.2 e
 . have:=(oT k hk).1
   rcases hr with e | e | e
   . have:=hb.b;omega
   . have:=hb.m;omega
   exact(h.no k e).2 hk
 rcases ho.2 k hk with e | e
 . exact h.no k e
 exact⟨by omega,fun e2=>by have:=(oT k e2).2;omega⟩
theorem BlIn.lies(h:BlIn p D B bB bM b7 SC WR l V E X)(hb:BlB D B bB bM b7 WR){w2 w3 W4:Ba}{V' v:Ar}{i:Nat}{word:List Rd}{views:List (List Int)}{A2 A3:Bb}{c2 c3:Nat}(h2:Am X.heap.size X w2)(ho:BdOn bB bM V w2 V' w3)(h4:Am w3.heap.size w3 W4)
  (hw:RAtS (fun k=>X.heap.size<=k) w2 A2 word) (hv:LAtS (fun k=>(w2.heap.size<=k/\V'.ownBlock≠J k)\/v.ownBlock=J k) w3 A3 views) (eq:∀k,v.ownBlock=J k->w2.heap.size<=k) (hvn:∀k,V'.ownBlock=J k->v.ownBlock≠J k) (VP:word.length<=c2) :
  Qc.lies (fun k=>(D<=k/\V'.ownBlock≠J k)/\E.ownBlock≠J k) W4 [O U i,I A2 word.length c2,I A3 views.length c3] ⟨i,word,views⟩:=by
 have hs:=h2.size;have hD:=h.big hb;have oT:=h.out.lt;have UG:=h.bd.own.lt;refine⟨A2,c2,A3,c3,rfl,?_,?_,VP⟩
 . have h5:RAtS (fun k=>X.heap.size<=k/\k<w2.heap.size) w2 A2 word:=hw.mono fun k hk hs=>⟨hs,hk⟩
   have h6:=h5.keep (ho.1.keep fun k _ hs hr=>by
    rcases hr with e | e | e
    . have:=hb.b;omega
    . have:=hb.m;omega
    . have:=(UG k e).2;omega)
   have h7:RAtS (fun k=>(D<=k/\V'.ownBlock≠J k)/\E.ownBlock≠J k) w3 A2 word:=h6.mono fun k _ hs=>⟨⟨by omega,fun e=>by
    rcases ho.2 k e with e | e
    . have:=(UG k e).2;omega
    . omega⟩,fun e=>by have:=(oT k e).2;omega⟩
   exact h7.on h4
 have h7 : LAtS (fun k => (D <= k /\ V'.ownBlock ≠ J k) /\ E.ownBlock ≠ J k) w3 A3 views := hv.mono fun k _ hs => by
  rcases hs with hs | hs
  . exact⟨⟨by omega,hs.2⟩,fun e=>by have:=(oT k e).2;omega⟩
  . have:=eq k hs
    exact⟨⟨by omega,fun e=>hvn k e hs⟩,fun e=>by have:=(oT k e).2;omega⟩
 exact h7.on h4
theorem BlIn.next(h:BlIn p D B bB bM b7 SC WR l V E X)(hb:BlB D B bB bM b7 WR){w2 w3 W4 w5:Ba}{V':Ar}{x:Nat×List Rd}{cs:List Ar}{bE:List (List Ar)}{g' cap:Nat}(h2:Am X.heap.size X w2)(ho:BdOn bB bM V w2 V' w3)(h4:Am w3.heap.size w3 W4)
  (hd:BdIn B bB bM p.t.n V' (zA (zE p l).1 p.t.n.toNat (yy p x.1) x.2 x.2.length).1 w3)
  (oA:∀E':Ar,(SC E).setIfInBounds 9 E'=SC E')
  (bn:bE.length=(zE p l).2.length) (cN:∀(i:Nat) (h1:i<bE.length) (h2:i<(zE p l).2.length),Qc.lies (fun k=>(D<=k/\V'.ownBlock≠J k)/\E.ownBlock≠J k) W4 bE[i] (zE p l).2[i])
  (hX:Qc.lies (fun k=>(D<=k/\V'.ownBlock≠J k)/\E.ownBlock≠J k) W4 cs ⟨x.1,x.2,(zA (zE p l).1 p.t.n.toNat (yy p x.1) x.2 x.2.length).2⟩)
  (hr:OwnR kXn w5 D (I (J ⟨g',0,Z⟩) ((zE p l).2.length+1) cap) ((zE p l).2.length+1) (bE.flatten++cs)) (hg:W4.grownBy w5 E.ownBlock) (bG:E.ownBlock=J g'\/g'=W4.heap.size) :
  BlIn p D B bB bM b7 SC WR (l++[x]) V' (I (J ⟨g',0,Z⟩) ((zE p l).2.length+1) cap) (w5.setCell ⟨b7,9,Z⟩ (I (J ⟨g',0,Z⟩) ((zE p l).2.length+1) cap)) /\
   KeepsFrom D X (w5.setCell ⟨b7,9,Z⟩ (I (J ⟨g',0,Z⟩) ((zE p l).2.length+1) cap)) /\
   Wrote (fun k=>k=bB\/k=bM\/k=b7\/D<=k) X (w5.setCell ⟨b7,9,Z⟩ (I (J ⟨g',0,Z⟩) ((zE p l).2.length+1) cap)):=by
 have hs:=h2.size;have hD:=h.big hb;have dx:=ho.1.size;have iU:=h4.size;have oT:=h.out.lt;have UG:=h.bd.own.lt;obtain⟨_,nd⟩:=h.outn hb h2 ho;have fd:=hr.lt g' rfl;have cp:=hb.lo;obtain⟨e1,e2,e3⟩:bB<D/\bM<D/\b7<D:=⟨hb.b,hb.m,hb.s⟩;have WP:∀k,k<D->E.ownBlock≠J k:=fun k hk e=>by have:=(oT k e).1;omega
 have hV7:∀k,V'.ownBlock=J k->D<=k:=fun k e=>(nd k e).1
 have hW:Wrote (fun k=>k=bB\/k=bM\/k=b7\/V.ownBlock=J k\/E.ownBlock=J k) X (w5.setCell ⟨b7,9,Z⟩ (I (J ⟨g',0,Z⟩) ((zE p l).2.length+1) cap)):=by
  refine((((Wrote.of_below (R:=fun k=>k=bB\/k=bM\/k=b7\/V.ownBlock=J k\/E.ownBlock=J k) h2).trans ho.1 fun k _ hr=>?_).trans (Wrote.of_below (R:=fun _=>False) h4) fun _ _ h=>h.elim).trans (Wrote.of_grown (R:=fun k=>E.ownBlock=J k) hg fun _ e _=>e) fun k _ e=>?_).trans (Wrote.of_grown (R:=fun k=>k=b7) (zQ w5 b7 9 _) fun k e _=>by cases e;rfl) fun k _ e=>?_
  . rcases hr with e | e | e
    . exact .inl e
    . exact .inr (.inl e)
    exact .inr (.inr (.inr (.inl e)))
  . exact .inr (.inr (.inr (.inr e)))
  exact .inr (.inr (.inl e))
 have bX:w5.heap[b7]?=J (Ag (SC E) 39 (0,0)):=by
  refine(hg.block b7 (by omega) fun e=>WP b7 e3 e.symm).trans ((h4.block b7 (by omega)).trans ((ho.1.block b7 (by omega) fun hr=>?_).trans ((h2.block b7 (by omega)).trans h.sys)));rcases hr with e | e | e
  . exact hb.bs e.symm
  . exact hb.ms e.symm
  have:=(h.no b7 e).1;omega
 have SO:=((hd.on h4).grown hg (fun e=>WP bB e1 e) (fun e=>WP bM e2 e) (fun k hk e=>(nd k hk).2 e)).set (g:=b7) (fun e=>hb.bs e.symm) (fun e=>hb.ms e.symm) (fun e=>by have:=hV7 b7 e;omega) 9 (I (J ⟨g',0,Z⟩) ((zE p l).2.length+1) cap);have ft:=qu p l x;refine⟨⟨?_,?_,?_,?_,?_⟩,?_,hW.more fun k _ hr=>?_⟩
 . refine h.wr.trans hW fun k hk hr=>?_
   have:=hb.d;rcases hr with e | e | e | e | e
   . exact .inl e
   . exact .inr (.inl e)
   . exact .inr (.inr e)
   . have:=(h.no k e).1;omega
   have:=(oT k e).1;omega
 . rw[ft];exact SO
 . rw[Lk w5 b7 9 _ _ _ bX,oA]
 . rw[ft]
   have h8:=OwnX.app zS bn cN hX hr hg bG;refine h8.kept zS (zQ w5 b7 9 _) (.inr (fun e=>?_)) (fun k e=>.inl fun hs=>?_)
   . have:g'=b7:=by simpa[Value.ownBlock] using e
     omega
   cases e;have:=hs.1;omega
 . intro k hk
   refine⟨hV7 k hk,fun e=>?_⟩;have:g'=k:=by simpa[Value.ownBlock] using e
   subst this;rcases bG with e | e
   . exact(nd g' hk).2 e
   have:=(hd.own.lt g' hk).2;omega
 . refine⟨hW.size,fun k o hk oO hcf=>(hW.block k (zk oO) fun hr=>?_).trans oO⟩
   rcases hr with e | e | e | e | e
   . omega
   . omega
   . omega
   . rcases h.bd.own.2 with ⟨hn,_⟩ | ⟨g,aH,cur,Bs,_,nK,_⟩
     . rw[hn] at e;cases e
     rw[Bs] at e;cases e;rw[nK] at oO;cases oO;cases hcf
   obtain⟨css2,_,iC,_⟩:=h.out;rcases iC.2 with ⟨hn,_⟩ | ⟨g,aH,cur,Bs,_,nK,_⟩
   . rw[hn] at e;cases e
   rw[Bs] at e;cases e;rw[nK] at oO;cases oO;cases hcf
 rcases hr with e | e | e | e | e
 . exact .inl e
 . exact .inr (.inl e)
 . exact .inr (.inr (.inl e))
 . exact .inr (.inr (.inr (h.no k e).1))
 exact .inr (.inr (.inr (oT k e).1))
end
end
section
open Go.RowKit
theorem jr(w:Ba)(c1 c2 c3:Array Ar)(t1 t2 t3:TypeId):∃W0,((w.alloc (Ag c1 t1)).alloc (Ag c2 t2)).alloc (Ag c3 t3)=W0/\W0.heap[w.heap.size]?=J (Ag c1 t1 (0,0))/\W0.heap[w.heap.size+1]?=J (Ag c2 t2 (0,0)) /\
  W0.heap[w.heap.size+1+1]?=J (Ag c3 t3 (0,0))/\W0.heap.size=w.heap.size+3/\Am w.heap.size w W0:=
 ⟨_,rfl,xa (xa (zx _ _) _) _,xa (by have:=zx (w.alloc (Ag c1 t1)) (Ag c2 t2);rwa[NM] at this) _,
  by have:=zx ((w.alloc (Ag c1 t1)).alloc (Ag c2 t2)) (Ag c3 t3);rwa[NM,NM] at this,by simp,bel3 w _ _ _⟩
def PutCut(n:Int)(vs:List Vw)(v:Vw)(g:Nat)(w1:Ba)(s:Ar)(wx:Ba):Prop:=
 s=Aj (J ⟨g,0,Z⟩)/\∃A cap,wx.cell? ⟨g,0,Z⟩=J (O U n)/\wx.cell? ⟨g,1,Z⟩=J (I A (vs.length+1) cap)/\OwnV wx (g+1) (I A (vs.length+1) cap) (vs++[v])/\Am g w1 wx
theorem put_any(n:Int)(A:Bb)(cap:Nat)(vs:List Vw)(v:Vw)(w:Ba)(hT:TArg w A cap vs)(hl:vs.length<100000) :
  An Al 140 #[Ai #[O U n,I A vs.length cap],.agg v.cells] w (RetPut n A cap vs v w):=by
 have HT:=zH hT;have sv:=hT.few;go_enter func140,ntmps140;unfold Vw.cells;go_wp2_with fail;obtain⟨W0,eJ,b0,b1,b2,bL,dl⟩:=jr w #[O U n,I A vs.length cap] v.cells #[O U 0,I Z 0 0] 36 133 36;unfold Vw.cells at eJ;rw[eJ];have c0:W0.heap[w.heap.size+1]?=J (Ag v.cells 133 (0,0)):=b1;have hT0:=HT.out.keep dl;refine(index_any n A cap vs v W0 W0.heap.size (Ld _) hT0.rows (by omega)).mono ?_;rintro e w1 ⟨rfl,hb⟩;have HV:Aq (w1.heap[w.heap.size+1]?=J (Ag v.cells 133 (0,0))):=Lb hb (by omega) c0;have d0:=Lb hb (by omega) b0;have d2:=Lb hb (by omega) b2;have hT1:=zH (hT0.keep hb);have B1:Aq (Am w.heap.size w w1):=dl.trans (hb.mono (by omega));have l0:w.heap.size+3<=w1.heap.size:=by have:=hb.size;omega
 obtain⟨t0,t1,_⟩:=Ke d0;obtain⟨r0,r1,_⟩:=Ke d2;have f0:=zi d2 0;have f1:=zi d2 1
 by_cases hv:v∈vs
 . have hz:=zH hv
   have h0:0<=kB vs v:=Ja hv;go_wp2_with fail;have bN:Aq (Am w.heap.size w ((w1.setCell ⟨w.heap.size+1+1,0,Z⟩ (O U n)).setCell ⟨w.heap.size+1+1,1,Z⟩ (I A vs.length cap))):=(B1.out.setCell (by simp;omega) _).setCell (by simp;omega) _;exact LI (v:=.tuple #[Ai #[O U n,I A vs.length cap],O U (kB vs v)]) (by simp[results,results140,go_sem,r0,r1]) rfl ⟨bN.out,fun _=>rfl,fun h=>absurd hz.out h⟩
 have hz:Aq (v∉vs):=hv;have h0:kB vs v=-1:=by unfold kB;rw[Lg hv]
 have h1:kB vs v<0:=by omega
 go_upto_region 5 with fail
 obtain⟨W2,ij,g0,eZ,az⟩:=zm w1 #[O U n,I Z 0 0] 36;rw[ij];clear ij;have Eb:W2.heap[w.heap.size+1]?=J (Ag v.cells 133 (0,0)):=Lb az (by omega) HV.out;have D0:W2.heap[w.heap.size]?=J (Ag #[O U n,I A vs.length cap] 36 (0,0)):=Lb az (by omega) d0;have D2:W2.heap[w.heap.size+1+1]?=J (Ag #[O U 0,I Z 0 0] 36 (0,0)):=Lb az (by omega) d2;have x0:W2.cell? ⟨w.heap.size+1,0,Z⟩=J (O U v.p):=zh Eb 0 rfl;have x1:W2.cell? ⟨w.heap.size+1,1,Z⟩=J (O U v.r):=zh Eb 1 rfl;have x2:W2.cell? ⟨w.heap.size+1,2,Z⟩=J (O U v.i):=zh Eb 2 rfl;have x3:W2.cell? ⟨w.heap.size+1,3,Z⟩=J (O U v.h0):=zh Eb 3 rfl;have x4:W2.cell? ⟨w.heap.size+1,4,Z⟩=J (O U v.h1):=zh Eb 4 rfl;have x5:W2.cell? ⟨w.heap.size+1,5,Z⟩=J (O U v.h2):=zh Eb 5 rfl;have x6:W2.cell? ⟨w.heap.size+1,6,Z⟩=J (O U v.h3):=zh Eb 6 rfl;have x7:W2.cell? ⟨w.heap.size+1,7,Z⟩=J (O U v.h4):=zh Eb 7 rfl;have s1:W2.cell? ⟨w.heap.size,1,Z⟩=J (I A vs.length cap):=zh D0 1 rfl;have y1:W2.cell? ⟨w1.heap.size,1,Z⟩=J (I Z 0 0):=zh g0 1 rfl;have y0:W2.cell? ⟨w1.heap.size,0,Z⟩=J (O U n):=zh g0 0 rfl;have BX:=zH az;have l3:w.heap.size<W2.heap.size:=by omega
 have z1:=zi g0 1;have l2:w1.heap.size<W2.heap.size:=by omega
 have Gw:=zH (hT1.out.keep az);have B2:Aq (Am w.heap.size w W2):=Lc B1.out az;have dU:=zH d0;have mi:=zH d2;clear d0 d2 t0 t1 r0 r1 f0 f1 az eZ
 go_cut [7] (fun s7 wx=>PutCut n vs v w1.heap.size w1 s7 wx)
 case first=>
  go_region_law ((first
    | (refine JY (by rfl) (.tmp 19) (.tmp 21) (by rfl) W2.heap.size (by rfl) A cap vs (by rfl) (by first | exact Gw.out.keep (Li _ _).drew | exact Gw.out.keep (zU W2 _).drew) (by simp) ?_;intro A1 Oe wA fE dE;have hG:W2.grownBy wA Z:=(by first | exact⟨dE.os,dE.tape,dE.output,dE.size,dE.block⟩ | exact xz (o:=Ag v.cells 133) ⟨dE.os,dE.tape,dE.output,dE.size,dE.block⟩);have e0:=yj hG x0 (by simp);have e1:=yj hG x1 (by simp);have e2:=yj hG x2 (by simp);have e3:=yj hG x3 (by simp);have e4:=yj hG x4 (by simp);have e5:=yj hG x5 (by simp);have e6:=yj hG x6 (by simp);have e7:=yj hG x7 (by simp);have e8:=yj hG y1 (by simp);have e9:=ug hG z1 l2 (by simp);have rj:W2.heap.size<=wA.heap.size:=hG.size)
    | (refine ZT (by rfl) (.tmp 22) (.tmp 24) (by rfl) W2.heap.size _ vs v (by rfl) (fE.alloc _) (by omega) wA.heap.size (by rfl) (zx wA _) (by first | omega | (simp;omega)) ?_;intro A3 mf wB tL bJ;have hH:wA.grownBy wB (I A1 vs.length Oe).ownBlock:=(by first | exact⟨bJ.os,bJ.tape,bJ.output,bJ.size,bJ.block⟩ | exact xz (o:=Ag v.cells 133) ⟨bJ.os,bJ.tape,bJ.output,bJ.size,bJ.block⟩);have h8:=yj hH e8 (fE.ne (by omega));have h9:=ug hH e9 (by omega) (fE.ne (by omega));have h10:Am w1.heap.size w1 wB:=(BX.out.grown hG (by omega) (by simp)).grown hH (by omega) (fun k hk=>by have:=(fE.lt k hk).1;omega);have Tb:=yj hH (yj hG y0 (by simp)) (fE.ne (by omega)))
    | (refine ZT (by rfl) (.tmp 22) (.tmp 24) (by rfl) W2.heap.size _ vs v (by rfl) (fE) (by omega) W2.heap.size (by rfl) (grown_heap dE (zx W2 _) (by simp)) (by first | omega | (simp;omega)) ?_;intro A3 mf wB tL bJ;have hH:wA.grownBy wB (I A1 vs.length Oe).ownBlock:=(by first | exact⟨bJ.os,bJ.tape,bJ.output,bJ.size,bJ.block⟩ | exact xz (o:=Ag v.cells 133) ⟨bJ.os,bJ.tape,bJ.output,bJ.size,bJ.block⟩);have h8:=yj hH e8 (fE.ne (by omega));have h9:=ug hH e9 (by omega) (fE.ne (by omega));have h10:Am w1.heap.size w1 wB:=(BX.out.grown hG (by omega) (by simp)).grown hH (by omega) (fun k hk=>by have:=(fE.lt k hk).1;omega);have Tb:=yj hH (yj hG y0 (by simp)) (fE.ne (by omega)))))
  all_goals
   go_wp2_with fail
   go_meet
   refine⟨rfl,A3,mf,by simp[go_sem,Tb],by simp[go_sem,h8],?_,h10.setCell (by simp) _⟩;exact(OwnV.kept tL (uf wB w1.heap.size 1 _) (Or.inr (tL.ne l2))).low l2
 obtain⟨rfl,A3,mf,c0,c1,Wg,ck⟩:=hcut;have D0:=Lb ck (by omega) dU.out;have D2:=Lb ck (by omega) mi.out;have t1:wc.cell? ⟨w.heap.size,1,Z⟩=J (I A vs.length cap):=zh D0 1 rfl;obtain⟨r0,r1,_⟩:=Ke D2;have f0:=zi D2 0;have f1:=zi D2 1;have HT3:=zH Wg;have bK:Aq (Am w.heap.size w wc):=Lc B1.out ck;go_wp2_with fail
 go_region
 all_goals
  go_wp2_with fail;have bN:Aq (Am w.heap.size w (((wc.setCell ⟨w.heap.size+1+1,0,Z⟩ (O U n)).setCell ⟨w.heap.size+1+1,1,Z⟩ (I A3 (vs.length+1) mf)).drew)):=((bK.out.setCell (by simp;omega) _).setCell (by simp;omega) _).drew
  have VF:OwnV ((wc.setCell ⟨w.heap.size+1+1,0,Z⟩ (O U n)).setCell ⟨w.heap.size+1+1,1,Z⟩ (I A3 (vs.length+1) mf)) (w1.heap.size+1) (I A3 (vs.length+1) mf) (vs++[v]):=
   (HT3.out.kept (uf wc (w.heap.size+1+1) 0 _) (Or.inr (HT3.out.ne (by omega)))).kept (uf _ (w.heap.size+1+1) 1 _) (Or.inr (HT3.out.ne (by omega)))
  exact LI (v:=.tuple #[Ai #[O U n,I A3 (vs.length+1) mf],O U vs.length]) (by simp[results,results140,go_sem,r0,r1]) rfl ⟨bN.out,fun h=>absurd h hz.out,fun _=>⟨A3,mf,rfl,(OwnV.drew VF).low (by have:=B1.out.size;omega)⟩⟩
end
section
open Go.RowKit Go.Shelf
attribute [local go_sem] Oper.semAt_some
theorem vg{w X:Ba}{g h B:Nat}{a0 a1 a2 a3 a4 a5 a6 a7 a8 a9 u0:Ar}(v0 v1 v2 v3 v4 v5 v6 v7 v8 v9 u:Ar)(hg:X.heap[g]?=J (Ag #[a0,a1,a2,a3,a4,a5,a6,a7,a8,a9] 39 (0,0)))(hh:X.heap[h]?=J (Ag #[u0] 47 (0,0)))
  (bC:g≠h) (hB:Am B w X) (h1:B<=g) (h2:B<=h) :
  (((((((((((X.setCell ⟨g,0,Z⟩ v0).setCell ⟨g,1,Z⟩ v1).setCell ⟨g,2,Z⟩ v2).setCell ⟨g,3,Z⟩ v3).setCell ⟨g,4,Z⟩ v4).setCell ⟨g,5,Z⟩ v5).setCell ⟨g,6,Z⟩ v6).setCell ⟨g,7,Z⟩ v7).setCell ⟨g,8,Z⟩ v8).setCell ⟨g,9,Z⟩ v9).setCell ⟨h,0,Z⟩ u).heap[g]?=J (Ag #[v0,v1,v2,v3,v4,v5,v6,v7,v8,v9] 39 (0,0))/\(((((((((((X.setCell ⟨g,0,Z⟩ v0).setCell ⟨g,1,Z⟩ v1).setCell ⟨g,2,Z⟩ v2).setCell ⟨g,3,Z⟩ v3).setCell ⟨g,4,Z⟩ v4).setCell ⟨g,5,Z⟩ v5).setCell ⟨g,6,Z⟩ v6).setCell ⟨g,7,Z⟩ v7).setCell ⟨g,8,Z⟩ v8).setCell ⟨g,9,Z⟩ v9).setCell ⟨h,0,Z⟩ u).heap[h]?=J (Ag #[u] 47 (0,0))/\Am B w (((((((((((X.setCell ⟨g,0,Z⟩ v0).setCell ⟨g,1,Z⟩ v1).setCell ⟨g,2,Z⟩ v2).setCell ⟨g,3,Z⟩ v3).setCell ⟨g,4,Z⟩ v4).setCell ⟨g,5,Z⟩ v5).setCell ⟨g,6,Z⟩ v6).setCell ⟨g,7,Z⟩ v7).setCell ⟨g,8,Z⟩ v8).setCell ⟨g,9,Z⟩ v9).setCell ⟨h,0,Z⟩ u) /\
   (((((((((((X.setCell ⟨g,0,Z⟩ v0).setCell ⟨g,1,Z⟩ v1).setCell ⟨g,2,Z⟩ v2).setCell ⟨g,3,Z⟩ v3).setCell ⟨g,4,Z⟩ v4).setCell ⟨g,5,Z⟩ v5).setCell ⟨g,6,Z⟩ v6).setCell ⟨g,7,Z⟩ v7).setCell ⟨g,8,Z⟩ v8).setCell ⟨g,9,Z⟩ v9).setCell ⟨h,0,Z⟩ u).heap.size=X.heap.size/\(∀k,k≠g->k≠h->(((((((((((X.setCell ⟨g,0,Z⟩ v0).setCell ⟨g,1,Z⟩ v1).setCell ⟨g,2,Z⟩ v2).setCell ⟨g,3,Z⟩ v3).setCell ⟨g,4,Z⟩ v4).setCell ⟨g,5,Z⟩ v5).setCell ⟨g,6,Z⟩ v6).setCell ⟨g,7,Z⟩ v7).setCell ⟨g,8,Z⟩ v8).setCell ⟨g,9,Z⟩ v9).setCell ⟨h,0,Z⟩ u).heap[k]?=X.heap[k]?):=by
 have k0:(X.setCell ⟨g,0,Z⟩ v0).heap[g]?=J (Ag #[v0,a1,a2,a3,a4,a5,a6,a7,a8,a9] 39 (0,0)):=Lk _ g 0 _ _ v0 hg;have k1:((X.setCell ⟨g,0,Z⟩ v0).setCell ⟨g,1,Z⟩ v1).heap[g]?=J (Ag #[v0,v1,a2,a3,a4,a5,a6,a7,a8,a9] 39 (0,0)):=Lk _ g 1 _ _ v1 k0;have k2:(((X.setCell ⟨g,0,Z⟩ v0).setCell ⟨g,1,Z⟩ v1).setCell ⟨g,2,Z⟩ v2).heap[g]?=J (Ag #[v0,v1,v2,a3,a4,a5,a6,a7,a8,a9] 39 (0,0)):=Lk _ g 2 _ _ v2 k1;have k3:((((X.setCell ⟨g,0,Z⟩ v0).setCell ⟨g,1,Z⟩ v1).setCell ⟨g,2,Z⟩ v2).setCell ⟨g,3,Z⟩ v3).heap[g]?=J (Ag #[v0,v1,v2,v3,a4,a5,a6,a7,a8,a9] 39 (0,0)):=Lk _ g 3 _ _ v3 k2;have k4:(((((X.setCell ⟨g,0,Z⟩ v0).setCell ⟨g,1,Z⟩ v1).setCell ⟨g,2,Z⟩ v2).setCell ⟨g,3,Z⟩ v3).setCell ⟨g,4,Z⟩ v4).heap[g]?=J (Ag #[v0,v1,v2,v3,v4,a5,a6,a7,a8,a9] 39 (0,0)):=Lk _ g 4 _ _ v4 k3;have k5:((((((X.setCell ⟨g,0,Z⟩ v0).setCell ⟨g,1,Z⟩ v1).setCell ⟨g,2,Z⟩ v2).setCell ⟨g,3,Z⟩ v3).setCell ⟨g,4,Z⟩ v4).setCell ⟨g,5,Z⟩ v5).heap[g]?=J (Ag #[v0,v1,v2,v3,v4,v5,a6,a7,a8,a9] 39 (0,0)):=Lk _ g 5 _ _ v5 k4;have k6:(((((((X.setCell ⟨g,0,Z⟩ v0).setCell ⟨g,1,Z⟩ v1).setCell ⟨g,2,Z⟩ v2).setCell ⟨g,3,Z⟩ v3).setCell ⟨g,4,Z⟩ v4).setCell ⟨g,5,Z⟩ v5).setCell ⟨g,6,Z⟩ v6).heap[g]?=J (Ag #[v0,v1,v2,v3,v4,v5,v6,a7,a8,a9] 39 (0,0)):=Lk _ g 6 _ _ v6 k5
 have k7:((((((((X.setCell ⟨g,0,Z⟩ v0).setCell ⟨g,1,Z⟩ v1).setCell ⟨g,2,Z⟩ v2).setCell ⟨g,3,Z⟩ v3).setCell ⟨g,4,Z⟩ v4).setCell ⟨g,5,Z⟩ v5).setCell ⟨g,6,Z⟩ v6).setCell ⟨g,7,Z⟩ v7).heap[g]?=J (Ag #[v0,v1,v2,v3,v4,v5,v6,v7,a8,a9] 39 (0,0)):=Lk _ g 7 _ _ v7 k6;have k8:(((((((((X.setCell ⟨g,0,Z⟩ v0).setCell ⟨g,1,Z⟩ v1).setCell ⟨g,2,Z⟩ v2).setCell ⟨g,3,Z⟩ v3).setCell ⟨g,4,Z⟩ v4).setCell ⟨g,5,Z⟩ v5).setCell ⟨g,6,Z⟩ v6).setCell ⟨g,7,Z⟩ v7).setCell ⟨g,8,Z⟩ v8).heap[g]?=J (Ag #[v0,v1,v2,v3,v4,v5,v6,v7,v8,a9] 39 (0,0)):=Lk _ g 8 _ _ v8 k7;have k9:((((((((((X.setCell ⟨g,0,Z⟩ v0).setCell ⟨g,1,Z⟩ v1).setCell ⟨g,2,Z⟩ v2).setCell ⟨g,3,Z⟩ v3).setCell ⟨g,4,Z⟩ v4).setCell ⟨g,5,Z⟩ v5).setCell ⟨g,6,Z⟩ v6).setCell ⟨g,7,Z⟩ v7).setCell ⟨g,8,Z⟩ v8).setCell ⟨g,9,Z⟩ v9).heap[g]?=J (Ag #[v0,v1,v2,v3,v4,v5,v6,v7,v8,v9] 39 (0,0)):=Lk _ g 9 _ _ v9 k8
 have l9:=(Lf _ ⟨g,9,Z⟩ v9 h (PO bC)).trans ((Lf _ ⟨g,8,Z⟩ v8 h (PO bC)).trans ((Lf _ ⟨g,7,Z⟩ v7 h (PO bC)).trans ((Lf _ ⟨g,6,Z⟩ v6 h (PO bC)).trans ((Lf _ ⟨g,5,Z⟩ v5 h (PO bC)).trans ((Lf _ ⟨g,4,Z⟩ v4 h (PO bC)).trans ((Lf _ ⟨g,3,Z⟩ v3 h (PO bC)).trans ((Lf _ ⟨g,2,Z⟩ v2 h (PO bC)).trans ((Lf _ ⟨g,1,Z⟩ v1 h (PO bC)).trans ((Lf _ ⟨g,0,Z⟩ v0 h (PO bC)).trans (hh))))))))));refine⟨(Lf _ ⟨h,0,Z⟩ u g bC).trans k9,?_,?_,by simp,fun k n1 n2=>?_⟩
 . rw[Lk _ h 0 _ _ u l9];rfl
 . refine LC (p:=⟨h,0,Z⟩) ?_ h2 _
   refine LC (p:=⟨g,9,Z⟩) ?_ h1 _;refine LC (p:=⟨g,8,Z⟩) ?_ h1 _;refine LC (p:=⟨g,7,Z⟩) ?_ h1 _;refine LC (p:=⟨g,6,Z⟩) ?_ h1 _;refine LC (p:=⟨g,5,Z⟩) ?_ h1 _;refine LC (p:=⟨g,4,Z⟩) ?_ h1 _;refine LC (p:=⟨g,3,Z⟩) ?_ h1 _;refine LC (p:=⟨g,2,Z⟩) ?_ h1 _;refine LC (p:=⟨g,1,Z⟩) ?_ h1 _;refine LC (p:=⟨g,0,Z⟩) ?_ h1 _;exact hB
 refine(Lf _ ⟨h,0,Z⟩ u k n2).trans ?_;refine(Lf _ ⟨g,9,Z⟩ v9 k n1).trans ?_;refine(Lf _ ⟨g,8,Z⟩ v8 k n1).trans ?_;refine(Lf _ ⟨g,7,Z⟩ v7 k n1).trans ?_;refine(Lf _ ⟨g,6,Z⟩ v6 k n1).trans ?_;refine(Lf _ ⟨g,5,Z⟩ v5 k n1).trans ?_;refine(Lf _ ⟨g,4,Z⟩ v4 k n1).trans ?_;refine(Lf _ ⟨g,3,Z⟩ v3 k n1).trans ?_;refine(Lf _ ⟨g,2,Z⟩ v2 k n1).trans ?_;refine(Lf _ ⟨g,1,Z⟩ v1 k n1).trans ?_;exact Lf _ ⟨g,0,Z⟩ v0 k n1
theorem XT(w:Ba)(o:Obj):∃W0,w.alloc o=W0/\W0.heap[w.heap.size]?=J o/\W0.heap.size=w.heap.size+1/\Am w.heap.size w W0:=⟨_,rfl,zx _ _,by simp,zU w _⟩
theorem uV{t:Tk}:∀ {q:Option Cs} {l:List Cs},jj t q l=0->∀c∈l,(c.inp.length:Int)=t.n
 | _,[],_,c,hc=>by cases hc
 | q,d::l,h,c,hc=>by
  rw[jj] at h
  split at h
  . rename_i h1;exact absurd h h1
  . rename_i h1
    rcases LL.1 hc with rfl | hc
    . have h2:qM t q c=0:=by simpa using h1
      unfold qM at h2
      split at h2
      . rename_i h3;exact absurd h2 h3
      . rename_i h3
        have h4:zJ c.inp t.n t.ins=0:=by simpa using h3
        unfold zJ at h4
        split at h4
        . cases h4
        . rename_i h5;simpa using h5
    . exact uV h c hc
theorem ZP{t:Tk}(h:xp t=0):∀c∈t.cases,(c.inp.length:Int)=t.n:=by
 unfold xp at h
 split at h
 . cases h
 split at h
 . cases h
 exact uV (by unfold xC at h;rwa[Ni] at h)
theorem RowX.turnC{α:Type}{C:Ct α}(ok:CtOk C){S:Nat->Prop}{w w':Ba}{g:Nat}{xs:List α}(h:RowX C S w g xs)(hs:w.heap.size<=w'.heap.size)(hc:∀(k:Nat) (o:Obj),w.heap[k]?=J o->o.isCells=Au->w'.heap[k]?=J o):RowX C S w' g xs:=by
 obtain⟨iu,h1,h2⟩:=h;refine⟨iu,hc _ _ h1 rfl,fun i hi=>?_⟩;obtain⟨cs,h3,h4⟩:=h2 i hi;exact⟨cs,ok.keepC h3 (KeepC.of_cells _ hs hc),h4⟩
theorem OwnV.of_same{w w':Ba}{ab:Nat}{v:Ar}{vs:List Vw}(h:OwnV w ab v vs)(hk:∀k,v.ownBlock=J k->w'.heap[k]?=w.heap[k]?):OwnV w' ab v vs:=by
 refine⟨h.1,?_⟩;rcases h.2 with hn | ⟨g,cap,cur,hv,hb,hg,rest⟩
 . exact .inl hn
 exact .inr ⟨g,cap,cur,hv,hb,(hk g (by rw[hv];rfl)).trans hg,rest⟩
def RetSys(r:Sy×Int)(w:Ba)(e:Ending)(w':Ba):Prop:=∃A kc SV ks AV kv AX kx,e=Ak (.tuple #[.agg (r.1.vs_ A kc SV ks AV kv AX kx),O U r.2])/\SyAt w' w'.heap.size A SV AV AX r.1/\r.1.vs.length<=kv/\kv<=maxLen/\Am w.heap.size w w'
theorem RetSys.zero{w W:Ba}(n:Int)(h:Am w.heap.size w W):RetSys (qo,n) w (Ak (.tuple #[Ai #[O U 0,O U 0,O U 0,I Z 0 0,O U 0,I Z 0 0,O U 0,O U 0,I Z 0 0,I Z 0 0],O U n])) W:=
 ⟨Z,0,Z,0,Z,0,Z,0,rfl,⟨CAt.nil _ _ _,SAt.nil _ _ _,fun h=>absurd h (by simp[qo]),XAt.nil _ _ _⟩,Ld _,Nz _,h⟩
def RetSysF(L0 B0:Nat)(r:Sy×Int)(w:Ba)(e:Ending)(w':Ba):Prop:=∃A kc SV ks AV kv AX kx,e=Ak (.tuple #[.agg (r.1.vs_ A kc SV ks AV kv AX kx),O U r.2]) /\
 (∀W':Ba,w'.heap.size<=W'.heap.size->(∀k,((L0<=k/\k<B0)\/w.heap.size<=k)->k<w'.heap.size->W'.heap[k]?=w'.heap[k]?)->SyAt W' W'.heap.size A SV AV AX r.1)/\r.1.vs.length<=kv/\kv<=maxLen/\Am w.heap.size w w'
theorem RetSysF.zero{L0 B0:Nat}{w W:Ba}(n:Int)(h:Am w.heap.size w W):RetSysF L0 B0 (qo,n) w (Ak (.tuple #[Ai #[O U 0,O U 0,O U 0,I Z 0 0,O U 0,I Z 0 0,O U 0,O U 0,I Z 0 0,I Z 0 0],O U n])) W:=
 ⟨Z,0,Z,0,Z,0,Z,0,rfl,fun W' _ _=>⟨CAt.nil _ _ _,SAt.nil _ _ _,fun h=>absurd h (by simp[qo]),XAt.nil _ _ _⟩,Ld _,Nz _,h⟩
theorem RetSysF.sys{L0 B0:Nat}{r:Sy×Int}{w W:Ba}{e:Ending}(h:RetSysF L0 B0 r w e W):RetSys r w e W:=by
 obtain⟨A,kc,SV,ks,AV,kv,AX,kx,he,h1,h2,h3,h4⟩:=h;exact⟨A,kc,SV,ks,AV,kv,AX,kx,he,h1 W (Ld _) (fun _ _ _=>rfl),h2,h3,h4⟩
theorem buildL_any(p:Pb)(hf:xu p)(A:Bb)(kc:Nat)(SV:Bb)(ks:Nat)(w:Ba)(L0 B0:Nat)(dl:B0<=w.heap.size)(M7:CAt w B0 A p.t.cases)(MJ:SAt w B0 SV p.a.sts)(GN:CAtL L0 B0 w A p.t.cases)(Gz:SAtL L0 B0 w SV p.a.sts) :
  An Al 31 #[.agg (p.vs A kc SV ks)] w (RetSysF L0 B0 (zT p) w):=by
 have hA:=M7.more dl;have hS:=MJ.more dl;have TS:=zH GN;have EE:=zH Gz;clear GN Gz M7 MJ;have Bh:=zH (fun (W:Ba) (h1:CAt W W.heap.size A p.t.cases) (h2:SAt W W.heap.size SV p.a.sts)=>ecount_any p hf.1 A kc SV ks W h1 h2);have aq:=zH (@xm p);have am:=zH (@xA p);have aM:=zH (@qy p);have cd:=zH hf;obtain⟨w1,ae,d0,d1,d2,bL,lN⟩:=jr w (p.vs A kc SV ks) #[O U 0,O U 0,O U 0,I Z 0 0,O U 0,I Z 0 0,O U 0,O U 0,I Z 0 0,I Z 0 0] #[O U 0] 29 39 47;have HA:=zH hA;have HS:=zH hS;have eS:=zH lN;have dU:=zH d0;have eQ:=zH d1;have mi:=zH d2;have OZ:=Bh.out w1 ((hA.keep lN).more lN.size) ((hS.keep lN).more lN.size);have OZ:=zH OZ;unfold Pb.vs at ae d0 OZ ⊢;obtain⟨q0,q1,q2,q3,q4,q5,q6,_⟩:=Kg d0;have ak:=zH ae;clear ae d0 d1 d2 lN hA hS hf Bh;refine yr func31 rfl ?_;simp only[ntmps31,List.size_toArray,List.length_cons,List.length_nil,Nat.reduceAdd,Nat.reduceSub,Array.replicate_succ,Array.replicate_zero,List.push_toArray,List.append_toArray,List.nil_append,List.cons_append];go_wp2_with fail;rw[ak.out];go_wp2_with fail;refine OZ.out.mono ?_;rintro e w2 ⟨rfl,ah⟩;clear OZ ak q0 q1 q2 q3 q4 q5 q6;have D0:=zH (La ah dU.out);have D1:=zH (La ah eQ.out);have D2:=zH (La ah mi.out);have B2:=zH (eS.out.trans (ah.mono (by omega)));have eZ:=ah.size;clear ah
 by_cases nH:zV p=0
 case neg=>
  have oD:um p=(0,zV p):=Lj nH;rw[oD,aq.out nH];have e0:(zV p != 0)=Au:=by simpa using nH
  obtain⟨pe,KQ⟩:=Kk (zV p);rw[KQ] at e0 ⊢;have x0:w2.cell? ⟨w.heap.size+1,0,Z⟩=J (O U 0):=zh D1.out 0 rfl;have f0:=zi D1.out 0;have x1:w2.cell? ⟨w.heap.size+1,1,Z⟩=J (O U 0):=zh D1.out 1 rfl;have f1:=zi D1.out 1;have x2:w2.cell? ⟨w.heap.size+1,2,Z⟩=J (O U 0):=zh D1.out 2 rfl;have f2:=zi D1.out 2;have x3:w2.cell? ⟨w.heap.size+1,3,Z⟩=J (I Z 0 0):=zh D1.out 3 rfl;have f3:=zi D1.out 3;have x4:w2.cell? ⟨w.heap.size+1,4,Z⟩=J (O U 0):=zh D1.out 4 rfl;have f4:=zi D1.out 4;have x5:w2.cell? ⟨w.heap.size+1,5,Z⟩=J (I Z 0 0):=zh D1.out 5 rfl;have f5:=zi D1.out 5;have x6:w2.cell? ⟨w.heap.size+1,6,Z⟩=J (O U 0):=zh D1.out 6 rfl;have f6:=zi D1.out 6;have x7:w2.cell? ⟨w.heap.size+1,7,Z⟩=J (O U 0):=zh D1.out 7 rfl;have f7:=zi D1.out 7;have x8:w2.cell? ⟨w.heap.size+1,8,Z⟩=J (I Z 0 0):=zh D1.out 8 rfl;have f8:=zi D1.out 8;have x9:w2.cell? ⟨w.heap.size+1,9,Z⟩=J (I Z 0 0):=zh D1.out 9 rfl;have f9:=zi D1.out 9;have y0:w2.cell? ⟨w.heap.size+1+1,0,Z⟩=J (O U 0):=zh D2.out 0 rfl;have g0:=zi D2.out 0;go_wp2_with fail;obtain⟨k1,k2,k3,_,_⟩:=vg (O U 0) (O U 0) (O U 0) (I Z 0 0) (O U 0) (I Z 0 0) (O U 0) (O U 0) (I Z 0 0) (I Z 0 0) (O U pe) D1.out D2.out (by omega) B2.out (by omega:w.heap.size<=w.heap.size+1) (by omega:w.heap.size<=w.heap.size+1+1);refine xj (B:=w.heap.size) (Marks.nil _ _) ?_
  intro W hX;have c0:W.cell? ⟨w.heap.size+1,0,Z⟩=J (O U 0):=hX.cell (zh k1 0 rfl);have c1:W.cell? ⟨w.heap.size+1,1,Z⟩=J (O U 0):=hX.cell (zh k1 1 rfl);have c2:W.cell? ⟨w.heap.size+1,2,Z⟩=J (O U 0):=hX.cell (zh k1 2 rfl);have c3:W.cell? ⟨w.heap.size+1,3,Z⟩=J (I Z 0 0):=hX.cell (zh k1 3 rfl);have c4:W.cell? ⟨w.heap.size+1,4,Z⟩=J (O U 0):=hX.cell (zh k1 4 rfl);have c5:W.cell? ⟨w.heap.size+1,5,Z⟩=J (I Z 0 0):=hX.cell (zh k1 5 rfl);have c6:W.cell? ⟨w.heap.size+1,6,Z⟩=J (O U 0):=hX.cell (zh k1 6 rfl);have c7:W.cell? ⟨w.heap.size+1,7,Z⟩=J (O U 0):=hX.cell (zh k1 7 rfl);have c8:W.cell? ⟨w.heap.size+1,8,Z⟩=J (I Z 0 0):=hX.cell (zh k1 8 rfl);have c9:W.cell? ⟨w.heap.size+1,9,Z⟩=J (I Z 0 0):=hX.cell (zh k1 9 rfl);have CY:W.cell? ⟨w.heap.size+1+1,0,Z⟩=J (O U pe):=hX.cell (zh k2 0 rfl);have hR:=RetSysF.zero (L0:=L0) (B0:=B0) pe (k3.trans hX.below);rw[aq.out nH,KQ];exact⟨_,by simp[results,results31,go_sem,c0,c1,c2,c3,c4,c5,c6,c7,c8,c9,CY],hR⟩
 case pos=>
 have oD:um p=vz 1048576 (yh p):=Lg (by simpa using nH);rw[oD]
 by_cases hT:4096<yh p
 case pos=>
  have HB:=zH (am.out nH hT)
  by_cases Gw:1048576<yh p
  case pos=>
   have nM:vz 1048576 (yh p)=(0,17):=Lj Gw;rw[nM];clear aq am aM oD hT Gw nM cd nH;have x0:w2.cell? ⟨w.heap.size+1,0,Z⟩=J (O U 0):=zh D1.out 0 rfl;have f0:=zi D1.out 0;have x1:w2.cell? ⟨w.heap.size+1,1,Z⟩=J (O U 0):=zh D1.out 1 rfl;have f1:=zi D1.out 1;have x2:w2.cell? ⟨w.heap.size+1,2,Z⟩=J (O U 0):=zh D1.out 2 rfl;have f2:=zi D1.out 2;have x3:w2.cell? ⟨w.heap.size+1,3,Z⟩=J (I Z 0 0):=zh D1.out 3 rfl;have f3:=zi D1.out 3;have x4:w2.cell? ⟨w.heap.size+1,4,Z⟩=J (O U 0):=zh D1.out 4 rfl;have f4:=zi D1.out 4;have x5:w2.cell? ⟨w.heap.size+1,5,Z⟩=J (I Z 0 0):=zh D1.out 5 rfl;have f5:=zi D1.out 5;have x6:w2.cell? ⟨w.heap.size+1,6,Z⟩=J (O U 0):=zh D1.out 6 rfl;have f6:=zi D1.out 6;have x7:w2.cell? ⟨w.heap.size+1,7,Z⟩=J (O U 0):=zh D1.out 7 rfl;have f7:=zi D1.out 7;have x8:w2.cell? ⟨w.heap.size+1,8,Z⟩=J (I Z 0 0):=zh D1.out 8 rfl;have f8:=zi D1.out 8;have x9:w2.cell? ⟨w.heap.size+1,9,Z⟩=J (I Z 0 0):=zh D1.out 9 rfl;have f9:=zi D1.out 9;have y0:w2.cell? ⟨w.heap.size+1+1,0,Z⟩=J (O U 0):=zh D2.out 0 rfl;have g0:=zi D2.out 0;go_wp2_with fail
   obtain⟨k1,k2,k3,_,_⟩:=vg (O U 0) (O U 0) (O U 0) (I Z 0 0) (O U 0) (I Z 0 0) (O U 0) (O U 0) (I Z 0 0) (I Z 0 0) (O U 17) D1.out D2.out (by omega) B2.out (by omega:w.heap.size<=w.heap.size+1) (by omega:w.heap.size<=w.heap.size+1+1);refine xj (B:=w.heap.size) (Marks.nil _ _) ?_;intro W hX;have c0:W.cell? ⟨w.heap.size+1,0,Z⟩=J (O U 0):=hX.cell (zh k1 0 rfl);have c1:W.cell? ⟨w.heap.size+1,1,Z⟩=J (O U 0):=hX.cell (zh k1 1 rfl);have c2:W.cell? ⟨w.heap.size+1,2,Z⟩=J (O U 0):=hX.cell (zh k1 2 rfl);have c3:W.cell? ⟨w.heap.size+1,3,Z⟩=J (I Z 0 0):=hX.cell (zh k1 3 rfl);have c4:W.cell? ⟨w.heap.size+1,4,Z⟩=J (O U 0):=hX.cell (zh k1 4 rfl);have c5:W.cell? ⟨w.heap.size+1,5,Z⟩=J (I Z 0 0):=hX.cell (zh k1 5 rfl);have c6:W.cell? ⟨w.heap.size+1,6,Z⟩=J (O U 0):=hX.cell (zh k1 6 rfl);have c7:W.cell? ⟨w.heap.size+1,7,Z⟩=J (O U 0):=hX.cell (zh k1 7 rfl);have c8:W.cell? ⟨w.heap.size+1,8,Z⟩=J (I Z 0 0):=hX.cell (zh k1 8 rfl);have c9:W.cell? ⟨w.heap.size+1,9,Z⟩=J (I Z 0 0):=hX.cell (zh k1 9 rfl);have CY:W.cell? ⟨w.heap.size+1+1,0,Z⟩=J (O U 17):=hX.cell (zh k2 0 rfl);have hR:=RetSysF.zero (L0:=L0) (B0:=B0) 17 (k3.trans hX.below);rw[HB.out];exact⟨_,by simp[results,results31,go_sem,c0,c1,c2,c3,c4,c5,c6,c7,c8,c9,CY],hR⟩
  have nM:vz 1048576 (yh p)=((yh p:Int),0):=Lg Gw;rw[nM];obtain⟨T,sC⟩:=Kk (yh p);rw[sC] at hT Gw ⊢;have Wg:(4096:Int)<(T:Int):=by omega
  clear aq am aM oD nM cd nH sC;have x0:w2.cell? ⟨w.heap.size+1,0,Z⟩=J (O U 0):=zh D1.out 0 rfl;have f0:=zi D1.out 0;have x1:w2.cell? ⟨w.heap.size+1,1,Z⟩=J (O U 0):=zh D1.out 1 rfl;have f1:=zi D1.out 1;have x2:w2.cell? ⟨w.heap.size+1,2,Z⟩=J (O U 0):=zh D1.out 2 rfl;have f2:=zi D1.out 2;have x3:w2.cell? ⟨w.heap.size+1,3,Z⟩=J (I Z 0 0):=zh D1.out 3 rfl;have f3:=zi D1.out 3;have x4:w2.cell? ⟨w.heap.size+1,4,Z⟩=J (O U 0):=zh D1.out 4 rfl;have f4:=zi D1.out 4;have x5:w2.cell? ⟨w.heap.size+1,5,Z⟩=J (I Z 0 0):=zh D1.out 5 rfl;have f5:=zi D1.out 5;have x6:w2.cell? ⟨w.heap.size+1,6,Z⟩=J (O U 0):=zh D1.out 6 rfl;have f6:=zi D1.out 6;have x7:w2.cell? ⟨w.heap.size+1,7,Z⟩=J (O U 0):=zh D1.out 7 rfl;have f7:=zi D1.out 7;have x8:w2.cell? ⟨w.heap.size+1,8,Z⟩=J (I Z 0 0):=zh D1.out 8 rfl;have f8:=zi D1.out 8;have x9:w2.cell? ⟨w.heap.size+1,9,Z⟩=J (I Z 0 0):=zh D1.out 9 rfl;have f9:=zi D1.out 9;have y0:w2.cell? ⟨w.heap.size+1+1,0,Z⟩=J (O U 0):=zh D2.out 0 rfl;have g0:=zi D2.out 0;go_wp2_with fail;obtain⟨k1,k2,k3,_,_⟩:=vg (O U 0) (O U 0) (O U 0) (I Z 0 0) (O U 0) (I Z 0 0) (O U 0) (O U 0) (I Z 0 0) (I Z 0 0) (O U 17) D1.out D2.out (by omega) B2.out (by omega:w.heap.size<=w.heap.size+1) (by omega:w.heap.size<=w.heap.size+1+1);refine xj (B:=w.heap.size) (Marks.nil _ _) ?_
  intro W hX;have c0:W.cell? ⟨w.heap.size+1,0,Z⟩=J (O U 0):=hX.cell (zh k1 0 rfl);have c1:W.cell? ⟨w.heap.size+1,1,Z⟩=J (O U 0):=hX.cell (zh k1 1 rfl);have c2:W.cell? ⟨w.heap.size+1,2,Z⟩=J (O U 0):=hX.cell (zh k1 2 rfl);have c3:W.cell? ⟨w.heap.size+1,3,Z⟩=J (I Z 0 0):=hX.cell (zh k1 3 rfl);have c4:W.cell? ⟨w.heap.size+1,4,Z⟩=J (O U 0):=hX.cell (zh k1 4 rfl);have c5:W.cell? ⟨w.heap.size+1,5,Z⟩=J (I Z 0 0):=hX.cell (zh k1 5 rfl);have c6:W.cell? ⟨w.heap.size+1,6,Z⟩=J (O U 0):=hX.cell (zh k1 6 rfl);have c7:W.cell? ⟨w.heap.size+1,7,Z⟩=J (O U 0):=hX.cell (zh k1 7 rfl);have c8:W.cell? ⟨w.heap.size+1,8,Z⟩=J (I Z 0 0):=hX.cell (zh k1 8 rfl);have c9:W.cell? ⟨w.heap.size+1,9,Z⟩=J (I Z 0 0):=hX.cell (zh k1 9 rfl);have CY:W.cell? ⟨w.heap.size+1+1,0,Z⟩=J (O U 17):=hX.cell (zh k2 0 rfl);have hR:=RetSysF.zero (L0:=L0) (B0:=B0) 17 (k3.trans hX.below);rw[HB.out];exact⟨_,by simp[results,results31,go_sem,c0,c1,c2,c3,c4,c5,c6,c7,c8,c9,CY],hR⟩
 case neg=>
 have nM:vz 1048576 (yh p)=((yh p:Int),0):=Lg (by omega);rw[nM];have HB:=zH (aM.out nH (by omega));have mP:yh p<=60:=by have:=cd.out.2 nH;omega
 obtain⟨nG,sX,lJ,tK,FO⟩:=yg nH;obtain⟨K,hK⟩:=Ls tK;obtain⟨sx,dG,lp⟩:=xg nG;have MU:K<=6:=by omega
 have sw:yh p=yf p.a K 0*p.t.cases.length:=by unfold yh;rw[hK];rfl
 have Gj:yf p.a K 0<=60:=by
  have:=Ro (yf p.a K 0) sx;omega
 have mN:=B2.out;have HWO:=zH (words_any p.a cd.out.1.2 sX K (by omega) (by omega) SV ks w2 ((HS.out.keep mN).more mN.size));have pg:=zH hK;obtain⟨T,sC⟩:=Kk (yh p);rw[sC] at mP sw ⊢;have f':=zH sC;have OW:=zH sw;have Wg:¬(4096:Int)<(T:Int):=by omega
 have q4:=zh D0.out 4 rfl;have q5:=zh D0.out 5 rfl;have q6:w2.cell? ⟨w.heap.size,6,Z⟩=J (O U (K:Int)):=by rw[<-hK];exact zh D0.out 6 rfl
 obtain⟨N,hN⟩:=Ls (show 0<=p.t.n by omega);have ee:=zH hN;have nX:=zH sX;have C6:=zH lJ;have HTI:=zH (ZP nG);clear aq am aM oD nM hT sC sw hK nH nG sX lJ tK FO mN hN;go_wp2_with fail;refine HWO.out.mono ?_;rintro e w3 ⟨AW,cw,rfl,nP,al⟩;clear q4 q5 q6 HWO;have nD:=al.size;have D03:=zH (La al D0.out);have D13:=zH (La al D1.out);have D23:=zH (La al D2.out);have B3:=zH (B2.out.trans (al.mono (by omega)));have fI:=zH nP;have aw:=(xq cd.out.1.2 nX.out).2.1;have HCP:=zH (copied_any p cd.out.1 sx aw A kc SV ks w3 L0 B0 (Lr dl B3.out.size) (TS.out.keep (B3.out.mono dl)) (EE.out.keep (B3.out.mono dl)));unfold Pb.vs at HCP;obtain⟨q0,q1,q2,q3,q4,q5,q6,_⟩:=Kg D03.out;clear al nP D0 D1 D2 B2;go_wp2_with fail;refine HCP.out.mono ?_;rintro e w4 ⟨g4,Br,Tc,Bp,rfl,hA4,hS4,It,hgm4,aP⟩;obtain⟨A4,GM⟩:∃A4:Bb,A4=J ⟨g4,0,Z⟩:=⟨_,rfl⟩;obtain⟨BH,Gy⟩:∃S4:Bb,S4=J ⟨Tc,0,Z⟩:=⟨_,rfl⟩;rw[<-GM,<-Gy];have HA4e:=zH GM;have HS4e:=zH Gy;clear GM Gy;have FF:=aP.size;have Bm:=zH (La aP D03.out);have T0:=zH (La aP D13.out);have D24:=zH (La aP D23.out);have B4:=zH (B3.out.trans (aP.mono (by omega)));have Hp:=zH hA4;have rn:=zH hS4;have iI:=zH ((fI.out.keep aP).more aP.size);unfold Pb.vs
 have p0:w4.cell? ⟨w.heap.size,0,Z⟩=J (O U p.t.n):=zh Bm.out 0 rfl;have p1:w4.cell? ⟨w.heap.size,1,Z⟩=J (O U p.t.ins):=zh Bm.out 1 rfl;have p2:w4.cell? ⟨w.heap.size,2,Z⟩=J (O U p.t.outs):=zh Bm.out 2 rfl;have p3:w4.cell? ⟨w.heap.size,3,Z⟩=J (I A p.t.cases.length kc):=zh Bm.out 3 rfl;have p4:w4.cell? ⟨w.heap.size,4,Z⟩=J (O U p.a.n):=zh Bm.out 4 rfl;have p5:w4.cell? ⟨w.heap.size,5,Z⟩=J (I SV p.a.sts.length ks):=zh Bm.out 5 rfl;have p6:w4.cell? ⟨w.heap.size,6,Z⟩=J (O U p.k):=zh Bm.out 6 rfl;have ip:w.heap.size<w4.heap.size:=by omega
 clear hA4 hS4 aP q0 q1 q2 q3 q4 q5 q6 HCP D03 D13 D23 fI;have lZ:=@run_makeMap Al;have ec:w.heap.size<w4.heap.size+1:=by omega
 have fj:w.heap.size<w4.heap.size+1+1:=by omega
 have sT:w.heap.size<w4.heap.size+1+1+1:=by omega
 have oy:w.heap.size<w4.heap.size+1+1+1+1:=by omega
 go_wp2_with fail;obtain⟨W5,iG,x5,cZ,lO⟩:=XT w4 (Ag #[O U p.t.n,O U p.t.ins,O U p.t.outs,I A4 p.t.cases.length Br,O U p.a.n,I BH p.a.sts.length Bp,O U p.k,O U 0,I Z 0 0,I Z 0 0] 39);rw[iG];obtain⟨W6,pA,x6,fU,lc⟩:=XT W5 (.map #[] 0);rw[pA];obtain⟨W7,pz,x7,fq,M4⟩:=XT W6 (Ag #[O U p.t.n,I Z 0 0,.map (J (w4.heap.size+1))] 120);rw[pz];obtain⟨W8,hW8,x8,nc,IL⟩:=XT W7 (Ag #[Aj (J ⟨w4.heap.size+1+1,0,Z⟩)] 117);rw[hW8];have s':MapOf (fun v:Vw=>.agg v.cells) W6 W5.heap.size 0 (uJ []):=by rw[<-pA,numF_nil];exact MapOf.made W5
 have CR:Am w4.heap.size w4 W8:=lO.trans ((lc.mono (by omega)).trans ((M4.mono (by omega)).trans (IL.mono (by omega))));have D08:=zH (Lb CR (by omega) Bm.out);clear iG pA pz hW8 lZ p0 p1 p2 p3 p4 p5 p6 ec fj sT oy;have DV:=execs_any p A kc SV ks AW (zI p.a K 0).length cw W8;unfold Pb.vs at DV;refine DV.mono ?_;rintro e W9 ⟨rfl,tf⟩;have po:W9.heap.size=w4.heap.size+6:=by rw[<-tf];simp;omega
 have sF:Am W8.heap.size W8 W9:=by rw[<-tf];exact un W8 _ _
 have CR:Am w4.heap.size w4 W8:=lO.trans ((lc.mono (by omega)).trans ((M4.mono (by omega)).trans (IL.mono (by omega))));have CQ:Am w4.heap.size w4 W9:=CR.trans (sF.mono (by omega));have UY:W9.heap[W8.heap.size]?=J (Ag (p.vs A kc SV ks) 29 (0,0)):=by rw[<-tf];exact xa (zx W8 _) _
 have Ie:W9.heap[W8.heap.size+1]?=J (Ag #[.slice AW (zI p.a K 0).length cw] 113 (0,0)):=by
  rw[<-tf];have:=zx (W8.alloc (Ag (p.vs A kc SV ks) 29)) (Ag #[.slice AW (zI p.a K 0).length cw] 113);rwa[NM] at this
 have y5:=Lb sF (by omega) (Lb IL (by omega) (Lb M4 (by omega) (Lb lc (by omega) x5)));have y7:=Lb sF (by omega) (Lb IL (by omega) x7);have y8:=Lb sF (by omega) x8;have ym:=((s'.same (M4.block _ (by omega))).same (IL.block _ (by omega))).same (sF.block _ (by omega));rw[cZ] at ym;rw[fU,cZ] at y7;rw[fq,fU,cZ] at y8;have Tn:=zH y8;have HP9:=zH UY;have h8e:W8.heap.size=w4.heap.size+1+1+1+1:=by omega
 -- the words' slices
 obtain⟨sl,mz⟩:∃sl:Nat->Ar,sl=fun j=>match AW with | some ad=>(w4.cell? ⟨ad.block,ad.off+j,Z⟩).getD undef | none=>undef:=⟨_,rfl⟩
 have HSL:Aq (∀(j:Nat) (hj:j<(zI p.a K 0).length),∃A' c,sl j=.slice A' (zI p.a K 0)[j].length c/\RAt w4 w4.heap.size A' (zI p.a K 0)[j]):=fun j hj=>by
  obtain⟨b,off,A',c,e,_,hc,hr⟩:=iI.out.at_ j hj;subst e;refine⟨A',c,?_,hr⟩;rw[mz];show(w4.cell? ⟨b,off+j,Z⟩).getD undef=_;rw[hc];rfl
 have rc:SlAt w4 w4.heap.size AW (zI p.a K 0).length sl:=fun j hj=>by
  obtain⟨b,off,A',c,e,hb,hc,hr⟩:=iI.out.at_ j hj;subst e;refine⟨b,off,rfl,hb,?_⟩;rw[mz];show _=J ((w4.cell? ⟨b,off+j,Z⟩).getD undef);rw[hc];rfl
 have Dv:(zI p.a K 0).length<=60:=by rw[yK];exact Gj
 have ib:=zH (Jl (p.vs A kc SV ks) p.t.cases.length cd.out.1.1.1 A kc rfl AW (zI p.a K 0).length cw (by omega) sl w4.heap.size W8.heap.size (W8.heap.size+1) W9 UY Ie (rc.same fun k hk=>CQ.block k hk) CQ.size);obtain⟨SC,Gx⟩:∃SC:Ar->Array Ar,SC=fun E=>#[O U p.t.n,O U p.t.ins,O U p.t.outs,I A4 p.t.cases.length Br,O U p.a.n,I BH p.a.sts.length Bp,O U p.k,O U 0,I Z 0 0,E]:=⟨_,rfl⟩
 have H0:Aq (BlIn p W9.heap.size w4.heap.size (w4.heap.size+1+1) (w4.heap.size+1) w4.heap.size SC W9 [] (I Z 0 0) (I Z 0 0) W9):=
  ⟨Wrote.refl _ _,⟨y7,⟨0,ym⟩,OwnV.nil _ _,fun k e=>(by cases e),by omega,by omega,by omega⟩,by rw[Gx];exact y5,OwnX.nil _ _ _ _,fun k e=>(by cases e)⟩
 have cX:Aq (BlB W9.heap.size w4.heap.size (w4.heap.size+1+1) (w4.heap.size+1) w4.heap.size W9):=⟨rfl,by omega,by omega,by omega,⟨by omega,by omega,by omega⟩,by omega,by omega⟩;have tj:=zH Gx;have Hn:=zH CQ;have Oz:=zH Ie;clear DV tf sF CR CQ UY Ie y5 y7 y8 ym mz rc Gx s' x5 x6 x7 x8 lO lc M4 IL;rw[h8e];rw[h8e] at ib HP9 Oz;go_wp2_with fail
 refine ut rfl (NC func91 (by kernel_rfl) rfl) ib.out (by rintro k (h | rfl | rfl)<;>omega) (fun _=>rfl)
  (fun (pre:List { x:Nat×Nat // x∈zu (zI p.a K 0).length 0 p.t.cases.length }) (X:Ba)=>∃V E,BlIn p W9.heap.size w4.heap.size (w4.heap.size+1+1) (w4.heap.size+1) w4.heap.size SC W9 (vu (zI p.a K 0) (pre.map (·.1))) V E X)
  (fun _ _ _=>False) ?hI (fun _ _ _ _ _ h _ _=>h) ⟨_,_,H0.out⟩ ?a1 ?assign ?body ?done ?stop
 case hI=>
  rintro s X X' row ⟨V,E,h⟩ hg hr;exact⟨V,E,h.turn cX.out hg hr⟩
 case assign=>
  intro l x X K' hK;gi_wp2;exact hK
 case body=>
  rintro l pre x X ⟨V,E,hI⟩ ac;obtain⟨iT,sS,So⟩:=xW _ _ _ x.2;have oW:=Hn.out;have nN:=hI.bel cX.out;have aO:Am w.heap.size w X:=B4.out.trans ((oW.trans nN).mono (by omega));have hM:x.1.1<p.t.cases.length:=by omega
  obtain⟨bc,oc,A0,c0,A1,c1,A2,c2,eA,hbc,i0,_,_,I0,_,_⟩:=(HA.out.keep aO).row x.1.1 hM;subst eA;obtain⟨AL,cl_,esl,Wl⟩:=HSL.out x.1.2 So;have oJ:=Le (l:=zI p.a K 0) So;have i5:(zI p.a K 0).getD x.1.2 []=(zI p.a K 0)[x.1.2]:=by rw[Lh,Lm So];rfl
  have tV:yy p x.1.1=p.t.cases[x.1.1].inp:=by unfold yy;rw[Lh,Lm hM];rfl
  obtain⟨word,mY⟩:=Kk ((zI p.a K 0)[x.1.2]);rw[mY] at esl Wl oJ i5;have pm:=xv p.a K 0 word oJ;have HWM:=zH (jp p.a K 0 word oJ);obtain⟨AV,kv,rfl⟩:=hI.bd.own.lit;obtain⟨AE,ke,rfl,_,_,_⟩:=hI.out.form zS;have ry:=zH hI;have aN:(vu (zI p.a K 0) (pre.map (·.1))).length=pre.length:=by simp[vu]
  have sv:=ZZ p (by omega) (vu (zI p.a K 0) (pre.map (·.1))) (fun y hy=>by
   obtain⟨z,hz,rfl⟩:=LZ.1 hy;obtain⟨z2,ep,rfl⟩:=LZ.1 hz;have h2:=(xW _ _ _ z2.2).2.2;have e2:(zI p.a K 0).getD z2.1.2 []=(zI p.a K 0)[z2.1.2]:=by rw[Lh,Lm h2];rfl
   show((zI p.a K 0).getD z2.1.2 []).length<=6;rw[e2,xv p.a K 0 _ (Le h2)]
   exact MU)
  rw[aN] at sv
  have Cv:pre.length<60:=by
   have h6:(zu (zI p.a K 0).length 0 p.t.cases.length).length<=60:=by
    rw[jU,yK,PA];have:=OW.out;omega
   omega
  obtain⟨PL,Wq⟩:=Kk (vu (zI p.a K 0) (pre.map (·.1)));have OB:=zH Wq;rw[Wq] at hI ry sv aN;have hD9:=hI.big cX.out;have e7:X.cell? ⟨w4.heap.size,9,Z⟩=J (.slice AE (zE p PL).2.length ke):=zh hI.sys 9 (by rw[tj.out];rfl);have f7:=zi hI.sys 9;have e8:X.cell? ⟨w4.heap.size+1+1+1,0,Z⟩=J (Aj (J ⟨w4.heap.size+1+1,0,Z⟩)):=zh ((hI.same cX.out (by omega) (by omega) (by omega) (by omega)).trans Tn.out) 0 rfl;have e3:X.cell? ⟨w.heap.size,3,Z⟩=J (I (J ⟨bc,oc,Z⟩) p.t.cases.length kc):=zh (Lb nN (by omega) (Lb oW (by omega) Bm.out)) 3 rfl;have WD:((x.1.1:Nat):Int)<(p.t.cases.length:Int):=by omega
  have nR:(0:Int)<=((x.1.1:Nat):Int):=by omega
  have ai:Aq (∀W,Am X.heap.size X W->W.cell? ⟨w4.heap.size,9,Z⟩=J (.slice AE (zE p PL).2.length ke)/\W.cell? ⟨w4.heap.size+1+1+1,0,Z⟩=J (Aj (J ⟨w4.heap.size+1+1,0,Z⟩))/\W.cell? ⟨w.heap.size,3,Z⟩=J (I (J ⟨bc,oc,Z⟩) p.t.cases.length kc)/\W.cell? ⟨bc,oc+x.1.1*3,Z⟩=J (I A0 p.t.cases[x.1.1].inp.length c0)):=fun W hW=>
   ⟨(hW.cell (p:=⟨w4.heap.size,9,Z⟩) (by show w4.heap.size<_;omega)).trans e7,(hW.cell (p:=⟨w4.heap.size+1+1+1,0,Z⟩) (by show w4.heap.size+1+1+1<_;omega)).trans e8,(hW.cell (p:=⟨w.heap.size,3,Z⟩) (by show w.heap.size<_;omega)).trans e3,(hW.cell (p:=⟨bc,_,Z⟩) (by show bc<_;omega)).trans i0⟩
  have OV:=zH sv;have On:=zH pm;have HGD:=zH i5;have HINP:=zH tV;have Hi:=zH I0;have eo:=zH Wl;have aY:=zH nN;clear hI nN aO i5 tV pm sv aN mY oJ I0 Wl Wq
  try dsimp only
  rw[esl];gi_wp2_with fail
  refine zX [(0,Au),(1,Au),(2,Au),(3,Au),(5,Au),(6,Au),(7,Au),(8,Au),(9,Au),(10,Au),(11,Au),(12,Au),(13,Au),(4,Aw),(14,Aw),(15,Aw),(16,Aw),(17,Aw),(18,Aw),(19,Aw)]
   (fun W=>W.cell? ⟨w4.heap.size,9,Z⟩=J (.slice AE (zE p PL).2.length ke)/\W.cell? ⟨w4.heap.size+1+1+1,0,Z⟩=J (Aj (J ⟨w4.heap.size+1+1,0,Z⟩))/\W.cell? ⟨w.heap.size,3,Z⟩=J (I (J ⟨bc,oc,Z⟩) p.t.cases.length kc)/\W.cell? ⟨bc,oc+x.1.1*3,Z⟩=J (I A0 p.t.cases[x.1.1].inp.length c0))
   (by kernel_rfl) (by kernel_rfl) (by kernel_rfl) (by rintro⟨_,_,h⟩;exact h) (ai.out _ (Li _ _).drew) ?_
  clear e7 e8 e3 i0
  repeat
   apply zj rfl
   . rintro K' aa W ⟨y0,y1,y2,y3⟩
     go_simp;exact aa
  have IF:RAt X w4.heap.size AL word:=eo.out.keep (Hn.out.trans aY.out)
  -- the word's copy
  refine zn rfl ?_;intro K' aa;go_simp;refine(Xw AL word.length cl_ (yR word) X.drew (xK word) (Z9 (w:=X.drew) (IF.more (by show w4.heap.size<=X.heap.size;omega))) (vZ word) (by have:=On.out;omega)).mono ?_;rintro e w5 ⟨v5,rfl,pQ,aj⟩;have aj:Am X.heap.size X w5:=JB aj;have pQ:OwnR kRd w5 X.heap.size v5 word.length (yR word):=pQ;obtain⟨A5,c5,rfl,DX,_,ta⟩:=vY pQ;have HCP5:=zH DX;clear DX;refine aa _ _ (ai.out _ aj) ?_;clear aa K' pQ
  -- the views
  refine zn rfl ?_;intro K' aa;go_simp;have Gm:=ry.out.bd.on aj;rw[ee.out] at Gm;have cZ:=aj.size;have dD:(p.t.cases[x.1.1].inp).length=N:=by have:=HTI.out _ (Le hM);have:=ee.out;omega
  have hIX:IAt w5 w4.heap.size A0 p.t.cases[x.1.1].inp:=(Hi.out.keep (aj.mono (by omega:w.heap.size<=X.heap.size))).more (by omega)
  have EK:=zH (play_any w4.heap.size (w4.heap.size+1+1) (w4.heap.size+1) N (by have:=ee.out;omega) (by have:=ee.out;omega) (.slice AV (zE p PL).1.length kv) (zE p PL).1 (by have:=OV.out;omega) p.t.cases[x.1.1].inp dD word (by have:=On.out;omega) (fun r hr=>by
   obtain⟨m,hm,rfl⟩:=HWM.out r hr;obtain⟨z1,z2,_⟩:=xL (xq cd.out.1.2 nX.out).1 m hm
   exact⟨z1,by rw[z2,<-C6.out,ee.out]⟩) A0 AL c0 cl_ w5 (by omega) Gm hIX (IF.keep (aj.mono (by omega))))
  refine EK.out.mono ?_;rintro e w6 ⟨v6,V6,rfl,SN,FR,Sn,SA⟩;obtain⟨T3,Sj,rfl⟩:=SN.own.lit;obtain⟨VV,SY⟩:=Kk ((zA (zE p PL).1 N p.t.cases[x.1.1].inp word word.length).1);have C3:=zH SY
  have hVVl:VV.length<=4000:=by
   have h2:=jb (zE p PL).1 N p.t.cases[x.1.1].inp word word.length;have h4:(word.length+1)*N<=7*5:=LV (by have:=On.out;omega) (by have:=ee.out;omega);have h5:=OV.out;rw[SY] at h2;omega
  rw[SY] at SN FR Sn SA;clear SY;clear EK Gm IF hIX dD;obtain⟨A6,c6,rfl,_,_,SE⟩:=XC Sn;have hv6:=fun k hk=>(Sn.lt k hk).1
  have aK:=zH aj;have HL5:=zH ta;have tr:=zH SN;have C9:=zH FR;have EM:=zH SE;have HN6:=zH SA;have HV6:=zH hv6;have hs6b:=FR.1.size
  have Bc:Aq (∀(k o:Nat) (u:Ar),k≠w4.heap.size+1+1->k≠w4.heap.size+1->k<W9.heap.size->w5.cell? ⟨k,o,Z⟩=J u->w6.cell? ⟨k,o,Z⟩=J u):=fun k o u h1 h2 h3 hc=>
   (LN (FR.1.block k (by omega) fun hr=>by
    rcases hr with e | e | e
    . exact h1 e
    . exact h2 e
    . have:=(ry.out.no k e).1;omega)).trans hc
  have k5:=ai.out _ aj
  have k6:w6.cell? ⟨w4.heap.size,9,Z⟩=J (.slice AE (zE p PL).2.length ke)/\w6.cell? ⟨w4.heap.size+1+1+1,0,Z⟩=J (Aj (J ⟨w4.heap.size+1+1,0,Z⟩))/\w6.cell? ⟨w.heap.size,3,Z⟩=J (I (J ⟨bc,oc,Z⟩) p.t.cases.length kc)/\w6.cell? ⟨bc,oc+x.1.1*3,Z⟩=J (I A0 p.t.cases[x.1.1].inp.length c0):=
   ⟨Bc.out _ _ _ (by omega) (by omega) (by omega) k5.1,Bc.out _ _ _ (by omega) (by omega) (by omega) k5.2.1,Bc.out _ _ _ (by omega) (by omega) (by omega) k5.2.2.1,Bc.out _ _ _ (by omega) (by omega) (by omega) k5.2.2.2⟩
  refine aa _ _ k6 ?_;clear aa K' aj ta SN FR Sn SE SA hv6 k5;have Hg:=zH k6;obtain⟨VS,Wf⟩:=Kk ((zA (zE p PL).1 N p.t.cases[x.1.1].inp word word.length).2);have Tq:=zH Wf;rw[Wf] at EM HV6 HN6 ⊢;clear Wf k6
  -- the execution
  refine zn rfl ?_;intro K' aa;go_simp;refine aa _ _ Hg.out ?_;clear aa K';refine zn rfl ?_;intro K' aa;go_simp;obtain⟨IM,MF,d7,hs7e,ri⟩:=zm w6 #[O U x.1.1,I A5 word.length c5,I A6 VS.length c6] 128;rw[MF];clear MF
  have k7:IM.cell? ⟨w4.heap.size,9,Z⟩=J (.slice AE (zE p PL).2.length ke)/\IM.cell? ⟨w4.heap.size+1+1+1,0,Z⟩=J (Aj (J ⟨w4.heap.size+1+1,0,Z⟩))/\IM.cell? ⟨w.heap.size,3,Z⟩=J (I (J ⟨bc,oc,Z⟩) p.t.cases.length kc)/\IM.cell? ⟨bc,oc+x.1.1*3,Z⟩=J (I A0 p.t.cases[x.1.1].inp.length c0):=
   ⟨(ri.cell (p:=⟨w4.heap.size,9,Z⟩) (by show w4.heap.size<_;omega)).trans Hg.out.1,(ri.cell (p:=⟨w4.heap.size+1+1+1,0,Z⟩) (by show w4.heap.size+1+1+1<_;omega)).trans Hg.out.2.1,(ri.cell (p:=⟨w.heap.size,3,Z⟩) (by show w.heap.size<_;omega)).trans Hg.out.2.2.1,(ri.cell (p:=⟨bc,_,Z⟩) (by show bc<_;omega)).trans Hg.out.2.2.2⟩
  refine aa _ _ k7 ?_;clear aa K';refine zn rfl ?_;intro K' aa;rw[Lj (by rfl)];have fu:=ry.out.outn cX.out aK.out C9.out;have eh:=qc p PL;have aN:PL.length=pre.length:=by rw[<-OB.out];simp[vu]
  obtain⟨bE,bn,nf,cN⟩:=fu.1.below zS ri (Ld _);refine jo kXn_ok (.tmp 50) (.tmp 65) (by rfl) W9.heap.size (.slice AE (zE p PL).2.length ke) (zE p PL).2.length bE.flatten (by rfl) nf w6.heap.size #[O U x.1.1,I A5 word.length c5,I A6 VS.length c6] (by rfl) d7 rfl (by simp[Value.oneCell']) (by omega) (by omega) _ rfl ?_;intro g' cap w8 hr hg bG L7;clear eh aN;have hX:=ry.out.lies (i:=x.1.1) (c2:=c5) (c3:=c6) cX.out aK.out C9.out ri HL5.out EM.out HV6.out HN6.out HCP5.out
  have Wp:zA (zE p PL).1 p.t.n.toNat (yy p x.1.1) word word.length=zA (zE p PL).1 N p.t.cases[x.1.1].inp word word.length:=by
   rw[HINP.out,show p.t.n.toNat=N by have:=ee.out;omega]
  have hd7:BdIn w4.heap.size (w4.heap.size+1+1) (w4.heap.size+1) p.t.n (I T3 VV.length Sj) (zA (zE p PL).1 p.t.n.toNat (yy p x.1.1) word word.length).1 w6:=by
   rw[Wp,C3.out,ee.out];exact tr.out
  have hX7:Qc.lies (fun k=>(W9.heap.size<=k/\(I T3 VV.length Sj).ownBlock≠J k)/\(I AE (zE p PL).2.length ke).ownBlock≠J k) IM [O U x.1.1,I A5 word.length c5,I A6 VS.length c6] ⟨x.1.1,word,(zA (zE p PL).1 p.t.n.toNat (yy p x.1.1) word word.length).2⟩:=by rw[Wp,Tq.out];exact hX
  have rr:=ry.out.next (x:=(x.1.1,word)) cX.out aK.out C9.out ri hd7 (fun E'=>by rw[tj.out];rfl) bn cN hX7 hr hg bG;have rr:=zH rr;have Ej:=ry.out.out.lt
  have k8:∀(k o:Nat) (u:Ar),k<W9.heap.size->IM.cell? ⟨k,o,Z⟩=J u->w8.cell? ⟨k,o,Z⟩=J u:=fun k o u h3 hc=>
   (LN (hg.block k (by omega) fun e=>by have:=(Ej k e.symm).1;omega)).trans hc
  have nc:=hg.size;have HP8:=zH (⟨k8 _ _ _ (by omega) k7.1,k8 _ _ _ (by omega) k7.2.1,k8 _ _ _ (by omega) k7.2.2.1,k8 _ _ _ (by omega) k7.2.2.2⟩:w8.cell? ⟨w4.heap.size,9,Z⟩=J (.slice AE (zE p PL).2.length ke)/\w8.cell? ⟨w4.heap.size+1+1+1,0,Z⟩=J (Aj (J ⟨w4.heap.size+1+1,0,Z⟩))/\w8.cell? ⟨w.heap.size,3,Z⟩=J (I (J ⟨bc,oc,Z⟩) p.t.cases.length kc)/\w8.cell? ⟨bc,oc+x.1.1*3,Z⟩=J (I A0 p.t.cases[x.1.1].inp.length c0))
  have f8:w8.frozen? ⟨w4.heap.size,9,Z⟩=Aw:=by
   have z:=rr.out.1.sys;have z2:=zi z 9;rwa[World.frozen?_setCell] at z2
  refine aa _ _ HP8.out ?_;clear aa K' hr hg bG hX hX7 bn nf cN fu k7 k8 hd7 Wp;refine zn rfl ?_;intro K' aa;go_simp;refine aa _ _ HP8.out ?_;clear aa K';have e9:=HP8.out.1;refine yb rfl (by kernel_rfl) ?_;intro K' aa;go_simp;refine aa (fun _=>True) _ _ trivial ?_;refine zy ?_;clear aa K' e9 f8
  try dsimp only
  obtain⟨WF,cM⟩:=Kk (w8.setCell ⟨w4.heap.size,9,Z⟩ (I (J ⟨g',0,Z⟩) ((zE p PL).2.length+1) cap));rw[cM] at rr ⊢;clear cM;have Eh:=rr.out.1;have a8:WF.cell? ⟨w4.heap.size+1+1+1,0,Z⟩=J (Aj (J ⟨w4.heap.size+1+1,0,Z⟩)):=zh ((Eh.same cX.out (by omega) (by omega) (by omega) (by omega)).trans Tn.out) 0 rfl;have b8:WF.cell? ⟨w4.heap.size+1+1,1,Z⟩=J (I T3 VV.length Sj):=zh Eh.bd.hB 1 rfl;have hng:¬(8192:Int)<(VV.length:Int):=by omega
  clear Eh;gi_wp2_with fail;have Eh:=rr.out;rw[po] at Eh;refine⟨Eh.2.1,Eh.2.2.keep fun k hk hs hr=>?_,⟨I T3 VV.length Sj,I (J ⟨g',0,Z⟩) ((zE p PL).2.length+1) cap,?_⟩⟩
  . have:=oW.size
    rcases hs with hs | hs | hs<;>rcases hr with e | e | e | e<;>omega
  rw[LK,List.map_singleton,prsW_snoc,OB.out,HGD.out];exact Eh.1
 case done=>
  rintro D ys X hD iy ⟨V,E,hI⟩ ik;rw[iy,Xf p K pg.out] at hI;obtain⟨AV,kv,rfl⟩:=hI.bd.own.lit;obtain⟨AE,ke,rfl,hke1,hke2,_⟩:=hI.out.form zS;have ry:=zH hI;have oW:=Hn.out;have nN:=hI.bel cX.out;have hD9:=hI.big cX.out;have BP:=zH ik;have hDX:D<X.heap.size:=zk ik;have e8:X.cell? ⟨w4.heap.size+1+1+1,0,Z⟩=J (Aj (J ⟨w4.heap.size+1+1,0,Z⟩)):=zh ((hI.same cX.out (by omega) (by omega) (by omega) (by omega)).trans Tn.out) 0 rfl;have FG:=hI.sys;rw[tj.out] at FG;have t7:X.cell? ⟨w4.heap.size,7,Z⟩=J (O U 0):=zh FG 7 rfl;have t8:X.cell? ⟨w4.heap.size,8,Z⟩=J (I Z 0 0):=zh FG 8 rfl;have u7:=zi FG 7;have u8:=zi FG 8;have ia:=zH FG;have aY:=zH nN;have bh:=hI.bd.hB;have N1X:=(nN.block (w.heap.size+1) (by omega)).trans (Lb oW (by omega) T0.out);have N2X:=(nN.block (w.heap.size+1+1) (by omega)).trans (Lb oW (by omega) D24.out);have rt:=zH N1X;have oh:=zH N2X;clear hI nN FG ik iy H0 ib N1X N2X;go_wp2_with fail
  refine zt [(0,Au),(1,Au),(2,Au),(3,Au),(4,Au),(5,Au),(6,Au),(7,Au),(8,Aw),(9,Aw),(10,Aw)]
   (fun W=>W.cell? ⟨w4.heap.size+1+1+1,0,Z⟩=J (Aj (J ⟨w4.heap.size+1+1,0,Z⟩))/\W.heap[w4.heap.size+1+1]?=J (Ag #[O U p.t.n,.slice AV (zE p (zC p)).1.length kv,.map (J (w4.heap.size+1))] 120 (0,0)))
   (by kernel_rfl) (by kernel_rfl) ⟨e8,bh⟩ ?_
  clear e8 bh
  repeat
   apply zj rfl
   . rintro K' aa W ⟨y0,y1⟩
     have z0:W.cell? ⟨w4.heap.size+1+1,0,Z⟩=J (O U p.t.n):=zh y1 0 rfl;have z1:W.cell? ⟨w4.heap.size+1+1,1,Z⟩=J (.slice AV (zE p (zC p)).1.length kv):=zh y1 1 rfl;clear y1;go_simp;exact aa
  have e8:X.cell? ⟨w4.heap.size+1+1+1,0,Z⟩=J (Aj (J ⟨w4.heap.size+1+1,0,Z⟩)):=zh ((ry.out.same cX.out (by omega) (by omega) (by omega) (by omega)).trans Tn.out) 0 rfl;refine zn rfl ?_;intro K' aa;go_simp;refine aa _ _ ⟨e8,ry.out.bd.hB⟩ ?_;clear aa K';refine zn rfl ?_;intro K' aa;go_simp;refine aa _ _ ⟨e8,ry.out.bd.hB⟩ ?_;clear aa K';refine yb rfl (by kernel_rfl) ?_;intro K' aa;go_simp;refine aa (fun _=>True) _ _ trivial ?_;refine zy ?_;clear aa K' e8 t7 t8 u7 u8;obtain⟨W7,pz⟩:=Kk (((X.setCell ⟨w4.heap.size,7,Z⟩ (O U p.t.n)).setCell ⟨w4.heap.size,8,Z⟩ (.slice AV (zE p (zC p)).1.length kv)).drew)
  have fq:W7.heap[w4.heap.size]?=J (Ag #[O U p.t.n,O U p.t.ins,O U p.t.outs,I A4 p.t.cases.length Br,O U p.a.n,I BH p.a.sts.length Bp,O U p.k,O U p.t.n,.slice AV (zE p (zC p)).1.length kv,.slice AE (zE p (zC p)).2.length ke] 39 (0,0)):=by
   rw[<-pz];have q1:(X.setCell ⟨w4.heap.size,7,Z⟩ (O U p.t.n)).heap[w4.heap.size]?=J (Ag #[O U p.t.n,O U p.t.ins,O U p.t.outs,I A4 p.t.cases.length Br,O U p.a.n,I BH p.a.sts.length Bp,O U p.k,O U p.t.n,I Z 0 0,.slice AE (zE p (zC p)).2.length ke] 39 (0,0)):=Lk X w4.heap.size 7 _ _ _ ia.out;exact Lk _ w4.heap.size 8 _ _ _ q1
  have Ij:∀k,k≠w4.heap.size->W7.heap[k]?=X.heap[k]?:=fun k hk=>by
   rw[<-pz];exact(Lf _ ⟨w4.heap.size,8,Z⟩ _ k hk).trans (Lf _ ⟨w4.heap.size,7,Z⟩ _ k hk)
  have dk:Am w.heap.size w W7:=by
   rw[<-pz];exact(((B4.out.trans ((oW.trans aY.out).mono (by omega))).setCell (p:=⟨w4.heap.size,7,Z⟩) (by show w.heap.size<=w4.heap.size;omega) _).setCell (p:=⟨w4.heap.size,8,Z⟩) (by show w.heap.size<=w4.heap.size;omega) _).drew
  have Uu:W7.heap.size=X.heap.size:=by rw[<-pz];show(World.setCell _ _ _).heap.size=_;simp
  have mG:=(Ij (w.heap.size+1) (by omega)).trans rt.out;have Tj:=(Ij (w.heap.size+1+1) (by omega)).trans oh.out;have s0:W7.cell? ⟨w4.heap.size,0,Z⟩=J (O U p.t.n):=zh fq 0 rfl;have s1:W7.cell? ⟨w4.heap.size,1,Z⟩=J (O U p.t.ins):=zh fq 1 rfl;have s2:W7.cell? ⟨w4.heap.size,2,Z⟩=J (O U p.t.outs):=zh fq 2 rfl;have s3:W7.cell? ⟨w4.heap.size,3,Z⟩=J (I A4 p.t.cases.length Br):=zh fq 3 rfl;have s4:W7.cell? ⟨w4.heap.size,4,Z⟩=J (O U p.a.n):=zh fq 4 rfl;have s5:W7.cell? ⟨w4.heap.size,5,Z⟩=J (I BH p.a.sts.length Bp):=zh fq 5 rfl;have s6:W7.cell? ⟨w4.heap.size,6,Z⟩=J (O U p.k):=zh fq 6 rfl;have s7:W7.cell? ⟨w4.heap.size,7,Z⟩=J (O U p.t.n):=zh fq 7 rfl;have s8:W7.cell? ⟨w4.heap.size,8,Z⟩=J (.slice AV (zE p (zC p)).1.length kv):=zh fq 8 rfl;have s9:W7.cell? ⟨w4.heap.size,9,Z⟩=J (.slice AE (zE p (zC p)).2.length ke):=zh fq 9 rfl;have n0:W7.cell? ⟨w.heap.size+1,0,Z⟩=J (O U 0):=zh mG 0 rfl;have m0:=zi mG 0;have n1:W7.cell? ⟨w.heap.size+1,1,Z⟩=J (O U 0):=zh mG 1 rfl;have m1:=zi mG 1;have n2:W7.cell? ⟨w.heap.size+1,2,Z⟩=J (O U 0):=zh mG 2 rfl;have m2:=zi mG 2;have n3:W7.cell? ⟨w.heap.size+1,3,Z⟩=J (I Z 0 0):=zh mG 3 rfl;have m3:=zi mG 3;have n4:W7.cell? ⟨w.heap.size+1,4,Z⟩=J (O U 0):=zh mG 4 rfl;have m4:=zi mG 4;have n5:W7.cell? ⟨w.heap.size+1,5,Z⟩=J (I Z 0 0):=zh mG 5 rfl
  have m5:=zi mG 5;have n6:W7.cell? ⟨w.heap.size+1,6,Z⟩=J (O U 0):=zh mG 6 rfl;have m6:=zi mG 6;have n7:W7.cell? ⟨w.heap.size+1,7,Z⟩=J (O U 0):=zh mG 7 rfl;have m7:=zi mG 7;have n8:W7.cell? ⟨w.heap.size+1,8,Z⟩=J (I Z 0 0):=zh mG 8 rfl;have m8:=zi mG 8;have n9:W7.cell? ⟨w.heap.size+1,9,Z⟩=J (I Z 0 0):=zh mG 9 rfl;have m9:=zi mG 9;have Sg:W7.cell? ⟨w.heap.size+1+1,0,Z⟩=J (O U 0):=zh Tj 0 rfl;have m10:=zi Tj 0;have C8:=zH Ij;have BR:=zH dk;have HN17:=zH mG;have HN27:=zH Tj;rw[pz];clear pz Ij dk mG Tj fq;go_wp2_with fail;obtain⟨k1,k2,k3,k4,k5⟩:=vg (O U p.t.n) (O U p.t.ins) (O U p.t.outs) (I A4 p.t.cases.length Br) (O U p.a.n) (I BH p.a.sts.length Bp) (O U p.k) (O U p.t.n) (.slice AV (zE p (zC p)).1.length kv) (.slice AE (zE p (zC p)).2.length ke) (O U 0) HN17.out HN27.out (by omega) BR.out (by omega:w.heap.size<=w.heap.size+1) (by omega:w.heap.size<=w.heap.size+1+1)
  obtain⟨WF,cM⟩:=Kk ((((((((((((W7.setCell ⟨w.heap.size+1,0,Z⟩ (O U p.t.n)).setCell ⟨w.heap.size+1,1,Z⟩ (O U p.t.ins)).setCell ⟨w.heap.size+1,2,Z⟩ (O U p.t.outs)).setCell ⟨w.heap.size+1,3,Z⟩ (I A4 p.t.cases.length Br)).setCell ⟨w.heap.size+1,4,Z⟩ (O U p.a.n)).setCell ⟨w.heap.size+1,5,Z⟩ (I BH p.a.sts.length Bp)).setCell ⟨w.heap.size+1,6,Z⟩ (O U p.k)).setCell ⟨w.heap.size+1,7,Z⟩ (O U p.t.n)).setCell ⟨w.heap.size+1,8,Z⟩ (.slice AV (zE p (zC p)).1.length kv)).setCell ⟨w.heap.size+1,9,Z⟩ (.slice AE (zE p (zC p)).2.length ke)).setCell ⟨w.heap.size+1+1,0,Z⟩ (O U 0)));rw[cM] at k1 k2 k3 k4 k5 ⊢;clear cM;have ax:∀k,k≠w4.heap.size->k≠w.heap.size+1->k≠w.heap.size+1+1->WF.heap[k]?=X.heap[k]?:=fun k a b c=>(k5 k b c).trans (C8.out k a)
  have hsf:WF.heap.size=X.heap.size:=k4.trans Uu;have hDf:WF.heap[D]?=J (.deferred (J [])):=(ax D (by omega) (by omega) (by omega)).trans BP.out
  have lq:∀k,k<w4.heap.size->k≠w.heap.size+1->k≠w.heap.size+1+1->WF.heap[k]?=w4.heap[k]?:=fun k a b c=>
   (ax k (by omega) b c).trans ((aY.out.block k a).trans (oW.block k a))
  have DA:w4.heap.size<=WF.heap.size:=by omega
  have RA:RowX cCs (fun b=>((L0<=b/\b<B0)\/w3.heap.size<=b)/\b<w4.heap.size) WF g4 p.t.cases:=(Hp.out.mono qj fun b hb hs=>⟨hs,hb⟩).keep qj ⟨DA,fun k hk _=>lq k hk.1.2 (by have:=hk.1.1;omega) (by have:=hk.1.1;omega)⟩ (lq g4 Hp.out.lt (by omega) (by omega));have RS:RowX cMl (fun b=>((L0<=b/\b<B0)\/w3.heap.size<=b)/\b<w4.heap.size) WF Tc p.a.sts:=(rn.out.mono ku fun b hb hs=>⟨hs,hb⟩).keep ku ⟨DA,fun k hk _=>lq k hk.1.2 (by have:=hk.1.1;omega) (by have:=hk.1.1;omega)⟩ (lq Tc rn.out.lt (by omega) (by omega))
  have RV:OwnV WF w4.heap.size (.slice AV (zE p (zC p)).1.length kv) (zE p (zC p)).1:=ry.out.bd.own.of_same fun k hk=>by
   have:=(ry.out.no k hk).1;exact ax k (by omega) (by omega) (by omega)
  have RX:OwnX Qc (fun k=>W9.heap.size<=k/\(I AV (zE p (zC p)).1.length kv).ownBlock≠J k) WF W9.heap.size (.slice AE (zE p (zC p)).2.length ke) (zE p (zC p)).2:=
   ry.out.out.keep zS ⟨by omega,fun k hk _=>ax k (by have:=hk.1;omega) (by have:=hk.1;omega) (by have:=hk.1;omega)⟩ fun k hk=>by
    have:=(ry.out.out.lt k hk).1;exact ax k (by omega) (by omega) (by omega)
  have Cv:(zC p).length<=60:=by
   have h1:=congrArg List.length (Xf p K pg.out);rw[vu,LM,jU,yK] at h1;have:=OW.out;rw[<-h1,PA];omega
  have sv:=ZZ p (by have:=ee.out;omega) (zC p) (fun y hy=>by
   unfold zC at hy;obtain⟨d,_,hy⟩:=NH.1 hy;obtain⟨w',my,rfl⟩:=LZ.1 hy;show w'.length<=6;rw[xv p.a _ 0 w' my,pg.out]
   exact MU)
  refine xj (B:=W9.heap.size) (kn (by omega) hDf) ?_;intro W hX;have c0:W.cell? ⟨w.heap.size+1,0,Z⟩=J (O U p.t.n):=hX.cell (zh k1 0 rfl);have c1:W.cell? ⟨w.heap.size+1,1,Z⟩=J (O U p.t.ins):=hX.cell (zh k1 1 rfl);have c2:W.cell? ⟨w.heap.size+1,2,Z⟩=J (O U p.t.outs):=hX.cell (zh k1 2 rfl);have c3:W.cell? ⟨w.heap.size+1,3,Z⟩=J (I A4 p.t.cases.length Br):=hX.cell (zh k1 3 rfl);have c4:W.cell? ⟨w.heap.size+1,4,Z⟩=J (O U p.a.n):=hX.cell (zh k1 4 rfl);have c5:W.cell? ⟨w.heap.size+1,5,Z⟩=J (I BH p.a.sts.length Bp):=hX.cell (zh k1 5 rfl);have c6:W.cell? ⟨w.heap.size+1,6,Z⟩=J (O U p.k):=hX.cell (zh k1 6 rfl);have c7:W.cell? ⟨w.heap.size+1,7,Z⟩=J (O U p.t.n):=hX.cell (zh k1 7 rfl);have c8:W.cell? ⟨w.heap.size+1,8,Z⟩=J (.slice AV (zE p (zC p)).1.length kv):=hX.cell (zh k1 8 rfl);have c9:W.cell? ⟨w.heap.size+1,9,Z⟩=J (.slice AE (zE p (zC p)).2.length ke):=hX.cell (zh k1 9 rfl);have CY:W.cell? ⟨w.heap.size+1+1,0,Z⟩=J (O U 0):=hX.cell (zh k2 0 rfl);have SU:=hX.below.size;obtain⟨AV',kv',eV,SZ⟩:=(show OwnV W w4.heap.size _ _ from hX.own RV).form (by omega)
  cases eV
  obtain⟨AE',ke',eE,_,_,SX,_⟩:=gh (RX.turn zS SU hX.same)
  cases eE
  refine⟨.tuple #[Ai #[O U p.t.n,O U p.t.ins,O U p.t.outs,I A4 p.t.cases.length Br,O U p.a.n,I BH p.a.sts.length Bp,O U p.k,O U p.t.n,.slice AV (zE p (zC p)).1.length kv,.slice AE (zE p (zC p)).2.length ke],O U 0],by simp[results,results31,go_sem,c0,c1,c2,c3,c4,c5,c6,c7,c8,c9,CY],?_⟩;rw[HB.out];refine⟨A4,Br,BH,Bp,AV,kv,AE,ke,rfl,fun W' Ut rG=>⟨?_,?_,?_,?_⟩,SZ.lec,SZ.lem,k3.trans (hX.below.mono (by omega))⟩
  . rw[HA4e.out]
    have R:=RA.turnC qj SU hX.same;have It:=Hp.out.lt;exact(R.keep qj ⟨Ut,fun k hk hl=>rG k (by have:=hk.1.1;omega) hl⟩ (rG g4 (by omega) (by omega))).cat
  . rw[HS4e.out]
    have R:=RS.turnC ku SU hX.same;have It:=rn.out.lt;exact(R.keep ku ⟨Ut,fun k hk hl=>rG k (by have:=hk.1.1;omega) hl⟩ (rG Tc (by omega) (by omega))).sat
  . have RV2:=(show OwnV W w4.heap.size _ _ from hX.own RV)
    obtain⟨AV',kv',eV,SZ⟩:=(RV2.of_same (w':=W') fun k hk=>rG k (.inr (by have:=(OwnV.lt RV2 k hk).1;omega)) (OwnV.lt RV2 k hk).2).form (by omega)
    cases eV
    exact SZ.rows
  have RX2:=RX.turn zS SU hX.same;obtain⟨AE',ke',eE,_,_,SX,_⟩:=gh (RX2.keep (w':=W') zS ⟨Ut,fun k hk hl=>rG k (.inr (by have:=hk.1;omega)) hl⟩ fun k hk=>rG k (.inr (by have:=(RX2.lt k hk).1;omega)) (RX2.lt k hk).2)
  cases eE
  exact SX
 intro D c pre W _ _ h;exact h.elim
theorem YK(p:Pb)(hf:xu p)(A:Bb)(kc:Nat)(SV:Bb)(ks:Nat)(w:Ba)(B0:Nat)(dl:B0<=w.heap.size)(GN:CAt w B0 A p.t.cases)(Gz:SAt w B0 SV p.a.sts) :
  An Al 31 #[.agg (p.vs A kc SV ks)] w (RetSysF 0 B0 (zT p) w):=
 buildL_any p hf A kc SV ks w 0 B0 dl GN Gz (CAtL.of GN dl) (SAtL.of Gz dl)
theorem XD(p:Pb)(hf:xu p)(A:Bb)(kc:Nat)(SV:Bb)(ks:Nat)(w:Ba)(hA:CAt w w.heap.size A p.t.cases)(hS:SAt w w.heap.size SV p.a.sts) :
  An Al 31 #[.agg (p.vs A kc SV ks)] w (RetSys (zT p) w):=
 (YK p hf A kc SV ks w w.heap.size (Ld _) hA hS).mono fun _ _ h=>h.sys
end
section
open Go.RowKit
attribute [local go_sem] Oper.semAt_some
def hq(f:Nat->Int)(k j:Nat):Int:=if j<k then f j else 0
def vq(p r i:Int)(f:Nat->Int)(k:Nat):Array Ar:=#[O U p,O U r,O U i,O U (hq f k 0),O U (hq f k 1),O U (hq f k 2),O U (hq f k 3),O U (hq f k 4)]
theorem JM(p r i:Int)(f:Nat->Int)(k:Nat)(hk:k<5):(vq p r i f k).setIfInBounds (3+k) (O U (f k))=vq p r i f (k+1):=by
 match k,hk with
 | 0,_=>rfl
 | 1,_=>rfl
 | 2,_=>rfl
 | 3,_=>rfl
 | 4,_=>rfl
theorem vq_set2(p r i:Int)(f:Nat->Int)(k:Nat)(hk:k<5)(u:Ar):((vq p r i f k).setIfInBounds (3+k) u).setIfInBounds (3+k) (O U (f k))=vq p r i f (k+1):=by
 match k,hk with
 | 0,_=>rfl
 | 1,_=>rfl
 | 2,_=>rfl
 | 3,_=>rfl
 | 4,_=>rfl
theorem vq_at(p r i:Int)(f:Nat->Int)(k:Nat)(hk:k<5):(vq p r i f k)[3+k]?=J (O U 0):=by
 match k,hk with
 | 0,_=>rfl
 | 1,_=>rfl
 | 2,_=>rfl
 | 3,_=>rfl
 | 4,_=>rfl
theorem first_any(p:Nat)(i:Int)(w:Ba):An Al 138 #[O U (p:Int),O U i] w fun e w'=>e=Ak (.agg (yS p i).cells)/\Am w.heap.size w w':=by
 obtain⟨w1,ae,d0,d1,aw,hB⟩:=xk w (#[O U 0,O U 0,O U 0,O U 0,O U 0,O U 0,O U 0,O U 0]) (vq p 0 i (fun _=>-1) 0) 133 133;have ak:=zH ae;go_enter func138,ntmps138;go_wp2_with fail;rw[show((w.alloc (Ag #[O U 0,O U 0,O U 0,O U 0,O U 0,O U 0,O U 0,O U 0] 133)).alloc (Ag #[O U p,O U 0,O U i,O U 0,O U 0,O U 0,O U 0,O U 0] 133))=w1 from ak.out];have H0:=zH d0;have H1:=zH d1;have HB:=zH hB
 go_loopw [6] (fun j wr=>∃k:Nat,k<=5/\j=O U (k:Int)/\Aq (wr.heap[w.heap.size]?=J (Ag #[O U 0,O U 0,O U 0,O U 0,O U 0,O U 0,O U 0,O U 0] 133 (0,0)))/\Aq (wr.heap[w.heap.size+1]?=J (Ag (vq p 0 i (fun _=>-1) k) 133 (0,0)))/\Aq (Am w.heap.size w wr)) (fun j _=>5-(Ap j).toNat)
 case atStart=>exact⟨0,by omega,rfl,H0.out,H1.out,HB.out⟩
 obtain⟨k,hk,rfl,H0,H1,Bi⟩:=hrel
 by_cases pU:k<5
 case neg=>
  obtain rfl:k=5:=by omega
  have x0:wr.cell? ⟨w.heap.size+1,0,Z⟩=J (O U p):=zh H1.out 0 rfl;have x1:wr.cell? ⟨w.heap.size+1,1,Z⟩=J (O U 0):=zh H1.out 1 rfl;have x2:wr.cell? ⟨w.heap.size+1,2,Z⟩=J (O U i):=zh H1.out 2 rfl;have x3:wr.cell? ⟨w.heap.size+1,3,Z⟩=J (O U (-1)):=zh H1.out 3 rfl;have x4:wr.cell? ⟨w.heap.size+1,4,Z⟩=J (O U (-1)):=zh H1.out 4 rfl;have x5:wr.cell? ⟨w.heap.size+1,5,Z⟩=J (O U (-1)):=zh H1.out 5 rfl;have x6:wr.cell? ⟨w.heap.size+1,6,Z⟩=J (O U (-1)):=zh H1.out 6 rfl;have x7:wr.cell? ⟨w.heap.size+1,7,Z⟩=J (O U (-1)):=zh H1.out 7 rfl;have y0:wr.cell? ⟨w.heap.size,0,Z⟩=J (O U 0):=zh H0.out 0 rfl;have y1:wr.cell? ⟨w.heap.size,1,Z⟩=J (O U 0):=zh H0.out 1 rfl;have y2:wr.cell? ⟨w.heap.size,2,Z⟩=J (O U 0):=zh H0.out 2 rfl;have y3:wr.cell? ⟨w.heap.size,3,Z⟩=J (O U 0):=zh H0.out 3 rfl;have y4:wr.cell? ⟨w.heap.size,4,Z⟩=J (O U 0):=zh H0.out 4 rfl;have y5:wr.cell? ⟨w.heap.size,5,Z⟩=J (O U 0):=zh H0.out 5 rfl;have y6:wr.cell? ⟨w.heap.size,6,Z⟩=J (O U 0):=zh H0.out 6 rfl;have y7:wr.cell? ⟨w.heap.size,7,Z⟩=J (O U 0):=zh H0.out 7 rfl;have f0:=zi H0.out 0;have f1:=zi H0.out 1;have f2:=zi H0.out 2;have f3:=zi H0.out 3;have f4:=zi H0.out 4;have f5:=zi H0.out 5;have f6:=zi H0.out 6;have f7:=zi H0.out 7;go_wp2_with fail
  refine LI (v:=Ai #[O U p,O U 0,O U i,O U (-1),O U (-1),O U (-1),O U (-1),O U (-1)]) (by simp[results,results138,go_sem,y0,y1,y2,y3,y4,y5,y6,y7]) rfl ⟨rfl,?_⟩;exact(((((((Bi.out.setCell (Ld _) _).setCell (Ld _) _).setCell (Ld _) _).setCell (Ld _) _).setCell (Ld _) _).setCell (Ld _) _).setCell (Ld _) _).setCell (Ld _) _
 have x0:=zh H1.out (3+k) (vq_at _ _ _ _ k pU);have f0:=zi H1.out (3+k);have dS:(0:Int)<=(k:Int):=by omega
 have aW:(k:Int)<5:=by omega
 go_wp2_with fail
 go_roundw
 case rel=>exact⟨k+1,by omega,by go_num,(Lf wr _ _ w.heap.size (by show w.heap.size≠w.heap.size+1;omega)).trans H0.out,by show _=_;rw[Lk wr _ (3+k) _ _ _ H1.out,JM _ _ _ (fun _=>-1) k pU],Bi.out.setCell (by show w.heap.size<=w.heap.size+1;omega) _⟩
 simp[Ap];omega
theorem seen_any(r:Rd)(K p:Nat)(hp:p<5)(hs:0<=r.h p/\r.h p<32)(A:Bb)(ca:Nat)(row:List Int)(hn:r.n=(row.length:Int))(_h5:row.length<=5)(w:Ba)(hI:IAt w w.heap.size A row) :
  An Al 139 #[.agg r.gcells,O U (K:Int),O U (p:Int),I A row.length ca] w fun e w'=>e=Ak (.agg (xI r K p row).cells)/\Am w.heap.size w w':=by
 obtain⟨s,oz⟩:∃s:Nat,r.h p=(s:Int):=⟨(r.h p).toNat,by omega⟩;have UQ:s<32:=by omega
 have HH:=zH (fun q hq w=>Zx s q UQ hq w);have HSR:=zH oz;have HN:=zH hn;clear hn oz hs;obtain⟨w1,ae,g0,d0,d1,aw,hB⟩:=jr w r.gcells #[O U 0,O U 0,O U 0,O U 0,O U 0,O U 0,O U 0,O U 0] (vq p K 0 (zW r p row) 0) 74 133 133;have ak:=zH ae;go_enter func139,ntmps139;unfold Rd.gcells;go_wp2_with fail;rw[show(((w.alloc (Ag #[O U r.n,O U r.h0,O U r.h1,O U r.h2,O U r.h3,O U r.h4] 74)).alloc (Ag #[O U 0,O U 0,O U 0,O U 0,O U 0,O U 0,O U 0,O U 0] 133)).alloc (Ag #[O U p,O U K,O U 0,O U 0,O U 0,O U 0,O U 0,O U 0] 133))=w1 from ak.out];have HG:=zH g0;have H0:=zH d0;have H1:=zH d1;have HB:=zH hB;have HI:=zH hI
 go_loopw [10] (fun j wr=>∃k:Nat,k<=5/\j=O U (k:Int)/\Aq (wr.heap[w.heap.size]?=J (Ag r.gcells 74 (0,0)))/\Aq (wr.heap[w.heap.size+1]?=J (Ag #[O U 0,O U 0,O U 0,O U 0,O U 0,O U 0,O U 0,O U 0] 133 (0,0)))/\Aq (wr.heap[w.heap.size+1+1]?=J (Ag (vq p K 0 (zW r p row) k) 133 (0,0)))/\Aq (Am w.heap.size w wr)) (fun j _=>5-(Ap j).toNat)
 case atStart=>exact⟨0,by omega,rfl,HG.out,H0.out,H1.out,HB.out⟩
 obtain⟨k,hk,rfl,HG,H0,H1,Bi⟩:=hrel
 by_cases pU:k<5
 case neg=>
  obtain rfl:k=5:=by omega
  have x0:wr.cell? ⟨w.heap.size+1+1,0,Z⟩=J (O U p):=zh H1.out 0 rfl;have x1:wr.cell? ⟨w.heap.size+1+1,1,Z⟩=J (O U K):=zh H1.out 1 rfl;have x2:wr.cell? ⟨w.heap.size+1+1,2,Z⟩=J (O U 0):=zh H1.out 2 rfl;have x3:wr.cell? ⟨w.heap.size+1+1,3,Z⟩=J (O U (zW r p row 0)):=zh H1.out 3 rfl;have x4:wr.cell? ⟨w.heap.size+1+1,4,Z⟩=J (O U (zW r p row 1)):=zh H1.out 4 rfl;have x5:wr.cell? ⟨w.heap.size+1+1,5,Z⟩=J (O U (zW r p row 2)):=zh H1.out 5 rfl;have x6:wr.cell? ⟨w.heap.size+1+1,6,Z⟩=J (O U (zW r p row 3)):=zh H1.out 6 rfl;have x7:wr.cell? ⟨w.heap.size+1+1,7,Z⟩=J (O U (zW r p row 4)):=zh H1.out 7 rfl;have y0:wr.cell? ⟨w.heap.size+1,0,Z⟩=J (O U 0):=zh H0.out 0 rfl;have y1:wr.cell? ⟨w.heap.size+1,1,Z⟩=J (O U 0):=zh H0.out 1 rfl;have y2:wr.cell? ⟨w.heap.size+1,2,Z⟩=J (O U 0):=zh H0.out 2 rfl;have y3:wr.cell? ⟨w.heap.size+1,3,Z⟩=J (O U 0):=zh H0.out 3 rfl;have y4:wr.cell? ⟨w.heap.size+1,4,Z⟩=J (O U 0):=zh H0.out 4 rfl;have y5:wr.cell? ⟨w.heap.size+1,5,Z⟩=J (O U 0):=zh H0.out 5 rfl;have y6:wr.cell? ⟨w.heap.size+1,6,Z⟩=J (O U 0):=zh H0.out 6 rfl;have y7:wr.cell? ⟨w.heap.size+1,7,Z⟩=J (O U 0):=zh H0.out 7 rfl;have f0:=zi H0.out 0;have f1:=zi H0.out 1;have f2:=zi H0.out 2;have f3:=zi H0.out 3;have f4:=zi H0.out 4;have f5:=zi H0.out 5;have f6:=zi H0.out 6;have f7:=zi H0.out 7;go_wp2_with fail
  refine LI (v:=.agg (xI r K p row).cells) (by unfold xI Vw.cells;simp[results,results139,go_sem,y0,y1,y2,y3,y4,y5,y6,y7]) rfl ⟨rfl,?_⟩;exact((((((((Bi.out.setCell (by show w.heap.size<=w.heap.size+1;omega) _).setCell (by show w.heap.size<=w.heap.size+1;omega) _).setCell (by show w.heap.size<=w.heap.size+1;omega) _).setCell (by show w.heap.size<=w.heap.size+1;omega) _).setCell (by show w.heap.size<=w.heap.size+1;omega) _).setCell (by show w.heap.size<=w.heap.size+1;omega) _).setCell (by show w.heap.size<=w.heap.size+1;omega) _).setCell (by show w.heap.size<=w.heap.size+1;omega) _)
 have x0:=zh H1.out (3+k) (vq_at _ _ _ _ k pU);have f0:=zi H1.out (3+k);have g0:wr.cell? ⟨w.heap.size,0,Z⟩=J (O U (row.length:Int)):=by rw[<-HN.out];exact zh HG.out 0 rfl
 have gp:wr.cell? ⟨w.heap.size,1+p,Z⟩=J (O U (s:Int)):=by
  rw[<-HSR.out]
  match p,hp with
  | 0,_=>exact zh HG.out 1 rfl
  | 1,_=>exact zh HG.out 2 rfl
  | 2,_=>exact zh HG.out 3 rfl
  | 3,_=>exact zh HG.out 4 rfl
  | 4,_=>exact zh HG.out 5 rfl
 have dS:(0:Int)<=(k:Int):=by omega
 have aW:(k:Int)<5:=by omega
 have mB:(0:Int)<=(p:Int):=by omega
 have hp1:(p:Int)<5:=by omega
 have HS:Aq ((wr.setCell ⟨w.heap.size+1+1,3+k,Z⟩ (O U (-1))).heap[w.heap.size+1+1]?=J (Ag ((vq p K 0 (zW r p row) k).setIfInBounds (3+k) (O U (-1))) 133 (0,0))):=Lk wr _ (3+k) _ _ _ H1.out
 by_cases hq:k<row.length
 case neg=>
  have hE:Aq (zW r p row k=-1):=by unfold zW;exact Lg (fun h=>hq h.1)
  have Bw:¬((k:Int)<(row.length:Int)):=by omega
  go_wp2_with fail
  go_roundw
  case rel=>exact⟨k+1,by omega,by go_num,((Lf wr _ _ w.heap.size (by show w.heap.size≠w.heap.size+1+1;omega)).trans HG.out),((Lf wr _ _ (w.heap.size+1) (by show w.heap.size+1≠w.heap.size+1+1;omega)).trans H0.out),(HS.out.trans (by have e:=JM p K 0 (zW r p row) k pU;rw[hE.out] at e;rw[e])),(Bi.out.setCell (by show w.heap.size<=w.heap.size+1+1;omega) _)⟩
  simp[Ap];omega
 have Bw:((k:Int)<(row.length:Int)):=by omega
 by_cases hb:s.testBit k=Au
 case neg=>
  have hE:Aq (zW r p row k=-1):=by unfold zW;exact Lg (fun h=>hb (by have h2:=h.2;rw[HSR.out] at h2;exact h2))
  go_wp2_with (go_at_call 159;refine(HH.out k pU _).mono ?_;rintro e w' ⟨rfl,my⟩;obtain rfl:=my.symm)
  go_roundw
  case rel=>exact⟨k+1,by omega,by go_num,((Lf wr _ _ w.heap.size (by show w.heap.size≠w.heap.size+1+1;omega)).trans HG.out),((Lf wr _ _ (w.heap.size+1) (by show w.heap.size+1≠w.heap.size+1+1;omega)).trans H0.out),(HS.out.trans (by have e:=JM p K 0 (zW r p row) k pU;rw[hE.out] at e;rw[e])),(Bi.out.setCell (by show w.heap.size<=w.heap.size+1+1;omega) _)⟩
  simp[Ap];omega
 have hE:Aq (zW r p row k=row[k]):=by
  unfold zW;rw[Lj ⟨hq,by rw[HSR.out];exact hb⟩,Lh,Lm hq];rfl
 have HX:=zH ((HI.out.keep Bi.out).at_ k hq);obtain⟨ba,off,rfl,ac,hc⟩:=HX.out;have f1:=zi HS.out (3+k);go_wp2_with (go_at_call 159;refine(HH.out k pU _).mono ?_;rintro e w' ⟨rfl,my⟩;obtain rfl:=my.symm)
 go_roundw
 case rel=>exact⟨k+1,by omega,by go_num,((Lf _ _ _ w.heap.size (by show w.heap.size≠w.heap.size+1+1;omega)).trans ((Lf wr _ _ w.heap.size (by show w.heap.size≠w.heap.size+1+1;omega)).trans HG.out)),((Lf _ _ _ (w.heap.size+1) (by show w.heap.size+1≠w.heap.size+1+1;omega)).trans ((Lf wr _ _ (w.heap.size+1) (by show w.heap.size+1≠w.heap.size+1+1;omega)).trans H0.out)),(by show _=_;rw[Lk _ _ (3+k) _ _ _ HS.out,<-hE.out,vq_set2 _ _ _ (zW r p row) k pU]),((Bi.out.setCell (by show w.heap.size<=w.heap.size+1+1;omega) _).setCell (by show w.heap.size<=w.heap.size+1+1;omega) _)⟩
 simp[Ap];omega
end
section
open Go.RowKit Go.Shelf
structure Bt(D bs:Nat)(SC:Ar->Ar->Array Ar)(WR:Ba)(vs:List Vw)(xs:List Exn)(V E:Ar)(X:Ba):Prop where
 wr:Wrote (fun k=>k=bs) WR X
 wd:WR.heap.size<=D
 big:D<=X.heap.size
 bsl:bs<D
 sys:X.heap[bs]?=J (Ag (SC V E) 39 (0,0))
 tb:OwnV X D V vs
 out:OwnX Qc (fun k=>bs<k) X D E xs
 no:∀k,V.ownBlock=J k->E.ownBlock≠J k
structure Bq(D bs bx:Nat)(SC:Ar->Ar->Array Ar)(WR:Ba)(c:Int)(wv:Ar)(vs:List Vw)(xs:List Exn)(views:List (List Int))(row:List Int)(V E Y L:Ar)(X:Ba):Prop where
 wr:Wrote (fun k=>k=bs) WR X
 wd:WR.heap.size<=D
 big:D<=X.heap.size
 bsl:bs<D
 sys:X.heap[bs]?=J (Ag (SC V E) 39 (0,0))
 x:X.heap[bx]?=J (Ag #[O U c,wv,Y] 128 (0,0))
 hx:D<=bx
 tb:OwnV X D V vs
 out:OwnX Qc (fun k=>bs<k/\k≠bx/\Y.ownBlock≠J k/\L.ownBlock≠J k) X D E xs
 vw:OwnX cIs (fun k=>D<=k/\k≠bx/\E.ownBlock≠J k/\L.ownBlock≠J k) X D Y views
 row:OwnR kIn X D L row.length (row.map (O U))
 nV:∀k,V.ownBlock=J k->k≠bx/\E.ownBlock≠J k/\Y.ownBlock≠J k/\L.ownBlock≠J k
 nE:∀k,E.ownBlock=J k->k≠bx/\Y.ownBlock≠J k/\L.ownBlock≠J k
 nY:∀k,Y.ownBlock=J k->k≠bx/\L.ownBlock≠J k
 nL:∀k,L.ownBlock=J k->k≠bx
section
variable {D bs bx:Nat} {SC:Ar->Ar->Array Ar} {WR X:Ba} {c:Int} {wv:Ar} {vs:List Vw} {xs:List Exn} {views:List (List Int)} {row:List Int} {V E Y L:Ar}
theorem OwnV.lt'{w:Ba}{ab:Nat}{v:Ar}{vs:List Vw}(h:OwnV w ab v vs):∀k,v.ownBlock=J k->ab<=k/\k<w.heap.size:=Rk h
theorem Bq.bxl(h:Bq D bs bx SC WR c wv vs xs views row V E Y L X):bx<X.heap.size:=(Ln.1 h.x).1
theorem Bt.on(h:Bt D bs SC WR vs xs V E X){X':Ba}(hb:Am X.heap.size X X'):Bt D bs SC WR vs xs V E X':=
 ⟨h.wr.trans (Wrote.of_below (R:=fun _=>False) hb) (fun _ _ h=>h.elim),h.wd,by have:=hb.size;have:=h.big;omega,h.bsl,Lb hb (by have:=h.bsl;have:=h.big;omega) h.sys,
  h.tb.of_same fun k hk=>hb.block k (h.tb.lt' k hk).2,h.out.below zS hb (Ld _),h.no⟩
theorem Bq.on(h:Bq D bs bx SC WR c wv vs xs views row V E Y L X){X':Ba}(hb:Am X.heap.size X X'):Bq D bs bx SC WR c wv vs xs views row V E Y L X':=
 ⟨h.wr.trans (Wrote.of_below (R:=fun _=>False) hb) (fun _ _ h=>h.elim),h.wd,by have:=hb.size;have:=h.big;omega,h.bsl,Lb hb (by have:=h.bsl;have:=h.big;omega) h.sys,
  Lb hb h.bxl h.x,h.hx,h.tb.of_same fun k hk=>hb.block k (h.tb.lt' k hk).2,h.out.below zS hb (Ld _),h.vw.below yX hb (Ld _),h.row.below hb (Ld _),h.nV,h.nE,h.nY,h.nL⟩
theorem Bt.start(h:Bt D bs SC WR vs xs V E X){X':Ba}(hb:Am X.heap.size X X')(hx:X'.heap[X.heap.size]?=J (Ag #[O U c,wv,I Z 0 0] 128 (0,0))) :
  Bq D bs X.heap.size SC WR c wv vs xs [] [] V E (I Z 0 0) (I Z 0 0) X':=by
 have h':=h.on hb;refine⟨h'.wr,h'.wd,h'.big,h'.bsl,h'.sys,hx,h.big,h'.tb,?_,OwnX.nil _ _ _ _,OwnR.nil _ _ _,fun k hk=>?_,fun k hk=>?_,fun k hk=>?_,fun k hk=>?_⟩
 . refine OwnX.below zS (OwnX.mono zS h.out fun k hk hs=>⟨hs,by omega,?_,?_⟩) hb (Ld _)
   . simp[Value.ownBlock]
   simp[Value.ownBlock]
 . have:=(h.tb.lt' k hk).2
   exact⟨by omega,h.no k hk,by simp[Value.ownBlock],by simp[Value.ownBlock]⟩
 . have:=(h.out.lt k hk).2
   exact⟨by omega,by simp[Value.ownBlock],by simp[Value.ownBlock]⟩
 . simp[Value.ownBlock] at hk
 simp[Value.ownBlock] at hk
theorem Bq.put(h:Bq D bs bx SC WR c wv vs xs views row V E Y L X){W:Ba}(hb:Am X.heap.size X W){V' u:Ar}{BU:List Vw}(hT:OwnV W D V' BU)(hV:∀k,V'.ownBlock=J k->V.ownBlock=J k\/X.heap.size<=k)
  (h7:(SC V E).setIfInBounds 7 u=SC V E) (h8:(SC V E).setIfInBounds 8 V'=SC V' E) :
  Bq D bs bx SC WR c wv BU xs views row V' E Y L ((W.setCell ⟨bs,7,Z⟩ u).setCell ⟨bs,8,Z⟩ V'):=by
 have h1:=h.on hb;have bN:=h.bsl;have ce:=h.hx;obtain⟨W',th⟩:=Kk ((W.setCell ⟨bs,7,Z⟩ u).setCell ⟨bs,8,Z⟩ V')
 have hk:∀k,k≠bs->W'.heap[k]?=W.heap[k]?:=fun k hk=>by
  rw[<-th];exact(Lf _ ⟨bs,8,Z⟩ _ k hk).trans (Lf _ ⟨bs,7,Z⟩ _ k hk)
 have hz:W'.heap.size=W.heap.size:=by rw[<-th];simp
 have hs:W'.heap[bs]?=J (Ag (SC V' E) 39 (0,0)):=by
  rw[<-th];have q:=Lk W bs 7 _ _ u h1.sys;rw[h7] at q;have q2:=Lk _ bs 8 _ _ V' q;rwa[h8] at q2
 have hw:Wrote (fun k=>k=bs) W W':=by
  rw[<-th];exact⟨rfl,rfl,rfl,by simp,fun k _ hk=>(Lf _ ⟨bs,8,Z⟩ _ k hk).trans (Lf _ ⟨bs,7,Z⟩ _ k hk)⟩
 rw[th];refine⟨h1.wr.trans hw (fun k _ e=>e),h.wd,by have:=h1.big;omega,h.bsl,hs,(hk _ (by omega)).trans h1.x,h.hx,hT.of_same fun k e=>hk k (by have:=(hT.lt' k e).1;omega),?_,?_,?_,fun k e=>?_,h.nE,h.nY,h.nL⟩
 . exact h1.out.keep zS ⟨by omega,fun k hs _=>hk k (by have:=hs.1;omega)⟩ fun k e=>hk k (by have:=(h1.out.lt k e).1;omega)
 . exact h1.vw.keep yX ⟨by omega,fun k hs _=>hk k (by have:=hs.1;omega)⟩ fun k e=>hk k (by have:=(h1.vw.lt k e).1;omega)
 . refine h1.row.kept (row:=J bs) ⟨hw.os,hw.tape,hw.output,hw.size,fun k _ hn=>hk k (fun e=>hn (by rw[e]))⟩ (Or.inr (h1.row.ne (by omega)))
 rcases hV k e with e | e
 . exact h.nV k e
 have cp:=h.bxl;exact⟨by omega,fun e2=>by have:=(h.out.lt k e2).2;omega,fun e2=>by have:=(h.vw.lt k e2).2;omega,fun e2=>by have:=(h.row.lt k e2).2;omega⟩
theorem YZ(W:Ba)(b o:Nat)(u:Ar):Wrote (fun k=>k=b) W (W.setCell ⟨b,o,Z⟩ u):=⟨rfl,rfl,rfl,by simp,fun k _ hn=>Lf W ⟨b,o,Z⟩ u k hn⟩
theorem OwnX.aside{α:Type}{C:Ct α}(ok:CtOk C){S:Nat->Prop}{W w5:Ba}{v L:Ar}{xs:List α}{g' n cap:Nat}(h:OwnX C S W D v xs)(hS:∀k,S k->L.ownBlock≠J k)(hg:W.grownBy w5 L.ownBlock)(bC:∀k,v.ownBlock=J k->L.ownBlock≠J k)
  (bG:L.ownBlock=J g'\/g'=W.heap.size):OwnX C (fun k=>S k/\(I (J ⟨g',0,Z⟩) n cap).ownBlock≠J k) w5 D v xs:=by
 have h1:OwnX C (fun k=>S k/\(I (J ⟨g',0,Z⟩) n cap).ownBlock≠J k) W D v xs:=OwnX.mono ok h fun k hk hs=>⟨hs,fun e=>by
  have e2:g'=k:=by simpa[Value.ownBlock] using e
  rcases bG with e3 | e3
  . exact hS k hs (by rw[e3,e2])
  . omega⟩
 refine h1.kept ok hg ?_ fun k hk=>.inl fun hs=>hS k hs.1 hk
 cases hv:v.ownBlock with
 | none=>exact .inl rfl
 | some k=>exact .inr fun e=>bC k hv e.symm
theorem OwnV.aside{W w5:Ba}{v L:Ar}{vs:List Vw}(h:OwnV W D v vs)(hg:W.grownBy w5 L.ownBlock)(bC:∀k,v.ownBlock=J k->L.ownBlock≠J k):OwnV w5 D v vs:=
 h.of_same fun k hk=>hg.block k (h.lt' k hk).2 fun e=>bC k hk e.symm
theorem qB{L:Ar}{W:Ba}{g' n cap:Nat}{P:Nat->Prop}(bG:L.ownBlock=J g'\/g'=W.heap.size)(h1:∀k,L.ownBlock=J k->P k)(h2:P W.heap.size):∀k,(I (J ⟨g',0,Z⟩) n cap).ownBlock=J k->P k:=fun k e=>by
 have e2:g'=k:=by simpa[Value.ownBlock] using e
 subst e2;rcases bG with e3 | e3
 . exact h1 g' e3
 . rw[e3];exact h2
theorem Bq.push(h:Bq D bs bx SC WR c wv vs xs views row V E Y L X){W w5:Ba}(hb:Am X.heap.size X W){i:Int}{g' cap:Nat}
  (hr:OwnR kIn w5 D (I (J ⟨g',0,Z⟩) (row.length+1) cap) (row.length+1) (row.map (O U)++[O U i])) (hg:W.grownBy w5 L.ownBlock) (bG:L.ownBlock=J g'\/g'=W.heap.size) :
  Bq D bs bx SC WR c wv vs xs views (row++[i]) V E Y (I (J ⟨g',0,Z⟩) (row.length+1) cap) w5:=by
 have h1:=h.on hb;have aN:=h1.row.lt;have bN:=h.bsl;have ce:=h.hx;have hbig:=h1.big;have IC:=h1.tb.lt';have Ej:=h1.out.lt;have Wc:=h1.vw.lt;have cp:=h1.bxl;have hgz:=hg.size;refine⟨h1.wr.trans (Wrote.of_grown (R:=fun k=>D<=k) hg (fun k e _=>(aN k e).1)) (fun k hk e=>by have:=h.wd;omega),h.wd,by omega,h.bsl,?_,?_,h.hx,h1.tb.aside hg fun k e=>(h.nV k e).2.2.2,?_,?_,by simpa using hr,fun k e=>?_,fun k e=>?_,fun k e=>?_,?_⟩
 . exact(hg.block bs (by omega) fun e=>by have:=(aN bs e.symm).1;omega).trans h1.sys
 . exact(hg.block bx cp fun e=>h.nL bx e.symm rfl).trans h1.x
 . exact OwnX.mono zS (h1.out.aside zS (n:=row.length+1) (cap:=cap) (fun k hs=>hs.2.2.2) hg (fun k e=>(h.nE k e).2.2) bG) fun k _ hs=>⟨hs.1.1,hs.1.2.1,hs.1.2.2.1,hs.2⟩
 . exact OwnX.mono yX (h1.vw.aside yX (n:=row.length+1) (cap:=cap) (fun k hs=>hs.2.2.2) hg (fun k e=>(h.nY k e).2) bG) fun k _ hs=>⟨hs.1.1,hs.1.2.1,hs.1.2.2.1,hs.2⟩
 . exact⟨(h.nV k e).1,(h.nV k e).2.1,(h.nV k e).2.2.1,fun e2=>qB (P:=fun j=>V.ownBlock≠J j) bG (fun j ej ev=>(h.nV j ev).2.2.2 ej) (fun ev=>by have:=(IC _ ev).2;omega) k e2 e⟩
 . exact⟨(h.nE k e).1,(h.nE k e).2.1,fun e2=>qB (P:=fun j=>E.ownBlock≠J j) bG (fun j ej ev=>(h.nE j ev).2.2 ej) (fun ev=>by have:=(Ej _ ev).2;omega) k e2 e⟩
 . exact⟨(h.nY k e).1,fun e2=>qB (P:=fun j=>Y.ownBlock≠J j) bG (fun j ej ev=>(h.nY j ev).2 ej) (fun ev=>by have:=(Wc _ ev).2;omega) k e2 e⟩
 exact qB bG h.nL (by omega)
theorem Bq.close(h:Bq D bs bx SC WR c wv vs xs views row V E Y L X){W w5:Ba}(hb:Am X.heap.size X W){g' cap:Nat}{bE:List (List Ar)}(bn:bE.length=views.length)
  (cN:∀(i:Nat) (h1:i<bE.length) (h2:i<views.length),cIs.lies (fun k=>(D<=k/\k≠bx/\E.ownBlock≠J k/\L.ownBlock≠J k)/\Y.ownBlock≠J k) W bE[i] views[i])
  (hr:OwnR kIs w5 D (I (J ⟨g',0,Z⟩) (views.length+1) cap) (views.length+1) (bE.flatten++[L])) (hg:W.grownBy w5 Y.ownBlock) (bG:Y.ownBlock=J g'\/g'=W.heap.size) :
  Bq D bs bx SC WR c wv vs xs (views++[row]) [] V E (I (J ⟨g',0,Z⟩) (views.length+1) cap) (I Z 0 0) (w5.setCell ⟨bx,2,Z⟩ (I (J ⟨g',0,Z⟩) (views.length+1) cap)):=by
 have h1:=h.on hb;have aN:=h1.vw.lt;have bN:=h.bsl;have ce:=h.hx;have hbig:=h1.big;have IC:=h1.tb.lt';have Ej:=h1.out.lt;have hRl:=h1.row.lt;have cp:=h1.bxl;have hgz:=hg.size;obtain⟨A,cL,eL,_,_,hLc⟩:=h1.row.form
 have hX:cIs.lies (fun k=>(D<=k/\k≠bx/\E.ownBlock≠J k)/\Y.ownBlock≠J k) W [L] row:=by
  refine⟨A,cL,by rw[eL],fun h0=>?_⟩;obtain⟨g,hA,Ga,fd,hc⟩:=hLc h0;refine⟨g,0,hA,⟨⟨(hRl g Ga).1,h.nL g Ga,fun e=>(h.nE g e).2.2 Ga⟩,fun e=>(h.nY g e).2 Ga⟩,fd,fun i hi=>?_⟩;rw[LQ];exact hc i _ (by simp[hi])
 have hv:=OwnX.app yX (S:=fun k=>D<=k/\k≠bx/\E.ownBlock≠J k) bn (fun i i1 i2=>yX.mono (cN i i1 i2) fun k _ hs=>⟨⟨hs.1.1,hs.1.2.1,hs.1.2.2.1⟩,hs.2⟩) hX hr hg bG;have lm:=h1.out.aside zS (n:=views.length+1) (cap:=cap) (fun k hs=>hs.2.2.1) hg (fun k e=>(h.nE k e).2.1) bG;have hgx:w5.heap[bx]?=J (Ag #[O U c,wv,Y] 128 (0,0)):=(hg.block bx cp fun e=>(h.nY bx e.symm).1 rfl).trans h1.x;have Is:w5.heap[bs]?=J (Ag (SC V E) 39 (0,0)):=(hg.block bs (by omega) fun e=>by have:=(aN bs e.symm).1;omega).trans h1.sys;have hk:∀k,k≠bx->(w5.setCell ⟨bx,2,Z⟩ (I (J ⟨g',0,Z⟩) (views.length+1) cap)).heap[k]?=w5.heap[k]?:=fun k hk=>Lf w5 ⟨bx,2,Z⟩ _ k hk
 have hw:Wrote (fun k=>D<=k) W (w5.setCell ⟨bx,2,Z⟩ (I (J ⟨g',0,Z⟩) (views.length+1) cap)):=
  (Wrote.of_grown (R:=fun k=>D<=k) hg (fun k e _=>(aN k e).1)).trans (YZ w5 bx 2 _) (fun k _ e=>by omega)
 refine⟨h1.wr.trans hw (fun k hk e=>by have:=h.wd;omega),h.wd,by simp;omega,h.bsl,(hk bs (by omega)).trans Is,?_,h.hx,?_,?_,?_,OwnR.nil _ _ _,fun k e=>?_,fun k e=>?_,fun k e=>?_,fun k e=>?_⟩
 . rw[Lk w5 bx 2 _ _ _ hgx];rfl
 . exact(h1.tb.aside hg fun k e=>(h.nV k e).2.2.1).of_same fun k e=>hk k (h.nV k e).1
 . exact OwnX.mono zS (lm.keep zS ⟨by simp,fun k hs _=>hk k hs.1.2.1⟩ fun k e=>hk k (h.nE k e).1) fun k _ hs=>⟨hs.1.1,hs.1.2.1,hs.2,by simp[Value.ownBlock]⟩
 . refine OwnX.mono yX (hv.keep yX ⟨by simp,fun k hs _=>hk k hs.2.1⟩ fun k e=>hk k ?_) fun k _ hs=>⟨hs.1,hs.2.1,hs.2.2,by simp[Value.ownBlock]⟩
   exact qB (P:=fun j=>j≠bx) bG (fun j e=>(h.nY j e).1) (by omega) k e
 . exact⟨(h.nV k e).1,(h.nV k e).2.1,fun e2=>qB (P:=fun j=>V.ownBlock≠J j) bG (fun j ej ev=>(h.nV j ev).2.2.1 ej) (fun ev=>by have:=(IC _ ev).2;omega) k e2 e,by simp[Value.ownBlock]⟩
 . exact⟨(h.nE k e).1,fun e2=>qB (P:=fun j=>E.ownBlock≠J j) bG (fun j ej ev=>(h.nE j ev).2.1 ej) (fun ev=>by have:=(Ej _ ev).2;omega) k e2 e,by simp[Value.ownBlock]⟩
 . exact⟨qB (P:=fun j=>j≠bx) bG (fun j e=>(h.nY j e).1) (by omega) k e,by simp[Value.ownBlock]⟩
 simp[Value.ownBlock] at e
theorem Bq.done(h:Bq D bs bx SC WR c wv vs xs views [] V E Y (I Z 0 0) X){W w5:Ba}(hb:Am X.heap.size X W){g' cap A2 c2 A3 c3:_}{bE:List (List Ar)}{word:List Rd}(bn:bE.length=xs.length)
  (cN:∀(i:Nat) (h1:i<bE.length) (h2:i<xs.length),Qc.lies (fun k=>(bs<k/\k≠bx/\Y.ownBlock≠J k/\(I Z 0 0).ownBlock≠J k)/\E.ownBlock≠J k) W bE[i] xs[i])
  (hwv:wv=I A2 word.length c2) (hYv:Y=I A3 views.length c3) (hw:RAtS (fun k=>bs<k/\k<D) WR A2 word) (sT:word.length<=c2)
  (hr:OwnR kXn w5 D (I (J ⟨g',0,Z⟩) (xs.length+1) cap) (xs.length+1) (bE.flatten++[O U c,wv,Y])) (hg:W.grownBy w5 E.ownBlock) (bG:E.ownBlock=J g'\/g'=W.heap.size)
  (h9:(SC V E).setIfInBounds 9 (I (J ⟨g',0,Z⟩) (xs.length+1) cap)=SC V (I (J ⟨g',0,Z⟩) (xs.length+1) cap)) :
  Bt D bs SC WR vs (xs++[⟨c,word,views⟩]) V (I (J ⟨g',0,Z⟩) (xs.length+1) cap) (w5.setCell ⟨bs,9,Z⟩ (I (J ⟨g',0,Z⟩) (xs.length+1) cap)):=by
 have h1:=h.on hb;have aN:=h1.out.lt;have bN:=h.bsl;have ce:=h.hx;have hbig:=h1.big;have IC:=h1.tb.lt';have Wc:=h1.vw.lt;have hgz:=hg.size;obtain⟨A3',c3',e3,_,_,hL⟩:=XC h1.vw;rw[hYv] at e3
 cases e3
 have hX:Qc.lies (fun k=>bs<k/\E.ownBlock≠J k) W [O U c,wv,Y] ⟨c,word,views⟩:=by
  refine⟨A2,c2,A3,c3,by rw[hwv,hYv],?_,?_,sT⟩
  . exact(hw.keep ⟨h1.wr.size,fun k hk hl=>h1.wr.block k hl (fun e=>by have:=hk.1;omega)⟩).mono fun k _ hs=>⟨hs.1,fun e=>by have:=(aN k e).1;have:=hs.2;omega⟩
  refine hL.mono fun k _ hs=>?_
  rcases hs with hs | hs
  . exact⟨by have:=hs.1;omega,hs.2.2.1⟩
  exact⟨by have:=(Wc k hs).1;omega,fun e=>(h.nE k e).2.1 hs⟩
 have hv:=OwnX.app zS (S:=fun k=>bs<k) bn (fun i i1 i2=>zS.mono (cN i i1 i2) fun k _ hs=>⟨hs.1.1,hs.2⟩) hX hr hg bG;have Is:w5.heap[bs]?=J (Ag (SC V E) 39 (0,0)):=(hg.block bs (by omega) fun e=>by have:=(aN bs e.symm).1;omega).trans h1.sys;have hk:∀k,k≠bs->(w5.setCell ⟨bs,9,Z⟩ (I (J ⟨g',0,Z⟩) (xs.length+1) cap)).heap[k]?=w5.heap[k]?:=fun k hk=>Lf w5 ⟨bs,9,Z⟩ _ k hk
 have fL:Wrote (fun k=>k=bs\/D<=k) W (w5.setCell ⟨bs,9,Z⟩ (I (J ⟨g',0,Z⟩) (xs.length+1) cap)):=
  (Wrote.of_grown (R:=fun k=>k=bs\/D<=k) hg (fun k e _=>.inr (aN k e).1)).trans (YZ w5 bs 9 _) (fun k _ e=>.inl e)
 refine⟨h1.wr.trans fL (fun k hk e=>by have:=h.wd;omega),h.wd,by simp;omega,h.bsl,?_,?_,?_,fun k e=>?_⟩
 . rw[Lk w5 bs 9 _ _ _ Is,h9]
 . exact(h1.tb.aside hg fun k e=>(h.nV k e).2.1).of_same fun k e=>hk k (by have:=(IC k e).1;omega)
 . refine hv.keep zS ⟨by simp,fun k hs _=>hk k (by omega)⟩ fun k e=>hk k ?_
   exact qB (P:=fun j=>j≠bs) bG (fun j e=>by have:=(aN j e).1;omega) (by omega) k e
 exact fun e2=>qB (P:=fun j=>V.ownBlock≠J j) bG (fun j ej ev=>(h.nV j ev).2.1 ej) (fun ev=>by have:=(IC _ ev).2;omega) k e2 e
end
end
section
open Go.RowKit Go.Shelf
def stQ(vs:List Vw)(N:Nat)(inp:List Int)(word:List Rd):Nat->List Vw×List (List Int)
 | 0=>(vs,[])
 | k+1=>zA vs N inp word k
def fQ(inp:List Int)(word:List Rd)(views:List (List Int)):Nat->Nat->Vw
 | 0=>f0 inp
 | k+1=>fk word k (views.getD k [])
theorem stQ_succ(vs:List Vw)(N:Nat)(inp:List Int)(word:List Rd)(k:Nat) :
  stQ vs N inp word (k+1)=((yq (fQ inp word (stQ vs N inp word k).2 k) (stQ vs N inp word k).1 N).1,(stQ vs N inp word k).2++[(yq (fQ inp word (stQ vs N inp word k).2 k) (stQ vs N inp word k).1 N).2]):=by
 cases k<;>rfl
theorem stQ_len(vs:List Vw)(N:Nat)(inp:List Int)(word:List Rd)(k:Nat):(stQ vs N inp word k).2.length=k:=by
 cases k
 . rfl
 exact yF _ _ _ _ _
theorem stQ_few(vs:List Vw)(N:Nat)(inp:List Int)(word:List Rd)(k:Nat):(stQ vs N inp word k).1.length<=vs.length+k*N:=by
 cases k
 . simp[stQ]
 exact jb _ _ _ _ _
theorem stQ_row(vs:List Vw)(N:Nat)(inp:List Int)(word:List Rd)(k j:Nat)(hj:j<(stQ vs N inp word k).2.length):((stQ vs N inp word k).2[j]).length=N:=by
 cases k with
 | zero=>exact absurd hj (by simp[stQ])
 | succ k=>exact kh _ _ _ _ k _ (Le hj)
def pcs(af:List (List Rd))(c:Nat):List (Nat×List Rd):=(List.range c).flatMap fun i=>af.map fun w=>(i,w)
theorem QO(af:List (List Rd))(c:Nat):pcs af (c+1)=pcs af c++af.map fun w=>(c,w):=by
 unfold pcs;rw[Sf,RJ];simp
theorem XS(p:Pb):zC p=pcs (zI p.a p.k.toNat 0) p.t.cases.length:=rfl
def pcw(af:List (List Rd))(c j:Nat):List (Nat×List Rd):=pcs af c++(af.take j).map fun w=>(c,w)
theorem QN(af:List (List Rd))(c:Nat):pcw af c 0=pcs af c:=by simp[pcw]
theorem pcw_succ(af:List (List Rd))(c j:Nat)(hj:j<af.length):pcw af c (j+1)=pcw af c j++[(c,af[j])]:=by
 unfold pcw;rw[Lq hj,LK,List.map_singleton,Nh]
theorem pcw_end(af:List (List Rd))(c:Nat):pcw af c af.length=pcs af (c+1):=by
 unfold pcw;rw[LS,QO]
theorem Zu(af:List (List Rd)):∀c,(pcs af c).length=c*af.length
 | 0=>by simp[pcs]
 | c+1=>by rw[QO,Lv,Zu af c,LM,Rf];omega
theorem pcw_len(af:List (List Rd))(c j:Nat)(hj:j<=af.length):(pcw af c j).length=c*af.length+j:=by
 unfold pcw;rw[Lv,Zu,LM,Rp,Sd hj]
theorem pcw_mem(af:List (List Rd))(c j:Nat):∀x∈pcw af c j,x.2∈af:=fun x hx=>by
 unfold pcw at hx;rcases Ng.1 hx with hx | hx
 . unfold pcs at hx
   obtain⟨_,_,hx⟩:=NH.1 hx;obtain⟨_,h,rfl⟩:=LZ.1 hx;exact h
 . obtain⟨_,h,rfl⟩:=LZ.1 hx
   exact List.mem_of_mem_take h
theorem Xb(p:Pb)(af:List (List Rd))(hn:p.t.n.toNat<=5)(hw:∀w∈af,w.length<=6)(c j:Nat)(hj:j<=af.length)(mP:c*af.length+j<=60):(zE p (pcw af c j)).1.length<=2100/\(zE p (pcw af c j)).2.length=c*af.length+j:=by
 have h1:=ZZ p hn (pcw af c j) fun x hx=>hw _ (pcw_mem af c j x hx)
 rw[pcw_len af c j hj] at h1;refine⟨by omega,?_⟩;rw[qc,pcw_len af c j hj]
theorem ZY(p:Pb)(af:List (List Rd))(hn:p.t.n.toNat<=5)(hw:∀w∈af,w.length<=6)(c:Nat)(mP:c*af.length<=60):(zE p (pcs af c)).1.length<=2100:=by
 have:=(Xb p af hn hw c 0 (Nz _) (by omega)).1;rwa[QN] at this
theorem put_out{n:Int}{AV:Bb}{kv:Nat}{vs:List Vw}{v:Vw}{W w':Ba}{e:Ending}{D:Nat}(h:RetPut n AV kv vs v W e w')(hO:OwnV W D (I AV vs.length kv) vs)(hD:D<=W.heap.size) :
  ∃A3 k3,e=Ak (.tuple #[Ai #[O U n,.slice A3 (qe vs v).1.length k3],O U (qe vs v).2])/\OwnV w' D (.slice A3 (qe vs v).1.length k3) (qe vs v).1 /\
   (∀k,(I A3 (qe vs v).1.length k3).ownBlock=J k->(I AV vs.length kv).ownBlock=J k\/W.heap.size<=k)/\Am W.heap.size W w':=by
 obtain⟨hb,h1,h2⟩:=h
 by_cases hm:v∈vs
 . rw[QH hm]
   exact⟨AV,kv,h1 hm,hO.of_same fun k hk=>hb.block k (hO.lt' k hk).2,fun k hk=>.inl hk,hb⟩
 rw[putW_no hm];obtain⟨A3,k3,e3,ho⟩:=h2 hm;have hl:(vs++[v]).length=vs.length+1:=by simp
 dsimp only;rw[hl];exact⟨A3,k3,e3,ho.low hD,fun k hk=>.inr (ho.lt' k hk).1,hb⟩
theorem kC{w X:Ba}{g B:Nat}{a0 a1 a2 a3 a4 a5 a6 a7 a8 a9:Ar}(v0 v1 v2 v3 v4 v5 v6 v7 v8 v9:Ar)(hg:X.heap[g]?=J (Ag #[a0,a1,a2,a3,a4,a5,a6,a7,a8,a9] 39 (0,0)))(hB:Am B w X)(h1:B<=g) :
  ((((((((((X.setCell ⟨g,0,Z⟩ v0).setCell ⟨g,1,Z⟩ v1).setCell ⟨g,2,Z⟩ v2).setCell ⟨g,3,Z⟩ v3).setCell ⟨g,4,Z⟩ v4).setCell ⟨g,5,Z⟩ v5).setCell ⟨g,6,Z⟩ v6).setCell ⟨g,7,Z⟩ v7).setCell ⟨g,8,Z⟩ v8).setCell ⟨g,9,Z⟩ v9).heap[g]?=J (Ag #[v0,v1,v2,v3,v4,v5,v6,v7,v8,v9] 39 (0,0))/\Am B w ((((((((((X.setCell ⟨g,0,Z⟩ v0).setCell ⟨g,1,Z⟩ v1).setCell ⟨g,2,Z⟩ v2).setCell ⟨g,3,Z⟩ v3).setCell ⟨g,4,Z⟩ v4).setCell ⟨g,5,Z⟩ v5).setCell ⟨g,6,Z⟩ v6).setCell ⟨g,7,Z⟩ v7).setCell ⟨g,8,Z⟩ v8).setCell ⟨g,9,Z⟩ v9)/\Am g X ((((((((((X.setCell ⟨g,0,Z⟩ v0).setCell ⟨g,1,Z⟩ v1).setCell ⟨g,2,Z⟩ v2).setCell ⟨g,3,Z⟩ v3).setCell ⟨g,4,Z⟩ v4).setCell ⟨g,5,Z⟩ v5).setCell ⟨g,6,Z⟩ v6).setCell ⟨g,7,Z⟩ v7).setCell ⟨g,8,Z⟩ v8).setCell ⟨g,9,Z⟩ v9)/\(∀k,k≠g->((((((((((X.setCell ⟨g,0,Z⟩ v0).setCell ⟨g,1,Z⟩ v1).setCell ⟨g,2,Z⟩ v2).setCell ⟨g,3,Z⟩ v3).setCell ⟨g,4,Z⟩ v4).setCell ⟨g,5,Z⟩ v5).setCell ⟨g,6,Z⟩ v6).setCell ⟨g,7,Z⟩ v7).setCell ⟨g,8,Z⟩ v8).setCell ⟨g,9,Z⟩ v9).heap[k]?=X.heap[k]?)/\((((((((((X.setCell ⟨g,0,Z⟩ v0).setCell ⟨g,1,Z⟩ v1).setCell ⟨g,2,Z⟩ v2).setCell ⟨g,3,Z⟩ v3).setCell ⟨g,4,Z⟩ v4).setCell ⟨g,5,Z⟩ v5).setCell ⟨g,6,Z⟩ v6).setCell ⟨g,7,Z⟩ v7).setCell ⟨g,8,Z⟩ v8).setCell ⟨g,9,Z⟩ v9).heap.size=X.heap.size:=by
 have k0:(X.setCell ⟨g,0,Z⟩ v0).heap[g]?=J (Ag #[v0,a1,a2,a3,a4,a5,a6,a7,a8,a9] 39 (0,0)):=Lk _ g 0 _ _ v0 hg;have k1:((X.setCell ⟨g,0,Z⟩ v0).setCell ⟨g,1,Z⟩ v1).heap[g]?=J (Ag #[v0,v1,a2,a3,a4,a5,a6,a7,a8,a9] 39 (0,0)):=Lk _ g 1 _ _ v1 k0;have k2:(((X.setCell ⟨g,0,Z⟩ v0).setCell ⟨g,1,Z⟩ v1).setCell ⟨g,2,Z⟩ v2).heap[g]?=J (Ag #[v0,v1,v2,a3,a4,a5,a6,a7,a8,a9] 39 (0,0)):=Lk _ g 2 _ _ v2 k1;have k3:((((X.setCell ⟨g,0,Z⟩ v0).setCell ⟨g,1,Z⟩ v1).setCell ⟨g,2,Z⟩ v2).setCell ⟨g,3,Z⟩ v3).heap[g]?=J (Ag #[v0,v1,v2,v3,a4,a5,a6,a7,a8,a9] 39 (0,0)):=Lk _ g 3 _ _ v3 k2;have k4:(((((X.setCell ⟨g,0,Z⟩ v0).setCell ⟨g,1,Z⟩ v1).setCell ⟨g,2,Z⟩ v2).setCell ⟨g,3,Z⟩ v3).setCell ⟨g,4,Z⟩ v4).heap[g]?=J (Ag #[v0,v1,v2,v3,v4,a5,a6,a7,a8,a9] 39 (0,0)):=Lk _ g 4 _ _ v4 k3;have k5:((((((X.setCell ⟨g,0,Z⟩ v0).setCell ⟨g,1,Z⟩ v1).setCell ⟨g,2,Z⟩ v2).setCell ⟨g,3,Z⟩ v3).setCell ⟨g,4,Z⟩ v4).setCell ⟨g,5,Z⟩ v5).heap[g]?=J (Ag #[v0,v1,v2,v3,v4,v5,a6,a7,a8,a9] 39 (0,0)):=Lk _ g 5 _ _ v5 k4;have k6:(((((((X.setCell ⟨g,0,Z⟩ v0).setCell ⟨g,1,Z⟩ v1).setCell ⟨g,2,Z⟩ v2).setCell ⟨g,3,Z⟩ v3).setCell ⟨g,4,Z⟩ v4).setCell ⟨g,5,Z⟩ v5).setCell ⟨g,6,Z⟩ v6).heap[g]?=J (Ag #[v0,v1,v2,v3,v4,v5,v6,a7,a8,a9] 39 (0,0)):=Lk _ g 6 _ _ v6 k5
 have k7:((((((((X.setCell ⟨g,0,Z⟩ v0).setCell ⟨g,1,Z⟩ v1).setCell ⟨g,2,Z⟩ v2).setCell ⟨g,3,Z⟩ v3).setCell ⟨g,4,Z⟩ v4).setCell ⟨g,5,Z⟩ v5).setCell ⟨g,6,Z⟩ v6).setCell ⟨g,7,Z⟩ v7).heap[g]?=J (Ag #[v0,v1,v2,v3,v4,v5,v6,v7,a8,a9] 39 (0,0)):=Lk _ g 7 _ _ v7 k6;have k8:(((((((((X.setCell ⟨g,0,Z⟩ v0).setCell ⟨g,1,Z⟩ v1).setCell ⟨g,2,Z⟩ v2).setCell ⟨g,3,Z⟩ v3).setCell ⟨g,4,Z⟩ v4).setCell ⟨g,5,Z⟩ v5).setCell ⟨g,6,Z⟩ v6).setCell ⟨g,7,Z⟩ v7).setCell ⟨g,8,Z⟩ v8).heap[g]?=J (Ag #[v0,v1,v2,v3,v4,v5,v6,v7,v8,a9] 39 (0,0)):=Lk _ g 8 _ _ v8 k7;have k9:((((((((((X.setCell ⟨g,0,Z⟩ v0).setCell ⟨g,1,Z⟩ v1).setCell ⟨g,2,Z⟩ v2).setCell ⟨g,3,Z⟩ v3).setCell ⟨g,4,Z⟩ v4).setCell ⟨g,5,Z⟩ v5).setCell ⟨g,6,Z⟩ v6).setCell ⟨g,7,Z⟩ v7).setCell ⟨g,8,Z⟩ v8).setCell ⟨g,9,Z⟩ v9).heap[g]?=J (Ag #[v0,v1,v2,v3,v4,v5,v6,v7,v8,v9] 39 (0,0)):=Lk _ g 9 _ _ v9 k8;refine⟨k9,?_,?_,fun k hk=>?_,by simp⟩
 . refine LC (p:=⟨g,9,Z⟩) ?_ h1 _
   refine LC (p:=⟨g,8,Z⟩) ?_ h1 _;refine LC (p:=⟨g,7,Z⟩) ?_ h1 _;refine LC (p:=⟨g,6,Z⟩) ?_ h1 _;refine LC (p:=⟨g,5,Z⟩) ?_ h1 _;refine LC (p:=⟨g,4,Z⟩) ?_ h1 _;refine LC (p:=⟨g,3,Z⟩) ?_ h1 _;refine LC (p:=⟨g,2,Z⟩) ?_ h1 _;refine LC (p:=⟨g,1,Z⟩) ?_ h1 _;refine LC (p:=⟨g,0,Z⟩) ?_ h1 _;exact hB
 . refine LC (p:=⟨g,9,Z⟩) ?_ (Ld _) _
   refine LC (p:=⟨g,8,Z⟩) ?_ (Ld _) _;refine LC (p:=⟨g,7,Z⟩) ?_ (Ld _) _;refine LC (p:=⟨g,6,Z⟩) ?_ (Ld _) _;refine LC (p:=⟨g,5,Z⟩) ?_ (Ld _) _;refine LC (p:=⟨g,4,Z⟩) ?_ (Ld _) _;refine LC (p:=⟨g,3,Z⟩) ?_ (Ld _) _;refine LC (p:=⟨g,2,Z⟩) ?_ (Ld _) _;refine LC (p:=⟨g,1,Z⟩) ?_ (Ld _) _;refine LC (p:=⟨g,0,Z⟩) ?_ (Ld _) _;exact Li _ _
 exact((Lf _ ⟨g,9,Z⟩ v9 k hk).trans ((Lf _ ⟨g,8,Z⟩ v8 k hk).trans ((Lf _ ⟨g,7,Z⟩ v7 k hk).trans ((Lf _ ⟨g,6,Z⟩ v6 k hk).trans ((Lf _ ⟨g,5,Z⟩ v5 k hk).trans ((Lf _ ⟨g,4,Z⟩ v4 k hk).trans ((Lf _ ⟨g,3,Z⟩ v3 k hk).trans ((Lf _ ⟨g,2,Z⟩ v2 k hk).trans ((Lf _ ⟨g,1,Z⟩ v1 k hk).trans (Lf _ ⟨g,0,Z⟩ v0 k hk))))))))))
theorem vw_store8{w X:Ba}{g B:Nat}{a0 a1 a2 a3 a4 a5 a6 a7:Ar}(v:Vw)(hg:X.heap[g]?=J (Ag #[a0,a1,a2,a3,a4,a5,a6,a7] 133 (0,0)))(hB:Am B w X)(h1:B<=g) :
  ((((((((X.setCell ⟨g,0,Z⟩ (O U v.p)).setCell ⟨g,1,Z⟩ (O U v.r)).setCell ⟨g,2,Z⟩ (O U v.i)).setCell ⟨g,3,Z⟩ (O U v.h0)).setCell ⟨g,4,Z⟩ (O U v.h1)).setCell ⟨g,5,Z⟩ (O U v.h2)).setCell ⟨g,6,Z⟩ (O U v.h3)).setCell ⟨g,7,Z⟩ (O U v.h4)).heap[g]?=J (Ag v.cells 133 (0,0))/\Am B w ((((((((X.setCell ⟨g,0,Z⟩ (O U v.p)).setCell ⟨g,1,Z⟩ (O U v.r)).setCell ⟨g,2,Z⟩ (O U v.i)).setCell ⟨g,3,Z⟩ (O U v.h0)).setCell ⟨g,4,Z⟩ (O U v.h1)).setCell ⟨g,5,Z⟩ (O U v.h2)).setCell ⟨g,6,Z⟩ (O U v.h3)).setCell ⟨g,7,Z⟩ (O U v.h4)):=by
 have k0:(X.setCell ⟨g,0,Z⟩ (O U v.p)).heap[g]?=J (Ag #[O U v.p,a1,a2,a3,a4,a5,a6,a7] 133 (0,0)):=Lk _ g 0 _ _ _ hg;have k1:((X.setCell ⟨g,0,Z⟩ (O U v.p)).setCell ⟨g,1,Z⟩ (O U v.r)).heap[g]?=J (Ag #[O U v.p,O U v.r,a2,a3,a4,a5,a6,a7] 133 (0,0)):=Lk _ g 1 _ _ _ k0;have k2:(((X.setCell ⟨g,0,Z⟩ (O U v.p)).setCell ⟨g,1,Z⟩ (O U v.r)).setCell ⟨g,2,Z⟩ (O U v.i)).heap[g]?=J (Ag #[O U v.p,O U v.r,O U v.i,a3,a4,a5,a6,a7] 133 (0,0)):=Lk _ g 2 _ _ _ k1;have k3:((((X.setCell ⟨g,0,Z⟩ (O U v.p)).setCell ⟨g,1,Z⟩ (O U v.r)).setCell ⟨g,2,Z⟩ (O U v.i)).setCell ⟨g,3,Z⟩ (O U v.h0)).heap[g]?=J (Ag #[O U v.p,O U v.r,O U v.i,O U v.h0,a4,a5,a6,a7] 133 (0,0)):=Lk _ g 3 _ _ _ k2;have k4:(((((X.setCell ⟨g,0,Z⟩ (O U v.p)).setCell ⟨g,1,Z⟩ (O U v.r)).setCell ⟨g,2,Z⟩ (O U v.i)).setCell ⟨g,3,Z⟩ (O U v.h0)).setCell ⟨g,4,Z⟩ (O U v.h1)).heap[g]?=J (Ag #[O U v.p,O U v.r,O U v.i,O U v.h0,O U v.h1,a5,a6,a7] 133 (0,0)):=Lk _ g 4 _ _ _ k3
 have k5:((((((X.setCell ⟨g,0,Z⟩ (O U v.p)).setCell ⟨g,1,Z⟩ (O U v.r)).setCell ⟨g,2,Z⟩ (O U v.i)).setCell ⟨g,3,Z⟩ (O U v.h0)).setCell ⟨g,4,Z⟩ (O U v.h1)).setCell ⟨g,5,Z⟩ (O U v.h2)).heap[g]?=J (Ag #[O U v.p,O U v.r,O U v.i,O U v.h0,O U v.h1,O U v.h2,a6,a7] 133 (0,0)):=Lk _ g 5 _ _ _ k4;have k6:(((((((X.setCell ⟨g,0,Z⟩ (O U v.p)).setCell ⟨g,1,Z⟩ (O U v.r)).setCell ⟨g,2,Z⟩ (O U v.i)).setCell ⟨g,3,Z⟩ (O U v.h0)).setCell ⟨g,4,Z⟩ (O U v.h1)).setCell ⟨g,5,Z⟩ (O U v.h2)).setCell ⟨g,6,Z⟩ (O U v.h3)).heap[g]?=J (Ag #[O U v.p,O U v.r,O U v.i,O U v.h0,O U v.h1,O U v.h2,O U v.h3,a7] 133 (0,0)):=Lk _ g 6 _ _ _ k5;have k7:((((((((X.setCell ⟨g,0,Z⟩ (O U v.p)).setCell ⟨g,1,Z⟩ (O U v.r)).setCell ⟨g,2,Z⟩ (O U v.i)).setCell ⟨g,3,Z⟩ (O U v.h0)).setCell ⟨g,4,Z⟩ (O U v.h1)).setCell ⟨g,5,Z⟩ (O U v.h2)).setCell ⟨g,6,Z⟩ (O U v.h3)).setCell ⟨g,7,Z⟩ (O U v.h4)).heap[g]?=J (Ag #[O U v.p,O U v.r,O U v.i,O U v.h0,O U v.h1,O U v.h2,O U v.h3,O U v.h4] 133 (0,0)):=Lk _ g 7 _ _ _ k6;refine⟨k7,?_⟩;refine LC (p:=⟨g,7,Z⟩) ?_ h1 _;refine LC (p:=⟨g,6,Z⟩) ?_ h1 _;refine LC (p:=⟨g,5,Z⟩) ?_ h1 _
 refine LC (p:=⟨g,4,Z⟩) ?_ h1 _;refine LC (p:=⟨g,3,Z⟩) ?_ h1 _;refine LC (p:=⟨g,2,Z⟩) ?_ h1 _;refine LC (p:=⟨g,1,Z⟩) ?_ h1 _;refine LC (p:=⟨g,0,Z⟩) ?_ h1 _;exact hB
def WdsAt(bs D:Nat)(WR:Ba)(AW:Bb)(af:List (List Rd)):Prop:=∀(i:Nat) (h:i<af.length),∃g A c,AW=J ⟨g,0,Z⟩/\bs<g/\g<D/\WR.cell? ⟨g,i,Z⟩=J (I A af[i].length c)/\RAtS (fun k=>bs<k/\k<D) WR A af[i]/\af[i].length<=c
theorem WdsAt.of{bs D:Nat}{w w':Ba}{v:Ar}{af:List (List Rd)}(h:OwnX cWd (fun b=>w.heap.size<=b) w' w.heap.size v af)(hb:bs<w.heap.size)(hD:w'.heap.size=D) :
  ∃AW cw,v=I AW af.length cw/\WdsAt bs D w' AW af:=by
 obtain⟨A,cap,e,_,_,h3⟩:=h.form qx;refine⟨A,cap,e,fun i hi=>?_⟩;obtain⟨g,hA,hg,hl,hc⟩:=h3 (by omega);obtain⟨cs,⟨A2,c2,e2,hR,hRc⟩,hu⟩:=hc i hi;subst e2;refine⟨g,A2,c2,hA,by omega,by omega,?_,hR.mono fun k hk hs=>⟨by have:=hs.1;omega,by omega⟩,hRc⟩;have:=hu 0 _ rfl;simpa[cWd,kWd] using this
end
end Go.Proofs.YtkmbdfdaffmhjaaGreat
