/- Merged. -/
import Derived.Test.YtkmbdfdaffmhjaaGreatTd
import Derived.Laws.MakeOwn
import Derived.ChangeArms
open Go.Proofs.Tryz
open Go.Value renaming int->O,slice->I,bool->Ah,agg->Ai,pointer->Aj
open Go.IntKind renaming i64->U
open Option renaming none->Z,some->J
open Go.Obj renaming cells->Ag
open Go.Ending renaming returned->Ak
open Go.Proofs.Tryz renaming prog->Al
open Go.RowKit renaming Below->Am,intOf->Ap,Hid->Aq
open Go renaming Calls->An,Value->Ar
open Bool renaming true->Au,false->Aw
open List renaming idxOf_lt_length_of_mem->PS,getElem_idxOf->RU
namespace Go.Proofs.YtkmbdfdaffmhjaaGreat
abbrev Ru:=@Nat.le_of_lt
abbrev Py:=@Go.Proofs.Tryz.underlying58
abbrev Pt:=@decide_eq_true_iff
abbrev Pg:=@List.foldl_cons
abbrev LW:=@Go.Proofs.Tryz.underlying32
abbrev NF:=@Nat.le_max_right
abbrev NV:=@Nat.le_max_left
abbrev R9:=@Nat.lt_succ_self
abbrev Rn:=@Nat.mod_eq_of_lt
abbrev RZ:=@Go.Proofs.Tryz.func144
set_option maxRecDepth 100000
set_option maxHeartbeats 8000000
section
open Go.RowKit
attribute [local go_sem] Oper.semAt_some
theorem eqI_any(A A':Bb)(cap aH:Nat)(xs ys:List Int)(w:Ba)(B:Nat)(hA:IAt w B A xs)(nT:IAt w B A' ys)(hl:xs.length<=17592186044416)(FZ:ys.length<=17592186044416) :
  An Al 108 #[I A xs.length cap,I A' ys.length aH] w fun e w'=>e=Ak (Ah (decide (xs=ys)))/\∃n,w'=w.drewN n:=by
 by_cases aN:xs.length=ys.length
 . by_cases h0:xs.length=0
   . have e1:xs=[]:=LR h0
     have e2:ys=[]:=LR (by omega);subst e1;subst e2;exact(Tryz.slices_Equal_int_empty A A' cap 0 aH w (by omega)).mono fun e w' h=>⟨by simpa using h.1,0,h.2⟩
   obtain⟨b,o,rfl,hb,hc⟩:=hA (by omega);obtain⟨b',o',rfl,dZ,hc'⟩:=nT (by omega);refine(Tryz.slices_Equal_int b o xs.length cap b' o' ys.length aH xs ys w (Ld _) (Ld _) (by omega) (by omega) (fun j hj=>?_) (fun j hj=>?_)).mono fun e w' h=>⟨?_,h.2⟩
   . rw[Lh,Lm hj];exact hc j hj
   . rw[Lh,Lm hj];exact hc' j hj
   rw[h.1,LS,LS];exact zz (by rw[N6];simp)
 exact(Tryz.slices_Equal_int_lens A A' xs.length cap ys.length aH w aN).mono fun e w' h=>⟨by rw[h.1,Lu (by rintro rfl;exact aN rfl)],0,h.2⟩
theorem eqV_any(A A':Bb)(cap aH:Nat)(vs us:List Vw)(w:Ba)(B:Nat)(_hB:B<=w.heap.size)(hA:VAt w B A vs)(nT:VAt w B A' us)(_hl:vs.length<=2199023255552)(FZ:us.length<=2199023255552) :
  An Al 59 #[I A vs.length cap,I A' us.length aH] w fun e w'=>e=Ak (Ah (decide (vs=us)))/\∃n,w'=w.drewN n:=by
 have HE:Aq (∀k (hk:k<vs.length) (fO:k<us.length) (X:Ba),(binOp .neq 133 (.agg vs[k].cells) (.agg us[k].cells)).run Al X=.ok (Ah (decide (vs[k]≠us[k]))) X):=fun k hk fO X=>neq_view vs[k] us[k] X
 unfold Vw.cells at HE
 by_cases aN:vs.length=us.length
 . have HL:=zH aN
   have oR:((vs.length:Int) != (us.length:Int))=Aw:=by simp[aN]
   go_enter func59,ntmps59;go_wp2
   go_loopw [13] (fun i wr=>∃k m:Nat,k<=vs.length/\i=O U k/\wr=w.drewN m/\Aq (vs.take k=us.take k)) (fun i _=>vs.length-(Ap i).toNat)
   case atStart=>exact⟨0,0,by omega,rfl,rfl,by show vs.take 0=us.take 0;simp⟩
   obtain⟨k,m,hk,rfl,rfl,ax⟩:=hrel;have ed:k<=us.length:=by have:=HL.out;omega
   by_cases ac:k<vs.length
   . have dr:k<us.length:=by have:=HL.out;omega
     obtain⟨b,off,rfl,aQ,c0,c1,c2,c3,c4,c5,c6,c7⟩:=hA.row k ac;obtain⟨b',ny,rfl,CG,d0,d1,d2,d3,d4,d5,d6,d7⟩:=nT.row k dr;have py:=HE.out k ac dr
     by_cases hv:vs[k]=us[k]
     . have tX:∀X:Ba,_:=fun X=>(py X).trans (by rw[Lu (by simpa using hv)])
       have hz:Aq (vs.take (k+1)=us.take (k+1)):=wt ac dr ax.out hv;clear py hv;go_wp2;go_quiet (fail);go_wp2
       go_roundw
       case rel=>exact⟨k+1,_,by omega,by go_num,rfl,hz⟩
       simp[Ap];omega
     have tX:∀X:Ba,_:=fun X=>(py X).trans (by rw[Lw hv])
     have hz:Aq (decide (vs=us)=Aw):=Lu (km ac dr hv);go_wp2;go_quiet (fail);go_wp2;go_ret;exact⟨zz hz.out.symm,_,drewN2 _ _ _⟩
   obtain rfl:k=vs.length:=by omega
   have hz:Aq (decide (vs=us)=Au):=Lw (kr HL.out ax.out);go_wp2;go_ret;exact⟨zz hz.out.symm,_,rfl⟩
 have hz:Aq (decide (vs=us)=Aw):=Lu (by rintro rfl;exact aN rfl);have oR:((vs.length:Int) != (us.length:Int))=Au:=by simp;omega
 go_enter func59,ntmps59;go_wp2;go_ret;exact⟨zz hz.out.symm,0,rfl⟩
theorem eqR_any(A A':Bb)(cap aH:Nat)(vs us:List Rd)(w:Ba)(B:Nat)(_hB:B<=w.heap.size)(hA:RAt w B A vs)(nT:RAt w B A' us)(_hl:vs.length<=17592186044416)(FZ:us.length<=17592186044416) :
  An Al 106 #[I A vs.length cap,I A' us.length aH] w fun e w'=>e=Ak (Ah (decide (vs=us)))/\∃n,w'=w.drewN n:=by
 have HE:Aq (∀k (hk:k<vs.length) (fO:k<us.length) (X:Ba),(binOp .neq 76 (.agg vs[k].cells) (.agg us[k].cells)).run Al X=.ok (Ah (decide (vs[k]≠us[k]))) X):=fun k hk fO X=>neq_round vs[k] us[k] X
 unfold Rd.cells at HE
 by_cases aN:vs.length=us.length
 . have HL:=zH aN
   have oR:((vs.length:Int) != (us.length:Int))=Aw:=by simp[aN]
   go_enter func106,ntmps106;go_wp2
   go_loopw [13] (fun i wr=>∃k m:Nat,k<=vs.length/\i=O U k/\wr=w.drewN m/\Aq (vs.take k=us.take k)) (fun i _=>vs.length-(Ap i).toNat)
   case atStart=>exact⟨0,0,by omega,rfl,rfl,by show vs.take 0=us.take 0;simp⟩
   obtain⟨k,m,hk,rfl,rfl,ax⟩:=hrel;have ed:k<=us.length:=by have:=HL.out;omega
   by_cases ac:k<vs.length
   . have dr:k<us.length:=by have:=HL.out;omega
     obtain⟨b,off,rfl,aQ,c0,c1,c2,c3,c4,c5,c6⟩:=hA.row k ac;obtain⟨b',ny,rfl,CG,d0,d1,d2,d3,d4,d5,d6⟩:=nT.row k dr;have py:=HE.out k ac dr
     by_cases hv:vs[k]=us[k]
     . have tX:∀X:Ba,_:=fun X=>(py X).trans (by rw[Lu (by simpa using hv)])
       have hz:Aq (vs.take (k+1)=us.take (k+1)):=wt ac dr ax.out hv;clear py hv;go_wp2;go_quiet (fail);go_wp2
       go_roundw
       case rel=>exact⟨k+1,_,by omega,by go_num,rfl,hz⟩
       simp[Ap];omega
     have tX:∀X:Ba,_:=fun X=>(py X).trans (by rw[Lw hv])
     have hz:Aq (decide (vs=us)=Aw):=Lu (km ac dr hv);go_wp2;go_quiet (fail);go_wp2;go_ret;exact⟨zz hz.out.symm,_,drewN2 _ _ _⟩
   obtain rfl:k=vs.length:=by omega
   have hz:Aq (decide (vs=us)=Au):=Lw (kr HL.out ax.out);go_wp2;go_ret;exact⟨zz hz.out.symm,_,rfl⟩
 have hz:Aq (decide (vs=us)=Aw):=Lu (by rintro rfl;exact aN rfl);have oR:((vs.length:Int) != (us.length:Int))=Au:=by simp;omega
 go_enter func106,ntmps106;go_wp2;go_ret;exact⟨zz hz.out.symm,0,rfl⟩
theorem eqLL_any(A A':Bb)(cap aH:Nat)(vs us:List (List Int))(w:Ba)(B:Nat)(_hB:B<=w.heap.size)(hA:LAt w B A vs)(nT:LAt w B A' us)(hl:vs.length<=17592186044416)(FZ:us.length<=17592186044416)
  (hv:∀v∈vs,v.length<=17592186044416) (hu:∀v∈us,v.length<=17592186044416) :
  An Al 107 #[I A vs.length cap,I A' us.length aH,.func (.func 108) #[] #[]] w fun e w'=>e=Ak (Ah (decide (vs=us)))/\∃n,w'=w.drewN n:=by
 have HV:=zH hv;have HU:=zH hu
 by_cases aN:vs.length=us.length
 . have HL:=zH aN
   have oR:((vs.length:Int) != (us.length:Int))=Aw:=by simp[aN]
   clear aN;go_enter func107,ntmps107;go_wp2_with fail
   go_loopw [17] (fun i wr=>∃k m:Nat,k<=vs.length/\i=O U k/\wr=w.drewN m/\Aq (vs.take k=us.take k)) (fun i _=>vs.length-(Ap i).toNat)
   case atStart=>exact⟨0,0,by omega,rfl,rfl,by show vs.take 0=us.take 0;simp⟩
   obtain⟨k,m,hk,rfl,rfl,ax⟩:=hrel;have ed:k<=us.length:=by have:=HL.out;omega
   by_cases ac:k<vs.length
   . have dr:k<us.length:=by have:=HL.out;omega
     obtain⟨b,off,A1,c1,rfl,aQ,x0,hI⟩:=hA.at_ k ac;obtain⟨b',ny,A2,c2,rfl,CG,y0,II⟩:=nT.at_ k dr;have HC:=zH (eqI_any A1 A2 c1 c2 vs[k] us[k] (w.drewN m) B hI II (HV.out _ (Le ac)) (HU.out _ (Le dr)));have x1:(w.drewN m).cell? ⟨b,off+k,Z⟩=J (I A1 vs[k].length c1):=x0;have y1:(w.drewN m).cell? ⟨b',ny+k,Z⟩=J (I A2 us[k].length c2):=y0;clear hA nT x0 y0 hI II;have dS:(0:Int)<=(k:Int):=by omega
     have aW:(k:Int)<(vs.length:Int):=by omega
     have iZ:(k:Int)<(us.length:Int):=by omega
     go_wp2_with fail;refine HC.out.mono ?_;rintro e w' ⟨rfl,n,rfl⟩
     by_cases hv:vs[k]=us[k]
     . have hz:Aq (vs.take (k+1)=us.take (k+1)):=Y6 ax.out ac dr hv
       rw[Lw hv];clear hv HC x1 y1;go_wp2_with fail
       go_roundw
       case rel=>exact⟨k+1,_,by omega,by go_num,rfl,hz⟩
       simp[Ap];omega
     have hz:Aq (decide (vs=us)=Aw):=Lu (km ac dr hv);rw[Lu hv];go_wp2_with fail;go_ret;exact⟨zz hz.out.symm,_,rfl⟩
   obtain rfl:k=vs.length:=by omega
   have hz:Aq (decide (vs=us)=Au):=Lw (kr HL.out ax.out);go_wp2_with fail;go_ret;exact⟨zz hz.out.symm,_,rfl⟩
 have hz:Aq (decide (vs=us)=Aw):=Lu (by rintro rfl;exact aN rfl);have oR:((vs.length:Int) != (us.length:Int))=Au:=by simp;omega
 go_enter func107,ntmps107;go_wp2_with fail;go_ret;exact⟨zz hz.out.symm,0,rfl⟩
theorem xsame_any(x y:Exn)(hx:LowX x)(hy:LowX y)(A1 A2 B1 B2:Bb)(a1 a2 b1 b2:Nat)(w:Ba)(M7:RAt w w.heap.size A1 x.word)(S8:LAt w w.heap.size A2 x.views)(aB:RAt w w.heap.size B1 y.word)(az:LAt w w.heap.size B2 y.views) :
  An Al 61 #[Ai #[O U x.c,I A1 x.word.length a1,I A2 x.views.length a2],Ai #[O U y.c,I B1 y.word.length b1,I B2 y.views.length b2]] w fun e w'=>e=Ak (Ah (decide (x=y)))/\Am w.heap.size w w':=by
 obtain⟨w1,ae,d0,d1,aw,hB⟩:=xk w #[O U x.c,I A1 x.word.length a1,I A2 x.views.length a2] #[O U y.c,I B1 y.word.length b1,I B2 y.views.length b2] 128 128;have HR:=zH (eqR_any A1 B1 a1 b1 x.word y.word w1 w.heap.size (by omega) (M7.keep hB) (aB.keep hB) hx.1 hy.1);have HL:=zH (fun n=>eqLL_any A2 B2 a2 b2 x.views y.views (w1.drewN n) w.heap.size (by show w.heap.size<=w1.heap.size;omega) (S8.keep (yv hB n)) (az.keep (yv hB n)) hx.2.1 hy.2.1 hx.2.2 hy.2.2);have ak:=zH ae;have HB:=zH hB;have dU:=zH d0;have eQ:=zH d1;obtain⟨p0,p1,p2,_⟩:=Kb d0;obtain⟨q0,q1,q2,_⟩:=Kb d1;have HE:=zH (@exn_eq x y);have rX:Aq (x≠y->decide (x=y)=Aw):=fun h=>Lu h
 have Tm:Aq (x=y->decide (x=y)=Au):=fun h=>Lw h
 obtain⟨r,hr⟩:∃r,decide (x=y)=r:=⟨_,rfl⟩;rw[hr] at rX Tm ⊢;clear hr ae d0 d1 hB M7 S8 aB az hx hy;go_enter func61,ntmps61
 by_cases h1:x.c=y.c
 case neg=>
  have hR:=zH (rX.out (fun h=>h1 (congrArg Exn.c h)));have e0:(x.c==y.c)=Aw:=by simpa using h1
  clear rX Tm HE h1 HR HL;go_wp2_with fail;rw[ak.out];go_wp2_with fail
  all_goals
   go_ret;exact⟨zz hR.out.symm,HB.out⟩
 case pos=>
 have e0:(x.c==y.c)=Au:=by simpa using h1
 have HC:=zH h1;clear h1;go_wp2_with fail;rw[ak.out];go_wp2_with fail;refine HR.out.mono ?_;rintro e w2 ⟨rfl,n,rfl⟩;have p2:(w1.drewN n).cell? ⟨w.heap.size,2,Z⟩=J (I A2 x.views.length a2):=zh dU.out 2 rfl;have q2:(w1.drewN n).cell? ⟨w.heap.size+1,2,Z⟩=J (I B2 y.views.length b2):=zh eQ.out 2 rfl
 by_cases h2:x.word=y.word
 case neg=>
  have hR:=zH (rX.out (fun h=>h2 (congrArg Exn.word h)));rw[Lu h2];clear rX Tm HE h2 HR HL;go_wp2_with fail
  all_goals
   go_ret;exact⟨zz hR.out.symm,yv HB.out n⟩
 case pos=>
 rw[Lw h2];have HW:=zH h2;clear h2;go_wp2_with fail;refine(HL.out n).mono ?_;rintro e w3 ⟨rfl,m,rfl⟩
 have hR:Aq (decide (x.views=y.views)=r):=by
  by_cases h3:x.views=y.views
  . exact(Lw h3).trans (Tm.out (HE.out HC.out HW.out h3)).symm
  exact(Lu h3).trans (rX.out (fun h=>h3 (congrArg Exn.views h))).symm
 rw[hR.out];go_wp2_with fail
 all_goals
  go_ret;exact⟨rfl,yv HB.out _⟩
theorem eqX_any(A A':Bb)(cap aH:Nat)(vs us:List Exn)(w:Ba)(hA:XAt w w.heap.size A vs)(nT:XAt w w.heap.size A' us)(hl:vs.length<=17592186044416)(FZ:us.length<=17592186044416)
  (hv:∀v∈vs,LowX v) (hu:∀v∈us,LowX v) :
  An Al 60 #[I A vs.length cap,I A' us.length aH,.func (.func 61) #[] #[]] w fun e w'=>e=Ak (Ah (decide (vs=us)))/\Am w.heap.size w w':=by
 have HV:=zH hv;have HU:=zH hu;have HA:=zH hA;have HA':=zH nT;clear hv hu hA nT
 by_cases aN:vs.length=us.length
 . have HL:=zH aN
   have oR:((vs.length:Int) != (us.length:Int))=Aw:=by simp[aN]
   clear aN;go_enter func60,ntmps60;go_wp2_with fail
   go_loopw [17] (fun i wr=>∃k:Nat,k<=vs.length/\i=O U k/\Aq (Am w.heap.size w wr)/\Aq (vs.take k=us.take k)) (fun i _=>vs.length-(Ap i).toNat)
   case atStart=>exact⟨0,by omega,rfl,Li _ _,by show vs.take 0=us.take 0;simp⟩
   obtain⟨k,hk,rfl,hb,ax⟩:=hrel;have ed:k<=us.length:=by have:=HL.out;omega
   by_cases ac:k<vs.length
   . have dr:k<us.length:=by have:=HL.out;omega
     obtain⟨b,off,A1,c1,A2,c2,eA,aQ,x0,x1,x2,hW,hI⟩:=(HA.out.keep hb.out).row k ac;obtain⟨b',ny,B1,d1,B2,d2,eB,CG,y0,y1,y2,th,II⟩:=(HA'.out.keep hb.out).row k dr;subst eA;subst eB;obtain⟨x,hx⟩:=Kk (vs[k]);obtain⟨y,hy⟩:=Kk (us[k]);have nC:=HV.out _ (Le ac);have nB:=HU.out _ (Le dr);have bC:=zH (fun (h:x≠y)=>(Lu (km ac dr (by rw[hx,hy];exact h)):decide (vs=us)=Aw));have dp:=zH (fun (h:x=y)=>Y6 ax.out ac dr (by rw[hx,hy];exact h));rw[hx] at x0 x1 x2 hW hI nC;rw[hy] at y0 y1 y2 th II nB;have bL:=hb.out.size;have aO:b<wr.heap.size:=by omega
     have hbw':b'<wr.heap.size:=by omega
     obtain⟨W2,ij,d0,d1',bQ,az⟩:=xk wr #[O U x.c,I A1 x.word.length c1,I A2 x.views.length c2] #[O U y.c,I B1 y.word.length d1,I B2 y.views.length d2] 128 128;have HC:=zH (xsame_any x y nC nB A1 A2 B1 B2 c1 c2 d1 d2 W2 (((hW.more bL).keep az).more az.size) (((hI.more bL).keep az).more az.size) (((th.more bL).keep az).more az.size) (((II.more bL).keep az).more az.size));have aT:=zH (hb.out.trans (az.mono bL));have dK:=zH ij;obtain⟨p0,p1,p2,_⟩:=Kb d0;obtain⟨q0,q1,q2,_⟩:=Kb d1';clear hW hI th II nC nB ij d0 d1' az hx hy ax;have dS:(0:Int)<=(k:Int):=by omega
     have aW:(k:Int)<(vs.length:Int):=by omega
     have iZ:(k:Int)<(us.length:Int):=by omega
     go_wp2_with fail;rw[dK.out];go_wp2_with fail;refine HC.out.mono ?_;rintro e w3 ⟨rfl,al⟩;have bK:=zH (Lc aT.out al);clear al HC p0 p1 p2 q0 q1 q2 x0 x1 x2 y0 y1 y2
     by_cases hv:x=y
     . have hz:=zH (dp.out hv)
       rw[Lw hv];clear hv dp bC;go_wp2_with fail
       go_roundw
       case rel=>exact⟨k+1,by omega,by go_num,bK,hz⟩
       simp[Ap];omega
     have hz:=zH (bC.out hv);rw[Lu hv];go_wp2_with fail;go_ret;exact⟨zz hz.out.symm,bK.out⟩
   obtain rfl:k=vs.length:=by omega
   have hz:Aq (decide (vs=us)=Au):=Lw (kr HL.out ax.out);go_wp2_with fail;go_ret;exact⟨zz hz.out.symm,hb.out⟩
 have hz:Aq (decide (vs=us)=Aw):=Lu (by rintro rfl;exact aN rfl);have oR:((vs.length:Int) != (us.length:Int))=Au:=by simp;omega
 clear aN;go_enter func60,ntmps60;go_wp2_with fail;go_ret;exact⟨zz hz.out.symm,Li _ _⟩
theorem Qz(a:Ad)(hf:FewA a)(hz:zG a a.sts=0)(h1:1<=a.sts.length)(K L:Nat)(hK:K<=6)(hL:L<=1048576)(SV:Bb)(ks:Nat)(w:Ba)(hS:SAt w w.heap.size SV a.sts) :
  An Al 136 #[Ai #[O U a.n,I SV a.sts.length ks],O U K,O U L] w fun e w'=>e=Ak (O U ((xd L (yf a K 0):Nat):Int))/\Am w.heap.size w w':=by
 have iE:=hf.1;have rB:=zH (fun l hl=>hf.each (l:=l) hl);have HZ:=zH (@xL a hz);go_enter func136,ntmps136;go_wp2_with fail;obtain⟨w1,ae⟩:=Kk (w.alloc (Ag #[O U a.n,I SV a.sts.length ks] 27));have cj:=zx w (Ag #[O U a.n,I SV a.sts.length ks] 27);have aD:Am w.heap.size w w1:=by rw[<-ae];exact zU w _
 have fa:w1.heap.size=w.heap.size+1:=by rw[<-ae];simp
 rw[ae] at cj ⊢;have cX:=zH cj;have cI:=zH aD;have HS:=zH ((hS.keep aD).more (by omega:w.heap.size<=w1.heap.size))
 go_loopw [7,8] (fun v i wr=>∃s:Nat,s<=a.sts.length/\i=O U (s:Int)/\Aq (Own wr w1.heap.size v (cl a L 0 s))/\Aq (Am w1.heap.size w1 wr)) (fun _ i _=>a.sts.length-(Ap i).toNat)
 case atStart=>exact⟨0,by omega,rfl,Own.nil _ _,Li _ _⟩
 obtain⟨s,hs,rfl,HO,bN⟩:=hrel;have cH:=La bN.out cX.out;have q1:=zh cH 1 rfl
 by_cases ac:s<a.sts.length
 case pos=>
  have rJ:=jE a L 0 s;have HR:Aq (cl a L 0 (s+1)=cl a L 0 s++[1]):=by rw[Aq,cl_succ,show yf a 0 (s:Int)=1 from rfl,sat_one];rfl
  go_wp2_with (at_builtin;go_must (refine gz rfl _ _ rfl w1.heap.size u7 _ (1:Int) rfl HO.out rfl (by omega) bN.out.size ?_);intro v' w2 dB lK aQ)
  go_roundw
  case rel=>exact⟨s+1,by omega,by go_num,by rw[HR.out];exact dB,bN.out.trans aQ⟩
  simp[Ap];omega
 case neg=>
 obtain rfl:s=a.sts.length:=by omega
 go_wp2_with fail
 go_loopw [7,9] (fun v i wr=>∃k:Nat,k<=K/\i=O U (k:Int)/\Aq (Own wr w1.heap.size v (cl a L k a.sts.length))/\Aq (Am w1.heap.size w1 wr)) (fun _ i _=>K-(Ap i).toNat)
 case atStart=>exact⟨0,by omega,rfl,HO,bN⟩
 obtain⟨k,hk,rfl,HO,bN⟩:=hrel
 by_cases hkK:k<K
 case neg=>
  obtain rfl:k=K:=by omega
  obtain⟨A,cap,hv,ed,oU,hI⟩:=HO.out.form;subst hv;have rJ:=jE a L k a.sts.length;obtain⟨b,o,rfl,lw,hc⟩:=hI (by omega);have c0:=hc 0 (by omega);rw[YF] at c0;rw[rJ] at ed;rw[show((0:Nat):Int)=0 from rfl,Pe] at c0;obtain⟨r,hr⟩:=Kk (xd L (yf a k 0));rw[hr] at c0;have HRr:=zH hr;go_wp2_with fail;go_ret;exact⟨zr (by rw[HRr.out]),cI.out.trans (bN.out.mono (by omega))⟩
 case pos=>
 obtain⟨A,cap,hv,ed,oU,hI⟩:=HO.out.form;subst hv;have rJ:=jE a L k a.sts.length;obtain⟨b0,o0,e0,Mw,hc⟩:=hI (by omega);subst e0;rw[rJ] at ed;obtain⟨W2,ij⟩:=Kk wr
 have HCS:Aq (∀X,Am W2.heap.size W2 X->∀j:Nat,j<a.sts.length->X.cell? ⟨b0,o0+j,Z⟩=J (O U ((xd L (yf a k (j:Int)):Nat):Int))):=fun X hX j hj=>by
  rw[<-ij] at hX;have:=hc j (by omega);rw[YF] at this;exact(hX.cell (p:=⟨b0,_,Z⟩) Mw).trans this
 rw[ij] at HO bN Mw ⊢;have Ss:=bN.out.size;go_wp2_with fail;simp only[rJ]
 go_loopw [10,11] (fun v i wx=>∃s:Nat,s<=a.sts.length/\i=O U (s:Int)/\Aq (Own wx W2.heap.size v (cl a L (k+1) s))/\Aq (Am W2.heap.size W2 wx)) (fun _ i _=>a.sts.length-(Ap i).toNat)
 case atStart=>exact⟨0,by omega,rfl,Own.nil _ _,Li _ _⟩
 obtain⟨s,hs,rfl,HP,ce⟩:=hrel;have aO:=zH (bN.out.trans (ce.out.mono Ss));have cH:=La aO.out cX.out;have q1:=zh cH 1 rfl
 by_cases mz:s<a.sts.length
 case neg=>
  obtain rfl:s=a.sts.length:=by omega
  go_wp2_with fail
  go_roundw
  case rel=>exact⟨k+1,by omega,by go_num,HP.out.low Ss,aO⟩
  simp[Ap];omega
 case pos=>
 obtain⟨b,o,A',k',e',lw,c1,hM⟩:=(HS.out.keep aO.out).at_ s mz;subst e';have ig:=rB.out _ (Le mz);have Sr:=sumTo_end a k mz;have OI:Aq (∀m∈a.sts[s],m∈a.mvs):=fun m hm=>Nw.2 ⟨_,Le mz,hm⟩
 have tm:=zH hM;obtain⟨M,hM0⟩:=Kk (a.sts[s]);rw[hM0] at c1 ig OI Sr tm;have sH:=zH Sr;have Cv:=jE a L (k+1) s;go_wp2_with fail
 go_loop [12,13] (fun n i=>∃j:Nat,j<=M.length/\i=O U (j:Int)/\n=O U ((xd L (kX a k M j):Nat):Int)) (fun _ i=>M.length-(Ap i).toNat)
 case atStart=>exact⟨0,by omega,rfl,by rw[JW,Qw];rfl⟩
 obtain⟨j,hj,rfl,rfl⟩:=hrel
 by_cases cU:j<M.length
 case neg=>
  obtain rfl:j=M.length:=by omega
  have HR:Aq (cl a L (k+1) (s+1)=cl a L (k+1) s++[((xd L (kX a k M M.length):Nat):Int)]):=by rw[Aq,cl_succ,sH.out]
  obtain⟨r,hr⟩:=Kk (xd L (kX a k M M.length));rw[hr] at HR ⊢;go_wp2_with (at_builtin;go_must (refine gz rfl _ _ rfl W2.heap.size u10 _ (r:Int) rfl HP.out rfl (by omega) ce.out.size ?_);intro v' w3 dB lK aQ)
  go_roundw
  case rel=>exact⟨s+1,by omega,by go_num,by rw[HR.out];exact dB,ce.out.trans aQ⟩
  simp[Ap];omega
 case pos=>
 obtain⟨b2,o2,e2,az,_,_,_,_,_,_,_,d7⟩:=tm.out.row j cU;subst e2;obtain⟨_,_,z3,z4⟩:=HZ.out _ (OI.out _ (Le cU));have DB:=JX a k M cU;obtain⟨t,et⟩:=Ls z3;rw[et] at d7 DB z4;have rF:t<a.sts.length:=by omega
 have u0:=HCS.out _ ce.out t rF;have y1:=ww L (kX a k M j);have y2:=ww L (yf a k (t:Int));have y3:=sat_add L (kX a k M j) (yf a k (t:Int));rw[<-DB] at y3;obtain⟨n1,dG⟩:=Kk (xd L (kX a k M j));obtain⟨n2,sZ⟩:=Kk (xd L (yf a k (t:Int)));rw[dG] at y1 y3 ⊢;rw[sZ] at y2 y3 u0;have HY3:=zH y3;go_wp2_with fail
 go_round
 case rel => 
  refine⟨j+1,by omega,by go_num,?_⟩;rw[<-HY3.out];exact congrArg (O U) (by first | (split<;>omega) | omega)
 simp[Ap];omega
theorem Xc(p:Pb)(hf:Qg p)(hz:zG p.a p.a.sts=0)(h1:1<=p.a.sts.length)(K L:Nat)(hk:p.k=(K:Int))(hK:K<=6)(hL:L<=1048576)(A:Bb)(kc:Nat)(SV:Bb)(ks:Nat)(w:Ba)(hS:SAt w w.heap.size SV p.a.sts) :
  An Al 97 #[.agg (p.vs A kc SV ks),O U L] w fun e w'=>e=Ak (O U ((p.t.cases.length*xd L (yf p.a K 0):Nat):Int))/\Am w.heap.size w w':=by
 have sy:=hf.1.1;have HN:=zH (fun (w':Ba) (h:SAt w' w'.heap.size SV p.a.sts)=>Qz p.a hf.2 hz h1 K L hK hL SV ks w' h);have Co:=ww L (yf p.a K 0);obtain⟨r,hr⟩:=Kk (xd L (yf p.a K 0));rw[hr] at HN Co ⊢;unfold Pb.vs;rw[hk];obtain⟨w1,ae⟩:=Kk (w.alloc (Ag (p.vs A kc SV ks) 29));have cj:=zx w (Ag (p.vs A kc SV ks) 29);have aD:Am w.heap.size w w1:=by rw[<-ae];exact zU w _
 rw[ae] at cj;unfold Pb.vs at ae cj;rw[hk] at ae cj;have fa:w1.heap.size=w.heap.size+1:=by rw[<-ae];simp
 have cI:=zH aD;have HS:=zH ((hS.keep aD).more (by omega:w.heap.size<=w1.heap.size));have ak:=zH ae;have q3:=zh cj 3 rfl;have q4:=zh cj 4 rfl;have q5:=zh cj 5 rfl;have q6:=zh cj 6 rfl;obtain⟨cn,Gk⟩:=Kk p.t.cases.length;rw[Gk] at ak q3 sy ⊢;have hm:cn*r<=30*1048577:=LV sy (by omega);have hw:IntKind.i64.wrap ((cn:Int)*(r:Int))=((cn*r:Nat):Int):=by rw[Ll,<-Int.natCast_mul];omega
 go_enter func97,ntmps97;go_wp2_with fail;rw[ak.out];have fj:w.heap.size<w1.heap.size:=by omega
 have ai:Aq (∀X,Am w1.heap.size w1 X->X.cell? ⟨w.heap.size,3,Z⟩=J (I A cn kc)/\X.cell? ⟨w.heap.size,4,Z⟩=J (O U p.a.n)/\X.cell? ⟨w.heap.size,5,Z⟩=J (I SV p.a.sts.length ks)/\X.cell? ⟨w.heap.size,6,Z⟩=J (O U K)):=fun X hX=>
  ⟨(hX.cell (p:=⟨_,_,Z⟩) fj).trans q3,(hX.cell (p:=⟨_,_,Z⟩) fj).trans q4,(hX.cell (p:=⟨_,_,Z⟩) fj).trans q5,(hX.cell (p:=⟨_,_,Z⟩) fj).trans q6⟩
 have pD:Aq (∀X,Am w1.heap.size w1 X->SAt X X.heap.size SV p.a.sts):=fun X hX=>(HS.out.keep hX).more hX.size
 go_region_held3 (fun w'=>w'.cell? ⟨w.heap.size,3,Z⟩=J (I A cn kc)/\w'.cell? ⟨w.heap.size,4,Z⟩=J (O U p.a.n)/\w'.cell? ⟨w.heap.size,5,Z⟩=J (I SV p.a.sts.length ks)/\w'.cell? ⟨w.heap.size,6,Z⟩=J (O U K))
  (first | exact⟨q3,q4,q5,q6⟩ | exact ai.out _ (JB al) | exact ai.out _ al)
  ((go_at_call 136;refine(HN.out _ (pD.out _ (by repeat (first | exact Li _ _ | refine Below.drew ?_ | refine yv ?_ _)))).mono ?_;rintro e w3 ⟨rfl,al⟩))
 have se:=zH (cI.out.trans ((JB al).mono (by have:w1.drew.heap.size=w1.heap.size:=rfl;omega)));go_wp2_with fail;go_ret;exact⟨zr (by first | rfl | rw[hw]),se.out⟩
def YS(p:Pb):Nat:=p.t.cases.length*xd 4096 (yf p.a p.k.toNat 0)
def YC(a:Ad):Bool:=decide (a.sts.length<=8)&&decide (a.mvs.length<=40)
def qi(p:Pb):Bool:=j6 p.t&&YC p.a&&!(decide (3<p.t.n)&&decide (p.t.n<=5))&&(decide (zV p≠0)||(decide (YS p<=60)||decide (4096<YS p)))
theorem fewPB_t{p:Pb}(h:j6 p.t=Aw):qi p=Aw:=by unfold qi;rw[h];rfl
theorem fewPB_a{p:Pb}(h:YC p.a=Aw):qi p=Aw:=by unfold qi;rw[h];simp
theorem fewPB_n{p:Pb}(h:3<p.t.n)(h2:p.t.n<=5):qi p=Aw:=by unfold qi;rw[Lw h,Lw h2];simp
theorem fewPB_e{p:Pb}(h:j6 p.t=Au)(h1:YC p.a=Au)(h2:¬(3<p.t.n/\p.t.n<=5))(h3:zV p≠0):qi p=Au:=by
 unfold qi;have e:(decide (3<p.t.n)&&decide (p.t.n<=5))=Aw:=by simpa[Bool.and_eq_false_imp] using fun x=>by omega
 rw[h,h1,e,Lw h3];rfl
theorem fewPB_m{p:Pb}(h:j6 p.t=Au)(h1:YC p.a=Au)(h2:¬(3<p.t.n/\p.t.n<=5))(h3:zV p=0):qi p=(decide (YS p<=60)||decide (4096<YS p)):=by
 unfold qi;have e:(decide (3<p.t.n)&&decide (p.t.n<=5))=Aw:=by simpa[Bool.and_eq_false_imp] using fun x=>by omega
 rw[h,h1,e,h3];simp
theorem Xu{a:Ad}:YC a=Au↔FewA a:=by unfold YC FewA;simp
theorem num_exec{p:Pb}(h:zV p=0):(YS p<=60\/4096<YS p)->(yh p<=60\/4096<yh p):=by
 obtain⟨nG,_⟩:=yg h;obtain⟨h1,_⟩:=xg nG;intro hn;have e:yh p=p.t.cases.length*yf p.a p.k.toNat 0:=by unfold yh;rw[PA]
 have hm:=sat_mul 4096 p.t.cases.length (yf p.a p.k.toNat 0) h1;rw[e];rcases hn with hn | hn
 . left
   unfold YS at hn;have ed:xd 4096 (yf p.a p.k.toNat 0)<=60:=Lr (Nat.le_mul_of_pos_left _ h1) hn;have hx:yf p.a p.k.toNat 0<=4096:=by unfold xd at ed;omega
   rwa[sat_eq hx] at hn
 right;exact hm.1 hn
theorem few_x{p:Pb}(h:qi p=Au):xu p/\¬(3<p.t.n/\p.t.n<=5):=by
 unfold qi at h;simp only[Bool.and_eq_true,Bool.not_eq_true',Bool.or_eq_true,decide_eq_true_eq] at h;obtain⟨⟨⟨h1,h2⟩,h3⟩,h4⟩:=h;refine⟨⟨⟨Jk.1 h1,Xu.1 h2⟩,fun h0=>?_⟩,fun hn=>?_⟩
 . rcases h4 with h4 | h4
   . exact absurd h0 h4
   exact num_exec h0 h4
 rw[Lw hn.1,Lw hn.2] at h3
 cases h3
theorem few_any(p:Pb)(hl:Zq p)(A:Bb)(kc:Nat)(SV:Bb)(ks:Nat)(w:Ba)(hA:CAt w w.heap.size A p.t.cases)(hS:SAt w w.heap.size SV p.a.sts) :
  An Al 54 #[.agg (p.vs A kc SV ks)] w fun e w'=>e=Ak (Ah (qi p))/\Am w.heap.size w w':=by
 have HT:=zH (fun (w':Ba) (h:CAt w' w'.heap.size A p.t.cases)=>rfewT_any p.t A kc hl.1.1 hl.1.2 w' h);have HD:=zH (fun (w':Ba) (h:SAt w' w'.heap.size SV p.a.sts)=>rfewA_any p.a SV ks hl.2.1 hl.2.2 w' h);have HC:=zH (fun (hf:Qg p) (w':Ba) (h1:CAt w' w'.heap.size A p.t.cases) (h2:SAt w' w'.heap.size SV p.a.sts)=>gM p hf A kc SV ks w' h1 h2);have aq:=zH (@fewPB_t p);have am:=zH (@fewPB_a p);have aM:=zH (@fewPB_n p);have dR:=zH (@fewPB_e p);have fT:=zH (@fewPB_m p);obtain⟨R,Eg⟩:=Kk (qi p);rw[Eg] at aq am aM dR fT ⊢;obtain⟨w1,ae⟩:=Kk (w.alloc (Ag (p.vs A kc SV ks) 29));have cj:=zx w (Ag (p.vs A kc SV ks) 29);have aD:Am w.heap.size w w1:=by rw[<-ae];exact zU w _
 have fa:w1.heap.size=w.heap.size+1:=by rw[<-ae];simp
 rw[ae] at cj
 have HN:=zH (fun (w':Ba) (hf:Qg p) (h0:zV p=0) (h:SAt w' w'.heap.size SV p.a.sts)=>
  Xc p hf (xq hf.2 (yg h0).2.1).1 (xq hf.2 (yg h0).2.1).2.1 p.k.toNat 4096 (by have:=(yg h0).2.2.2.1;omega) (by have:=(yg h0).2.2.2.2;omega) (by decide) A kc SV ks w' h)
 unfold Pb.vs at ae cj ⊢;have cX:=zH cj;have cI:=zH aD;have HA:=zH ((hA.keep aD).more (by omega:w.heap.size<=w1.heap.size));have HS:=zH ((hS.keep aD).more (by omega:w.heap.size<=w1.heap.size));have ak:=zH ae;obtain⟨q0,q1,q2,q3,_⟩:=Ka cj;clear hA hS ae aD cj hl Eg;obtain⟨bT,VX⟩:=Kk (j6 p.t);obtain⟨bA,i9⟩:=Kk (YC p.a);have mT:Aq ((decide (p.a.sts.length<=8)&&decide (p.a.mvs.length<=40))=bA):=i9;rw[VX] at HT aq dR fT;rw[i9] at am dR fT;have GZ:=zH VX;have nX:=zH i9;clear VX i9;go_enter func54,ntmps54;go_wp2_with fail;rw[ak.out];go_wp2_with fail;refine(HT.out w1 HA.out).mono ?_;rintro e w2 ⟨rfl,ah⟩;have B2:=zH (cI.out.trans (ah.mono (by omega)));have fJ:=zH ((HS.out.keep ah).more ah.size);have Hq:=zH ((HA.out.keep ah).more ah.size);have cH:=La ah cX.out;have aT:=zH cH;have bQ:=ah.size;have q4:=zh cH 4 rfl;have q5:=zh cH 5 rfl;clear ah cH HT ak q0 q1 q2 q3
 cases bT with
 | false=>
  have hR:=zH (aq.out rfl);clear aq am aM dR fT HD;go_wp2_with fail;go_ret;exact⟨zz hR.out.symm,B2.out⟩
 | true=>
 clear aq;go_wp2_with fail;refine(HD.out w2 fJ.out).mono ?_;rw[mT.out];rintro e w3 ⟨rfl,al⟩;have B3:=zH (B2.out.trans (al.mono (by omega)));have rU:=zH ((fJ.out.keep al).more al.size);have pi:=zH ((Hq.out.keep al).more al.size);have cH:=La al aT.out;have bK:=zH cH;have dx:=al.size;obtain⟨q0,q1,q2,q3,q4,q5,q6,_⟩:=Kg cH;clear al cH HD
 cases bA with
 | false=>
  have hR:=zH (am.out rfl);clear am aM dR fT;go_wp2_with fail;go_ret;exact⟨zz hR.out.symm,B3.out⟩
 | true=>
 clear am;have HFP:Aq (Qg p):=⟨Jk.1 GZ.out,Xu.1 nX.out⟩;have F4:=zH (dR.out (by simp) (by simp));have F5:=zH (fT.out (by simp) (by simp));clear dR fT GZ nX mT
 by_cases h3:3<p.t.n/\p.t.n<=5
 case pos=>
  have hR:=zH (aM.out h3.1 h3.2);obtain⟨h31,h32⟩:=h3;clear aM F4 F5;go_wp2_with fail
  all_goals first | (exfalso;omega) | skip
  all_goals
   go_ret;exact⟨zz hR.out.symm,B3.out⟩
 case neg=>
 have G4:=zH (F4.out h3);have G5:=zH (F5.out h3);clear aM F4 F5;obtain⟨E,hE⟩:=Kk (zV p);rw[hE] at HC G4 G5;have BJ:=zH hE;clear hE;obtain⟨M,hM⟩:=Kk (p.t.cases.length*xd 4096 (yf p.a p.k.toNat 0));have tm:Aq (YS p=M):=hM;rw[hM] at HN;clear hM;have h35:¬(3<p.t.n)\/(3<p.t.n/\¬p.t.n<=5):=by omega
 clear h3;rcases h35 with h31 | ⟨h31,h32⟩
 all_goals
  go_wp2_with fail
  all_goals first | (exfalso;omega) | skip
  refine(HC.out HFP.out w3 pi.out rU.out).mono ?_;rintro e w4 ⟨rfl,aP⟩;have B4:=zH (B3.out.trans (aP.mono (by omega)));have rn:=zH ((rU.out.keep aP).more aP.size);have cH:=La aP bK.out;have iU:=aP.size;obtain⟨q0,q1,q2,q3,q4,q5,q6,_⟩:=Kg cH;clear aP cH HC
  by_cases h0:E=0
  case neg=>
   have hR:=zH (G4.out h0);have e0:(E != 0)=Au:=by simpa using h0
   clear G4 G5 h0 HN;go_wp2_with fail;go_ret;exact⟨zz hR.out.symm,B4.out⟩
  case pos=>
   subst h0;have hR:=zH (G5.out rfl);rw[tm.out] at hR;clear G4 G5;go_wp2_with fail;refine(HN.out w4 HFP.out BJ.out rn.out).mono ?_;rintro e w5 ⟨rfl,aj⟩;have B5:=zH (B4.out.trans (aj.mono (by omega)));clear aj HN tm q0 q1 q2 q3 q4 q5 q6
   by_cases hm:M<=60
   . have nh:Aq (R=Au):=hR.out.trans (by rw[Lw hm];rfl)
     clear hR;go_wp2_with fail
     all_goals first | (exfalso;omega) | skip
     go_ret;exact⟨zz nh.out.symm,B5.out⟩
   . have nh:Aq (R=decide (4096<M)):=hR.out.trans (by rw[Lu hm];rfl)
     clear hR;go_wp2_with fail
     all_goals first | (exfalso;omega) | skip
     go_ret;exact⟨zz (by rw[nh.out,Lu (show ¬((M:Int)<=60) by omega),PG];exact Qb (by omega)),B5.out⟩
def zZ(s:Sy):Int:=if (zT s.p).2≠0 then (zT s.p).2 else if s=(zT s.p).1 then 0 else 3
theorem XO(p:Pb)(h:zV p=0)(mP:yh p<=60):(zE p (zC p)).1.length<=2100/\(zE p (zC p)).2.length<=60:=by
 obtain⟨nG,_,_,dS,DO⟩:=yg h;obtain⟨h1,dG,lp⟩:=xg nG
 have hl:p.t.cases.length*(zI p.a p.k.toNat 0).length<=60:=by
  rw[yK];unfold yh at mP;rw[PA];exact mP
 rw[XS p];refine⟨ZY p _ (by omega) (fun w hw=>?_) _ hl,?_⟩
 . rw[xv p.a _ 0 w hw];omega
 rw[qc,Zu];exact hl
theorem runW_mem(p:Pb)(l:List (Nat×List Rd)):∀x∈(zE p l).2,∃y∈l,∃vs,x=⟨y.1,y.2,(zA vs p.t.n.toNat (yy p y.1) y.2 y.2.length).2⟩:=by
 have key:∀n,n<=l.length->∀x∈(zE p (l.take n)).2,∃y∈l,∃vs,x=⟨y.1,y.2,(zA vs p.t.n.toNat (yy p y.1) y.2 y.2.length).2⟩:=by
  intro n
  induction n with
  | zero=>intro _ x hx;simp[jR] at hx
  | succ n ih=>
   intro hl x hx;rw[Lq (by omega),qu] at hx;rcases Ng.1 hx with hx | hx
   . exact ih (by omega) x hx
   . rw[LY] at hx
     exact⟨l[n],Le _,_,hx⟩
 have:=key l.length (Ld _);rwa[LS] at this
theorem Qh:LowS qo:=⟨⟨⟨by decide,fun c h=>by simp[qo] at h⟩,by decide,fun c h=>by simp[qo] at h⟩,by decide,by decide,fun c h=>by simp[qo] at h⟩
theorem gi{p:Pb}(hp:Zq p)(hf:xu p):LowS (zT p).1:=by
 by_cases h0:zV p=0
 case neg=>rw[xm h0];exact Qh
 case pos=>
 rcases hf.2 h0 with mP | mP
 case inr=>rw[xA h0 mP];exact Qh
 case inl=>
 rw[qy h0 (by omega)];obtain⟨r1,r2⟩:=XO p h0 mP;obtain⟨nG,_,_,dS,DO⟩:=yg h0;obtain⟨h1,dG,lp⟩:=xg nG;refine⟨hp,by show(zE p (zC p)).1.length<=_;omega,by show(zE p (zC p)).2.length<=_;omega,fun x hx=>?_⟩;obtain⟨y,hy,vs,rfl⟩:=runW_mem p (zC p) x hx
 have nB:y.2.length<=6:=by
  unfold zC at hy;obtain⟨d,_,hy⟩:=NH.1 hy;obtain⟨w',my,rfl⟩:=LZ.1 hy;show w'.length<=6;rw[xv p.a _ 0 w' my];omega
 refine⟨by show y.2.length<=_;omega,?_,fun v hv=>?_⟩
 . show(zA vs p.t.n.toNat (yy p y.1) y.2 y.2.length).2.length<=_
   rw[yF];omega
 rw[kh _ _ _ _ _ v hv];omega
theorem uv(s:Sy)(hs:LowS s)(hf:xu s.p)(A SV AV AX:Bb)(kc ks kv kx:Nat)(w:Ba)(hS:SyAt w w.heap.size A SV AV AX s) :
  An Al 37 #[.agg (s.vs_ A kc SV ks AV kv AX kx)] w fun e w'=>e=Ak (O U (zZ s))/\Am w.heap.size w w':=by
 obtain⟨w1,ae⟩:=Kk (w.alloc (Ag (s.vs_ A kc SV ks AV kv AX kx) 39));have cj:=zx w (Ag (s.vs_ A kc SV ks AV kv AX kx) 39);have aD:Am w.heap.size w w1:=by rw[<-ae];exact zU w _
 have fa:w1.heap.size=w.heap.size+1:=by rw[<-ae];simp
 rw[ae] at cj;have mI:=zH (hS.up aD);have HB:=zH (XD s.p hf A kc SV ks w1 (hS.up aD).fc (hS.up aD).fs);have pf:=zH (gi hs.fp hf);have Ty:=zH hs;have GS:Aq (zZ s=if (zT s.p).2≠0 then (zT s.p).2 else if s=(zT s.p).1 then 0 else 3):=rfl
 have cP:=zH (fun (h:(zT s.p).2=0)=>(by
  by_cases h0:zV s.p=0
  case neg=>rw[xm h0] at h;exact absurd h h0
  case pos=>
   by_cases h1:4096<yh s.p
   . rw[xA h0 h1] at h;cases h
   . rw[qy h0 (by omega)];exact⟨rfl,rfl⟩:(zT s.p).1.p=s.p/\(zT s.p).1.n=s.p.t.n))
 unfold Sy.vs_ at ae cj ⊢;unfold Pb.vs at HB;have ak:=zH ae;have cX:=zH cj;have cI:=zH aD;have p6:=zh cj 6 rfl;obtain⟨R,hR⟩:=Kk (zT s.p);rw[hR] at HB pf GS cP;obtain⟨r,hr⟩:=Kk (zZ s);rw[hr] at GS ⊢;clear ae cj aD hS hs hf hR hr;go_enter func37,ntmps37;go_wp2_with fail;rw[ak.out];go_wp2_with fail;refine HB.out.mono ?_;rintro e w2 ⟨A2,dn,dw,dm,Rh,Ko,PY,Kn,rfl,S0,UK,UI,ah⟩;obtain⟨T,E⟩:=R;obtain⟨W3,nP,b3,dx,ck⟩:=zm w2 (T.vs_ A2 dn dw dm Rh Ko PY Kn) 39;have rU:=zH (S0.up ck);have bK:=zH (cI.out.trans ((Lc ah ck).mono (by omega)));have bQ:=ah.size;have d0:=Lb ck (by omega:w.heap.size<w2.heap.size) (Lb ah (by omega:w.heap.size<w1.heap.size) cX.out);have Ov:=zH ((mI.out.up ah).up ck);unfold Sy.vs_ at nP b3 ⊢;have fI:=zH nP;have dU:=zH d0;have IZ:=zH b3;clear ah S0 UK UI ck nP HB ak p6 mI cX;dsimp only at GS cP pf rU;go_simp;rename_i rf;refine rf _ _ ?_;clear rf;refine Np rfl fun K5 dT=>?_
 go_simp;refine dT _ _ ?_;clear dT K5;refine Np rfl fun K5 dT=>?_
 go_simp;refine dT _ _ ?_;clear dT K5;refine Np rfl fun K5 dT=>?_
 go_simp;refine dT _ _ ?_;clear dT K5;refine Np rfl fun K5 dT=>?_
 go_simp;refine dT _ _ ?_;clear dT K5;refine Np rfl fun K5 dT=>?_
 go_simp;rw[fI.out];refine dT _ _ ?_
 by_cases h0:E=0
 case neg=>
  have e0:(E != 0)=Au:=by simpa using h0
  have hR:Aq (r=E):=GS.out.trans (Lj h0);clear GS cP h0 d0 b3;go_wp2_with fail;go_ret;exact⟨zr hR.out.symm,bK.out⟩
 case pos=>
 subst h0;obtain⟨y',z'⟩:=cP.out rfl;have ID:r=if s=T then 0 else 3:=GS.out.trans (Lg (by simp));have H3:Aq (s≠T->r=3):=fun h=>ID.trans (Lg h)
 have H0:Aq (s=T->r=0):=fun h=>ID.trans (Lj h)
 have HTP:=zH y';have ES:=zH (@sy_eq s T);have x7:W3.cell? ⟨w.heap.size,7,Z⟩=J (O U s.n):=zh d0 7 rfl;have x8:W3.cell? ⟨w.heap.size,8,Z⟩=J (I AV s.vs.length kv):=zh d0 8 rfl;have y7:W3.cell? ⟨w2.heap.size,7,Z⟩=J (O U T.n):=zh b3 7 rfl;have y8:W3.cell? ⟨w2.heap.size,8,Z⟩=J (I Rh T.vs.length Ko):=zh b3 8 rfl;have C3:=zH (eqV_any AV Rh kv Ko s.vs T.vs W3 W3.heap.size (Ld _) Ov.out.fv rU.out.fv Ty.out.fv pf.out.fv);have BI:=zH (fun n=>eqX_any AX PY kx Kn s.xs T.xs (W3.drewN n) Ov.out.fx rU.out.fx (Lr Ty.out.fx (by decide)) (Lr pf.out.fx (by decide)) Ty.out.fe pf.out.fe);clear y' z' ID GS cP d0 b3 pf Ty
 by_cases h1:s.n=T.n
 case neg=>
  have hR:=zH (H3.out (fun h=>h1 (congrArg Sy.n h)));have e0:(s.n != T.n)=Au:=by simpa using h1
  clear H3 H0 h1 C3 BI ES;go_wp2_with fail
  all_goals
   go_ret;exact⟨zr hR.out.symm,bK.out⟩
 case pos=>
 have e0:(s.n != T.n)=Aw:=by simpa using h1
 have rt:=zH h1;go_wp2_with fail;refine C3.out.mono ?_;rintro e w4 ⟨rfl,n,rfl⟩;have x9:(W3.drewN n).cell? ⟨w.heap.size,9,Z⟩=J (I AX s.xs.length kx):=zh dU.out 9 rfl;have y9:(W3.drewN n).cell? ⟨w2.heap.size,9,Z⟩=J (I PY T.xs.length Kn):=zh IZ.out 9 rfl
 by_cases h2:s.vs=T.vs
 case neg=>
  have hR:=zH (H3.out (fun h=>h2 (congrArg Sy.vs h)));rw[Lu h2];go_wp2_with fail
  all_goals
   go_ret;exact⟨zr hR.out.symm,yv bK.out n⟩
 case pos=>
 rw[Lw h2];have Oo:=zH h2;go_wp2_with fail;refine(BI.out n).mono ?_;rintro e w5 ⟨rfl,aj⟩;have B5:=zH (bK.out.trans ((yv (Li W3.heap.size W3) n).trans aj |>.mono (by omega)))
 by_cases h3:s.xs=T.xs
 case neg=>
  have hR:=zH (H3.out (fun h=>h3 (congrArg Sy.xs h)));rw[Lu h3];go_wp2_with fail
  all_goals
   go_ret;exact⟨zr hR.out.symm,B5.out⟩
 have hR:=zH (H0.out (ES.out HTP.out.symm ⟨rt.out,Oo.out⟩ h3));rw[Lw h3];go_wp2_with fail
 all_goals
  go_ret;exact⟨zr hR.out.symm,B5.out⟩
end
section
def At(vs:List Vw)(i:Int)(v:Vw):Prop:=0<=i/\vs[i.toNat]?=J v
theorem At.mono{vs us:List Vw}{i:Int}{v:Vw}(h:At vs i v):At (vs++us) i v:=
 ⟨h.1,by rw[LO (Lp.1 h.2).1];exact h.2⟩
theorem At.lt{vs:List Vw}{i:Int}{v:Vw}(h:At vs i v):0<=i/\i<vs.length:=⟨h.1,by have:=(Lp.1 h.2).1;have:=h.1;omega⟩
theorem At.same{vs:List Vw}{i:Int}{v u:Vw}(h:At vs i v)(h2:At vs i u):v=u:=NL (h.2.symm.trans h2.2)
theorem QI(vs:List Vw)(v:Vw):∃us,(qe vs v).1=vs++us:=by
 unfold qe
 split
 . exact⟨[],by simp⟩
 exact⟨[v],rfl⟩
theorem putW_at(vs:List Vw)(v:Vw):At (qe vs v).1 (qe vs v).2 v:=by
 unfold qe
 split
 . rename_i h
   unfold kB;rw[Lj h];refine⟨by omega,?_⟩;have h1:=PS h;show vs[((vs.idxOf v:Nat):Int).toNat]?=_;rw[Lo,Lm h1,RU]
 refine⟨by omega,?_⟩;show(vs++[v])[((vs.length:Nat):Int).toNat]?=_;rw[Lo];simp
theorem putW_mem(vs:List Vw)(v:Vw):∀u∈(qe vs v).1,u∈vs\/u=v:=by
 unfold qe
 split
 . exact fun u h=>.inl h
 intro u h;rcases Ng.1 h with h | h
 . exact .inl h
 exact .inr (LY.1 h)
theorem putW_nodup{vs:List Vw}(v:Vw)(h:vs.Nodup):(qe vs v).1.Nodup:=by
 unfold qe
 split
 . exact h
 rename_i hn;exact List.nodup_append.2 ⟨h,by simp,fun a ha b hb=>by rw[LY] at hb;subst hb;exact fun e=>hn (e▸ha)⟩
theorem uD(f:Nat->Vw)(vs:List Vw):∀p,∃us,(yq f vs p).1=vs++us
 | 0=>⟨[],by simp[yq]⟩
 | p+1=>by
  obtain⟨u1,h1⟩:=uD f vs p;obtain⟨u2,h2⟩:=QI (yq f vs p).1 (f p);exact⟨u1++u2,by rw[yq];dsimp only;rw[h2,h1,Nh]⟩
theorem rowW_at(f:Nat->Vw)(vs:List Vw):∀n p,p<n->At (yq f vs n).1 ((yq f vs n).2.getD p 0) (f p)
 | n+1,p,h=>by
  rw[yq];dsimp only;have hl:=xJ f vs n
  by_cases hp:p<n
  . rw[Lh,LO (by omega),<-Lh]
    obtain⟨u2,h2⟩:=QI (yq f vs n).1 (f n);rw[h2];exact(rowW_at f vs n p hp).mono
  . obtain rfl:p=n:=by omega
    rw[Lh,LJ (by omega),hl,Nq];exact putW_at _ _
theorem Z3(f:Nat->Vw)(vs:List Vw):∀n,∀u∈(yq f vs n).1,u∈vs\/∃p,p<n/\u=f p
 | 0,u,h=>.inl h
 | n+1,u,h=>by
  rw[yq] at h;rcases putW_mem _ _ u h with h | h
  . rcases Z3 f vs n u h with h | ⟨p,hp,e⟩
    . exact .inl h
    . exact .inr ⟨p,by omega,e⟩
  . exact .inr ⟨n,by omega,h⟩
theorem vW(f:Nat->Vw){vs:List Vw}(h:vs.Nodup):∀n,(yq f vs n).1.Nodup
 | 0=>h
 | n+1=>by rw[yq];exact putW_nodup _ (vW f h n)
def Z5(vs:List Vw)(n:Nat)(inp:List Int)(word:List Rd)(k:Nat):List Int:=(zA vs n inp word k).2.getD k []
def fV(vs:List Vw)(n:Nat)(inp:List Int)(word:List Rd):Nat->Nat->Vw
 | 0,p=>yS p (inp.getD p 0)
 | k+1,p=>xI (word.getD k default) (k+1) p (Z5 vs n inp word k)
section
variable (vs:List Vw) (n:Nat) (inp:List Int) (word:List Rd)
theorem wM:∀j,(∃us,(zA vs n inp word j).1=vs++us)/\∀k,k<=j->∃us,(zA vs n inp word j).1=(zA vs n inp word k).1++us
 | 0=>⟨by rw[zA];exact uD _ vs n,fun k hk=>⟨[],by obtain rfl:k=0:=(by omega);simp⟩⟩
 | j+1=>by
  obtain⟨⟨u1,h1⟩,h2⟩:=wM j;obtain⟨u3,h3⟩:=uD (fun p=>xI (word.getD j default) (j+1) p ((zA vs n inp word j).2.getD j [])) (zA vs n inp word j).1 n;have e:(zA vs n inp word (j+1)).1=(zA vs n inp word j).1++u3:=by rw[zA];exact h3
  refine⟨⟨u1++u3,by rw[e,h1,Nh]⟩,fun k hk=>?_⟩
  by_cases Vl:k<=j
  . obtain⟨u4,h4⟩:=h2 k Vl
    exact⟨u4++u3,by rw[e,h4,Nh]⟩
  . obtain rfl:k=j+1:=by omega
    exact⟨[],by simp⟩
theorem jx:∀j k,k<=j->(zA vs n inp word j).2.getD k []=Z5 vs n inp word k
 | 0,k,h=>by obtain rfl:k=0:=(by omega);rfl
 | j+1,k,h=>by
  by_cases Vl:k<=j
  . rw[<-jx j k Vl,zA,Lh,LO (by rw[yF];omega),<-Lh]
  . obtain rfl:k=j+1:=by omega
    rfl
theorem jS(k:Nat):(Z5 vs n inp word k).length=n:=by
 have h:k<(zA vs n inp word k).2.length:=by rw[yF];omega
 unfold Z5;rw[Lh,Lm h];exact kh vs n inp word k _ (Le h)
theorem rowK_eq:∀k,∃us,(zA vs n inp word k).1=(yq (fV vs n inp word k) us n).1/\Z5 vs n inp word k=(yq (fV vs n inp word k) us n).2
 | 0=>⟨vs,rfl,rfl⟩
 | k+1=>⟨(zA vs n inp word k).1,rfl,by
   unfold Z5;rw[zA,Lh,LJ (by rw[yF];omega),yF,Nq]
   rfl⟩
theorem Zt(j k p:Nat)(hk:k<=j)(hp:p<n):At (zA vs n inp word j).1 ((Z5 vs n inp word k).getD p 0) (fV vs n inp word k p):=by
 obtain⟨us,e1,e2⟩:=rowK_eq vs n inp word k;obtain⟨u4,h4⟩:=(wM vs n inp word j).2 k hk;rw[h4,e2,e1];exact(rowW_at _ us n p hp).mono
theorem QL:∀j,∀u∈(zA vs n inp word j).1,u∈vs\/∃k p,k<=j/\p<n/\u=fV vs n inp word k p
 | 0,u,h=>by
  rw[zA] at h;rcases Z3 _ vs n u h with h | ⟨p,hp,e⟩
  . exact .inl h
  . exact .inr ⟨0,p,Ld _,hp,e⟩
 | j+1,u,h=>by
  rw[zA] at h;rcases Z3 _ _ n u h with h | ⟨p,hp,e⟩
  . rcases QL j u h with h | ⟨k,p,hk,hp,e⟩
    . exact .inl h
    . exact .inr ⟨k,p,by omega,hp,e⟩
  . exact .inr ⟨j+1,p,Ld _,hp,e⟩
theorem Yc(h:vs.Nodup):∀j,(zA vs n inp word j).1.Nodup
 | 0=>by rw[zA];exact vW _ h n
 | j+1=>by rw[zA];exact vW _ (Yc h j) n
end
structure XFin(p:Pb)(Hw:List Vw)(c:Nat)(word:List Rd)(x:Exn)(vs:List Vw):Prop where
 hc:x.c=(c:Int)
 hw:x.word=word
 hv:x.views=(zA vs p.t.n.toNat (yy p c) word word.length).2
 ht:∃us,Hw=(zA vs p.t.n.toNat (yy p c) word word.length).1++us
theorem Qx(p:Pb)(l:List (Nat×List Rd)) :
  (∀i (h:i<l.length),∃x vs,(zE p l).2[i]?=J x/\XFin p (zE p l).1 l[i].1 l[i].2 x vs)/\(∀u∈(zE p l).1,∃y∈l,∃vs k q,k<=y.2.length/\q<p.t.n.toNat/\u=fV vs p.t.n.toNat (yy p y.1) y.2 k q/\∃us,(zE p l).1=(zA vs p.t.n.toNat (yy p y.1) y.2 y.2.length).1++us)/\(zE p l).1.Nodup:=by
 have key:∀n,n<=l.length ->
   (∀i (h:i<n) (hl:i<l.length),∃x vs,(zE p (l.take n)).2[i]?=J x/\XFin p (zE p (l.take n)).1 l[i].1 l[i].2 x vs)/\(∀u∈(zE p (l.take n)).1,∃y∈l,∃vs k q,k<=y.2.length/\q<p.t.n.toNat/\u=fV vs p.t.n.toNat (yy p y.1) y.2 k q/\∃us,(zE p (l.take n)).1=(zA vs p.t.n.toNat (yy p y.1) y.2 y.2.length).1++us)/\(zE p (l.take n)).1.Nodup:=by
  intro n
  induction n with
  | zero=>intro _;exact⟨fun i h=>absurd h (by omega),fun u h=>by simp[jR] at h,by simp[jR]⟩
  | succ n ih=>
   intro hn;obtain⟨h1,h2,h3⟩:=ih (by omega);have fN:n<l.length:=by omega
   have e:zE p (l.take (n+1))=((zA (zE p (l.take n)).1 p.t.n.toNat (yy p l[n].1) l[n].2 l[n].2.length).1,(zE p (l.take n)).2++[⟨l[n].1,l[n].2,(zA (zE p (l.take n)).1 p.t.n.toNat (yy p l[n].1) l[n].2 l[n].2.length).2⟩]):=by
    rw[Lq fN,qu]
   obtain⟨⟨u0,Ic⟩,_⟩:=wM (zE p (l.take n)).1 p.t.n.toNat (yy p l[n].1) l[n].2 l[n].2.length;have aL:(zE p (l.take n)).2.length=n:=by rw[qc,Rp];omega
   rw[e];dsimp only;refine⟨fun i hi hl=>?_,fun u hu=>?_,Yc _ _ _ _ h3 _⟩
   . by_cases dD:i<n
     . obtain⟨x,vs,hx,⟨a,b,c,⟨us,lX⟩⟩⟩:=h1 i dD hl
       refine⟨x,vs,by rw[LO (by omega)];exact hx,a,b,c,us++u0,?_⟩;rw[Ic,lX,Nh]
     . obtain rfl:i=n:=by omega
       refine⟨_,(zE p (l.take i)).1,by rw[LJ (by omega),aL,Nq];rfl,rfl,rfl,rfl,[],by simp⟩
   . rcases QL _ _ _ _ _ u hu with h | ⟨k,q,hk,hq,eu⟩
     . obtain⟨y,hy,vs,k,q,a,b,c,us,lX⟩:=h2 u h
       exact⟨y,hy,vs,k,q,a,b,c,us++u0,by rw[Ic,lX,Nh]⟩
     . exact⟨l[n],Le _,(zE p (l.take n)).1,k,q,hk,hq,eu,[],by simp⟩
 have h:=key l.length (Ld _);rw[LS] at h;exact⟨fun i hi=>h.1 i hi hi,h.2⟩
theorem own_bit{r:Rd}(h:yM r=0)(p:Nat)(hp:(p:Int)<r.n):(r.h p).toNat.testBit p=Au:=by
 unfold yM at h
 split at h
 . cases h
 rename_i hn
 have key:∀k,k<=5->yH r (5-k) k=0->∀q,k<=q->q<5->xE r.n q (r.h q)=0:=by
  intro k hk
  induction hm:5-k generalizing k with
  | zero=>intro _ q h1 h2;omega
  | succ m ih=>
   intro hz q h1 h2;unfold yH at hz
   split at hz
   . rename_i bC;exact absurd hz bC
   . rename_i bC
     by_cases e:q=k
     . subst e;simpa using bC
     . exact ih (k+1) (by omega) (by omega) hz q (by omega) h2
 have h1:=key 0 (by omega) h p (by omega) (by omega);unfold xE at h1;rw[Lg (by omega)] at h1
 split at h1
 . cases h1
 split at h1
 . assumption
 cases h1
theorem ju(r:Rd)(k p:Nat)(now:List Int)(q:Nat)(hq:q<5):(xI r k p now).h q=zW r p now q:=by
 match q,hq with
 | 0,_=>rfl
 | 1,_=>rfl
 | 2,_=>rfl
 | 3,_=>rfl
 | 4,_=>rfl
structure Fine(s:Sy)(K N:Nat):Prop where
 n:s.n=(N:Int)
 pn:s.p.t.n=(N:Int)
 k:s.p.k=(K:Int)
 n1:1<=N
 n5:N<=5
 k6:K<=6
 lv:s.vs.length<=2100
 lx:s.xs.length<=60
 word:∀x∈s.xs,x.word.length=K/\∀r∈x.word,yi r=0/\r.n=(N:Int)
 views:∀x∈s.xs,x.views.length=K+1/\∀l∈x.views,l.length=N/\∀i∈l,0<=i/\i<s.vs.length
 vs:∀v∈s.vs,(∃q:Nat,v.p=(q:Int)/\q<N)/\(∃r:Nat,v.r=(r:Int)/\r<=K)/\(0<v.r->∃u,At s.vs (v.h v.p.toNat) u/\u.p=v.p/\u.r=v.r-1)
theorem built_fine{p:Pb}(hf:xu p)(h0:zV p=0)(mP:yh p<=60):∃K N,Fine (zO p) K N:=by
 obtain⟨nG,sX,lJ,dS,DO⟩:=yg h0;obtain⟨h1,dG,lp⟩:=xg nG;obtain⟨r1,r2⟩:=XO p h0 mP;obtain⟨K,hK⟩:=Ls dS;obtain⟨N,hN⟩:=Ls (show 0<=p.t.n by omega);have hNN:p.t.n.toNat=N:=by omega
 obtain⟨f1,f2,f3⟩:=Qx p (zC p)
 have mA:∀y∈zC p,y.2.length=K/\∀r∈y.2,yi r=0/\r.n=(N:Int):=fun y hy=>by
  unfold zC at hy;obtain⟨d,_,hy⟩:=NH.1 hy;obtain⟨w',my,rfl⟩:=LZ.1 hy;refine⟨by show w'.length=K;rw[xv p.a _ 0 w' my];omega,fun r hr=>?_⟩;obtain⟨m,hm,rfl⟩:=jp p.a _ 0 w' my r hr;obtain⟨z1,z2,_⟩:=xL (xq hf.1.2 sX).1 m hm;exact⟨z1,by rw[z2,<-lJ,hN]⟩
 have hx:∀x∈(zE p (zC p)).2,∃y∈zC p,∃vs,XFin p (zE p (zC p)).1 y.1 y.2 x vs:=fun x hx=>by
  obtain⟨i,hi,e⟩:=LP hx;rw[qc] at hi;obtain⟨x',vs,Ia,hh⟩:=f1 i hi
  have:x=x':=by
   rw[Lm (by rw[qc];exact hi),e] at Ia;exact NL Ia
  subst this;exact⟨_,Le hi,vs,hh⟩
 refine⟨K,N,hN,hN,hK,by omega,by omega,by omega,r1,r2,fun x hm=>?_,fun x hm=>?_,fun v hv=>?_⟩
 . obtain⟨y,hy,vs,hh⟩:=hx x hm
   rw[hh.hw];exact mA y hy
 . obtain⟨y,hy,vs,hh⟩:=hx x hm
   obtain⟨nB,_⟩:=mA y hy;rw[hh.hv];refine⟨by rw[yF,nB],fun l hl=>?_⟩;obtain⟨k,hk,rfl⟩:=LP hl;rw[yF] at hk
   have e:(zA vs p.t.n.toNat (yy p y.1) y.2 y.2.length).2[k]'(by rw[yF];exact hk)=Z5 vs p.t.n.toNat (yy p y.1) y.2 k:=by
    rw[<-jx vs p.t.n.toNat (yy p y.1) y.2 y.2.length k (by omega),Lh,Lm (by rw[yF];exact hk)];rfl
   rw[e];refine⟨by rw[jS,hNN],fun i hi=>?_⟩;obtain⟨q,hq,rfl⟩:=LP hi;rw[jS] at hq;have ha:=Zt vs p.t.n.toNat (yy p y.1) y.2 y.2.length k q (by omega) hq;obtain⟨us,lX⟩:=hh.ht;have hb:=(ha.mono (us:=us));rw[<-lX,Lh,Lm (by rw[jS];exact hq)] at hb;exact hb.lt
 obtain⟨y,hy,vs,k,q,hk,hq,rfl,us,lX⟩:=f2 v hv;obtain⟨nB,Kr⟩:=mA y hy
 cases k with
 | zero=>exact⟨⟨q,rfl,by omega⟩,⟨0,rfl,by omega⟩,fun h=>absurd h (by show ¬((0:Int)<0);omega)⟩
 | succ k=>
  refine⟨⟨q,rfl,by omega⟩,⟨k+1,rfl,by omega⟩,fun _=>⟨fV vs p.t.n.toNat (yy p y.1) y.2 k q,?_,?_,?_⟩⟩
  . have dy:k<y.2.length:=by omega
    have hg:y.2.getD k default=y.2[k]:=by rw[Lh,Lm dy];rfl
    have oB:=Kr _ (Le dy);have hb:=own_bit (kd oB.1).2.2.1 q (by rw[oB.2];omega)
    have e:(fV vs p.t.n.toNat (yy p y.1) y.2 (k+1) q).h ((fV vs p.t.n.toNat (yy p y.1) y.2 (k+1) q).p.toNat)=(Z5 vs p.t.n.toNat (yy p y.1) y.2 k).getD q 0:=by
     show(xI (y.2.getD k default) (k+1) q (Z5 vs p.t.n.toNat (yy p y.1) y.2 k)).h ((q:Int).toNat)=_;rw[Lo,ju _ _ _ _ _ (by omega),hg];unfold zW;rw[Lj ⟨by rw[jS];exact hq,hb⟩]
    rw[e];show At (zE p (zC p)).1 _ _;rw[lX];exact(Zt vs p.t.n.toNat (yy p y.1) y.2 y.2.length k q (by omega) hq).mono
  . cases k<;>rfl
  . cases k with
    | zero=>show(0:Int)=((0+1:Nat):Int)-1;rfl
    | succ k=>show((k+1:Nat):Int)=((k+1+1:Nat):Int)-1;omega
end
section
open Go.RowKit Go.Shelf
attribute [local go_sem] Oper.semAt_some
def RetBt(p:Pb)(A:Bb)(kc:Nat)(SV:Bb)(ks:Nat)(w:Ba)(e:Ending)(w':Ba):Prop:=
 ∃AV kv AE ke,e=Ak (Ai #[O U p.t.n,O U p.t.ins,O U p.t.outs,I A p.t.cases.length kc,O U p.a.n,I SV p.a.sts.length ks,O U p.k,O U p.t.n,.slice AV (zE p (zC p)).1.length kv,.slice AE (zE p (zC p)).2.length ke]) /\
  OwnV w' w.heap.size (.slice AV (zE p (zC p)).1.length kv) (zE p (zC p)).1/\OwnX Qc (fun k=>w.heap.size<=k) w' w.heap.size (.slice AE (zE p (zC p)).2.length ke) (zE p (zC p)).2/\Am w.heap.size w w'
theorem built_any(p:Pb)(hf:xu p)(nH:zV p=0)(mP:yh p<=60)(A:Bb)(kc:Nat)(SV:Bb)(ks:Nat)(w:Ba)(hA:CAt w w.heap.size A p.t.cases)(hS:SAt w w.heap.size SV p.a.sts) :
  An Al 98 #[.agg (p.vs A kc SV ks)] w (RetBt p A kc SV ks w):=by
 obtain⟨nG,sX,lJ,tK,FO⟩:=yg nH;obtain⟨K,hK⟩:=Ls tK;obtain⟨sx,dG,lp⟩:=xg nG;have MU:K<=6:=by omega
 have sw:yh p=yf p.a K 0*p.t.cases.length:=by unfold yh;rw[hK];rfl
 have Gj:yf p.a K 0<=60:=by
  have:=Ro (yf p.a K 0) sx;omega
 obtain⟨hz,aw⟩:zG p.a p.a.sts=0/\1<=p.a.sts.length:=⟨(xq hf.1.2 sX).1,(xq hf.1.2 sX).2.1⟩;obtain⟨N,hN⟩:=Ls (show 0<=p.t.n by omega);have cd:=zH hf;have nX:=zH sX;have C6:=zH lJ;have HTI:=zH (ZP nG);obtain⟨w1,ae,d0,d1,d2,bL,lN⟩:=jr w (p.vs A kc SV ks) #[O U 0,O U 0,O U 0,I Z 0 0,O U 0,I Z 0 0,O U 0,O U 0,I Z 0 0,I Z 0 0] #[O U p.t.n,O U p.t.ins,O U p.t.outs,I A p.t.cases.length kc,O U p.a.n,I SV p.a.sts.length ks,O U p.k,O U p.t.n,I Z 0 0,I Z 0 0] 29 39 39;have IK:=Xr p.a SV ks hz hf.1.2 K MU 0 w1 (by by_cases h:K=0;exact .inl h;exact .inr ⟨by omega,by omega⟩) (by rw[yK];omega) ((hS.keep lN).more lN.size);have HFR:=zH IK;have HA:=zH hA;have HS:=zH hS;have eS:=zH lN;have dU:=zH d0;have eQ:=zH d1;have mi:=zH d2;have ak:=zH ae;have pg:=zH hK;have ee:=zH hN;have OW:=zH sw;have H60:=zH mP;have HCS:=zH sx;have MR:1<=N/\N<=5:=by omega
 clear ae d0 d1 d2 lN hA hS hf hK hN sw mP nH nG sX lJ tK FO dG lp hz aw IK sx;unfold Pb.vs at ak dU ⊢;go_enter func98,ntmps98;go_wp2_with fail;rw[ak.out];have IK:=HFR.out;unfold jn at HFR;rw[<-pg.out] at IK;refine IK.mono ?_;rintro e wr ⟨v,rfl,hW,hb⟩;have aO:=eS.out.size;obtain⟨af,lU⟩:=Kk (zI p.a K 0);rw[lU] at hW;obtain⟨AW,cw,rfl,hWD⟩:=WdsAt.of (bs:=w.heap.size+1+1) hW (by omega) rfl;obtain⟨SC,Gx⟩:∃SC:Ar->Ar->Array Ar,SC=fun V E=>#[O U p.t.n,O U p.t.ins,O U p.t.outs,I A p.t.cases.length kc,O U p.a.n,I SV p.a.sts.length ks,O U p.k,O U p.t.n,V,E]:=⟨_,rfl⟩
 obtain⟨WR,rfl⟩:∃x,x=wr:=⟨_,rfl⟩;obtain⟨D,hD⟩:∃D,D=WR.heap.size:=⟨_,rfl⟩;have hDb:w.heap.size+3<=D:=by have:=hb.size;omega
 have H0:Aq (Bt D (w.heap.size+1+1) SC WR [] [] (I Z 0 0) (I Z 0 0) WR):=
  ⟨Wrote.refl _ _,by omega,by omega,by omega,by rw[Gx];exact Lb hb (by omega) mi.out,OwnV.nil _ _,OwnX.nil _ _ _ _,fun k e=>(by cases e)⟩
 have C7:Aq (WR.heap[w.heap.size]?=J (Ag #[O U p.t.n,O U p.t.ins,O U p.t.outs,I A p.t.cases.length kc,O U p.a.n,I SV p.a.sts.length ks,O U p.k] 29 (0,0))):=Lb hb (by omega) dU.out;have HP1:Aq (WR.heap[w.heap.size+1]?=J (Ag #[O U 0,O U 0,O U 0,I Z 0 0,O U 0,I Z 0 0,O U 0,O U 0,I Z 0 0,I Z 0 0] 39 (0,0))):=Lb hb (by omega) eQ.out;have TR:Aq (Am w.heap.size w WR):=eS.out.trans (hb.mono (by omega));have To:=zH hWD;rw[<-hD] at To;have tj:=zH Gx;have oZ:=zH lU;have sc:=zH hD;have sy:p.t.cases.length<=30:=cd.out.1.1.1;have Dv:af.length<=60:=by rw[<-lU,yK];exact Gj
 have EB:Aq (∀x∈af,x.length<=6):=fun x hx=>by rw[<-lU] at hx;rw[xv p.a K 0 x hx];exact MU
 clear hW hb Gx lU hD hWD dU eQ mi ak eS HFR IK aO bL;go_wp2_with fail
 go_loopw [5] (fun i wx=>∃(c:Nat) (V E:Ar),c<=p.t.cases.length/\i=O U (c:Int)/\Aq (Bt D (w.heap.size+1+1) SC WR (zE p (pcs af c)).1 (zE p (pcs af c)).2 V E wx)) (fun i _=>p.t.cases.length-(Ap i).toNat)
 case atStart=>exact⟨0,_,_,by omega,rfl,H0.out⟩
 clear H0;obtain⟨c,V0,E0,hc,rfl,iN⟩:=hrel;have hbig:=iN.out.big;have fb:∀k,k<D->k≠w.heap.size+1+1->wr.heap[k]?=WR.heap[k]?:=fun k h1 h2=>iN.out.wr.block k (by have:=sc.out;omega) h2
 have P0:=(fb _ (by omega) (by omega)).trans C7.out;have p0:wr.cell? ⟨w.heap.size,0,Z⟩=J (O U p.t.n):=zh P0 0 rfl;have p3:wr.cell? ⟨w.heap.size,3,Z⟩=J (I A p.t.cases.length kc):=zh P0 3 rfl;have p6:wr.cell? ⟨w.heap.size,6,Z⟩=J (O U p.k):=zh P0 6 rfl
 by_cases VQ:c<p.t.cases.length
 case neg=>
  obtain rfl:c=p.t.cases.length:=by omega
  have Mm:p.t.cases.length*af.length<=60:=by have h1:=OW.out;have h2:=H60.out;have h3:=congrArg List.length oZ.out;rw[yK] at h3;rw[h3,PA] at h1;omega
  obtain⟨AV,kv,rfl,_⟩:=iN.out.tb.form (by have:=ZY p af (by have:=ee.out;omega) EB.out p.t.cases.length Mm;omega);obtain⟨AE,ke,rfl,_,_,_⟩:=iN.out.out.form zS;have ct:=(fb (w.heap.size+1) (by omega) (by omega)).trans HP1.out;have bX:=iN.out.sys;rw[tj.out] at bX;have s0:wr.cell? ⟨w.heap.size+1+1,0,Z⟩=J (O U p.t.n):=zh bX 0 rfl;have s1:wr.cell? ⟨w.heap.size+1+1,1,Z⟩=J (O U p.t.ins):=zh bX 1 rfl;have s2:wr.cell? ⟨w.heap.size+1+1,2,Z⟩=J (O U p.t.outs):=zh bX 2 rfl;have s3:wr.cell? ⟨w.heap.size+1+1,3,Z⟩=J (I A p.t.cases.length kc):=zh bX 3 rfl;have s4:wr.cell? ⟨w.heap.size+1+1,4,Z⟩=J (O U p.a.n):=zh bX 4 rfl;have s5:wr.cell? ⟨w.heap.size+1+1,5,Z⟩=J (I SV p.a.sts.length ks):=zh bX 5 rfl;have s6:wr.cell? ⟨w.heap.size+1+1,6,Z⟩=J (O U p.k):=zh bX 6 rfl;have s7:wr.cell? ⟨w.heap.size+1+1,7,Z⟩=J (O U p.t.n):=zh bX 7 rfl;have s8:wr.cell? ⟨w.heap.size+1+1,8,Z⟩=J (.slice AV (zE p (pcs af p.t.cases.length)).1.length kv):=zh bX 8 rfl;have s9:wr.cell? ⟨w.heap.size+1+1,9,Z⟩=J (.slice AE (zE p (pcs af p.t.cases.length)).2.length ke):=zh bX 9 rfl;have y0:wr.cell? ⟨w.heap.size+1,0,Z⟩=J (O U 0):=zh ct 0 rfl;have f0:=zi ct 0;have y1:wr.cell? ⟨w.heap.size+1,1,Z⟩=J (O U 0):=zh ct 1 rfl;have f1:=zi ct 1;have y2:wr.cell? ⟨w.heap.size+1,2,Z⟩=J (O U 0):=zh ct 2 rfl;have f2:=zi ct 2
  have y3:wr.cell? ⟨w.heap.size+1,3,Z⟩=J (I Z 0 0):=zh ct 3 rfl;have f3:=zi ct 3;have y4:wr.cell? ⟨w.heap.size+1,4,Z⟩=J (O U 0):=zh ct 4 rfl;have f4:=zi ct 4;have y5:wr.cell? ⟨w.heap.size+1,5,Z⟩=J (I Z 0 0):=zh ct 5 rfl;have f5:=zi ct 5;have y6:wr.cell? ⟨w.heap.size+1,6,Z⟩=J (O U 0):=zh ct 6 rfl;have f6:=zi ct 6;have y7:wr.cell? ⟨w.heap.size+1,7,Z⟩=J (O U 0):=zh ct 7 rfl;have f7:=zi ct 7;have y8:wr.cell? ⟨w.heap.size+1,8,Z⟩=J (I Z 0 0):=zh ct 8 rfl;have f8:=zi ct 8;have y9:wr.cell? ⟨w.heap.size+1,9,Z⟩=J (I Z 0 0):=zh ct 9 rfl;have f9:=zi ct 9;have Be:=zH iN.out;have cp:Am w.heap.size w wr:=TR.out.trans (iN.out.wr.below (by have:=TR.out.size;omega) (fun k h1 h2=>by have h3:k=w.heap.size+1+1:=h2;omega));obtain⟨k1,k2,k3,k4,k5⟩:=kC (O U p.t.n) (O U p.t.ins) (O U p.t.outs) (I A p.t.cases.length kc) (O U p.a.n) (I SV p.a.sts.length ks) (O U p.k) (O U p.t.n) (.slice AV (zE p (pcs af p.t.cases.length)).1.length kv) (.slice AE (zE p (pcs af p.t.cases.length)).2.length ke) ct cp (by omega:w.heap.size<=w.heap.size+1)
  obtain⟨WF,cM⟩:=Kk (((((((((((wr.setCell ⟨w.heap.size+1,0,Z⟩ (O U p.t.n)).setCell ⟨w.heap.size+1,1,Z⟩ (O U p.t.ins)).setCell ⟨w.heap.size+1,2,Z⟩ (O U p.t.outs)).setCell ⟨w.heap.size+1,3,Z⟩ (I A p.t.cases.length kc)).setCell ⟨w.heap.size+1,4,Z⟩ (O U p.a.n)).setCell ⟨w.heap.size+1,5,Z⟩ (I SV p.a.sts.length ks)).setCell ⟨w.heap.size+1,6,Z⟩ (O U p.k)).setCell ⟨w.heap.size+1,7,Z⟩ (O U p.t.n)).setCell ⟨w.heap.size+1,8,Z⟩ (.slice AV (zE p (pcs af p.t.cases.length)).1.length kv)).setCell ⟨w.heap.size+1,9,Z⟩ (.slice AE (zE p (pcs af p.t.cases.length)).2.length ke)));rw[cM] at k1 k2 k3 k4 k5;have K1:=zH k1;have K2:=zH k2;have K4:=zH k4;have K5:=zH k5;have C1:=zH cM;clear ct bX P0 cp k1 k2 k3 k4 k5 cM;go_wp2_with fail;rw[C1.out];obtain⟨z0,z1,z2,z3,z4,z5,z6,z7,z8,z9⟩:=zK K1.out;refine LI (v:=Ai #[O U p.t.n,O U p.t.ins,O U p.t.outs,I A p.t.cases.length kc,O U p.a.n,I SV p.a.sts.length ks,O U p.k,O U p.t.n,.slice AV (zE p (pcs af p.t.cases.length)).1.length kv,.slice AE (zE p (pcs af p.t.cases.length)).2.length ke]) (by simp[results,results98,go_sem,z0,z1,z2,z3,z4,z5,z6,z7,z8,z9]) rfl ?_;have nH:zC p=pcs af p.t.cases.length:=by rw[XS,<-oZ.out,show p.k.toNat=K by have:=pg.out;omega]
  unfold RetBt;rw[nH];have aO:=Be.out.big;refine⟨AV,kv,AE,ke,rfl,?_,?_,K2.out⟩
  . exact(Be.out.tb.of_same fun k hk=>K4.out k (by have:=(Be.out.tb.lt' k hk).1;omega)).low (by omega)
  exact(OwnX.mono zS (Be.out.out.keep zS ⟨by have:=K5.out;omega,fun k hs _=>K4.out k (by omega)⟩ fun k hk=>K4.out k (by have:=(Be.out.out.lt k hk).1;omega)) fun k _ hs=>(by omega)).low (by omega)
 have hc1:(c:Int)<(p.t.cases.length:Int):=by omega
 have HSM:=zH fb;clear fb P0;go_wp2_with fail;obtain⟨wo,rfl⟩:∃x,x=wr:=⟨_,rfl⟩
 go_loopw [6] (fun i wx=>∃(j:Nat) (V E:Ar),j<=af.length/\i=O U (j:Int)/\Aq (Bt D (w.heap.size+1+1) SC WR (zE p (pcw af c j)).1 (zE p (pcw af c j)).2 V E wx)) (fun i _=>af.length-(Ap i).toNat)
 case atStart=>exact⟨0,V0,E0,by omega,rfl,by rw[QN];exact iN.out⟩
 obtain⟨j,V1,E1,hj,rfl,mJ⟩:=hrel
 by_cases Vp:j<af.length
 case neg=>
  obtain rfl:j=af.length:=by omega
  have HBe:=zH (by have h:=mJ.out;rw[pcw_end] at h;exact h);clear mJ;go_wp2_with fail
  go_roundw
  case rel=>exact⟨c+1,V1,E1,by omega,by go_num,HBe.out⟩
  simp[Ap];omega
 obtain⟨gw,A2,c2,eAW,lK,mC,Iz,nh,sT⟩:=To.out j Vp;subst eAW;have hKp:KeepB (fun k=>k<D/\k≠w.heap.size+1+1) WR wr:=mJ.out.wr.keep fun k _ hs=>hs.2
 have Dx:wr.cell? ⟨gw,j,Z⟩=J (I A2 af[j].length c2):=qX hKp ⟨mC,by omega⟩ Iz
 have iA:c*af.length+j<60:=by
  have h1:=OW.out;have h2:=H60.out;have h3:=congrArg List.length oZ.out;rw[yK] at h3;rw[h3,PA] at h1;have h4:=RF af.length (show c+1<=p.t.cases.length by omega);rw[Nat.succ_mul] at h4;omega
 obtain⟨Cm,iT⟩:=Xb p af (by have:=ee.out;omega) EB.out c j (by omega) (by omega);have oL:=qu p (pcw af c j) (c,af[j]);rw[<-pcw_succ af c j Vp] at oL;obtain⟨word,mY⟩:=Kk (af[j]);rw[mY] at Dx nh oL Iz sT;have oJ:word∈zI p.a K 0:=by rw[oZ.out,<-mY];exact Le Vp
 have pm:=xv p.a K 0 word oJ
 have C1:Aq (∀r∈word,yi r=0/\r.n=(N:Int)):=fun r hr=>by
  obtain⟨m,hm,rfl⟩:=jp p.a K 0 word oJ r hr;obtain⟨z1,z2,_⟩:=xL (xq cd.out.1.2 nX.out).1 m hm;exact⟨z1,by rw[z2,<-C6.out,ee.out]⟩
 obtain⟨AE,ke,rfl,_,_,_⟩:=mJ.out.out.form zS;obtain⟨pl,FA⟩:=Kk ((zE p (pcw af c j)).1);obtain⟨sQ,Fu⟩:=Kk ((zE p (pcw af c j)).2);rw[FA,Fu] at oL mJ;rw[FA] at Cm;rw[Fu] at iT;have tV:yy p c=p.t.cases[c].inp:=by unfold yy;rw[Lh,Lm VQ];rfl
 have Ow:Aq (zE p (pcw af c (j+1))=((stQ pl N p.t.cases[c].inp word (K+1)).1,sQ++[⟨(c:Int),word,(stQ pl N p.t.cases[c].inp word (K+1)).2⟩])):=by
  rw[oL];show(_,_)=_;rw[tV,pm,show p.t.n.toNat=N by have:=ee.out;omega]
  rfl
 obtain⟨bc,oc,A0,c0,A1',c1',A2',c2',eA,VW,Gl,_,_,WB,_,_⟩:=HA.out.row c VQ;subst eA;have F9:p.t.cases[c].inp.length=N:=by have h1:=HTI.out _ (Le VQ);have:=ee.out;omega
 obtain⟨inp,DP⟩:=Kk (p.t.cases[c].inp);rw[DP] at Gl WB Ow F9;have mg:=zH WB;have tq:=zH Iz;have HC0:=zH Gl;have dH:=zH nh;have o5:=zH sT;clear sT;have HIL:=zH F9;have sG:Aq (sQ.length<60):=by show sQ.length<60;omega
 have Oq:=zH Cm;have On:=zH pm;have Ip:(j:Int)<(af.length:Int):=by omega
 have hgwl:gw<wr.heap.size:=by have:=mJ.out.big;omega
 clear F9 DP oL tV WB Gl nh Iz hKp FA Fu mY oJ iT Cm pm;go_wp2_with fail;clear Dx;obtain⟨W1,fG,x1,aw,aB⟩:=zm wr #[O U c,I A2 word.length c2,I Z 0 0] 128;rw[fG];have OA:Aq (Bq D (w.heap.size+1+1) wr.heap.size SC WR c (I A2 word.length c2) pl sQ [] [] V1 (I AE sQ.length ke) (I Z 0 0) (I Z 0 0) W1):=Bt.start mJ.out aB x1;clear fG x1 aw aB mJ;obtain⟨bx,ce⟩:∃bx,bx=wr.heap.size:=⟨_,rfl⟩;rw[<-ce] at OA ⊢;clear ce
 go_loopw [8] (fun i wx=>∃(k:Nat) (V Y:Ar),k<=K+1/\i=O U (k:Int)/\Aq (Bq D (w.heap.size+1+1) bx SC WR c (I A2 word.length c2) (stQ pl N inp word k).1 sQ (stQ pl N inp word k).2 [] V (I AE sQ.length ke) Y (I Z 0 0) wx)) (fun i _=>K+1-(Ap i).toNat)
 case atStart=>exact⟨0,V1,_,by omega,rfl,OA.out⟩
 clear OA;obtain⟨k,V2,Y2,hk,rfl,HQ⟩:=hrel;have hbig:=HQ.out.big;have P0:=(HQ.out.wr.block _ (by have:=sc.out;omega) (by omega)).trans C7.out;have p0:wr.cell? ⟨w.heap.size,0,Z⟩=J (O U p.t.n):=zh P0 0 rfl;have p3:wr.cell? ⟨w.heap.size,3,Z⟩=J (I (J ⟨bc,oc,Z⟩) p.t.cases.length kc):=zh P0 3 rfl;have p6:wr.cell? ⟨w.heap.size,6,Z⟩=J (O U p.k):=zh P0 6 rfl;clear P0
 by_cases hkK:k<=K
 case neg=>
  have HKQ:Aq (k=K+1):=by show k=K+1;omega
  have ed:¬((k:Int)<=p.k):=by have:=pg.out;omega
  obtain⟨AY,ky,rfl,_,_,_⟩:=HQ.out.vw.form yX;have bX:=HQ.out.sys;rw[tj.out] at bX;have ia:=zH bX;have s9:wr.cell? ⟨w.heap.size+1+1,9,Z⟩=J (I AE sQ.length ke):=zh bX 9 rfl;have f9:=zi bX 9;have x0:wr.cell? ⟨bx,0,Z⟩=J (O U c):=zh HQ.out.x 0 rfl;have x1:wr.cell? ⟨bx,1,Z⟩=J (I A2 word.length c2):=zh HQ.out.x 1 rfl;have x2:wr.cell? ⟨bx,2,Z⟩=J (.slice AY (stQ pl N inp word k).2.length ky):=zh HQ.out.x 2 rfl;have rZ:=zH (zx wr (Ag #[O U c,I A2 word.length c2,.slice AY (stQ pl N inp word k).2.length ky] 128));have mS:=zH (HQ.out.out.below zS (zU wr (Ag #[O U c,I A2 word.length c2,.slice AY (stQ pl N inp word k).2.length ky] 128)) (Ld _));have Mr:=HQ.out.bsl;have hbsw:w.heap.size+1+1<wr.heap.size:=by omega
  have Mp:=HQ.out.bxl;clear bX;go_wp2_with (at_builtin;obtain⟨bE,bn,nf,cN⟩:=mS.out;refine yI kXn_ok rfl (.tmp 110) (.tmp 112) rfl D (I AE sQ.length ke) sQ.length bE.flatten rfl nf wr.heap.size #[O U c,I A2 word.length c2,.slice AY (stQ pl N inp word k).2.length ky] rfl rZ.out rfl (by simp[Value.oneCell']) (Lr (Ru sG.out) (by decide)) (by simp;omega) _ rfl ?_;intro g' cap w7 pN mM fy tO;have b7:=(mM.block _ (by simp;omega) (fun e=>mS.out.ne Mr e.symm)).trans (xa ia.out _);have c7:=zh b7 9 rfl;have WW:=zi b7 9;have HDN:=zH (Bq.done HQ.out (zU wr _) bn cN rfl rfl dH.out o5.out pN mM fy (by rw[tj.out];rfl));clear pN mM fy bn cN nf b7)
  go_roundw
  case rel=>exact⟨j+1,V2,_,by omega,by go_num,by rw[Ow.out,<-HKQ.out];exact HDN.out⟩
  simp[Ap];omega
 have ed:(k:Int)<=p.k:=by have:=pg.out;omega
 have hkw:k<=6:=by omega
 obtain⟨vk,Cl⟩:=Kk ((stQ pl N inp word k).1);obtain⟨yk,H7⟩:=Kk ((stQ pl N inp word k).2);obtain⟨f,hf⟩:=Kk (fQ inp word yk k);have nB:=stQ_len pl N inp word k;have eq:=stQ_few pl N inp word k;have Kr:=stQ_row pl N inp word k;have DB:=stQ_succ pl N inp word k;rw[Cl,H7] at HQ;rw[H7] at nB Kr;rw[Cl] at eq;rw[Cl,H7,hf] at DB;have HSS:=zH DB;have HYR:=zH Kr;have HYL:=zH nB
 have lP:Aq (vk.length<=2100+30):=by
  have h1:=LV hkw MR.2;have h2:=Oq.out;show vk.length<=2130;omega
 have lT:=zH hf;clear Cl H7 hf nB eq Kr DB;obtain⟨AY,ky,rfl,_,_,_⟩:=HQ.out.vw.form yX;go_wp2_with fail;clear p0 p3 p6
 go_loopw [9,10] (fun l i wx=>∃(q:Nat) (V:Ar),q<=N/\i=O U (q:Int)/\Aq (Bq D (w.heap.size+1+1) bx SC WR c (I A2 word.length c2) (yq f vk q).1 sQ yk (yq f vk q).2 V (I AE sQ.length ke) (I AY yk.length ky) l wx)) (fun _ i _=>N-(Ap i).toNat)
 case atStart=>exact⟨0,V2,by omega,rfl,HQ.out⟩
 clear HQ;obtain⟨q,V3,hq,rfl,HQ⟩:=hrel;have hbig:=HQ.out.big;have P0:=(HQ.out.wr.block _ (by have:=sc.out;omega) (by omega)).trans C7.out;have p0:wr.cell? ⟨w.heap.size,0,Z⟩=J (O U p.t.n):=zh P0 0 rfl;have p3:wr.cell? ⟨w.heap.size,3,Z⟩=J (I (J ⟨bc,oc,Z⟩) p.t.cases.length kc):=zh P0 3 rfl;clear P0;obtain⟨AL,kl,eL,hkl1,hkl2,_⟩:=HQ.out.row.form;subst eL
 by_cases hqN:q<N
 case neg=>
  have HQQ:Aq (q=N):=by show q=N;omega
  have UU:¬((q:Int)<p.t.n):=by have:=ee.out;omega
  have x2:wr.cell? ⟨bx,2,Z⟩=J (I AY yk.length ky):=zh HQ.out.x 2 rfl;have rZ:=zH (zx wr (Ag #[.slice AL (yq f vk q).2.length kl] 50));have mS:=zH (HQ.out.vw.below yX (zU wr (Ag #[.slice AL (yq f vk q).2.length kl] 50)) (Ld _));have Mp:=HQ.out.bxl;have hbxD:=HQ.out.hx;go_wp2_with (at_builtin;obtain⟨bE,bn,nf,cN⟩:=mS.out;refine yI X3 rfl (.tmp 104) (.tmp 106) rfl D (I AY yk.length ky) yk.length bE.flatten rfl nf wr.heap.size #[.slice AL (yq f vk q).2.length kl] rfl rZ.out rfl (by simp[Value.oneCell']) (by rw[HYL.out];omega) (by simp;omega) _ rfl ?_;intro g' cap w7 pN mM fy tO;have b7:=(mM.block bx (by simp;omega) (fun e=>(HQ.out.nY bx e.symm).1 rfl)).trans (xa HQ.out.x _);have c7:=zh b7 2 rfl;have WW:=zi b7 2;have rC:=zH (Bq.close HQ.out (zU wr _) bn cN pN mM fy);clear pN mM fy bn cN nf b7)
  go_roundw
  case rel=>exact⟨k+1,V3,_,by omega,by go_num,by rw[HSS.out,<-HQQ.out];exact rC.out⟩
  simp[Ap];omega
 have UU:(q:Int)<p.t.n:=by have:=ee.out;omega
 have mN:Am w.heap.size w wr:=TR.out.trans (HQ.out.wr.below (by have:=TR.out.size;omega) (fun k h1 h2=>by have h3:k=w.heap.size+1+1:=h2;omega));have Iz:=(mN.cell (p:=⟨bc,oc+c*3,Z⟩) VW).trans HC0.out;have hqi:q<inp.length:=by have:=HIL.out;omega
 obtain⟨bi,oi,eI,VU,hci⟩:=mg.out.at_ q hqi;subst eI;have hiw:=(mN.cell (p:=⟨bi,oi+q,Z⟩) VU).trans hci;obtain⟨iv,Vs⟩:=Kk (inp[q]);rw[Vs] at hiw;have HIV:Aq (inp.getD q 0=iv):=by show _=_;rw[Lh,Lm hqi,<-Vs];rfl
 have Ig:(0:Int)<=(q:Int):=by omega
 have Bw:(q:Int)<(inp.length:Int):=by omega
 have te:(0:Int)<=(c:Int):=by omega
 have ER:=zH (first_any q iv wr);have HPO:=zH (stQ_few pl N inp word k);have Mp:=HQ.out.bxl;clear mN hci Vs;go_wp2_with fail;refine ER.out.mono ?_;rintro e w5 ⟨rfl,aj⟩;obtain⟨W6,pA,b6,fU,lc⟩:=zm w5 (yS q iv).cells 133;have dj:Am wr.heap.size wr W6:=Lc aj lc;have cZ:=aj.size;have EB:=zH pA;have fh:=zH dj;have pj:=zH b6;unfold Vw.cells at EB;unfold Vw.cells;clear ER aj pA b6 lc dj Iz hiw p0 p3;go_simp;rename_i rf;refine rf _ _ ?_;clear rf;refine Np rfl fun K5 dT=>?_
 go_simp;refine dT _ _ ?_;clear dT K5;refine Np rfl fun K5 dT=>?_
 go_simp;rw[EB.out];refine dT _ _ ?_;clear dT K5 EB;rcases Nu k with dS | SH
 case' inl=>
  have SF:¬((0:Int)<(k:Int)):=by omega
  have EQ:Aq (f q=yS q iv):=by
   show f q=_;rw[<-lT.out,dS];show yS q (inp.getD q 0)=_;rw[HIV.out]
  rw[<-EQ.out] at pj;have pj:Aq (W6.heap[w5.heap.size]?=J (Ag (f q).cells 133 (0,0))):=pj;obtain⟨W9,tf⟩:=Kk W6;rw[tf] at fh pj ⊢;clear tf EQ dS
 case' inr=>
  obtain⟨k',fO⟩:∃k',k=k'+1:=⟨k-1,by omega⟩;have SF:(0:Int)<(k:Int):=by omega
  have Md:IntKind.i64.wrap ((k:Int)-1)=(k':Int):=by rw[Ll];omega
  have F1:k'<word.length:=by have:=On.out;omega
  have F0:k'<yk.length:=by have:=HYL.out;omega
  have EQ:Aq (f q=xI word[k'] k q yk[k']):=by
   show f q=_;rw[<-lT.out,fO];show xI (word.getD k' default) (k'+1) q (yk.getD k' [])=_;rw[Lh,Lm F1,Lh,Lm F0]
   rfl
  have Q6:=HQ.out.on fh.out;have hR6:RAtS (fun k=>w.heap.size+1+1<k/\k<D) W6 A2 word:=dH.out.keep (Q6.wr.keep fun k _ hs e=>by have h3:k=w.heap.size+1+1:=e;omega);have sU:W6.cell? ⟨gw,j,Z⟩=J (I A2 word.length c2):=qX (S:=fun k=>w.heap.size+1+1<k/\k<D) (Q6.wr.keep fun k _ hs e=>by have h3:k=w.heap.size+1+1:=e;omega) ⟨lK,mC⟩ tq.out;obtain⟨br,or_,eA2,bD,r0,r1,r2,r3,r4,r5,r6⟩:=hR6.rat.row k' F1;subst eA2;obtain⟨AYx,kyx,eY,_,_,hYc⟩:=Q6.vw.form yX
  cases eY
  obtain⟨gy,eAY,_,hgy,hyc⟩:=hYc (by omega);subst eAY;obtain⟨cs,⟨A3,c3,rfl,nQ⟩,ap⟩:=hyc k' F0;have hy6:W6.cell? ⟨gy,k',Z⟩=J (I A3 yk[k'].length c3):=by simpa[cIs,kIs] using ap 0 _ rfl
  have x6:W6.cell? ⟨bx,2,Z⟩=J (I (J ⟨gy,0,Z⟩) yk.length ky):=zh Q6.x 2 rfl;have eh:=HYR.out k' F0;obtain⟨row,an⟩:=Kk (yk[k']);obtain⟨rd,oB⟩:=Kk (word[k']);have Cp:=C1.out word[k'] (Le F1);rw[an] at hy6 nQ eh EQ;rw[oB] at r0 r1 r2 r3 r4 r5 r6 Cp EQ;have hhs:=Zb (kd Cp.1).2.2.1 q (by omega);have sH:=zH (fun (X:Ba) (hX:Am W6.heap.size W6 X)=>seen_any rd k q (by omega) hhs A3 c3 row (by rw[Cp.2,eh]) (by omega) X ((nQ.iat.keep hX).more hX.size));have hk'0:(0:Int)<=(k':Int):=by omega
  have hk'1:(k':Int)<(word.length:Int):=by omega
  have hk'2:(k':Int)<(yk.length:Int):=by omega
  have Vn:(0:Int)<=(j:Int):=by omega
  have HKS:=zH fO;have WT:w5.heap.size<W6.heap.size:=zk pj.out;clear SH fO Q6 hR6 hYc hyc ap nQ an oB Cp hhs eh;go_wp2_with fail
  go_still_tail 17,(by kernel_rfl)
  change wpList _ _ _ _ _ W6.drew;obtain⟨W7,pz⟩:∃W7,W7=W6.drew:=⟨_,rfl⟩;have BR:Aq (Am W6.heap.size W6 W7):=by rw[pz];exact(Li _ _).drew
  rw[<-pz];clear pz r0 r1 r2 r3 r4 r5 r6 sU hy6 x6;go_wp2_with fail;refine(sH.out W7 BR.out).mono ?_;rintro e w8 ⟨rfl,du⟩;obtain⟨vv,hvv⟩:=Kk (xI rd k q row);rw[hvv] at EQ ⊢;have Gp:Am W6.heap.size W6 w8:=Lc BR.out du;have b8:=Lb Gp WT pj.out;unfold Vw.cells at b8;obtain⟨k1,k2⟩:=vw_store8 vv b8 (Lc fh.out Gp) (by omega:wr.heap.size<=w5.heap.size);obtain⟨W9,tf⟩:=Kk (((((((((w8.setCell ⟨w5.heap.size,0,Z⟩ (O U vv.p)).setCell ⟨w5.heap.size,1,Z⟩ (O U vv.r)).setCell ⟨w5.heap.size,2,Z⟩ (O U vv.i)).setCell ⟨w5.heap.size,3,Z⟩ (O U vv.h0)).setCell ⟨w5.heap.size,4,Z⟩ (O U vv.h1)).setCell ⟨w5.heap.size,5,Z⟩ (O U vv.h2)).setCell ⟨w5.heap.size,6,Z⟩ (O U vv.h3)).setCell ⟨w5.heap.size,7,Z⟩ (O U vv.h4)));rw[tf] at k1 k2;have Tp:=zH tf;have y0:w8.cell? ⟨w5.heap.size,0,Z⟩=J (O U (yS q iv).p):=zh b8 0 rfl;have fr0:=zi b8 0;have y1:w8.cell? ⟨w5.heap.size,1,Z⟩=J (O U (yS q iv).r):=zh b8 1 rfl;have fr1:=zi b8 1;have y2:w8.cell? ⟨w5.heap.size,2,Z⟩=J (O U (yS q iv).i):=zh b8 2 rfl;have fr2:=zi b8 2;have y3:w8.cell? ⟨w5.heap.size,3,Z⟩=J (O U (yS q iv).h0):=zh b8 3 rfl;have fr3:=zi b8 3;have y4:w8.cell? ⟨w5.heap.size,4,Z⟩=J (O U (yS q iv).h1):=zh b8 4 rfl;have fr4:=zi b8 4;have y5:w8.cell? ⟨w5.heap.size,5,Z⟩=J (O U (yS q iv).h2):=zh b8 5 rfl;have fr5:=zi b8 5
  have y6:w8.cell? ⟨w5.heap.size,6,Z⟩=J (O U (yS q iv).h3):=zh b8 6 rfl;have fr6:=zi b8 6;have y7:w8.cell? ⟨w5.heap.size,7,Z⟩=J (O U (yS q iv).h4):=zh b8 7 rfl;have WW:=zi b8 7;have pj:Aq (W9.heap[w5.heap.size]?=J (Ag (f q).cells 133 (0,0))):=by rw[EQ.out];exact k1
  have fh:Aq (Am wr.heap.size wr W9):=k2;clear Gp b8 k1 k2 tf hvv du sH BR EQ;unfold Vw.cells;go_simp;rename_i rf;refine rf _ _ ?_;refine Np rfl fun K5 dT=>?_
  go_simp;rw[Tp.out];refine dT _ _ ?_;clear Tp HKS SF Md y0 y1 y2 y3 y4 y5 y6 y7 fr0 fr1 fr2 fr3 fr4 fr5 fr6 WW
 all_goals
  have Q9:=HQ.out.on fh.out;have Cp:=ja f vk q;have KG:=xJ f vk q;obtain⟨AV,kv,eV,hT⟩:=Q9.tb.form (by have:=lP.out;omega);subst eV;have C5:=zH (put_any p.t.n AV kv (yq f vk q).1 (f q) W9 hT (by have:=lP.out;omega));have bX:=Q9.sys;rw[tj.out] at bX;have s7:W9.cell? ⟨w.heap.size+1+1,7,Z⟩=J (O U p.t.n):=zh bX 7 rfl;have s8:W9.cell? ⟨w.heap.size+1+1,8,Z⟩=J (.slice AV (yq f vk q).1.length kv):=zh bX 8 rfl;have Oz:=zH Q9;have HRL2:=zH KG;obtain⟨v,hv⟩:=Kk (f q);have HFQ:=zH hv;rw[hv] at C5 pj;have x0:W9.cell? ⟨w5.heap.size,0,Z⟩=J (O U v.p):=zh pj.out 0 rfl;have x1:W9.cell? ⟨w5.heap.size,1,Z⟩=J (O U v.r):=zh pj.out 1 rfl;have x2:W9.cell? ⟨w5.heap.size,2,Z⟩=J (O U v.i):=zh pj.out 2 rfl;have x3:W9.cell? ⟨w5.heap.size,3,Z⟩=J (O U v.h0):=zh pj.out 3 rfl;have x4:W9.cell? ⟨w5.heap.size,4,Z⟩=J (O U v.h1):=zh pj.out 4 rfl;have x5:W9.cell? ⟨w5.heap.size,5,Z⟩=J (O U v.h2):=zh pj.out 5 rfl;have x6:W9.cell? ⟨w5.heap.size,6,Z⟩=J (O U v.h3):=zh pj.out 6 rfl;have x7:W9.cell? ⟨w5.heap.size,7,Z⟩=J (O U v.h4):=zh pj.out 7 rfl;clear hv Cp KG hT bX Q9;go_wp2_with fail
  all_goals first | (exfalso;omega) | skip
  refine C5.out.mono ?_;rintro e fD KP;obtain⟨A3,k3,rfl,Wr,Ec,de⟩:=put_out KP Oz.out.tb Oz.out.big;have T2:=Lc fh.out de;have bX:=(HQ.out.on T2).sys;rw[tj.out] at bX;have s7:fD.cell? ⟨w.heap.size+1+1,7,Z⟩=J (O U p.t.n):=zh bX 7 rfl;have s8:fD.cell? ⟨w.heap.size+1+1,8,Z⟩=J (.slice AV (yq f vk q).1.length kv):=zh bX 8 rfl;have f7:=zi bX 7;have f8:=zi bX 8;have HS10:=zH bX;obtain⟨BU,Ck⟩:=Kk ((qe (yq f vk q).1 v).1);obtain⟨iz,Vq⟩:=Kk ((qe (yq f vk q).1 v).2);rw[Ck] at Wr Ec;have Tq:=zH Ck;have HIZ:=zH Vq;have tl:=zH Wr;have Tr:=zH Ec;have HB10:=zH T2;have pL:=T2.size;have Mr:=HQ.out.bsl;rw[Ck,Vq];clear KP Wr Ec de T2 bX Ck Vq C5 x0 x1 x2 x3 x4 x5 x6 x7 pj;obtain⟨Ex,MG,Th,FI,GK⟩:=zm fD #[O U p.t.n,I A3 BU.length k3] 36;have C2:=zH MG;have O5:Aq (Am wr.heap.size wr Ex):=HB10.out.trans (GK.mono pL);have t0:Ex.cell? ⟨fD.heap.size,0,Z⟩=J (O U p.t.n):=zh Th 0 rfl;have t1:Ex.cell? ⟨fD.heap.size,1,Z⟩=J (I A3 BU.length k3):=zh Th 1 rfl;have bX:=(HQ.out.on O5.out).sys;rw[tj.out] at bX;have e7:Ex.cell? ⟨w.heap.size+1+1,7,Z⟩=J (O U p.t.n):=zh bX 7 rfl;have e8:Ex.cell? ⟨w.heap.size+1+1,8,Z⟩=J (.slice AV (yq f vk q).1.length kv):=zh bX 8 rfl;have fe7:=zi bX 7;have fe8:=zi bX 8;have hbs11:w.heap.size+1+1<Ex.heap.size:=by omega
  have GZ:=zH (Bq.put HQ.out O5.out (u:=O U p.t.n) (tl.out.of_same fun k hk=>GK.block k (tl.out.lt' k hk).2) (fun k hk=>by
   rcases Tr.out k hk with e | e
   . exact .inl e
   . exact .inr (by have:=fh.out.size;omega)) (by rw[tj.out];rfl) (by rw[tj.out];rfl))
  obtain⟨Oj,CL⟩:=Kk ((Ex.setCell ⟨w.heap.size+1+1,7,Z⟩ (O U p.t.n)).setCell ⟨w.heap.size+1+1,8,Z⟩ (I A3 BU.length k3));rw[CL] at GZ;have HY10:=zH CL;have KA:Oj.heap.size=Ex.heap.size:=by rw[<-CL];simp
  have TI:Aq ((Oj.alloc (Ag #[O U iz] 3)).heap[fD.heap.size+1]?=J (Ag #[O U iz] 3 (0,0))):=by show _=_;rw[<-FI,<-KA];exact zx Oj _
  have HRN:=zH (GZ.out.row.alloc (Ag #[O U iz] 3));have HDY:=zH GZ.out.big
  have EG:Aq (yq f vk (q+1)=(BU,(yq f vk q).2++[iz])):=by
   show(_,_)=_;rw[HFQ.out,Tq.out,HIZ.out]
  clear MG Th GK bX CL s7 s8 f7 f8 HS10 tl Tr Tq HIZ HFQ Oz;go_simp;rename_i rf;refine rf _ _ ?_;clear rf;refine Np rfl fun K5 dT=>?_
  go_simp;refine dT _ _ ?_;clear dT K5;refine Np rfl fun K5 dT=>?_
  go_simp;refine dT _ _ ?_;clear dT K5;refine Np rfl fun K5 dT=>?_
  go_simp;refine dT _ _ ?_;clear dT K5;refine Np rfl fun K5 dT=>?_
  go_simp;refine dT _ _ ?_;clear dT K5;refine Np rfl fun K5 dT=>?_
  go_simp;rw[C2.out];refine dT _ _ ?_;clear dT K5 C2;have HRL3:Aq ((yq f vk q).2.length<=1000000000):=by show _<=_;rw[HRL2.out];omega
  have HDZ:Aq (D<=(Oj.alloc (Ag #[O U iz] 3)).heap.size):=by show _<=_;have:=HDY.out;simp;omega
  go_wp2_with (at_builtin;go_loud (rw[HY10.out];refine yI Yl rfl (.tmp 99) (.tmp 101) rfl D (.slice AL (yq f vk q).2.length kl) (yq f vk q).2.length ((yq f vk q).2.map (O U)) rfl HRN.out (fD.heap.size+1) #[O U iz] rfl TI.out rfl (by simp[Value.oneCell']) HRL3.out HDZ.out _ rfl ?_;intro g' cap w12 pN mM fy tO;have HPS:=zH (Bq.push GZ.out (zU Oj _) pN mM fy);clear pN mM fy))
  go_roundw
  case rel=>exact⟨q+1,_,by omega,by go_num,by rw[EG.out];exact HPS.out⟩
  case measure=>simp[Ap];omega
end
section
open Go.RowKit
attribute [local go_sem] Oper.semAt_some
theorem num_many{p:Pb}(h:zV p=0):4096<YS p↔4096<yh p:=by
 obtain⟨nG,_⟩:=yg h;obtain⟨h1,_⟩:=xg nG;have e:yh p=p.t.cases.length*yf p.a p.k.toNat 0:=by unfold yh;rw[PA]
 rw[e];exact sat_mul 4096 p.t.cases.length (yf p.a p.k.toNat 0) h1
theorem rbuild_any(p:Pb)(hf:xu p)(A:Bb)(kc:Nat)(SV:Bb)(ks:Nat)(w:Ba)(hA:CAt w w.heap.size A p.t.cases)(hS:SAt w w.heap.size SV p.a.sts) :
  An Al 55 #[.agg (p.vs A kc SV ks)] w (RetSys (zT p) w):=by
 have HC:=zH (fun (w':Ba) (h1:CAt w' w'.heap.size A p.t.cases) (h2:SAt w' w'.heap.size SV p.a.sts)=>gM p hf.1 A kc SV ks w' h1 h2)
 have HN:=zH (fun (w':Ba) (h0:zV p=0) (h:SAt w' w'.heap.size SV p.a.sts)=>
  Xc p hf.1 (xq hf.1.2 (yg h0).2.1).1 (xq hf.1.2 (yg h0).2.1).2.1 p.k.toNat 4096 (by have:=(yg h0).2.2.2.1;omega) (by have:=(yg h0).2.2.2.2;omega) (by decide) A kc SV ks w' h)
 have HB:=zH (fun (h0:zV p=0) (mP:yh p<=60) (w':Ba) (h1:CAt w' w'.heap.size A p.t.cases) (h2:SAt w' w'.heap.size SV p.a.sts)=>built_any p hf h0 mP A kc SV ks w' h1 h2);have Dj:=zH (@xm p);have pd:=zH (@xA p);have OC:=zH (@qy p);have OG:=zH (@num_many p);have cd:=zH hf.2;obtain⟨R,hR⟩:=Kk (zT p);rw[hR] at Dj pd OC ⊢;obtain⟨w1,ae,d0,d1,aw,aB⟩:=xk w (p.vs A kc SV ks) #[O U 0,O U 0,O U 0,I Z 0 0,O U 0,I Z 0 0,O U 0,O U 0,I Z 0 0,I Z 0 0] 29 39;have I6:=zH hA;have HSW:=zH hS;have HA:=zH ((hA.keep aB).more aB.size);have HS:=zH ((hS.keep aB).more aB.size);unfold Pb.vs at ae d0 ⊢;have ak:=zH ae;have dU:=zH d0;have eQ:=zH d1;have mJ:=zH aB;obtain⟨p0,p1,p2,p3,p4,p5,p6,_⟩:=Kg d0;obtain⟨E,hE⟩:=Kk (zV p);have BJ:=zH hE;rw[hE] at HC Dj;obtain⟨M,hM⟩:=Kk (p.t.cases.length*xd 4096 (yf p.a p.k.toNat 0));have tm:Aq (YS p=M):=hM;rw[hM] at HN;clear ae d0 d1 aB hA hS hf hR hE hM;go_enter func55,ntmps55;go_wp2_with fail;rw[ak.out];go_wp2_with fail;refine(HC.out w1 HA.out HS.out).mono ?_;rintro e w2 ⟨rfl,ah⟩;have B2:=zH (mJ.out.trans (ah.mono (by omega)));have Hq:=zH ((HA.out.keep ah).more ah.size);have fJ:=zH ((HS.out.keep ah).more ah.size);have bQ:=ah.size;have d0:=La ah dU.out;have d1:=La ah eQ.out;have di:=zH d0;have aq:=zH d1;clear ah HC ak dU eQ HA HS p0 p1 p2 p3 p4 p5 p6
 obtain⟨p0,p1,p2,p3,p4,p5,p6,_⟩:=Kg d0
 by_cases h0:E=0
 case neg=>
  have hR:=zH (Dj.out h0);have e0:(E != 0)=Au:=by simpa using h0
  have y0:=zh d1 0 rfl;have f0:=zi d1 0;have y1:=zh d1 1 rfl;have f1:=zi d1 1;have y2:=zh d1 2 rfl;have f2:=zi d1 2;have y3:=zh d1 3 rfl;have f3:=zi d1 3;have y4:=zh d1 4 rfl;have f4:=zi d1 4;have y5:=zh d1 5 rfl;have f5:=zi d1 5;have y6:=zh d1 6 rfl;have f6:=zi d1 6;have y7:=zh d1 7 rfl;have f7:=zi d1 7;have y8:=zh d1 8 rfl;have f8:=zi d1 8;have y9:=zh d1 9 rfl;have f9:=zi d1 9;obtain⟨k1,k2,k3⟩:=kC (O U 0) (O U 0) (O U 0) (I Z 0 0) (O U 0) (I Z 0 0) (O U 0) (O U 0) (I Z 0 0) (I Z 0 0) d1 B2.out (by omega:w.heap.size<=w.heap.size+1);obtain⟨WF,cM⟩:=Kk (((((((((((w2.setCell ⟨w.heap.size+1,0,Z⟩ (O U 0)).setCell ⟨w.heap.size+1,1,Z⟩ (O U 0)).setCell ⟨w.heap.size+1,2,Z⟩ (O U 0)).setCell ⟨w.heap.size+1,3,Z⟩ (I Z 0 0)).setCell ⟨w.heap.size+1,4,Z⟩ (O U 0)).setCell ⟨w.heap.size+1,5,Z⟩ (I Z 0 0)).setCell ⟨w.heap.size+1,6,Z⟩ (O U 0)).setCell ⟨w.heap.size+1,7,Z⟩ (O U 0)).setCell ⟨w.heap.size+1,8,Z⟩ (I Z 0 0)).setCell ⟨w.heap.size+1,9,Z⟩ (I Z 0 0)));rw[cM] at k1 k2 k3;have BN:=zH k1;have iw:=zH k2;have TB:=zH k3;have C1:=zH cM;clear k1 k2 k3 cM;clear pd OC OG HN HB cd h0 d0 d1;go_wp2_with fail;rw[C1.out];obtain⟨z0,z1,z2,z3,z4,z5,z6,z7,z8,z9⟩:=zK BN.out
  refine LI (v:=.tuple #[Ai #[O U 0,O U 0,O U 0,I Z 0 0,O U 0,I Z 0 0,O U 0,O U 0,I Z 0 0,I Z 0 0],O U E]) (by simp[results,results55,go_sem,z0,z1,z2,z3,z4,z5,z6,z7,z8,z9]) rfl ?_;rw[hR.out];exact RetSys.zero _ iw.out
 case pos=>
 subst h0;clear Dj;go_wp2_with fail;refine(HN.out w2 BJ.out fJ.out).mono ?_;rintro e w3 ⟨rfl,al⟩;have B3:=zH (B2.out.trans (al.mono (by omega)));have pi:=zH ((Hq.out.keep al).more al.size);have rU:=zH ((fJ.out.keep al).more al.size);have dx:=al.size;have d0:=La al di.out;have d1:=La al aq.out;have HF0:=zH d0;have ER:=zH d1;clear al HN di aq Hq fJ p0 p1 p2 p3 p4 p5 p6
 by_cases hm:4096<M
 case pos=>
  have hR:=zH (pd.out BJ.out ((OG.out BJ.out).1 (by rw[tm.out];exact hm)));have U8:(4096:Int)<(M:Int):=by omega
  have y0:=zh d1 0 rfl;have f0:=zi d1 0;have y1:=zh d1 1 rfl;have f1:=zi d1 1;have y2:=zh d1 2 rfl;have f2:=zi d1 2;have y3:=zh d1 3 rfl;have f3:=zi d1 3;have y4:=zh d1 4 rfl;have f4:=zi d1 4;have y5:=zh d1 5 rfl;have f5:=zi d1 5;have y6:=zh d1 6 rfl;have f6:=zi d1 6;have y7:=zh d1 7 rfl;have f7:=zi d1 7;have y8:=zh d1 8 rfl;have f8:=zi d1 8;have y9:=zh d1 9 rfl;have f9:=zi d1 9;obtain⟨k1,k2,k3⟩:=kC (O U 0) (O U 0) (O U 0) (I Z 0 0) (O U 0) (I Z 0 0) (O U 0) (O U 0) (I Z 0 0) (I Z 0 0) d1 B3.out (by omega:w.heap.size<=w.heap.size+1);obtain⟨WF,cM⟩:=Kk (((((((((((w3.setCell ⟨w.heap.size+1,0,Z⟩ (O U 0)).setCell ⟨w.heap.size+1,1,Z⟩ (O U 0)).setCell ⟨w.heap.size+1,2,Z⟩ (O U 0)).setCell ⟨w.heap.size+1,3,Z⟩ (I Z 0 0)).setCell ⟨w.heap.size+1,4,Z⟩ (O U 0)).setCell ⟨w.heap.size+1,5,Z⟩ (I Z 0 0)).setCell ⟨w.heap.size+1,6,Z⟩ (O U 0)).setCell ⟨w.heap.size+1,7,Z⟩ (O U 0)).setCell ⟨w.heap.size+1,8,Z⟩ (I Z 0 0)).setCell ⟨w.heap.size+1,9,Z⟩ (I Z 0 0)));rw[cM] at k1 k2 k3;have BN:=zH k1;have iw:=zH k2;have TB:=zH k3;have C1:=zH cM;clear k1 k2 k3 cM;clear pd OC OG HB cd d0 d1;go_wp2_with fail;rw[C1.out];obtain⟨z0,z1,z2,z3,z4,z5,z6,z7,z8,z9⟩:=zK BN.out
  refine LI (v:=.tuple #[Ai #[O U 0,O U 0,O U 0,I Z 0 0,O U 0,I Z 0 0,O U 0,O U 0,I Z 0 0,I Z 0 0],O U 17]) (by simp[results,results55,go_sem,z0,z1,z2,z3,z4,z5,z6,z7,z8,z9]) rfl ?_;rw[hR.out];exact RetSys.zero _ iw.out
 case neg=>
 have DV:¬(4096<yh p):=fun h=>hm (by rw[<-tm.out];exact(OG.out BJ.out).2 h)
 have mP:yh p<=60:=by
  rcases cd.out BJ.out with h | h
  . exact h
  exact absurd h DV
 have hR:=zH (OC.out BJ.out (by omega));have U8:¬((4096:Int)<(M:Int)):=by omega
 have HB':=zH (HB.out BJ.out mP w3 pi.out rU.out);have pF:=zH (XO p BJ.out mP).1;obtain⟨p0,p1,p2,p3,p4,p5,p6,_⟩:=Kg d0;clear pd OC OG HB cd DV mP d0 d1 tm;go_wp2_with fail
 all_goals first | (exfalso;omega) | skip
 refine HB'.out.mono ?_;rintro e w4 ⟨AV,kv,AE,ke,rfl,hV,hX,aP⟩;have B4:=zH (B3.out.trans (aP.mono (by omega)));have HVO:=zH hV;have HXO:=zH hX;have iU:=aP.size;have d1:=La aP ER.out;have HG1:=zH d1;have Hp:=zH ((pi.out.keep aP).more aP.size);have rn:=zH ((rU.out.keep aP).more aP.size);clear hV hX aP HB' HF0 ER p0 p1 p2 p3 p4 p5 p6 d1;obtain⟨W5,iG,b5,cZ,lO⟩:=zm w4 #[O U p.t.n,O U p.t.ins,O U p.t.outs,I A p.t.cases.length kc,O U p.a.n,I SV p.a.sts.length ks,O U p.k,O U p.t.n,.slice AV (zE p (zC p)).1.length kv,.slice AE (zE p (zC p)).2.length ke] 39;have d1:=La lO HG1.out;have B5:=zH (B4.out.trans (lO.mono (by omega)));have aK:=zH lO;have lC:=zH iG;obtain⟨x0,x1,x2,x3,x4,x5,x6,x7,x8,x9⟩:=zK b5;have hfv:¬((8192:Int)<((zE p (zC p)).1.length:Int)):=by have:=pF.out;omega
 clear iG lO b5;go_simp;rename_i rf;refine rf _ _ ?_;clear rf;refine Np rfl fun K5 dT=>?_
 go_simp;refine dT _ _ ?_;clear dT K5;refine Np rfl fun K5 dT=>?_
 go_simp;rw[lC.out];refine dT _ _ ?_;clear dT K5 lC;have y0:=zh d1 0 rfl;have f0:=zi d1 0;have y1:=zh d1 1 rfl;have f1:=zi d1 1;have y2:=zh d1 2 rfl;have f2:=zi d1 2;have y3:=zh d1 3 rfl;have f3:=zi d1 3;have y4:=zh d1 4 rfl;have f4:=zi d1 4;have y5:=zh d1 5 rfl;have f5:=zi d1 5;have y6:=zh d1 6 rfl;have f6:=zi d1 6;have y7:=zh d1 7 rfl;have f7:=zi d1 7;have y8:=zh d1 8 rfl;have f8:=zi d1 8;have y9:=zh d1 9 rfl;have f9:=zi d1 9;obtain⟨k1,k2,k3⟩:=kC (O U p.t.n) (O U p.t.ins) (O U p.t.outs) (I A p.t.cases.length kc) (O U p.a.n) (I SV p.a.sts.length ks) (O U p.k) (O U p.t.n) (.slice AV (zE p (zC p)).1.length kv) (.slice AE (zE p (zC p)).2.length ke) d1 B5.out (by omega:w.heap.size<=w.heap.size+1);obtain⟨WF,cM⟩:=Kk (((((((((((W5.setCell ⟨w.heap.size+1,0,Z⟩ (O U p.t.n)).setCell ⟨w.heap.size+1,1,Z⟩ (O U p.t.ins)).setCell ⟨w.heap.size+1,2,Z⟩ (O U p.t.outs)).setCell ⟨w.heap.size+1,3,Z⟩ (I A p.t.cases.length kc)).setCell ⟨w.heap.size+1,4,Z⟩ (O U p.a.n)).setCell ⟨w.heap.size+1,5,Z⟩ (I SV p.a.sts.length ks)).setCell ⟨w.heap.size+1,6,Z⟩ (O U p.k)).setCell ⟨w.heap.size+1,7,Z⟩ (O U p.t.n)).setCell ⟨w.heap.size+1,8,Z⟩ (.slice AV (zE p (zC p)).1.length kv)).setCell ⟨w.heap.size+1,9,Z⟩ (.slice AE (zE p (zC p)).2.length ke)));rw[cM] at k1 k2 k3;have BN:=zH k1;have iw:=zH k2;have TB:=zH k3;have C1:=zH cM;clear k1 k2 k3 cM;clear d1;go_wp2_with fail;rw[C1.out]
 obtain⟨z0,z1,z2,z3,z4,z5,z6,z7,z8,z9⟩:=zK BN.out;refine LI (v:=.tuple #[Ai #[O U p.t.n,O U p.t.ins,O U p.t.outs,I A p.t.cases.length kc,O U p.a.n,I SV p.a.sts.length ks,O U p.k,O U p.t.n,.slice AV (zE p (zC p)).1.length kv,.slice AE (zE p (zC p)).2.length ke],O U 0]) (by simp[results,results55,go_sem,z0,z1,z2,z3,z4,z5,z6,z7,z8,z9]) rfl ?_;rw[hR.out];have fb:∀k,k≠w.heap.size+1->k<w4.heap.size->WF.heap[k]?=w4.heap[k]?:=fun k a b=>(TB.out.2.1 k a).trans (aK.out.block k b)
 have hz:w4.heap.size<=WF.heap.size:=by have:=aK.out.size;have:=TB.out.2.2;omega
 obtain⟨AV',kv',eV,hT⟩:=(HVO.out.of_same fun k hk=>fb k (by have:=(HVO.out.lt' k hk).1;omega) (HVO.out.lt' k hk).2).form (by have:=pF.out;omega)
 cases eV
 obtain⟨AE',ke',eE,_,_,SX,_⟩:=gh (HXO.out.keep zS ⟨hz,fun k hs hl=>fb k (by omega) hl⟩ fun k hk=>fb k (by have:=(HXO.out.lt k hk).1;omega) (HXO.out.lt k hk).2)
 cases eE
 exact⟨A,kc,SV,ks,AV,kv,AE,ke,rfl,⟨(I6.out.keep iw.out).more iw.out.size,(HSW.out.keep iw.out).more iw.out.size,hT.rows,SX⟩,hT.lec,hT.lem,iw.out⟩
def qd(p:Pb):Bool:=qi p&&decide ((zT p).2=0)
theorem right_any(p:Pb)(hl:Zq p)(A:Bb)(kc:Nat)(SV:Bb)(ks:Nat)(w:Ba)(hA:CAt w w.heap.size A p.t.cases)(hS:SAt w w.heap.size SV p.a.sts) :
  An Al 32 #[.agg (p.vs A kc SV ks)] w fun e w'=>e=Ak (Ah (qd p))/\Am w.heap.size w w':=by
 obtain⟨w1,ae⟩:=Kk (w.alloc (Ag (p.vs A kc SV ks) 29));have cj:=zx w (Ag (p.vs A kc SV ks) 29);have aD:Am w.heap.size w w1:=by rw[<-ae];exact zU w _
 have fa:w1.heap.size=w.heap.size+1:=by rw[<-ae];simp
 rw[ae] at cj;have HF:=zH (few_any p hl A kc SV ks w1 ((hA.keep aD).more aD.size) ((hS.keep aD).more aD.size));have eF:=zH (fun (h:qi p=Au) (X:Ba) (hX:Am w1.heap.size w1 X)=>rbuild_any p (few_x h).1 A kc SV ks X ((((hA.keep aD).more aD.size).keep hX).more hX.size) ((((hS.keep aD).more aD.size).keep hX).more hX.size));have rp:Aq (qd p=(qi p&&decide ((zT p).2=0))):=rfl;obtain⟨r,hr⟩:=Kk (qd p);rw[hr] at rp ⊢;obtain⟨R,hR⟩:=Kk (zT p);rw[hR] at eF rp;obtain⟨b,hb⟩:=Kk (qi p);rw[hb] at HF eF rp;unfold Pb.vs at ae cj HF eF ⊢;have ak:=zH ae;have cX:=zH cj;have cI:=zH aD;have p5:=zh cj 5 rfl;have p6:=zh cj 6 rfl;clear ae cj aD hA hS hl hr hR hb;go_enter func32,ntmps32;go_wp2_with fail;rw[ak.out];go_wp2_with fail;refine HF.out.mono ?_;rintro e w2 ⟨rfl,ah⟩;have aT:=zH (cI.out.trans (ah.mono (by omega)));have d0:=Lb ah (by omega:w.heap.size<w1.heap.size) cX.out;have bQ:=ah.size
 cases b with
 | false=>
  have Wk:Aq (r=Aw):=rp.out;clear rp eF HF p5 p6 d0 ah cX ak;go_wp2_with fail;go_ret;exact⟨zz Wk.out.symm,aT.out⟩
 | true=>
  have bK:=zH (eF.out rfl w2 ah);have Wk:Aq (r=decide (R.2=0)):=rp.out;clear p5 p6 ah eF HF cX ak rp;obtain⟨p0,p1,p2,p3,p4,p5,p6,_⟩:=Kg d0;clear d0;go_wp2_with fail;refine bK.out.mono ?_;rintro e w3 ⟨A2,dn,dw,dm,Rh,Ko,PY,Kn,rfl,S0,UK,UI,al⟩;obtain⟨T,E⟩:=R;have fK:=zH (aT.out.trans ((al.trans (zU w3 (Ag (T.vs_ A2 dn dw dm Rh Ko PY Kn) 39) |>.mono al.size)).mono (by omega)));unfold Sy.vs_ at fK ⊢;clear al S0 UK UI bK p5 p6;go_wp2_with fail;go_ret;exact⟨zz (by rw[Wk.out];first | rfl | exact Qb Iff.rfl | (rw[N6];simp)),fK.out⟩
theorem yG{s:Sy}(hf:xu s.p)(h:zZ s=0):s=zO s.p/\∃K N,Fine s K N:=by
 unfold zZ at h
 by_cases h1:(zT s.p).2≠0
 . rw[Lj h1] at h;exact absurd h h1
 rw[Lg h1] at h
 by_cases h2:s=(zT s.p).1
 · have h0 : zV s.p = 0 := by
    by_cases h0:zV s.p=0
    . exact h0
    rw[xm h0] at h1;exact absurd h0 h1
   have hm:¬4096<yh s.p:=fun hm=>by rw[xA h0 hm] at h1;exact h1 (by decide)
   rw[qy h0 (by omega)] at h2;obtain⟨K,N,hF⟩:=built_fine hf h0 (by rcases hf.2 h0 with h | h;exact h;exact absurd h hm);exact⟨h2,K,N,by rw[h2];exact hF⟩
 rw[Lg h2] at h;cases h
def xZ(bs:List Bool):Array Ar:=(bs.map Ah).toArray
theorem vr(bs:List Bool)(i:Nat)(b:Bool):(xZ bs).setIfInBounds i (Ah b)=xZ (bs.set i b):=by
 unfold xZ;rw[List.setIfInBounds_toArray,List.map_set]
theorem qI(bs:List Bool)(i:Nat)(h:i<bs.length):(xZ bs)[i]?=J (Ah bs[i]):=by
 unfold xZ;simp[h]
def kBo:Kd:=⟨4,58,1,1,Ah Aw⟩
theorem kBo_ok:KdOk Al kBo:=⟨Py,by kernel_rfl,by rfl,by decide,by decide⟩
theorem made_bools(n:Nat):madeCells #[Ah Aw] (n*1)=xZ (List.replicate n Aw):=by
 unfold madeCells xZ;apply Array.ext
 . simp
 intro i h1 h2;simp[Nat.mod_one]
theorem xy(n:Nat)(hn:n<=100000)(W:Ba):(Instr.makeSlice 58 (O U n) (O U n)).run Al W=.ok (I (J ⟨W.heap.size,0,Z⟩) n n) (W.alloc (Ag (xZ (List.replicate n Aw)) 4)):=by
 obtain⟨i0,hi,eO,cY,ep⟩:=xe kBo_ok;have hb:i0.bytes=1:=ep;have hs:i0.size=1:=cY;have h:=run_make (P:=Al) W 58 4 i0 (Ah Aw) Py hi eO U U (n:Int) (n:Int) (by omega) (Int.le_refl _) (by rw[hb];omega) (by omega);rw[h,hs];simp only[Int.toNat_natCast];rw[show(Ah Aw).cells=#[Ah Aw] from rfl,made_bools]
end
section
open Go.RowKit
def kBl:Kd:=⟨4,58,1,1,Ah Aw⟩
theorem kBl_ok:KdOk Al kBl:=⟨Py,by kernel_rfl,by rfl,by decide,by decide⟩
section
variable {w w':Ba} {B B':Nat} {A:Bb}
def BAt(w:Ba)(B:Nat)(A:Bb)(bs:List Bool):Prop:=
 0<bs.length->∃b off,A=J ⟨b,off,Z⟩/\b<B/\∀(i:Nat) (hi:i<bs.length),w.cell? ⟨b,off+i,Z⟩=J (Ah bs[i])
theorem BAt.keep{bs:List Bool}(h:BAt w B A bs)(hb:Am B w w'):BAt w' B A bs:=fun h0=>by
 obtain⟨b,off,e,ac,hc⟩:=h h0;exact⟨b,off,e,ac,fun i hi=>(hb.cell (p:=⟨b,_,Z⟩) ac).trans (hc i hi)⟩
theorem BAt.more{bs:List Bool}(h:BAt w B A bs)(hB:B<=B'):BAt w B' A bs:=fun h0=>by
 obtain⟨b,off,e,ac,hc⟩:=h h0;exact⟨b,off,e,by omega,hc⟩
theorem BAt.at_{bs:List Bool}(h:BAt w B A bs)(i:Nat)(hi:i<bs.length):∃b off,A=J ⟨b,off,Z⟩/\b<B/\w.cell? ⟨b,off+i,Z⟩=J (Ah bs[i]):=by
 obtain⟨b,off,e,ac,hc⟩:=h (by omega);exact⟨b,off,e,ac,hc i hi⟩
def BRow(w:Ba)(g:Nat)(bs:List Bool):Prop:=w.heap[g]?=J (Ag (xZ bs) 4 (0,0))
theorem BRow.lt{g:Nat}{bs:List Bool}(h:BRow w g bs):g<w.heap.size:=zk h
theorem BRow.at_{g:Nat}{bs:List Bool}(h:BRow w g bs)(hB:g<B):BAt w B (J ⟨g,0,Z⟩) bs:=fun _=>⟨g,0,rfl,hB,fun i hi=>by rw[LQ];exact zh h i (qI bs i hi)⟩
end
end
section
open Go.ChangeShapes Go.WideShapes Go.ChangeAt Go.RowKit Go.Deep
theorem lit_nat{k:IntKind}{i:Int}(hk:k.min=0)(h:(Lit.int k i).wf=true):∃n:Nat,i=(n:Int)/\(n:Int)<=k.max:=by
 unfold Lit.wf at h;simp only[Bool.and_eq_true,decide_eq_true_iff] at h;obtain⟨n,hn⟩:=Ls (by omega:0<=i);exact⟨n,hn,by omega⟩
theorem u8_lt{n:Nat}(h:(n:Int)<=IntKind.max .u8):n<256:=by
 have m8:IntKind.max .u8=255:=by decide
 omega
end
section
open Go.RowKit
structure Fh where
 op:Int
 p:Int
 o:Int
 v:Int
 g:Int
inductive Fm where
 | mk (h:Fh) (args:List Fm)
def Fm.h:Fm->Fh
 | .mk h _=>h
def Fm.args:Fm->List Fm
 | .mk _ l=>l
instance:Inhabited Fm:=⟨.mk ⟨0,0,0,0,0⟩ []⟩
def usP(op:Int):Bool:=decide (op=1\/op=3\/op=4\/op=5\/op=10)
def usO(op:Int):Bool:=decide (op=3)
def usV(op:Int):Bool:=decide (op=1\/op=2\/op=5\/op=6)
def usG(op:Int):Bool:=decide (op=11\/op=12\/op=13)
def arN(op:Int):Int:=if op=8\/op=9\/op=17 then 2 else if op<=6 then 0 else 1
def mxV(op:Int):Int:=if op=6 then 6 else 7
def xt(n:Nat)(h:Fh)(k:Nat):Int:=
 if h.op<0\/17<h.op then 1 else if (k:Int)≠arN h.op then 15
 else if (usP h.op=Au/\¬(0<=h.p/\h.p<=(n:Int)-1))\/(usO h.op=Au/\¬(0<=h.o/\h.o<=(n:Int)-1))\/(usV h.op=Au/\¬(0<=h.v/\h.v<=mxV h.op))\/(usG h.op=Au/\¬(0<=h.g/\h.g<=(2:Int)^n-1)) then 2
 else if (usP h.op=Aw/\h.p≠0)\/(usO h.op=Aw/\h.o≠0)\/(usV h.op=Aw/\h.v≠0)\/(usG h.op=Aw/\h.g≠0) then 3 else 0
def Zp:List Int->Int
 | []=>0
 | e::l=>if e≠0 then e else Zp l
def vx(n:Nat)(R:Fm->Int)(f:Fm):Int:=if xt n f.h f.args.length≠0 then xt n f.h f.args.length else Zp (f.args.map R)
def yJ(n:Nat):Nat->Fm->Int
 | 0=>vx n fun _=>0
 | d+1=>vx n (yJ n d)
def zN(R:Fm->Nat×Nat)(l:List Fm):Nat×Nat:=l.foldl (fun a x=>(a.1+(R x).1,max a.2 (R x).2)) (1,0)
def zL:Nat->Fm->Nat×Nat
 | 0=>fun f=>((zN (fun _=>(0,0)) f.args).1,(zN (fun _=>(0,0)) f.args).2+1)
 | d+1=>fun f=>((zN (zL d) f.args).1,(zN (zL d) f.args).2+1)
def uX(x:Nat×Nat):Int:=if 128<x.1 then 5 else if 24<x.2 then 12 else 0
def qw(n:Int)(d:Nat)(f:Fm):Int:=if n<1\/5<n then 2 else if uX (zL d f)≠0 then uX (zL d f) else yJ n.toNat d f
def FsAt(w:Ba)(B:Nat):Nat->Bb->List Fm->Prop
 | 0,_,l=>l=[]
 | d+1,A,l=>0<l.length->∃b o,A=J ⟨b,o,Z⟩/\b<B/\∀i (hi:i<l.length),∃A' c',
   (∀j v,#[O U l[i].h.op,O U l[i].h.p,O U l[i].h.o,O U l[i].h.v,O U l[i].h.g,I A' l[i].args.length c'][j]?=J v->w.cell? ⟨b,o+i*6+j,Z⟩=J v)/\FsAt w B d A' l[i].args
def Fm.vs(f:Fm)(A:Bb)(c:Nat):Array Ar:=#[O U f.h.op,O U f.h.p,O U f.h.o,O U f.h.v,O U f.h.g,I A f.args.length c]
theorem FsAt.keep:∀ {d:Nat} {w w':Ba} {B:Nat} {A:Bb} {l:List Fm},FsAt w B d A l->Am B w w'->FsAt w' B d A l
 | 0,_,_,_,_,_,h,_=>h
 | d+1,w,w',B,A,l,h,hb=>fun h0=>by
  obtain⟨b,o,e,ac,hr⟩:=h h0;refine⟨b,o,e,ac,fun i hi=>?_⟩;obtain⟨A',c',h1,h2⟩:=hr i hi;exact⟨A',c',fun j v hv=>(hb.cell ac).trans (h1 j v hv),FsAt.keep h2 hb⟩
theorem FsAt.more:∀ {d:Nat} {w:Ba} {B B':Nat} {A:Bb} {l:List Fm},FsAt w B d A l->B<=B'->FsAt w B' d A l
 | 0,_,_,_,_,_,h,_=>h
 | d+1,w,B,B',A,l,h,hb=>fun h0=>by
  obtain⟨b,o,e,ac,hr⟩:=h h0;refine⟨b,o,e,by omega,fun i hi=>?_⟩;obtain⟨A',c',h1,h2⟩:=hr i hi;exact⟨A',c',h1,FsAt.more h2 hb⟩
def RecAt(w:Ba)(A:Bb)(l:List Fm)(F:Array Ar->Fm->Ba->Prop):Prop:=∀i (hi:i<l.length),∃b o A' c',A=J ⟨b,o,Z⟩/\b<w.heap.size /\
 (∀W,Am w.heap.size w W->∀j v,(l[i].vs A' c')[j]?=J v->W.cell? ⟨b,o+i*6+j,Z⟩=J v)/\∀X,Am w.heap.size w X->F (l[i].vs A' c') l[i] X
theorem RecAt.of{d:Nat}{w:Ba}{A:Bb}{l:List Fm}{F:Array Ar->Fm->Ba->Prop}(h:FsAt w w.heap.size (d+1) A l)
  (hF:∀(x:Fm) (A':Bb) (c':Nat) (X:Ba),x∈l->FsAt X X.heap.size d A' x.args->F (x.vs A' c') x X):RecAt w A l F:=fun i hi=>by
 obtain⟨b,o,e,ac,hr⟩:=h (by omega);obtain⟨A',c',h1,h2⟩:=hr i hi;exact⟨b,o,A',c',e,ac,fun W hW j v hv=>(hW.cell ac).trans (h1 j v hv),fun X hX=>hF _ A' c' X (Le hi) ((h2.keep hX).more hX.size)⟩
theorem RecAt.none{w:Ba}{A:Bb}{l:List Fm}{F:Array Ar->Fm->Ba->Prop}(h:FsAt w w.heap.size 0 A l):RecAt w A l F:=fun i hi=>by
 rw[show l=[] from h] at hi;cases hi
theorem qV(R:Fm->Nat×Nat)(l:List Fm)(x:Fm):zN R (l++[x])=((zN R l).1+(R x).1,max (zN R l).2 (R x).2):=by unfold zN;rw[Pk];rfl
theorem uA(R:Fm->Nat×Nat):∀(l:List Fm) (a:Nat×Nat),a.1<=(l.foldl (fun a x=>(a.1+(R x).1,max a.2 (R x).2)) a).1/\a.2<=(l.foldl (fun a x=>(a.1+(R x).1,max a.2 (R x).2)) a).2
 | [],a=>⟨Ld _,Ld _⟩
 | x::l,a=>by
  have:=uA R l (a.1+(R x).1,max a.2 (R x).2);rw[Pg];dsimp only at this;omega
theorem qU(R:Fm->Nat×Nat)(l:List Fm)(k:Nat):(zN R (l.take k)).1<=(zN R l).1/\(zN R (l.take k)).2<=(zN R l).2:=by
 have h:=uA R (l.drop k) (zN R (l.take k))
 have e:zN R l=(l.drop k).foldl (fun a x=>(a.1+(R x).1,max a.2 (R x).2)) (zN R (l.take k)):=by
  unfold zN;rw[<-Pk,PE]
 rw[e];exact h
theorem wu(R:Fm->Nat×Nat)(hR:∀x,(R x).2<=(R x).1):∀(l:List Fm) (a:Nat×Nat),a.2+1<=a.1->(l.foldl (fun a x=>(a.1+(R x).1,max a.2 (R x).2)) a).2+1<=(l.foldl (fun a x=>(a.1+(R x).1,max a.2 (R x).2)) a).1
 | [],_,h=>h
 | x::l,a,h=>by
  rw[Pg];refine wu R hR l _ ?_;have:=hR x;dsimp only;omega
theorem kY:∀(d:Nat) (f:Fm),(zL d f).2<=(zL d f).1
 | 0,f=>wu _ (fun _=>Ld _) f.args (1,0) (by decide)
 | d+1,f=>wu _ (kY d) f.args (1,0) (by decide)
theorem uB(R:Fm->Nat×Nat){l:List Fm}{x:Fm}(h:x∈l):(R x).1<=(zN R l).1:=by
 obtain⟨k,hk,rfl⟩:=LP h;have h1:=(qU R l (k+1)).1;rw[Lq hk,qV] at h1;dsimp only at h1;omega
theorem Qt(R:Fm->Nat×Nat)(hR:∀x,1<=(R x).1):∀(l:List Fm) (a:Nat×Nat),a.1+l.length<=(l.foldl (fun a x=>(a.1+(R x).1,max a.2 (R x).2)) a).1
 | [],_=>Ld _
 | x::l,a=>by
  have:=Qt R hR l (a.1+(R x).1,max a.2 (R x).2);have:=hR x;rw[Pg,Lz];dsimp only at *;omega
theorem qW(R:Fm->Nat×Nat)(hR:∀x,1<=(R x).1)(l:List Fm):l.length<=(zN R l).1:=by
 have:1+l.length<=(zN R l).1:=Qt R hR l (1,0);omega
theorem ka:∀(d:Nat) (f:Fm),1<=(zL d f).1
 | 0,f=>(uA _ f.args (1,0)).1
 | _+1,f=>(uA _ f.args (1,0)).1
theorem gc(e:Int)(l:List Int):Zp (e::l)=if e≠0 then e else Zp l:=rfl
theorem ffsE_none{l:List Int}(h:∀e∈l,e=0):Zp l=0:=by
 induction l with
 | nil=>rfl
 | cons e l ih=>
  rw[gc,Lg (by simpa using h e (by simp))];exact ih fun x hx=>h x (by simp[hx])
theorem ffsE_at{l:List Int}{k:Nat}(hk:k<l.length)(h0:∀j (hj:j<l.length),j<k->l[j]=0)(h1:l[k]≠0):Zp l=l[k]:=by
 induction l generalizing k with
 | nil=>simp at hk
 | cons e l ih=>
  cases k with
  | zero=>
   simp only[List.getElem_cons_zero] at h1 ⊢;rw[gc,Lj h1]
  | succ k=>
   have he:e=0:=h0 0 (by simp) (by omega);simp only[List.getElem_cons_succ] at h1 ⊢;rw[gc,Lg (by simpa using he)];refine ih (by simpa using hk) (fun j hj ac=>?_) h1;have:=h0 (j+1) (by simpa using hj) (by omega);simpa using this
end
section
open Go.ChangeShapes Go.WideShapes Go.ChangeAt Go.RowKit Go.Deep
theorem FsAt.deep:∀ {d:Nat} {w:Ba} {B:Nat} {A:Bb} {l:List Fm},FsAt w B d A l->FsAt w B (d+1) A l
 | 0,_,_,_,l,h=>fun h0=>by
  have e:l=[]:=h;rw[e] at h0;cases h0
 | d+1,w,B,A,l,h=>fun h0=>by
  obtain⟨b,o,e,ac,hr⟩:=h h0;refine⟨b,o,e,ac,fun i hi=>?_⟩;obtain⟨A',c',h1,h2⟩:=hr i hi;exact⟨A',c',h1,FsAt.deep h2⟩
theorem FsAt.deeper{d d':Nat}{w:Ba}{B:Nat}{A:Bb}{l:List Fm}(h:FsAt w B d A l)(hd:d<=d'):FsAt w B d' A l:=by
 induction d' with
 | zero=>have:d=0:=(by omega);subst this;exact h
 | succ k ih=>
  by_cases e:d=k+1
  . subst e;exact h
  . exact(ih (by omega)).deep
section
variable {H:Type} {enc:TypeId×Ar->H} {P:Program} {W:Ba} {ab:Nat} {spare:Nat->Bool} {aR:Bool}
theorem open_rowsS{α:Type}[Inhabited α]{t e:TypeId}{fuel:Nat}{cs:List Ar}{x:DataW H×List MemPlace}{s:Nat}(L:List Ar->α->Prop)(ht:P.underlying t=J (.slice e))(hs:P.cellsOf e=s)(h1:0<s)
  (rd:∀(m:Nat) (cs:List Ar) (y:DataW H×List MemPlace),DataW.trod enc P W ab spare aR m e cs=J y->xM P e y.1->SizeOf.sizeOf y.1<SizeOf.sizeOf x.1->∃a,L cs a)
  (h:DataW.trod enc P W ab spare aR fuel t cs=J x) (hw:xM P t x.1) :
  ∃(A:Bb) (iS:List α) (cap:Nat),cs=[I A iS.length cap]/\iS.length*P.bytesOf e<=reachBytes /\
   (0<iS.length->∃b off,A=J ⟨b,off,Z⟩/\b<W.heap.size/\∀(i:Nat) (hi:i<iS.length),∃cs,L cs iS[i]/\∀(k:Nat) (y:Ar),cs[k]?=J y->W.cell? ⟨b,off+i*s+k,Z⟩=J y):=by
 rcases open_slice ht h with ⟨rfl,_⟩ | ⟨a,len,cap,m,n',D,Pl,rfl,_,hlc,oU,hm,sS,hi⟩
 . exact⟨Z,[],0,rfl,by simp,fun h=>absurd h (by simp)⟩
 have Ve:len<=m:=by rw[hm];split<;>omega
 rw[sS] at hw rd;obtain⟨hb,ax⟩:=Yz ht hw
 have oT:∀i,i<len->∃(a':α) (cs:List Ar),cs.length=s/\L cs a'/\∀(k:Nat) (y:Ar),cs[k]?=J y->W.cell? (a.add (i*s+k))=J y:=fun i ac=>by
  obtain⟨rk,hc,UN⟩:=hi i (by omega);rw[hs] at hc;obtain⟨_,bn,bG⟩:=World.cells?_some hc;have dC:D i∈(List.range len).map D:=LZ.2 ⟨i,PX.2 ac,rfl⟩;have bL:=List.sizeOf_lt_of_mem dC;obtain⟨u,hu⟩:=rd _ _ _ UN (ax _ dC) (by simp only[DataW.slice.sizeOf_spec];omega);refine⟨u,rk,bn,hu,fun k y hk=>?_⟩;have fO:k<s:=by rw[<-bn];exact(Lp.1 hk).1
  rw[<-Go.Deep.add_add,bG k fO,hk]
 obtain⟨iS,Gs,has⟩:∃iS:List α,iS.length=len/\∀i (hi:i<iS.length),∃cs:List Ar,cs.length=s/\L cs iS[i]/\∀(k:Nat) (y:Ar),cs[k]?=J y->W.cell? (a.add (i*s+k))=J y:=by
  refine⟨(List.range len).map fun i=>if h:i<len then Classical.choose (oT i h) else default,by simp,fun i hi=>?_⟩;have fX:i<len:=by simpa using hi
  simp only[List.getElem_map,List.getElem_range,fX,dite_true];exact Classical.choose_spec (oT i fX)
 subst Gs;have dZ:iS.length*P.bytesOf e<=reachBytes:=by simpa using hb
 refine⟨J a,iS,cap,rfl,dZ,fun h0=>?_⟩;obtain⟨c0,Cz,_,CD⟩:=has 0 h0;have Em:=CD 0 _ (Lm (by omega));obtain⟨b,off,Fl⟩:=a;have tH:Fl=Z:=by simpa[Addr.add] using World.cell?_spot Em
 subst tH;refine⟨b,off,rfl,?_,fun i hi=>?_⟩
 . have:=LG W _ Em
   simpa[Addr.add] using this
 obtain⟨c1,_,hL,hc1⟩:=has i hi;refine⟨c1,hL,fun k y hk=>?_⟩;have:=hc1 k y hk;rw[add_plain] at this;rw[<-Pp] at this;exact this
end
section
variable {H:Type} {enc:TypeId×Ar->H} {W:Ba} {ab:Nat} {spare:Nat->Bool} {aR:Bool}
theorem ZC:Al.cellsOf 32=6:=by kernel_rfl
theorem ji:Al.cellsOf 30=1:=by kernel_rfl
theorem bytesFm:Al.bytesOf 32=64:=by kernel_rfl
theorem jv:∀(k m:Nat) (cs:List Ar) (y:DataW H×List MemPlace),SizeOf.sizeOf y.1<k->DataW.trod enc Al W ab spare aR m 32 cs=J y->xM Al 32 y.1 ->
  ∃(f:Fm) (d:Nat) (A:Bb) (c:Nat),cs=(f.vs A c).toList/\f.args.length<=17592186044416/\FsAt W W.heap.size d A f.args
 | 0,_,_,_,hk,_,_=>absurd hk (by omega)
 | k+1,m,cs,y,hk,h,hw=>by
  obtain⟨xs,n,rfl,hx,hl,nC,Iu⟩:=NU LW h;have hd:y.1=.agg (xs.map (·.1)):=congrArg Prod.fst hx;rw[hd] at hw hk;rw[ZC] at hl;have UB:xs.length=6:=nC
  match cs,hl with
  | [c0,c1,c2,c3,c4,c5],_=>
   have f0:=Iu 0 _ rfl;have f1:=Iu 1 _ rfl;have f2:=Iu 2 _ rfl;have f3:=Iu 3 _ rfl;have f4:=Iu 4 _ rfl;have f5:=Iu 5 _ rfl
   obtain⟨x0,x1,x2,x3,x4,x5,rfl⟩:∃x0 x1 x2 x3 x4 x5,xs=[x0,x1,x2,x3,x4,x5]:=by
    match xs,UB with
    | [x0,x1,x2,x3,x4,x5],_=>exact⟨x0,x1,x2,x3,x4,x5,rfl⟩
   have g0:DataW.trod enc Al W ab spare aR n 3 [c0]=J x0:=by simpa[xf,ji] using f0
   have g1:DataW.trod enc Al W ab spare aR n 3 [c1]=J x1:=by simpa[xf,ji] using f1
   have g2:DataW.trod enc Al W ab spare aR n 3 [c2]=J x2:=by simpa[xf,ji] using f2
   have g3:DataW.trod enc Al W ab spare aR n 3 [c3]=J x3:=by simpa[xf,ji] using f3
   have g4:DataW.trod enc Al W ab spare aR n 3 [c4]=J x4:=by simpa[xf,ji] using f4
   have g5:DataW.trod enc Al W ab spare aR n 30 [c5]=J x5:=by simpa[xf,ji] using f5
   have w5:xM Al 30 x5.1:=xY LW hw (j:=5) rfl rfl;obtain⟨i0,e0,_⟩:=L6 LF g0;obtain⟨i1,e1,_⟩:=L6 LF g1;obtain⟨i2,e2,_⟩:=L6 LF g2;obtain⟨i3,e3,_⟩:=L6 LF g3;obtain⟨i4,e4,_⟩:=L6 LF g4
   have cZ:SizeOf.sizeOf x5.1<k:=by
    have pu:x5.1∈List.map (fun z:DataW H×List MemPlace=>z.1) [x0,x1,x2,x3,x4,x5]:=by simp
    have:=List.sizeOf_lt_of_mem pu;simp only[DataW.agg.sizeOf_spec] at hk;omega
   obtain⟨A,l,c,e5,hby,hA⟩:=open_rowsS (α:=Fm) (fun cs f=>∃(d:Nat) (A:Bb) (c:Nat),cs=(f.vs A c).toList/\FsAt W W.heap.size d A f.args) underlying30 ZC (by decide)
    (fun m cs y h hw bL=>by obtain⟨f,d,A,c,e,_,h2⟩:=jv k m cs y (by omega) h hw;exact⟨f,d,A,c,e,h2⟩) g5 w5
   cases e0;cases e1;cases e2;cases e3;cases e4;cases e5
   have aL:l.length<=17592186044416:=by rw[bytesFm] at hby;unfold reachBytes at hby;omega
   by_cases h0:0<l.length
   case neg=>
    have sm:l=[]:=LR (by omega);refine⟨.mk ⟨i0,i1,i2,i3,i4⟩ l,0,A,c,rfl,aL,?_⟩;show l=[];exact sm
   obtain⟨b,off,eA,hb,hc⟩:=hA h0
   have key:∀q,q<=l.length->∃D,∀i (hi:i<l.length),i<q->∃A' c',(∀j v,(l[i].vs A' c')[j]?=J v->W.cell? ⟨b,off+i*6+j,Z⟩=J v)/\FsAt W W.heap.size D A' l[i].args:=by
    intro q
    induction q with
    | zero=>exact fun _=>⟨0,fun i _ h=>absurd h (by omega)⟩
    | succ q ih=>
     intro hq;obtain⟨D,hD⟩:=ih (by omega);obtain⟨cs1,⟨d1,A1,k1,rfl,h1⟩,h2⟩:=hc q (by omega);refine⟨max D d1,fun i hi hiq=>?_⟩
     by_cases e:i=q
     . subst e
       exact⟨A1,k1,fun j v hv=>h2 j v (by rw[Array.getElem?_toList];exact hv),h1.deeper (NF _ _)⟩
     . obtain⟨A',c',a1,a2⟩:=hD i hi (by omega)
       exact⟨A',c',a1,a2.deeper (NV _ _)⟩
   obtain⟨D,hD⟩:=key l.length (Ld _);refine⟨.mk ⟨i0,i1,i2,i3,i4⟩ l,D+1,A,c,rfl,aL,fun _=>⟨b,off,eA,hb,fun i hi=>?_⟩⟩;obtain⟨A',c',a1,a2⟩:=hD i hi hi;exact⟨A',c',a1,a2⟩
theorem qL{b0:Nat}{v:Ar}{d:DataW H}{ps:List MemPlace}(hv:Value.okWide Al W .any b0 32 v)(h:DataW.Trod enc Al W ab spare aR 32 v d ps)(hw:xM Al 32 d) :
  ∃(f:Fm) (dd:Nat) (A:Bb) (c:Nat),v=.agg (f.vs A c)/\f.args.length<=17592186044416/\FsAt W W.heap.size dd A f.args:=by
 obtain⟨cs,rfl,_⟩:=okWide_struct LW hv;obtain⟨fuel,hf⟩:=h;obtain⟨f,dd,A,c,e,hl,hA⟩:=jv _ _ _ _ (R9 _) hf hw;refine⟨f,dd,A,c,?_,hl,hA⟩;have e2:cs.toList=(f.vs A c).toList:=e;rw[Array.toList_inj.1 e2]
end
end
section
open Go.RowKit
def FsS(w:Ba)(S:Nat->Prop):Nat->Bb->List Fm->Prop
 | 0,_,l=>l=[]
 | d+1,A,l=>0<l.length->∃b o,A=J ⟨b,o,Z⟩/\S b/\b<w.heap.size/\∀i (hi:i<l.length),∃A' c',(∀j v,(l[i].vs A' c')[j]?=J v->w.cell? ⟨b,o+i*6+j,Z⟩=J v)/\FsS w S d A' l[i].args
theorem FsS.of:∀ {d:Nat} {w:Ba} {B:Nat} {A:Bb} {l:List Fm},FsAt w B d A l->B<=w.heap.size->FsS w (fun k=>k<B) d A l
 | 0,_,_,_,_,h,_=>h
 | d+1,w,B,A,l,h,hB=>fun h0=>by
  obtain⟨b,o,e,ac,hr⟩:=h h0;refine⟨b,o,e,ac,by omega,fun i hi=>?_⟩;obtain⟨A',c',h1,h2⟩:=hr i hi;exact⟨A',c',h1,FsS.of h2 hB⟩
theorem FsS.at_:∀ {d:Nat} {w:Ba} {S:Nat->Prop} {A:Bb} {l:List Fm},FsS w S d A l->FsAt w w.heap.size d A l
 | 0,_,_,_,_,h=>h
 | d+1,w,S,A,l,h=>fun h0=>by
  obtain⟨b,o,e,_,ac,hr⟩:=h h0;refine⟨b,o,e,ac,fun i hi=>?_⟩;obtain⟨A',c',h1,h2⟩:=hr i hi;exact⟨A',c',h1,FsS.at_ h2⟩
theorem FsS.keep:∀ {d:Nat} {w w':Ba} {S S':Nat->Prop} {A:Bb} {l:List Fm},FsS w S d A l->w.heap.size<=w'.heap.size->(∀k,k<w.heap.size->S k->S' k/\w'.heap[k]?=w.heap[k]?)->FsS w' S' d A l
 | 0,_,_,_,_,_,_,h,_,_=>h
 | d+1,w,w',S,S',A,l,h,hs,hk=>fun h0=>by
  obtain⟨b,o,e,hS,ac,hr⟩:=h h0;refine⟨b,o,e,(hk b ac hS).1,by omega,fun i hi=>?_⟩;obtain⟨A',c',h1,h2⟩:=hr i hi;exact⟨A',c',fun j v hv=>(LN (a:=⟨b,o+i*6+j,Z⟩) (hk b ac hS).2).trans (h1 j v hv),FsS.keep h2 hs hk⟩
theorem FsS.deep:∀ {d:Nat} {w:Ba} {S:Nat->Prop} {A:Bb} {l:List Fm},FsS w S d A l->FsS w S (d+1) A l
 | 0,_,_,_,l,h=>fun h0=>by
  have e:l=[]:=h;rw[e] at h0;cases h0
 | d+1,w,S,A,l,h=>fun h0=>by
  obtain⟨b,o,e,hS,ac,hr⟩:=h h0;refine⟨b,o,e,hS,ac,fun i hi=>?_⟩;obtain⟨A',c',h1,h2⟩:=hr i hi;exact⟨A',c',h1,FsS.deep h2⟩
theorem FsS.deeper{d d':Nat}{w:Ba}{S:Nat->Prop}{A:Bb}{l:List Fm}(h:FsS w S d A l)(hd:d<=d'):FsS w S d' A l:=by
 induction hd with
 | refl=>exact h
 | step _ ih=>exact ih.deep
def FmX(w:Ba)(S:Nat->Prop)(F:Fm)(v:Ar):Prop:=∃d A c,v=.agg (F.vs A c)/\FsS w S d A F.args
theorem FmX.keep{w w':Ba}{S S':Nat->Prop}{F:Fm}{v:Ar}(h:FmX w S F v)(hs:w.heap.size<=w'.heap.size)(hk:∀k,k<w.heap.size->S k->S' k/\w'.heap[k]?=w.heap[k]?):FmX w' S' F v:=by
 obtain⟨d,A,c,e,h⟩:=h;exact⟨d,A,c,e,h.keep hs hk⟩
def FmA(w:Ba)(F:Fm)(v:Ar):Prop:=FmX w (fun _=>True) F v
theorem FmA.keep{w w':Ba}{F:Fm}{v:Ar}(h:FmA w F v)(hb:Am w.heap.size w w'):FmA w' F v:=FmX.keep h hb.size fun k hk _=>⟨trivial,hb.block k hk⟩
theorem FmX.all{w:Ba}{S:Nat->Prop}{F:Fm}{v:Ar}(h:FmX w S F v):FmA w F v:=h.keep (Ld _) fun _ _ _=>⟨trivial,rfl⟩
theorem FmA.of{w:Ba}{d c:Nat}{A:Bb}{F:Fm}(h:FsAt w w.heap.size d A F.args):FmA w F (.agg (F.vs A c)):=FmX.all ⟨d,A,c,rfl,FsS.of h (Ld _)⟩
def RetFm(S:Nat->Prop)(F:Fm)(w:Ba)(e:Ending)(w':Ba):Prop:=∃v,e=Ak v/\FmX w' (fun k=>S k\/w.heap.size<=k) F v/\Am w.heap.size w w'
def kG(F:Fm)(w:Ba)(e:Ending)(w':Ba):Prop:=∃v,e=Ak v/\FmA w' F v/\Am w.heap.size w w'
theorem RetFm.all{S:Nat->Prop}{F:Fm}{w w':Ba}{e:Ending}(h:RetFm S F w e w'):kG F w e w':=by
 obtain⟨v,h1,h2,h3⟩:=h;exact⟨v,h1,h2.all,h3⟩
theorem fs_row{w:Ba}{S:Nat->Prop}{g:Nat}{cs:Array Ar}{t:TypeId}{l:List Fm}(hg:w.heap[g]?=J (Ag cs t (0,0)))(hS:S g)
  (h:∀i (hi:i<l.length),∃d A' c',(∀j v,(l[i].vs A' c')[j]?=J v->cs[i*6+j]?=J v)/\FsS w S d A' l[i].args):∃D,FsS w S D (J ⟨g,0,Z⟩) l:=by
 have key:∀q,q<=l.length->∃D,∀i (hi:i<l.length),i<q->∃A' c',(∀j v,(l[i].vs A' c')[j]?=J v->w.cell? ⟨g,0+i*6+j,Z⟩=J v)/\FsS w S D A' l[i].args:=by
  intro q
  induction q with
  | zero=>exact fun _=>⟨0,fun i _ h=>absurd h (by omega)⟩
  | succ q ih=>
   intro hq;obtain⟨D,hD⟩:=ih (by omega);obtain⟨d1,A1,k1,h1,h2⟩:=h q (by omega);refine⟨max D d1,fun i hi hiq=>?_⟩
   by_cases e:i=q
   . subst e
     exact⟨A1,k1,fun j v hv=>zh hg _ (by rw[LQ];exact h1 j v hv),h2.deeper (NF _ _)⟩
   . obtain⟨A',c',a1,a2⟩:=hD i hi (by omega)
     exact⟨A',c',a1,a2.deeper (NV _ _)⟩
 obtain⟨D,hD⟩:=key l.length (Ld _);exact⟨D+1,fun _=>⟨g,0,rfl,hS,(Ln.1 hg).1,fun i hi=>hD i hi hi⟩⟩
theorem xR{F:Fm}{A:Bb}{c j:Nat}{v:Ar}(h:(F.vs A c)[j]?=J v):j<6:=(Ln.1 h).1
theorem six{j:Nat}(h:j<6):j=0\/j=1\/j=2\/j=3\/j=4\/j=5:=by omega
theorem Yx{w:Ba}{S:Nat->Prop}{g:Nat}{t:TypeId}{F:Fm}{A:Bb}{c d:Nat}(hg:w.heap[g]?=J (Ag (F.vs A c) t (0,0)))(hS:S g)(h:FsS w S d A F.args):∃D,FsS w S D (J ⟨g,0,Z⟩) [F]:=
 fs_row hg hS fun i hi=>by
  obtain rfl:i=0:=by have:i<1:=hi;omega
  exact⟨d,A,c,fun j v hv=>by rw[PP,LQ];exact hv,h⟩
theorem Yw{w:Ba}{S:Nat->Prop}{g:Nat}{t:TypeId}{F G:Fm}{A B:Bb}{c k d d':Nat}(hg:w.heap[g]?=J (Ag #[O U F.h.op,O U F.h.p,O U F.h.o,O U F.h.v,O U F.h.g,I A F.args.length c,O U G.h.op,O U G.h.p,O U G.h.o,O U G.h.v,O U G.h.g,I B G.args.length k] t (0,0)))(hS:S g)(hF:FsS w S d A F.args)(hG:FsS w S d' B G.args):∃D,FsS w S D (J ⟨g,0,Z⟩) [F,G]:=
 fs_row hg hS fun i hi=>by
  have h2:i=0\/i=1:=by have:i<2:=hi;omega
  rcases h2 with rfl | rfl
  . exact⟨d,A,c,fun j v hv=>by rcases six (xR hv) with rfl | rfl | rfl | rfl | rfl | rfl<;>exact hv,hF⟩
  . exact⟨d',B,k,fun j v hv=>by rcases six (xR hv) with rfl | rfl | rfl | rfl | rfl | rfl<;>exact hv,hG⟩
end
section
section
variable {α:Type} [DecidableEq α]
def kV(rl:List α)(k:α):List α:=if k∈rl then rl else rl++[k]
def xT(l:List α):List α:=l.foldl kV []
theorem vT(l:List α)(k:α):xT (l++[k])=kV (xT l) k:=by simp[xT,List.foldl_append]
theorem mem_uniqF{rl:List α}{k x:α}:x∈kV rl k↔x∈rl\/x=k:=by
 unfold kV
 split
 . rename_i h
   exact⟨.inl,fun h'=>h'.elim id (fun e=>e▸h)⟩
 simp
theorem Xj{x:α}:∀ {l rl:List α},x∈l.foldl kV rl↔x∈rl\/x∈l
 | [],rl=>by simp
 | k::l,rl=>by rw[Pg,Xj,mem_uniqF,LL,or_assoc]
theorem xr{l:List α}{x:α}:x∈xT l↔x∈l:=by unfold xT;rw[Xj];simp
def qg(l:List α):List Int:=l.map fun k=>((xT l).idxOf k:Int)
theorem qF(l:List α):(qg l).length=l.length:=by simp[qg]
theorem labE_at(l:List α)(i:Nat)(h:i<l.length):(qg l)[i]'(by rw[qF];exact h)=((xT l).idxOf l[i]:Int):=by simp[qg]
theorem Xk(l:List α)(k:α):qg (l++[k])=qg l++[if k∈l then ((xT l).idxOf k:Int) else ((xT l).length:Int)]:=by
 unfold qg;rw[LK,vT]
 congr 1
 . refine NW fun x hx=>?_
   unfold kV
   split
   . rfl
   rw[NA,Lj (xr.2 hx)]
 simp only[List.map_cons,List.map_nil,List.cons.injEq,and_true];unfold kV
 by_cases h:k∈l
 . rw[Lj (xr.2 h),Lj h]
 rw[Lg (fun e=>h (xr.1 e)),Lg h,NA,Lg (fun e=>h (xr.1 e))];simp
theorem idxOf_inj{l:List α}{a b:α}(ha:a∈l)(hb:b∈l)(h:l.idxOf a=l.idxOf b):a=b:=by
 have h1:=RU (PS ha);have h2:=RU (PS hb);rw[<-h1,<-h2]
 congr 1
theorem wW(l:List α){i j:Nat}(hi:i<l.length)(hj:j<l.length):(qg l)[i]'(by rw[qF];exact hi)=(qg l)[j]'(by rw[qF];exact hj)↔l[i]=l[j]:=by
 rw[labE_at l i hi,labE_at l j hj];constructor
 . intro h
   exact idxOf_inj (xr.2 (Le hi)) (xr.2 (Le hj)) (by omega)
 intro h;rw[h]
end
theorem least_of{p:Nat->Prop}:∀n,p n->∃m,m<=n/\p m/\∀k,k<m->¬p k:=by
 intro n
 induction n using Nat.strongRecOn with
 | _ n ih=>
  intro hn
  by_cases h:∃k,k<n/\p k
  . obtain⟨k,hk,hp⟩:=h
    obtain⟨m,h1,h2,h3⟩:=ih k hk hp;exact⟨m,by omega,h2,h3⟩
  . exact⟨n,Ld _,hn,fun k hk hp=>h ⟨k,hk,hp⟩⟩
end
section
theorem X8{l:List Int}{i:Nat}(h:i<l.length)(d:Int):l.getD i d=l[i]:=by rw[Lh,Lm h];rfl
theorem snocI{α:Type}{P:List α->Prop}(h0:P [])(hs:∀l x,P l->P (l++[x]))(l:List α):P l:=by
 rw[<-List.reverse_reverse l]
 induction l.reverse with
 | nil=>exact h0
 | cons x t ih=>rw[List.reverse_cons];exact hs _ _ ih
def xG(bs:List Bool)(k:Nat):List Bool:=bs.take k++List.replicate (bs.length-k) Aw
theorem vp(bs:List Bool):xG bs 0=List.replicate bs.length Aw:=by simp[xG]
theorem uT(bs:List Bool):xG bs bs.length=bs:=by simp[xG]
theorem uS(bs:List Bool){k:Nat}(hk:k<=bs.length):(xG bs k).length=bs.length:=by simp[xG];omega
theorem uR(bs:List Bool){k:Nat}(hk:k<bs.length):(xG bs k).set k bs[k]=xG bs (k+1):=by
 unfold xG;rw[Lq hk,List.set_append_right _ _ (by simp;omega)];rw[show bs.length-k=(bs.length-(k+1))+1 by omega,List.replicate_succ];rw[show k-(bs.take k).length=0 by simp;omega,List.set_cons_zero,Nh]
 rfl
end
section
open Go.RowKit Go.Shelf
attribute [local go_sem] Oper.semAt_some
theorem XP(n:Nat)(hn:0<n):∀m i,zu n i m=(List.range (m*n)).map fun t=>(i+t / n,t % n)
 | 0,i=>by simp[zu]
 | m+1,i=>by
  rw[zu,XP n hn m (i+1),Nat.succ_mul,Nat.add_comm (m*n) n,List.range_add,LK,PR]
  congr 1
  . refine NW fun t ht=>?_
    have:=PX.1 ht;rw[Nat.div_eq_of_lt this,Rn this,Pe]
  . refine NW fun t _=>?_
    simp only[Function.comp];rw[Nat.add_div_left _ hn,Nat.add_mod_left]
    congr 1
    omega
theorem kE(n m:Nat)(hn:0<n):(zu n 0 m).length=m*n:=by rw[XP n hn];simp
theorem prs_at(n m:Nat)(hn:0<n)(i:Nat)(h:i<(zu n 0 m).length):(zu n 0 m)[i]=(i / n,i % n):=by
 have:=XP n hn m 0;simp only[this,List.getElem_map,List.getElem_range];simp
theorem Qd(s:Sy)(A SV AV AX:Bb)(kc ks kv kx:Nat)(w:Ba):An Al 119 #[.agg (s.vs_ A kc SV ks AV kv AX kx)] w fun e w'=>
  e=Ak (.func (.func 144) #[] #[Aj (J ⟨w.heap.size,0,Z⟩)])/\w.alloc (Ag (s.vs_ A kc SV ks AV kv AX kx) 39)=w':=by
 unfold Sy.vs_;go_enter func119,ntmps119;go_wp2;go_ret;exact⟨rfl,rfl⟩
structure PtC(C:Array Ar)(K M:Nat)(AX:Bb)(kx:Nat):Prop where
 c6:C[6]?=J (O U (K:Int))
 c9:C[9]?=J (I AX M kx)
theorem gq(C:Array Ar)(K M:Nat)(hK:K<=100)(hM:M<=100)(AX:Bb)(kx:Nat)(hC:PtC C K M AX kx)(bs:Nat)(w:Ba)(hb:w.heap[bs]?=J (Ag C 39 (0,0))) :
  Qe Al 144 #[Aj (J ⟨bs,0,Z⟩)] (fun x:Nat×Nat=>#[Ai #[O U x.1,O U x.2]]) (fun k=>k=bs) (zu (K+1) 0 M) w:=fun n hn l Af Jx W hW hJ Ww hY h0=>by
 have oV:bs<w.heap.size:=(Ln.1 hb).1;have mB:=(hW.block bs oV).trans hb;have HY:=zH hY;have c9:=zh mB 9 hC.c9;have HC6:=zH hC.c6;have H0:=zH h0;have C7:=zH mB;have hpW:bs<W.heap.size:=LE oV hW.size;refine RM RZ rfl trivial ?_ rfl;simp only[ntmps144,List.size_toArray,List.length_cons,List.length_nil,Nat.reduceAdd,Nat.reduceSub,Array.replicate_succ,Array.replicate_zero,List.push_toArray,List.append_toArray,List.nil_append,List.cons_append];gi_wp2
 gi_loopw [8] (fun q wr=>∃s:Nat,s<=M/\q=O U (s:Int)/\∃pre:List { x:Nat×Nat // x∈zu (K+1) 0 M },Aq (pre.map (·.1)++zu (K+1) s (M-s)=zu (K+1) 0 M)/\Aq (Af pre wr)/\Aq (wr.heap[bs]?=J (Ag C 39 (0,0)))/\W.heap.size<=wr.heap.size) (fun q _=>M-(Ap q).toNat)
 case atStart=>exact⟨0,by omega,rfl,[],by simp[Aq],H0,C7,Ld _⟩
 case round=>
  obtain⟨s,hs,rfl,pre,mA,la,ti,bL⟩:=hrel
  by_cases ac:s<M
  · have Iw : zu (K + 1) s (M - s) = yV (K + 1) s 0 ++ zu (K + 1) (s + 1) (M - (s + 1)) := by
     rw[show M-s=(M-(s+1))+1 by omega,zu];unfold yV;rw[Ni]
    have HP:Aq (pre.map (·.1)++(yV (K+1) s 0++zu (K+1) (s+1) (M-(s+1)))=zu (K+1) 0 M):=by rw[<-Iw];exact mA.out
    have q6:=zh ti.out 6 HC6.out;have ae:IntKind.i64.wrap ((K:Int)+1)=(K:Int)+1:=by rw[Ll];omega
    gi_wp2_with fail
    gi_loopw [15] (fun q wr=>∃j:Nat,j<=K+1/\q=O U (j:Int)/\∃pre:List { x:Nat×Nat // x∈zu (K+1) 0 M },Aq (pre.map (·.1)++(yV (K+1) s j++zu (K+1) (s+1) (M-(s+1)))=zu (K+1) 0 M)/\Aq (Af pre wr)/\Aq (wr.heap[bs]?=J (Ag C 39 (0,0)))/\W.heap.size<=wr.heap.size) (fun q _=>K+1-(Ap q).toNat)
    case atStart=>exact⟨0,by omega,rfl,pre,HP,la,ti,bL⟩
    case round=>
     obtain⟨j,hj,rfl,pre,mA,la,ti,bL⟩:=hrel
     by_cases cU:j<K+1
     · have pO : pre.map (·.1) ++ ((s, j) :: (yV (K + 1) s (j + 1) ++ zu (K + 1) (s + 1) (M - (s + 1)))) = zu (K + 1) 0 M := by
        have:=mA.out;rw[uE cU,Nb] at this;exact this
       have dC:(s,j)∈zu (K+1) 0 M:=by rw[<-pO];simp
       have aL:pre.length<(zu (K+1) 0 M).length:=by
        have:=congrArg List.length pO;simp only[List.length_append,List.length_map,List.length_cons] at this;omega
       obtain⟨fn,tmps,assign,body,hy,hR⟩:=HY.out pre ⟨(s,j),dC⟩ _ la.out aL;dsimp only at hy
       have AP:Aq ((pre++[(⟨(s,j),dC⟩:{ x:Nat×Nat // x∈zu (K+1) 0 M })]).map (·.1)++(yV (K+1) s (j+1)++zu (K+1) (s+1) (M-(s+1)))=zu (K+1) 0 M):=by
        rw[LK,Nh];exact pO
       have HR:=zH hR;gi_wp2_with fail;refine HR.out.mono ?_;rintro e W3 (⟨rfl,GE,rL⟩ | ⟨rfl,rg⟩)
       . have aw:wr.heap.size<=W3.heap.size:=rL.size
         have P3:=zH ((rL.same bs rfl (by omega)).trans ti.out);have J3:=zH GE;have nD:W.heap.size<=W3.heap.size:=by omega
         gi_wp2_with fail
         go_roundw
         case rel=>exact⟨j+1,by omega,by go_num,_,AP,J3,P3,nD⟩
         case measure=>simp[Ap];omega
       . gi_wp2_with fail
         refine LI (Rr rfl _ _ _) rfl ?_;refine⟨⟨_,rfl⟩,.inr ⟨_,?_,rg⟩⟩;exact⟨_,AP.out⟩
     . obtain rfl:j=K+1:=by omega
       have HP:Aq (pre.map (·.1)++zu (K+1) (s+1) (M-(s+1))=zu (K+1) 0 M):=by have:=mA.out;rwa[gO,Nc] at this
       gi_wp2_with fail
       go_roundw
       case rel=>exact⟨s+1,by omega,by go_num,pre,HP,la,ti,bL⟩
       case measure=>simp[Ap];omega
  . obtain rfl:M=s:=by omega
    have HP:Aq (pre.map (·.1)=zu (K+1) 0 M):=by have:=mA.out;rwa[Nq,zu,Nj] at this
    gi_wp2_with fail
    go_end0
    exact⟨⟨_,rfl⟩,.inl ⟨pre,HP.out,la.out⟩⟩
end
section
open Go.RowKit Go.Shelf
theorem uI{w:Ba}{ab:Nat}{v:Ar}{xs:List Int}(h:Own w ab v xs){k:Nat}{cs:Array Ar}{t:TypeId}(hk:w.heap[k]?=J (Ag cs t (0,0)))(ht:t≠3):v.ownBlock≠J k:=by
 intro e;rcases h.2 with ⟨rfl,_⟩ | ⟨g,cap,cur,rfl,_,hg,_⟩
 . cases e
 simp only[Value.ownBlock,Option.some.injEq] at e;subst e;rw[hk] at hg
 cases hg
 exact ht rfl
theorem vj{w:Ba}{ab:Nat}{v:Ar}{xs:List Int}(h:Own w ab v xs):∀r,v.ownBlock=J r->ab<=r/\∀o,w.heap[r]?=J o->o.isCells=Au:=by
 intro r hr;refine⟨(h.lt r hr).1,fun o ho=>?_⟩;rcases h.2 with ⟨rfl,_⟩ | ⟨g,cap,cur,rfl,_,hg,_⟩
 . cases hr
 simp only[Value.ownBlock,Option.some.injEq] at hr;subst hr;rw[hg] at ho
 cases ho
 rfl
end
section
open Go.RowKit Go.Shelf
attribute [local go_sem] Oper.semAt_some
theorem XN{α:Type}:∀ {l m:List α},l.Nodup->(∀x∈l,x∈m)->l.length<=m.length
 | [],_,_,_=>by simp
 | a::l,m,hn,h=>by
  classical
  obtain⟨h1,h2⟩:=Pr.1 hn;have ha:a∈m:=h a (by simp)
  have:=XN (l:=l) (m:=m.erase a) h2 (fun x hx=>by
   have bC:x≠a:=by rintro rfl;exact h1 hx
   exact(List.mem_erase_of_ne bC).2 (h x (by simp[hx])))
  rw[List.length_erase_of_mem ha] at this;have lY:0<m.length:=List.length_pos_of_mem ha;simp only[List.length_cons];omega
theorem MapOf.count{κ:Type}{enc:κ->Ar}(inj:∀a b,enc a=enc b->a=b){w:Ba}{b n:Nat}{f:κ->Option Ar}{l:List κ}(h:MapOf enc w b n f)(hn:l.Nodup)(hf:∀k,(∃v,f k=J v)↔k∈l) :
  ∃es cm,w.heap[b]?=J (.map es cm)/\es.size=l.length:=by
 obtain⟨es,cm,hb,_,hp,h1,h2⟩:=h;refine⟨es,cm,hb,?_⟩;have e1:(es.toList.map (·.key)).Nodup:=List.pairwise_map.2 hp;have e2:(l.map enc).Nodup:=List.pairwise_map.2 (hn.imp fun hab e=>hab (inj _ _ e))
 have g1:=XN e1 (m:=l.map enc) (fun x hx=>by
  obtain⟨e,he,rfl⟩:=LZ.1 hx;obtain⟨k,hk,hv⟩:=h1 e he
  exact LZ.2 ⟨k,(hf k).1 ⟨_,hv⟩,hk.symm⟩)
 have g2:=XN e2 (m:=es.toList.map (·.key)) (fun x hx=>by
  obtain⟨k,hk,rfl⟩:=LZ.1 hx;obtain⟨v,hv⟩:=(hf k).2 hk;obtain⟨e,he,pV,_⟩:=h2 k v hv
  exact LZ.2 ⟨e,he,pV⟩)
 simp at g1 g2;omega
def wO(l:List Int):Int->Option Ar:=fun k=>if k∈l then J (O U (l.idxOf k:Int)) else Z
theorem numG_nil:wO []=fun _=>Z:=by funext k;simp[wO]
theorem numG_put{l:List Int}{k:Int}(h:k∉l):ql (wO l) k (O U (l.length:Int))=wO (l++[k]):=by
 funext x
 unfold ql wO
 by_cases e:x=k
 . subst e
   rw[Lj rfl,Lj (by simp),NA,Lg h];simp
 rw[Lg e]
 by_cases hx:x∈l
 . rw[Lj hx,Lj (by simp[hx]),NA,Lj hx]
 rw[Lg hx,Lg (by simp[hx,e])]
theorem gW{α:Type}[DecidableEq α]:∀(l rl:List α),rl.Nodup->(l.foldl kV rl).Nodup
 | [],_,h=>h
 | k::l,rl,h=>by
  rw[Pg];refine gW l _ ?_;unfold kV
  split
  . exact h
  . rename_i hk
    exact List.nodup_append.2 ⟨h,by simp,fun a ha b hb=>by rw[LY] at hb;subst hb;rintro rfl;exact hk ha⟩
theorem gV{α:Type}[DecidableEq α](l:List α):(xT l).Nodup:=gW l [] List.nodup_nil
theorem numG_count{w:Ba}{b n:Nat}{us:List Int}(h:MapOf (O U) w b n (wO us))(hu:us.Nodup):∃es cm,w.heap[b]?=J (.map es cm)/\es.size=us.length:=
 h.count (fun a b e=>by injection e) hu (fun k=>by
  unfold wO
  by_cases hk:k∈us
  . simp[hk]
  . simp[hk])
theorem Own.same{w w':Ba}{ab:Nat}{v:Ar}{xs:List Int}(h:Own w ab v xs)(hs:∀k,ab<=k->k<w.heap.size->w'.heap[k]?=w.heap[k]?):Own w' ab v xs:=by
 refine⟨h.1,?_⟩;rcases h.2 with hn | ⟨g,cap,cur,hv,hb,hg,rest⟩
 . exact .inl hn
 exact .inr ⟨g,cap,cur,hv,hb,(hs g hb (zk hg)).trans hg,rest⟩
structure NbIn(B:Nat)(S:Array Ar)(F:Ar)(R:Nat->Prop)(us ls:List Int)(w W:Ba):Prop where
 wrote:Wrote R w W
 b0:W.heap[B]?=J (Ag S 39 (0,0))
 b1:W.heap[B+1]?=J (Ag #[F] 179 (0,0))
 b3:W.heap[B+1+1+1]?=J (Ag #[.map (J (B+1+1))] 240 (0,0))
 b5:W.heap[B+1+1+1+1+1]?=J (Ag S 39 (0,0))
 hm:∃m,MapOf (O U) W (B+1+1) m (wO us)
 box:∃P c,W.heap[B+1+1+1+1]?=J (Ag #[I P ls.length c] 50 (0,0))/\Own W (B+6) (I P ls.length c) ls
 sz:B+6<=W.heap.size
section
variable {B:Nat} {S:Array Ar} {F:Ar} {R:Nat->Prop} {us ls:List Int} {w W W':Ba}
theorem NbIn.turn{row:Option Nat}(h:NbIn B S F R us ls w W)(hw:w.heap.size<=B)(hg:W.grownBy W' row)(hr:∀r,row=J r->B+6<=r/\∃o:Obj,W.heap[r]?=J o/\o.isCells=Aw):NbIn B S F R us ls w W':=by
 obtain⟨P,c,hb,ho⟩:=h.box;obtain⟨m,hm⟩:=h.hm;have bL:=h.sz;have old:∀k,k<B+6->W'.heap[k]?=W.heap[k]?:=fun k hk=>hg.block k (by omega) (fun e=>by have:=(hr k e.symm).1;omega)
 refine⟨h.wrote.trans (Wrote.of_grown (R:=fun k=>w.heap.size<=k) hg (fun k e hk=>by have:=(hr k e).1;omega)) (fun k h1 h2=>by omega),(old B (by omega)).trans h.b0,(old _ (by omega)).trans h.b1,(old _ (by omega)).trans h.b3,(old _ (by omega)).trans h.b5,⟨m,hm.same (old _ (by omega))⟩,⟨P,c,(old _ (by omega)).trans hb,ho.kept hg ?_⟩,Lr bL hg.size⟩;rcases e:(I P ls.length c).ownBlock with _ | g
 . exact .inl rfl
 refine .inr fun e2=>?_
 obtain⟨o,h1,h2⟩:=(hr g e2.symm).2;have:=(vj ho g e).2 o h1;rw[this] at h2;cases h2
theorem NbIn.call(h:NbIn B S F R us ls w W)(hw:Wrote R W W')(hR:∀k,R k->k<B):NbIn B S F R us ls w W':=by
 obtain⟨P,c,hb,ho⟩:=h.box;obtain⟨m,hm⟩:=h.hm;have bL:=h.sz;have old:∀k,B<=k->k<W.heap.size->W'.heap[k]?=W.heap[k]?:=fun k hk hl=>hw.block k hl (fun e=>by have:=hR k e;omega)
 exact⟨h.wrote.trans hw (fun _ _ h=>h),(old B (by omega) (by omega)).trans h.b0,(old _ (by omega) (by omega)).trans h.b1,(old _ (by omega) (by omega)).trans h.b3,(old _ (by omega) (by omega)).trans h.b5,⟨m,hm.same (old _ (by omega) (by omega))⟩,⟨P,c,(old _ (by omega) (by omega)).trans hb,ho.same fun k hk hl=>old k (by omega) hl⟩,Lr bL hw.size⟩
theorem NbIn.put{I':List Int}{m:Nat}(h:NbIn B S F R us ls w W)(hw:w.heap.size<=B)(hg:W.grownBy W' (J (B+1+1)))(hm:MapOf (O U) W' (B+1+1) m (wO I')):NbIn B S F R I' ls w W':=by
 obtain⟨P,c,hb,ho⟩:=h.box;have bL:=h.sz;have old:∀k,k<W.heap.size->k≠B+1+1->W'.heap[k]?=W.heap[k]?:=fun k hk hl=>hg.block k hk (fun e=>hl (by cases e;rfl))
 exact⟨h.wrote.trans (Wrote.of_grown (R:=fun k=>w.heap.size<=k) hg (fun k e hk=>by cases e;omega)) (fun k h1 h2=>by omega),(old B (by omega) (by omega)).trans h.b0,(old _ (by omega) (by omega)).trans h.b1,(old _ (by omega) (by omega)).trans h.b3,(old _ (by omega) (by omega)).trans h.b5,⟨m,hm⟩,⟨P,c,(old _ (by omega) (by omega)).trans hb,ho.same fun k hk hl=>old k hl (by omega)⟩,Lr bL hg.size⟩
theorem NbIn.push{P P2:Bb}{c c2:Nat}{u:Int}{W1:Ba}(h:NbIn B S F R us ls w W)(hw:w.heap.size<=B)(hb:W.heap[B+1+1+1+1]?=J (Ag #[I P ls.length c] 50 (0,0)))(ho:Own W (B+6) (I P ls.length c) ls)
  (pR:Own W1 (B+6) (I P2 (ls.length+1) c2) (ls++[u])) (hg:W.grownBy W1 (I P ls.length c).ownBlock) :
  NbIn B S F R us (ls++[u]) w (W1.setCell ⟨B+1+1+1+1,0,Z⟩ (I P2 (ls.length+1) c2)):=by
 obtain⟨m,hm⟩:=h.hm;have bL:=h.sz;have iW:=ho.lt;have aw:=hg.size;have tw:∀k,k<B+6->W1.heap[k]?=W.heap[k]?:=fun k hk=>hg.block k (by omega) (fun e=>by have:=(iW k e.symm).1;omega)
 have aQ:=(tw _ (by omega)).trans hb;obtain⟨x1,x2,x3⟩:=qK aQ (I P2 (ls.length+1) c2);have old:∀k,k<B+6->k≠B+1+1+1+1->(W1.setCell ⟨B+1+1+1+1,0,Z⟩ (I P2 (ls.length+1) c2)).heap[k]?=W.heap[k]?:=fun k hk bC=>(x3 k bC).trans (tw k hk)
 refine⟨?_,(old B (by omega) (by omega)).trans h.b0,(old _ (by omega) (by omega)).trans h.b1,(old _ (by omega) (by omega)).trans h.b3,(old _ (by omega) (by omega)).trans h.b5,⟨m,hm.same (old _ (by omega) (by omega))⟩,⟨P2,c2,by rw[Lv];exact x1,by rw[Lv];exact pR.same fun k hk _=>x3 k (by omega)⟩,by rw[show(W1.setCell ⟨B+1+1+1+1,0,Z⟩ (I P2 (ls.length+1) c2)).heap.size=W1.heap.size by simp[World.setCell]];omega⟩;have a1:Wrote (fun k=>w.heap.size<=k) W W1:=Wrote.of_grown hg (fun k e hk=>by have:=(iW k e).1;omega);have a2:Wrote (fun k=>w.heap.size<=k) W1 (W1.setCell ⟨B+1+1+1+1,0,Z⟩ (I P2 (ls.length+1) c2)):=Wrote.of_grown (zQ W1 _ 0 _) (fun k e hk=>by cases e;omega);exact h.wrote.trans (a1.trans a2 (fun _ _ h=>h)) (fun k h1 h2=>by omega)
theorem NbIn.keeps{P:Bb}{c:Nat}{W1:Ba}(h:NbIn B S F R us ls w W)(hb:W.heap[B+1+1+1+1]?=J (Ag #[I P ls.length c] 50 (0,0)))(ho:Own W (B+6) (I P ls.length c) ls)
  (hg:W.grownBy W1 (I P ls.length c).ownBlock) (v:Ar):KeepsFrom (B+6) W (W1.setCell ⟨B+1+1+1+1,0,Z⟩ v)/\KeepB (fun k=>k=B+1+1+1+1+1) W (W1.setCell ⟨B+1+1+1+1,0,Z⟩ v):=by
 have iW:=ho.lt;have bL:=h.sz;have aw:=hg.size;have aQ:=(hg.block (B+1+1+1+1) (by omega) (fun e=>by have:=(iW _ e.symm).1;omega)).trans hb;obtain⟨x1,x2,x3⟩:=qK aQ v;refine⟨⟨by simp[World.setCell];omega,fun k o hk aW pR=>?_⟩,⟨by simp[World.setCell];omega,fun k hk hl=>?_⟩⟩
 . refine(x3 k (by omega)).trans ((hg.block k (zk aW) (fun e=>?_)).trans aW)
   have:=(vj ho k e.symm).2 o aW;rw[this] at pR;cases pR
 subst hk;exact(x3 _ (by omega)).trans (hg.block _ (by omega) (fun e=>by have:=(iW _ e.symm).1;omega))
end
end
section
open Go.RowKit Go.Shelf
attribute [local go_sem] Oper.semAt_some
theorem XU(s:Sy)(K M:Nat)(hK:K<=100)(hM:M<=100)(hk:s.p.k=(K:Int))(hx:s.xs.length=M)(A SV AV AX:Bb)(kc ks kv kx:Nat)(kf:Nat)(kb:Array Ar)(ek:Enters Al kf)(key:Nat×Nat->Int)
  (R:Nat->Prop) (Af:Ba->Prop) (w:Ba) (hR:∀k,R k->k<w.heap.size) (la:Af w) (hJ:∀W W',Af W->Wrote (fun k=>w.heap.size<=k) W W'->Af W')
  (tU:∀x∈zu (K+1) 0 M,∀W,Af W->w.heap.size<=W.heap.size->An Al kf (#[Ai #[O U x.1,O U x.2]]++kb) W fun e w'=>e=Ak (O U (key x))/\Af w'/\Wrote R W w') :
  An Al 148 #[.agg (s.vs_ A kc SV ks AV kv AX kx),.func (.func kf) #[] kb] w fun e w'=>∃v,e=Ak v/\Own w' w.heap.size v (qg ((zu (K+1) 0 M).map key))/\Af w'/\Wrote R w w':=by
 have hC:PtC (s.vs_ A kc SV ks AV kv AX kx) K M AX kx:=⟨by unfold Sy.vs_;rw[<-hk];rfl,by unfold Sy.vs_;rw[<-hx];rfl⟩
 have aL:(zu (K+1) 0 M).length<=20000:=by
  rw[kE (K+1) M (by omega)];exact Lr (LV hM (show K+1<=101 by omega)) (by decide)
 have ib:=zH (fun (bs:Nat) (W:Ba) (hb:W.heap[bs]?=J (Ag (s.vs_ A kc SV ks AV kv AX kx) 39 (0,0)))=>gq (s.vs_ A kc SV ks AV kv AX kx) K M hK hM AX kx hC bs W hb);have EW:=zH (fun (W:Ba)=>Qd s A SV AV AX kc ks kv kx W);have AZ:=zH tU;have HJ:=zH hJ;have HJ0:=zH la;have hz:∀W:Ba,(zeroValue 3).run Al W=.ok (O U 0) W:=fun W=>by kernel_rfl
 have ht:Al.underlying 240=J (.map 3 3):=underlying240;have lZ:=@run_makeMap Al;obtain⟨L,hL⟩:=Kk (zu (K+1) 0 M);rw[hL] at ib AZ aL ⊢;unfold Sy.vs_ at ib EW ⊢;clear tU hJ la hL hC hk hx;refine yr func148 rfl ?_;simp only[ntmps148,List.size_toArray,List.length_cons,List.length_nil,Nat.reduceAdd,Nat.reduceSub,Array.replicate_succ,Array.replicate_zero,List.push_toArray,List.append_toArray,List.nil_append,List.cons_append];go_wp2_with fail;refine(EW.out _).mono ?_;rintro e w2 ⟨rfl,aC⟩;obtain⟨S,hS⟩:∃S,S=#[O U s.p.t.n,O U s.p.t.ins,O U s.p.t.outs,I A s.p.t.cases.length kc,O U s.p.a.n,I SV s.p.a.sts.length ks,O U s.p.k,O U s.n,I AV s.vs.length kv,I AX s.xs.length kx]:=⟨_,rfl⟩;rw[<-hS] at aC ib
 have GC:NbIn w.heap.size S (.func (.func kf) #[] kb) R [] [] w w2/\Wrote (fun k=>w.heap.size<=k) w w2:=by
  obtain⟨a1,h1,x1,y1,z1⟩:=zm w S 39;rw[h1] at aC;obtain⟨a2,h2,x2,y2,z2⟩:=zm a1 #[.func (.func kf) #[] kb] 179;rw[h2] at aC;obtain⟨a3,h3⟩:=Kk (a2.alloc (.map #[] 0));have m3:MapOf (O U) a3 a2.heap.size 0 (fun _=>Z):=by rw[<-h3];exact MapOf.made a2
  have y3:a3.heap.size=a2.heap.size+1:=by rw[<-h3];simp
  have z3:Am a2.heap.size a2 a3:=by rw[<-h3];exact zU _ _
  rw[h3] at aC;obtain⟨a4,h4,x4,y4,z4⟩:=zm a3 #[.map (J (w.heap.size+1+1))] 240;rw[h4] at aC;obtain⟨a5,h5,x5,y5,z5⟩:=zm a4 #[I Z 0 0] 50;rw[h5] at aC;obtain⟨a6,h6,x6,y6,z6⟩:=zm a5 S 39;rw[h6] at aC;subst aC;rw[y1] at x2 y2;rw[y2] at m3 y3;rw[y3] at x4 y4;rw[y4] at x5 y5;rw[y5] at x6 y6
  have w1:Wrote (fun k=>w.heap.size<=k) w a6:=by
   have b1:=(Wrote.of_below (R:=fun k=>w.heap.size<=k) z1).trans (Wrote.of_below (R:=fun k=>w.heap.size<=k) z2) (fun _ _ h=>h);have b2:=(b1.trans (Wrote.of_below (R:=fun k=>w.heap.size<=k) z3) (fun _ _ h=>h)).trans (Wrote.of_below (R:=fun k=>w.heap.size<=k) z4) (fun _ _ h=>h);exact((b2.trans (Wrote.of_below (R:=fun k=>w.heap.size<=k) z5) (fun _ _ h=>h)).trans (Wrote.of_below (R:=fun k=>w.heap.size<=k) z6) (fun _ _ h=>h))
  refine⟨⟨w1.more (fun k h1 h2=>by omega),?_,?_,?_,x6,⟨0,?_⟩,⟨Z,0,?_,Own.nil _ _⟩,by omega⟩,w1⟩
  . exact Lb z6 (by omega) (Lb z5 (by omega) (Lb z4 (by omega) (Lb z3 (by omega) (Lb z2 (by omega) x1))))
  . exact Lb z6 (by omega) (Lb z5 (by omega) (Lb z4 (by omega) (Lb z3 (by omega) x2)))
  . exact Lb z6 (by omega) (Lb z5 (by omega) x4)
  . rw[numG_nil]
    exact m3.same (Lb z6 (by omega) (Lb z5 (by omega) (z4.block _ (by omega))))
  exact Lb z6 (by omega) x5
 have eZ:w2.heap.size=w.heap.size+6:=by rw[<-aC];simp
 have IW:Aq (Af w2):=HJ.out w w2 HJ0.out GC.2;have Hh:=zH (ib.out (w.heap.size+1+1+1+1+1) w2 GC.1.b5);have HN:=zH GC.1;go_wp2_with fail
 refine kR rfl (NC RZ (by kernel_rfl) rfl) Hh.out (by rintro x rfl;omega) (fun _=>rfl)
  (fun (pre:List { x:Nat×Nat // x∈L }) (X:Ba)=>NbIn w.heap.size S (.func (.func kf) #[] kb) R (xT (pre.map fun x=>key x.1)) (qg (pre.map fun x=>key x.1)) w X/\Af X)
  (fun _ _ _=>False)
  ?hI (fun _ _ _ _ _ h _ _=>h)
  ⟨HN.out,IW.out⟩ (fun x=>#[O U x.1,O U x.2]) 178 ?a1 ?assign ?body ?done ?stop (fun _ _ h=>by have:=h.1.sz;omega)
 case hI=>
  intro pre X X' row hX hg hr;refine⟨hX.1.turn (Ld _) hg (fun r e=>⟨by have:=(hr r e).1;omega,(hr r e).2⟩),HJ.out X X' hX.2 (Wrote.of_grown hg fun k e hk=>by have:=(hr k e).1;omega)⟩
 case assign=>
  intro l pre x X K' hI hK;obtain⟨g',nK⟩:∃g',g'=X.heap.size:=⟨_,rfl⟩;have HK:=zH (hK g' nK ⟨hI.1.turn (Ld _) (row:=Z) ⟨rfl,rfl,rfl,by simp,fun k hk _=>NP X _ k hk⟩ (fun r e=>by cases e),HJ.out X _ hI.2 (Wrote.of_below (zU X _))⟩);have HG:=zH nK;gi_wp2;rw[<-HG.out];exact HK.out
 case body=>
  intro l pre x g W3 hg lr hI ac;obtain⟨us,lX⟩:∃us,xT (pre.map fun x=>key x.1)=us:=⟨_,rfl⟩;obtain⟨ls,FW⟩:∃ls,qg (pre.map fun x=>key x.1)=ls:=⟨_,rfl⟩;have aN:ls.length<=20000:=by rw[<-FW,qF,LM];omega
  have Ib:us.Nodup:=by rw[<-lX];exact gV _
  obtain⟨kk,tT⟩:=Kk (key x.1);have FB:xT ((pre++[x]).map fun x=>key x.1)=kV us kk:=by rw[LK,L4,Nr,vT,lX,tT]
  have FV:qg ((pre++[x]).map fun x=>key x.1)=ls++[if kk∈us then (us.idxOf kk:Int) else (us.length:Int)]:=by
   rw[LK,L4,Nr,Xk,lX,FW,tT]
   congr 2
   by_cases h:kk∈us
   . rw[Lj h,Lj (xr.1 (lX▸h))]
   rw[Lg h,Lg (fun e=>h (lX▸xr.2 e))]
  rw[lX,FW] at hI;have aJ:=AZ.out x.1 x.2 W3 hI.2 (by have:=hI.1.sz;omega);rw[tT] at aJ;have HC:=zH aJ;have Da:=zH hI.1;have rm:=zH FB;have ns:=zH FV;have IN:=zH Ib;have q1:=zh hI.1.b1 0 rfl;obtain⟨g0,g1,_⟩:=Ke lr;gi_wp2_with fail;refine⟨trivial,?_⟩;rw[ek];refine⟨fun _=>by omega,(Sh l ((RW (n:=6)).2 HC.out)).mono ?_⟩;rintro e W4 ⟨rfl,IG,ip⟩;have oe:=zH (Da.out.call ip hR);have OO:=zH IG;have iI:=zH ip;have q3:=zh oe.out.b3 0 rfl;obtain⟨m,hm⟩:=oe.out.hm;have fF:=hm.look2 yO ht (hz W4) kk;have AU:=zH hm
  by_cases dD:kk∈us
  case pos=>
   have hf:wO us kk=J (O U (us.idxOf kk:Int)):=Lj dD;rw[hf] at fF;simp only[Option.getD_some,Option.isSome_some] at fF;have tQ:=AU.out.look yO ht (hz W4) kk;rw[hf] at tQ;simp only[Option.getD_some] at tQ;have hu:kV us kk=us:=Lj dD;have C4:Aq (xT ((pre++[x]).map fun x=>key x.1)=us):=rm.out.trans hu;have Dc:Aq (qg ((pre++[x]).map fun x=>key x.1)=ls++[(us.idxOf kk:Int)]):=ns.out.trans (by rw[Lj dD]);have rm:=C4;have ns:=Dc;obtain⟨P,c,ce,ho⟩:=oe.out.box;have aY:=zH ce;have HO:=zH ho;have q4:=zh ce 0 rfl
   gi_wp2_with (gi_at_builtin; go_must (refine vB rfl _ _ rfl (w.heap.size + 6) (I P ls.length c) ls (us.idxOf kk : Int) rfl HO.out rfl (by omega) (by have := oe.out.sz; omega) ?_); intro v' W6 dB i8 dj
                obtain⟨A6,k6,rfl,h61,h62,_⟩:=dB.form;have pC:=(i8.block (w.heap.size+1+1+1+1) (zk aY.out) (fun e=>uI HO.out aY.out (by decide) e.symm)).trans aY.out;have q6:=zh pC 0 rfl;have f6:=zi pC 0;have C9:=zH dB;have ph:=zH i8
                clear pC dB i8 dj)
   have sq:=oe.out.keeps aY.out HO.out ph.out (I A6 (ls.length+1) k6);have Cu:=oe.out.push (Ld _) aY.out HO.out (by have:=C9.out;simpa using this) ph.out;refine⟨((show KeepsFrom w2.heap.size W3 W4 from⟨iI.out.size,fun k o hk aW _=>(iI.out.block k (zk aW) (fun e=>by have:=hR k e;omega)).trans aW⟩)).trans (eZ▸sq.1),((show KeepB (fun k=>k=w.heap.size+1+1+1+1+1) W3 W4 from⟨iI.out.size,fun k hk hl=>iI.out.block k hl (fun e=>by have:=hR k e;omega)⟩)).trans sq.2,?_,?_⟩
   . rw[rm.out,ns.out]
     exact Cu
   have a2:Wrote (fun k=>w.heap.size<=k) W4 W6:=Wrote.of_grown ph.out (fun k e hk=>by have:=(HO.out.lt k e).1;omega);have a3:Wrote (fun k=>w.heap.size<=k) W6 (W6.setCell ⟨w.heap.size+1+1+1+1,0,Z⟩ (I A6 (ls.length+1) k6)):=Wrote.of_grown (zQ W6 _ 0 _) (fun k e hk=>by cases e;omega);exact HJ.out _ _ OO.out (a2.trans a3 (fun _ _ h=>h))
  have hf:wO us kk=Z:=Lg dD;rw[hf] at fF;simp only[Option.getD_none,Option.isSome_none] at fF;have hu:kV us kk=us++[kk]:=Lg dD;have C4:Aq (xT ((pre++[x]).map fun x=>key x.1)=us++[kk]):=rm.out.trans hu;have Dc:Aq (qg ((pre++[x]).map fun x=>key x.1)=ls++[(us.length:Int)]):=ns.out.trans (by rw[Lg dD]);obtain⟨es,cm,SM,CA⟩:=numG_count AU.out IN.out;obtain⟨W5,ft,pu,cK⟩:=AU.out.put yO ht kk (O U (us.length:Int));rw[numG_put dD] at pu;have pc:=zH (oe.out.put (Ld _) cK pu);have tQ:=pu.look yO ht (hz W5) kk
  have hf5:wO (us++[kk]) kk=J (O U (us.length:Int)):=by
   unfold wO;rw[Lj (by simp),NA,Lg dD];simp
  rw[hf5] at tQ;simp only[Option.getD_some] at tQ;have HJ5:=zH (HJ.out W4 W5 OO.out (Wrote.of_grown cK fun k e hk=>by cases e;omega))
  have lC:Aq (KeepsFrom w2.heap.size W4 W5/\KeepB (fun k=>k=w.heap.size+1+1+1+1+1) W4 W5):=by
   refine⟨⟨cK.size,fun k o hk aW _=>(cK.block k (zk aW) (fun e=>by cases e;omega)).trans aW⟩,⟨cK.size,fun k hk hl=>cK.block k hl (fun e=>by cases e;omega)⟩⟩
  have q35:=zh pc.out.b3 0 rfl;obtain⟨P,c,ce,ho⟩:=pc.out.box;have aY:=zH ce;have HO:=zH ho;have q4:=zh ce 0 rfl;have rm:=C4;have ns:=Dc
  have rJ:(Builtin.len_ #[240] 3 #[.map (J (w.heap.size+1+1))]).run Al W4=.ok (O U (us.length:Int)) W4:=by
   rw[<-CA];exact run_len_map W4 _ _ _ es cm (by kernel_rfl) SM
  gi_wp2_with (gi_at_builtin; go_must (refine vB rfl _ _ rfl (w.heap.size + 6) (I P ls.length c) ls (us.length : Int) rfl HO.out rfl (by omega) (by have := pc.out.sz; omega) ?_); intro v' W6 dB i8 dj
               obtain⟨A6,k6,rfl,h61,h62,_⟩:=dB.form;have pC:=(i8.block (w.heap.size+1+1+1+1) (zk aY.out) (fun e=>uI HO.out aY.out (by decide) e.symm)).trans aY.out;have q6:=zh pC 0 rfl;have f6:=zi pC 0;have C9:=zH dB;have ph:=zH i8
               clear pC dB i8 dj)
  have sq:=pc.out.keeps aY.out HO.out ph.out (I A6 (ls.length+1) k6);have Cu:=pc.out.push (Ld _) aY.out HO.out (by have:=C9.out;simpa using this) ph.out;refine⟨(((show KeepsFrom w2.heap.size W3 W4 from⟨iI.out.size,fun k o hk aW _=>(iI.out.block k (zk aW) (fun e=>by have:=hR k e;omega)).trans aW⟩)).trans lC.out.1).trans (eZ▸sq.1),(((show KeepB (fun k=>k=w.heap.size+1+1+1+1+1) W3 W4 from⟨iI.out.size,fun k hk hl=>iI.out.block k hl (fun e=>by have:=hR k e;omega)⟩)).trans lC.out.2).trans sq.2,?_,?_⟩
  . rw[rm.out,ns.out]
    exact Cu
  have a2:Wrote (fun k=>w.heap.size<=k) W5 W6:=Wrote.of_grown ph.out (fun k e hk=>by have:=(HO.out.lt k e).1;omega);have a3:Wrote (fun k=>w.heap.size<=k) W6 (W6.setCell ⟨w.heap.size+1+1+1+1,0,Z⟩ (I A6 (ls.length+1) k6)):=Wrote.of_grown (zQ W6 _ 0 _) (fun k e hk=>by cases e;omega);exact HJ.out _ _ HJ5.out (a2.trans a3 (fun _ _ h=>h))
 case done=>
  intro D ys W hD iy hI ik;have so:ys.map (fun x=>key x.1)=L.map key:=by rw[show ys.map (fun x=>key x.1)=(ys.map (·.1)).map key by rw[PR];rfl,iy]
  rw[so] at hI;obtain⟨hN,Wy⟩:=hI;obtain⟨P,c,ce,ho⟩:=hN.box;have q4:=zh ce 0 rfl;have HN9:=zH hN;have HO:=zH ho;have HJ9:=zH Wy;have BP:=zH ik;go_wp2_with fail;refine yU (B:=w2.heap.size) (w:=W) (show Marks w2.heap.size _ W from⟨[D],rfl,by simp,fun r hr=>by rw[LY] at hr;subst hr;exact⟨hD,BP.out⟩⟩) (v:=.slice P (qg (L.map key)).length c) (fun W=>by kernel_rfl) ?_;intro X hS;have hb:Am w2.heap.size W X:=hS.below;refine⟨_,rfl,(HO.out.shut hS).low (by omega),HJ.out W X HJ9.out ⟨hb.os,hb.tape,hb.output,hb.size,fun k hk hn=>hb.block k (by omega)⟩,HN9.out.wrote.trans (R':=fun k=>w2.heap.size<=k) ⟨hb.os,hb.tape,hb.output,hb.size,fun k hk hn=>hb.block k (by omega)⟩ (fun k h1 h2=>by omega)⟩
 intro D c pre W _ _ h;exact h.elim
end
section
theorem nodup_idx{α:Type}{l:List α}(h:l.Nodup){i j:Nat}(hi:i<l.length)(hj:j<l.length)(e:l[i]=l[j]):i=j:=by
 have hp:=Po.1 h;rcases Nat.lt_trichotomy i j with g | g | g
 . exact absurd e (hp i j hi hj g)
 . exact g
 exact absurd e.symm (hp j i hj hi g)
def xw(x:Exn)(k q:Nat):Int:=(x.views.getD k []).getD q 0
structure Sees(s:Sy)(K N:Nat):Prop where
 nodup:s.vs.Nodup
 v0:∀x∈s.xs,∀q,q<N->At s.vs (xw x 0 q) (yS q ((yy s.p x.c.toNat).getD q 0))
 vk:∀x∈s.xs,∀k,k<K->∀q,q<N->At s.vs (xw x (k+1) q) (xI (x.word.getD k default) (k+1) q (x.views.getD k []))
 prs:s.xs.map (fun x=>(x.c.toNat,x.word))=zC s.p
 cs:∀x∈s.xs,∃c:Nat,x.c=(c:Int)/\c<s.p.t.cases.length/\x.word∈zI s.p.a K 0
theorem Qi{p:Pb}{Hw:List Vw}{c:Nat}{word:List Rd}{x:Exn}{vs:List Vw}(h:XFin p Hw c word x vs)(k:Nat)(hk:k<=word.length):x.views.getD k []=Z5 vs p.t.n.toNat (yy p c) word k:=by
 rw[h.hv];exact jx _ _ _ _ _ k hk
theorem xfin_at{p:Pb}{Hw:List Vw}{c:Nat}{word:List Rd}{x:Exn}{vs:List Vw}(h:XFin p Hw c word x vs)(k q:Nat)(hk:k<=word.length)(hq:q<p.t.n.toNat):At Hw (xw x k q) (fV vs p.t.n.toNat (yy p c) word k q):=by
 obtain⟨us,lX⟩:=h.ht;unfold xw;rw[Qi h k hk,lX];exact(Zt vs p.t.n.toNat (yy p c) word word.length k q hk hq).mono
theorem YJ{p:Pb}{K N:Nat}(hF:Fine (zO p) K N):Sees (zO p) K N:=by
 obtain⟨f1,f2,f3⟩:=Qx p (zC p);have hNN:p.t.n.toNat=N:=by have:p.t.n=(N:Int):=hF.pn;omega
 have rf:p.k.toNat=K:=by have:p.k=(K:Int):=hF.k;omega
 have mA:∀y∈zC p,y.2.length=K/\y.1<p.t.cases.length/\y.2∈zI p.a K 0:=fun y hy=>by
  unfold zC at hy;obtain⟨d,hd,hy⟩:=NH.1 hy;obtain⟨w',my,rfl⟩:=LZ.1 hy;rw[rf] at my;exact⟨xv p.a _ 0 w' my,by simpa using hd,my⟩
 have hx:∀x∈(zO p).xs,∃y∈zC p,∃vs,XFin p (zO p).vs y.1 y.2 x vs:=fun x hx=>by
  obtain⟨i,hi,e⟩:=LP hx;have rM:i<(zC p).length:=by rw[<-qc p (zC p)];exact hi
  obtain⟨x',vs,Ia,hh⟩:=f1 i rM
  have:x=x':=by
   have h3:(zE p (zC p)).2[i]?=J x:=(Lm (l:=(zO p).xs) hi).trans (congrArg J e);exact NL (h3.symm.trans Ia)
  subst this;exact⟨_,Le rM,vs,hh⟩
 refine⟨f3,fun x hm q hq=>?_,fun x hm k hk q hq=>?_,?_,fun x hm=>?_⟩
 . obtain⟨y,hy,vs,hh⟩:=hx x hm
   have h:=xfin_at hh 0 q (Nz _) (by omega);rw[hh.hc,Lo];exact h
 . obtain⟨y,hy,vs,hh⟩:=hx x hm
   have hl:=(mA y hy).1;have h:=xfin_at hh (k+1) q (by omega) (by omega);rw[Qi hh k (by omega),hh.hw];exact h
 . show(zE p (zC p)).2.map _=zC p
   refine Pn (by rw[LM,qc]) fun i h1 h2=>?_
   obtain⟨x',vs,Ia,hh⟩:=f1 i h2;rw[Ns];obtain⟨h3,h4⟩:=Lp.1 Ia;rw[h4,hh.hc,hh.hw,Lo]
 obtain⟨y,hy,vs,hh⟩:=hx x hm;exact⟨y.1,hh.hc,(mA y hy).2.1,by rw[hh.hw];exact(mA y hy).2.2⟩
section
variable {s:Sy} {K N:Nat}
theorem Sees.pr(h:Sees s K N){x:Exn}(hx:x∈s.xs){k q:Nat}(hk:k<=K)(hq:q<N):∃v,At s.vs (xw x k q) v/\v.p=(q:Int)/\v.r=(k:Int):=by
 cases k with
 | zero=>exact⟨_,h.v0 x hx q hq,rfl,rfl⟩
 | succ k=>exact⟨_,h.vk x hx k (by omega) q hq,rfl,rfl⟩
theorem At.inj{vs:List Vw}(hn:vs.Nodup){i j:Int}{v:Vw}(h1:At vs i v)(h2:At vs j v):i=j:=by
 obtain⟨a1,b1⟩:=Lp.1 h1.2;obtain⟨a2,b2⟩:=Lp.1 h2.2;have:=nodup_idx hn a1 a2 (b1.trans b2.symm);have:=h1.1;have:=h2.1;omega
theorem Sees.same(h:Sees s K N){i j:Int}{v u:Vw}(h1:At s.vs i v)(h2:At s.vs j u):i=j↔v=u:=
 ⟨fun e=>by subst e;exact h1.same h2,fun e=>by subst e;exact h1.inj h.nodup h2⟩
end
end
end Go.Proofs.YtkmbdfdaffmhjaaGreat
