/- Merged. -/
import Derived.Test.YtkmbdfdaffmhjaaGreatUd
import Derived.Laws.MakeOwn
import Derived.ChangeArms
open Go.Proofs.Tryz
open Go.Value renaming int->O,slice->I,bool->Ah,agg->Ai,pointer->Aj
open Go.IntKind renaming i64->U
open Option renaming none->Z,some->J
open Go.Obj renaming cells->Ag
open Go.Ending renaming returned->Ak
open Go.Proofs.Tryz renaming prog->Al
open Go.RowKit renaming Below->Am,intOf->Ar,Hid->As
open Go renaming Calls->An,Value->Au
open Bool renaming true->Av,false->Aw
open List renaming pairwise_cons->Rf,countP_eq_length_filter->Sq
namespace Go.Proofs.YtkmbdfdaffmhjaaGreat
abbrev Px:=@Nat.le_of_lt
abbrev Pm:=@Go.Proofs.Tryz.underlying58
abbrev So:=@Int.le_refl
abbrev Pd:=@decide_eq_true_iff
abbrev N7:=@List.foldl_cons
abbrev PK:=@Go.Proofs.Tryz.underlying32
abbrev Pc:=@Nat.le_max_right
abbrev PB:=@Nat.le_max_left
abbrev Rs:=@List.getElem?_set
abbrev Sh:=@List.pairwise_map
abbrev Sl:=@Nat.mod_eq_of_lt
abbrev Sg:=@Go.Proofs.Tryz.func144
set_option maxRecDepth 100000
set_option maxHeartbeats 8000000
section
open Go.RowKit
attribute [local go_sem] Oper.semAt_some
theorem eqI_any(A A':Bb)(cap ap:Nat)(xs ys:List Int)(w:Ba)(B:Nat)(hA:IAt w B A xs)(rc:IAt w B A' ys)(hl:xs.length<=17592186044416)(ME:ys.length<=17592186044416) :
  An Al 108 #[I A xs.length cap,I A' ys.length ap] w fun e w'=>e=Ak (Ah (decide (xs=ys)))/\∃n,w'=w.drewN n:=by
 by_cases aJ:xs.length=ys.length
 . by_cases h0:xs.length=0
   . have e1:xs=[]:=LJ h0
     have e2:ys=[]:=LJ (by omega);subst e1;subst e2;exact(Tryz.slices_Equal_int_empty A A' cap 0 ap w (by omega)).mono fun e w' h=>⟨by simpa using h.1,0,h.2⟩
   obtain⟨b,o,rfl,hb,hc⟩:=hA (by omega);obtain⟨b',o',rfl,cN,WW⟩:=rc (by omega);refine(Tryz.slices_Equal_int b o xs.length cap b' o' ys.length ap xs ys w (Ld _) (Ld _) (by omega) (by omega) (fun j hj=>?_) (fun j hj=>?_)).mono fun e w' h=>⟨?_,h.2⟩
   . rw[Lf,Li hj];exact hc j hj
   . rw[Lf,Li hj];exact WW j hj
   rw[h.1,LK,LK];exact zy (by rw[NL];simp)
 exact(Tryz.slices_Equal_int_lens A A' xs.length cap ys.length ap w aJ).mono fun e w' h=>⟨by rw[h.1,Lv (by rintro rfl;exact aJ rfl)],0,h.2⟩
theorem eqV_any(A A':Bb)(cap ap:Nat)(vs us:List Vw)(w:Ba)(B:Nat)(_hB:B<=w.heap.size)(hA:VAt w B A vs)(rc:VAt w B A' us)(_hl:vs.length<=2199023255552)(ME:us.length<=2199023255552) :
  An Al 59 #[I A vs.length cap,I A' us.length ap] w fun e w'=>e=Ak (Ah (decide (vs=us)))/\∃n,w'=w.drewN n:=by
 have HE:As (∀k (hk:k<vs.length) (en:k<us.length) (X:Ba),(binOp .neq 133 (.agg vs[k].cells) (.agg us[k].cells)).run Al X=.ok (Ah (decide (vs[k]≠us[k]))) X):=fun k hk en X=>neq_view vs[k] us[k] X
 unfold Vw.cells at HE
 by_cases aJ:vs.length=us.length
 . have HL:=zH aJ
   have iG:((vs.length:Int) != (us.length:Int))=Aw:=by simp[aJ]
   go_enter func59,ntmps59;go_wp2
   go_loopw [13] (fun i wr=>∃k m:Nat,k<=vs.length/\i=O U k/\wr=w.drewN m/\As (vs.take k=us.take k)) (fun i _=>vs.length-(Ar i).toNat)
   case atStart=>exact⟨0,0,by omega,rfl,rfl,by show vs.take 0=us.take 0;simp⟩
   obtain⟨k,m,hk,rfl,rfl,aZ⟩:=hrel;have cG:k<=us.length:=by have:=HL.out;omega
   by_cases hlt:k<vs.length
   . have cU:k<us.length:=by have:=HL.out;omega
     obtain⟨b,off,rfl,aF,c0,c1,c2,c3,c4,c5,c6,c7⟩:=hA.row k hlt;obtain⟨b',nn,rfl,CU,d0,d1,d2,d3,d4,d5,d6,d7⟩:=rc.row k cU;have nG:=HE.out k hlt cU
     by_cases hv:vs[k]=us[k]
     . have tU:∀X:Ba,_:=fun X=>(nG X).trans (by rw[Lv (by simpa using hv)])
       have hz:As (vs.take (k+1)=us.take (k+1)):=wi hlt cU aZ.out hv;clear nG hv;go_wp2;go_quiet (fail);go_wp2
       go_roundw
       case rel=>exact⟨k+1,_,by omega,by go_num,rfl,hz⟩
       simp[Ar];omega
     have tU:∀X:Ba,_:=fun X=>(nG X).trans (by rw[Lw hv])
     have hz:As (decide (vs=us)=Aw):=Lv (kA hlt cU hv);go_wp2;go_quiet (fail);go_wp2;go_ret;exact⟨zy hz.out.symm,_,drewN2 _ _ _⟩
   obtain rfl:k=vs.length:=by omega
   have hz:As (decide (vs=us)=Av):=Lw (kF HL.out aZ.out);go_wp2;go_ret;exact⟨zy hz.out.symm,_,rfl⟩
 have hz:As (decide (vs=us)=Aw):=Lv (by rintro rfl;exact aJ rfl);have iG:((vs.length:Int) != (us.length:Int))=Av:=by simp;omega
 go_enter func59,ntmps59;go_wp2;go_ret;exact⟨zy hz.out.symm,0,rfl⟩
theorem eqR_any(A A':Bb)(cap ap:Nat)(vs us:List Rd)(w:Ba)(B:Nat)(_hB:B<=w.heap.size)(hA:RAt w B A vs)(rc:RAt w B A' us)(_hl:vs.length<=17592186044416)(ME:us.length<=17592186044416) :
  An Al 106 #[I A vs.length cap,I A' us.length ap] w fun e w'=>e=Ak (Ah (decide (vs=us)))/\∃n,w'=w.drewN n:=by
 have HE:As (∀k (hk:k<vs.length) (en:k<us.length) (X:Ba),(binOp .neq 76 (.agg vs[k].cells) (.agg us[k].cells)).run Al X=.ok (Ah (decide (vs[k]≠us[k]))) X):=fun k hk en X=>neq_round vs[k] us[k] X
 unfold Rd.cells at HE
 by_cases aJ:vs.length=us.length
 . have HL:=zH aJ
   have iG:((vs.length:Int) != (us.length:Int))=Aw:=by simp[aJ]
   go_enter func106,ntmps106;go_wp2
   go_loopw [13] (fun i wr=>∃k m:Nat,k<=vs.length/\i=O U k/\wr=w.drewN m/\As (vs.take k=us.take k)) (fun i _=>vs.length-(Ar i).toNat)
   case atStart=>exact⟨0,0,by omega,rfl,rfl,by show vs.take 0=us.take 0;simp⟩
   obtain⟨k,m,hk,rfl,rfl,aZ⟩:=hrel;have cG:k<=us.length:=by have:=HL.out;omega
   by_cases hlt:k<vs.length
   . have cU:k<us.length:=by have:=HL.out;omega
     obtain⟨b,off,rfl,aF,c0,c1,c2,c3,c4,c5,c6⟩:=hA.row k hlt;obtain⟨b',nn,rfl,CU,d0,d1,d2,d3,d4,d5,d6⟩:=rc.row k cU;have nG:=HE.out k hlt cU
     by_cases hv:vs[k]=us[k]
     . have tU:∀X:Ba,_:=fun X=>(nG X).trans (by rw[Lv (by simpa using hv)])
       have hz:As (vs.take (k+1)=us.take (k+1)):=wi hlt cU aZ.out hv;clear nG hv;go_wp2;go_quiet (fail);go_wp2
       go_roundw
       case rel=>exact⟨k+1,_,by omega,by go_num,rfl,hz⟩
       simp[Ar];omega
     have tU:∀X:Ba,_:=fun X=>(nG X).trans (by rw[Lw hv])
     have hz:As (decide (vs=us)=Aw):=Lv (kA hlt cU hv);go_wp2;go_quiet (fail);go_wp2;go_ret;exact⟨zy hz.out.symm,_,drewN2 _ _ _⟩
   obtain rfl:k=vs.length:=by omega
   have hz:As (decide (vs=us)=Av):=Lw (kF HL.out aZ.out);go_wp2;go_ret;exact⟨zy hz.out.symm,_,rfl⟩
 have hz:As (decide (vs=us)=Aw):=Lv (by rintro rfl;exact aJ rfl);have iG:((vs.length:Int) != (us.length:Int))=Av:=by simp;omega
 go_enter func106,ntmps106;go_wp2;go_ret;exact⟨zy hz.out.symm,0,rfl⟩
theorem eqLL_any(A A':Bb)(cap ap:Nat)(vs us:List (List Int))(w:Ba)(B:Nat)(_hB:B<=w.heap.size)(hA:LAt w B A vs)(rc:LAt w B A' us)(hl:vs.length<=17592186044416)(ME:us.length<=17592186044416)
  (hv:∀v∈vs,v.length<=17592186044416) (hu:∀v∈us,v.length<=17592186044416) :
  An Al 107 #[I A vs.length cap,I A' us.length ap,.func (.func 108) #[] #[]] w fun e w'=>e=Ak (Ah (decide (vs=us)))/\∃n,w'=w.drewN n:=by
 have HV:=zH hv;have HU:=zH hu
 by_cases aJ:vs.length=us.length
 . have HL:=zH aJ
   have iG:((vs.length:Int) != (us.length:Int))=Aw:=by simp[aJ]
   clear aJ;go_enter func107,ntmps107;go_wp2_with fail
   go_loopw [17] (fun i wr=>∃k m:Nat,k<=vs.length/\i=O U k/\wr=w.drewN m/\As (vs.take k=us.take k)) (fun i _=>vs.length-(Ar i).toNat)
   case atStart=>exact⟨0,0,by omega,rfl,rfl,by show vs.take 0=us.take 0;simp⟩
   obtain⟨k,m,hk,rfl,rfl,aZ⟩:=hrel;have cG:k<=us.length:=by have:=HL.out;omega
   by_cases hlt:k<vs.length
   . have cU:k<us.length:=by have:=HL.out;omega
     obtain⟨b,off,A1,c1,rfl,aF,x0,hI⟩:=hA.at_ k hlt;obtain⟨b',nn,A2,c2,rfl,CU,y0,It⟩:=rc.at_ k cU;have HC:=zH (eqI_any A1 A2 c1 c2 vs[k] us[k] (w.drewN m) B hI It (HV.out _ (Lh hlt)) (HU.out _ (Lh cU)));have x1:(w.drewN m).cell? ⟨b,off+k,Z⟩=J (I A1 vs[k].length c1):=x0;have y1:(w.drewN m).cell? ⟨b',nn+k,Z⟩=J (I A2 us[k].length c2):=y0;clear hA rc x0 y0 hI It;have dg:(0:Int)<=(k:Int):=by omega
     have aM:(k:Int)<(vs.length:Int):=by omega
     have fU:(k:Int)<(us.length:Int):=by omega
     go_wp2_with fail;refine HC.out.mono ?_;rintro e w' ⟨rfl,n,rfl⟩
     by_cases hv:vs[k]=us[k]
     . have hz:As (vs.take (k+1)=us.take (k+1)):=Xa aZ.out hlt cU hv
       rw[Lw hv];clear hv HC x1 y1;go_wp2_with fail
       go_roundw
       case rel=>exact⟨k+1,_,by omega,by go_num,rfl,hz⟩
       simp[Ar];omega
     have hz:As (decide (vs=us)=Aw):=Lv (kA hlt cU hv);rw[Lv hv];go_wp2_with fail;go_ret;exact⟨zy hz.out.symm,_,rfl⟩
   obtain rfl:k=vs.length:=by omega
   have hz:As (decide (vs=us)=Av):=Lw (kF HL.out aZ.out);go_wp2_with fail;go_ret;exact⟨zy hz.out.symm,_,rfl⟩
 have hz:As (decide (vs=us)=Aw):=Lv (by rintro rfl;exact aJ rfl);have iG:((vs.length:Int) != (us.length:Int))=Av:=by simp;omega
 go_enter func107,ntmps107;go_wp2_with fail;go_ret;exact⟨zy hz.out.symm,0,rfl⟩
theorem xsame_any(x y:Exn)(hx:LowX x)(hy:LowX y)(A1 A2 B1 B2:Bb)(a1 a2 b1 b2:Nat)(w:Ba)(ON:RAt w w.heap.size A1 x.word)(hA2:LAt w w.heap.size A2 x.views)(aV:RAt w w.heap.size B1 y.word)(bE:LAt w w.heap.size B2 y.views) :
  An Al 61 #[Ai #[O U x.c,I A1 x.word.length a1,I A2 x.views.length a2],Ai #[O U y.c,I B1 y.word.length b1,I B2 y.views.length b2]] w fun e w'=>e=Ak (Ah (decide (x=y)))/\Am w.heap.size w w':=by
 obtain⟨w1,ab,d0,d1,av,hB⟩:=yI w #[O U x.c,I A1 x.word.length a1,I A2 x.views.length a2] #[O U y.c,I B1 y.word.length b1,I B2 y.views.length b2] 128 128;have HR:=zH (eqR_any A1 B1 a1 b1 x.word y.word w1 w.heap.size (by omega) (ON.keep hB) (aV.keep hB) hx.1 hy.1);have HL:=zH (fun n=>eqLL_any A2 B2 a2 b2 x.views y.views (w1.drewN n) w.heap.size (by show w.heap.size<=w1.heap.size;omega) (hA2.keep (yy hB n)) (bE.keep (yy hB n)) hx.2.1 hy.2.1 hx.2.2 hy.2.2);have ag:=zH ab;have HB:=zH hB;have du:=zH d0;have cy:=zH d1;obtain⟨p0,p1,p2,_⟩:=Kb d0;obtain⟨q0,q1,q2,_⟩:=Kb d1;have HE:=zH (@exn_eq x y);have o7:As (x≠y->decide (x=y)=Aw):=fun h=>Lv h
 have Uv:As (x=y->decide (x=y)=Av):=fun h=>Lw h
 obtain⟨r,hr⟩:∃r,decide (x=y)=r:=⟨_,rfl⟩;rw[hr] at o7 Uv ⊢;clear hr ab d0 d1 hB ON hA2 aV bE hx hy;go_enter func61,ntmps61
 by_cases h1:x.c=y.c
 case neg=>
  have hR:=zH (o7.out (fun h=>h1 (congrArg Exn.c h)));have e0:(x.c==y.c)=Aw:=by simpa using h1
  clear o7 Uv HE h1 HR HL;go_wp2_with fail;rw[ag.out];go_wp2_with fail
  all_goals
   go_ret;exact⟨zy hR.out.symm,HB.out⟩
 case pos=>
 have e0:(x.c==y.c)=Av:=by simpa using h1
 have HC:=zH h1;clear h1;go_wp2_with fail;rw[ag.out];go_wp2_with fail;refine HR.out.mono ?_;rintro e w2 ⟨rfl,n,rfl⟩;have p2:(w1.drewN n).cell? ⟨w.heap.size,2,Z⟩=J (I A2 x.views.length a2):=zh du.out 2 rfl;have q2:(w1.drewN n).cell? ⟨w.heap.size+1,2,Z⟩=J (I B2 y.views.length b2):=zh cy.out 2 rfl
 by_cases h2:x.word=y.word
 case neg=>
  have hR:=zH (o7.out (fun h=>h2 (congrArg Exn.word h)));rw[Lv h2];clear o7 Uv HE h2 HR HL;go_wp2_with fail
  all_goals
   go_ret;exact⟨zy hR.out.symm,yy HB.out n⟩
 case pos=>
 rw[Lw h2];have HW:=zH h2;clear h2;go_wp2_with fail;refine(HL.out n).mono ?_;rintro e w3 ⟨rfl,m,rfl⟩
 have hR:As (decide (x.views=y.views)=r):=by
  by_cases h3:x.views=y.views
  . exact(Lw h3).trans (Uv.out (HE.out HC.out HW.out h3)).symm
  exact(Lv h3).trans (o7.out (fun h=>h3 (congrArg Exn.views h))).symm
 rw[hR.out];go_wp2_with fail
 all_goals
  go_ret;exact⟨rfl,yy HB.out _⟩
theorem eqX_any(A A':Bb)(cap ap:Nat)(vs us:List Exn)(w:Ba)(hA:XAt w w.heap.size A vs)(rc:XAt w w.heap.size A' us)(hl:vs.length<=17592186044416)(ME:us.length<=17592186044416)
  (hv:∀v∈vs,LowX v) (hu:∀v∈us,LowX v) :
  An Al 60 #[I A vs.length cap,I A' us.length ap,.func (.func 61) #[] #[]] w fun e w'=>e=Ak (Ah (decide (vs=us)))/\Am w.heap.size w w':=by
 have HV:=zH hv;have HU:=zH hu;have HA:=zH hA;have HA':=zH rc;clear hv hu hA rc
 by_cases aJ:vs.length=us.length
 . have HL:=zH aJ
   have iG:((vs.length:Int) != (us.length:Int))=Aw:=by simp[aJ]
   clear aJ;go_enter func60,ntmps60;go_wp2_with fail
   go_loopw [17] (fun i wr=>∃k:Nat,k<=vs.length/\i=O U k/\As (Am w.heap.size w wr)/\As (vs.take k=us.take k)) (fun i _=>vs.length-(Ar i).toNat)
   case atStart=>exact⟨0,by omega,rfl,Ll _ _,by show vs.take 0=us.take 0;simp⟩
   obtain⟨k,hk,rfl,hb,aZ⟩:=hrel;have cG:k<=us.length:=by have:=HL.out;omega
   by_cases hlt:k<vs.length
   . have cU:k<us.length:=by have:=HL.out;omega
     obtain⟨b,off,A1,c1,A2,c2,eA,aF,x0,x1,x2,hW,hI⟩:=(HA.out.keep hb.out).row k hlt;obtain⟨b',nn,B1,d1,B2,d2,eB,CU,y0,y1,y2,td,It⟩:=(HA'.out.keep hb.out).row k cU;subst eA;subst eB;obtain⟨x,hx⟩:=Kj (vs[k]);obtain⟨y,hy⟩:=Kj (us[k]);have np:=HV.out _ (Lh hlt);have lw:=HU.out _ (Lh cU);have az:=zH (fun (h:x≠y)=>(Lv (kA hlt cU (by rw[hx,hy];exact h)):decide (vs=us)=Aw));have dJ:=zH (fun (h:x=y)=>Xa aZ.out hlt cU (by rw[hx,hy];exact h));rw[hx] at x0 x1 x2 hW hI np;rw[hy] at y0 y1 y2 td It lw;have aP:=hb.out.size;have bz:b<wr.heap.size:=by omega
     have hbw':b'<wr.heap.size:=by omega
     obtain⟨W2,dZ,d0,d1',cM,bE⟩:=yI wr #[O U x.c,I A1 x.word.length c1,I A2 x.views.length c2] #[O U y.c,I B1 y.word.length d1,I B2 y.views.length d2] 128 128;have HC:=zH (xsame_any x y np lw A1 A2 B1 B2 c1 c2 d1 d2 W2 (((hW.more aP).keep bE).more bE.size) (((hI.more aP).keep bE).more bE.size) (((td.more aP).keep bE).more bE.size) (((It.more aP).keep bE).more bE.size));have au:=zH (hb.out.trans (bE.mono aP));have oY:=zH dZ;obtain⟨p0,p1,p2,_⟩:=Kb d0;obtain⟨q0,q1,q2,_⟩:=Kb d1';clear hW hI td It np lw dZ d0 d1' bE hx hy aZ;have dg:(0:Int)<=(k:Int):=by omega
     have aM:(k:Int)<(vs.length:Int):=by omega
     have fU:(k:Int)<(us.length:Int):=by omega
     go_wp2_with fail;rw[oY.out];go_wp2_with fail;refine HC.out.mono ?_;rintro e w3 ⟨rfl,ak⟩;have aC:=zH (Lc au.out ak);clear ak HC p0 p1 p2 q0 q1 q2 x0 x1 x2 y0 y1 y2
     by_cases hv:x=y
     . have hz:=zH (dJ.out hv)
       rw[Lw hv];clear hv dJ az;go_wp2_with fail
       go_roundw
       case rel=>exact⟨k+1,by omega,by go_num,aC,hz⟩
       simp[Ar];omega
     have hz:=zH (az.out hv);rw[Lv hv];go_wp2_with fail;go_ret;exact⟨zy hz.out.symm,aC.out⟩
   obtain rfl:k=vs.length:=by omega
   have hz:As (decide (vs=us)=Av):=Lw (kF HL.out aZ.out);go_wp2_with fail;go_ret;exact⟨zy hz.out.symm,hb.out⟩
 have hz:As (decide (vs=us)=Aw):=Lv (by rintro rfl;exact aJ rfl);have iG:((vs.length:Int) != (us.length:Int))=Av:=by simp;omega
 clear aJ;go_enter func60,ntmps60;go_wp2_with fail;go_ret;exact⟨zy hz.out.symm,Ll _ _⟩
theorem QR(a:Ad)(hf:FewA a)(hz:zJ a a.sts=0)(h1:1<=a.sts.length)(K L:Nat)(hK:K<=6)(hL:L<=1048576)(SV:Bb)(ks:Nat)(w:Ba)(hS:SAt w w.heap.size SV a.sts) :
  An Al 136 #[Ai #[O U a.n,I SV a.sts.length ks],O U K,O U L] w fun e w'=>e=Ak (O U ((xa L (yj a K 0):Nat):Int))/\Am w.heap.size w w':=by
 have fq:=hf.1;have ru:=zH (fun l hl=>hf.each (l:=l) hl);have HZ:=zH (@xL a hz);go_enter func136,ntmps136;go_wp2_with fail;obtain⟨w1,ab⟩:=Kj (w.alloc (Ag #[O U a.n,I SV a.sts.length ks] 27));have bj:=zx w (Ag #[O U a.n,I SV a.sts.length ks] 27);have aw:Am w.heap.size w w1:=by rw[<-ab];exact zW w _
 have eh:w1.heap.size=w.heap.size+1:=by rw[<-ab];simp
 rw[ab] at bj ⊢;have cj:=zH bj;have bW:=zH aw;have HS:=zH ((hS.keep aw).more (by omega:w.heap.size<=w1.heap.size))
 go_loopw [7,8] (fun v i wr=>∃s:Nat,s<=a.sts.length/\i=O U (s:Int)/\As (Own wr w1.heap.size v (cl a L 0 s))/\As (Am w1.heap.size w1 wr)) (fun _ i _=>a.sts.length-(Ar i).toNat)
 case atStart=>exact⟨0,by omega,rfl,Own.nil _ _,Ll _ _⟩
 obtain⟨s,hs,rfl,HO,aO⟩:=hrel;have bQ:=La aO.out cj.out;have q1:=zh bQ 1 rfl
 by_cases hlt:s<a.sts.length
 case pos=>
  have rI:=jA a L 0 s;have HR:As (cl a L 0 (s+1)=cl a L 0 s++[1]):=by rw[As,cl_succ,show yj a 0 (s:Int)=1 from rfl,sat_one];rfl
  go_wp2_with (at_builtin;go_must (refine jL rfl _ _ rfl w1.heap.size u7 _ (1:Int) rfl HO.out rfl (by omega) aO.out.size ?_);intro v' w2 cA nC aF)
  go_roundw
  case rel=>exact⟨s+1,by omega,by go_num,by rw[HR.out];exact cA,aO.out.trans aF⟩
  simp[Ar];omega
 case neg=>
 obtain rfl:s=a.sts.length:=by omega
 go_wp2_with fail
 go_loopw [7,9] (fun v i wr=>∃k:Nat,k<=K/\i=O U (k:Int)/\As (Own wr w1.heap.size v (cl a L k a.sts.length))/\As (Am w1.heap.size w1 wr)) (fun _ i _=>K-(Ar i).toNat)
 case atStart=>exact⟨0,by omega,rfl,HO,aO⟩
 obtain⟨k,hk,rfl,HO,aO⟩:=hrel
 by_cases hkK:k<K
 case neg=>
  obtain rfl:k=K:=by omega
  obtain⟨A,cap,hv,cG,iJ,hI⟩:=HO.out.form;subst hv;have rI:=jA a L k a.sts.length;obtain⟨b,o,rfl,iX,hc⟩:=hI (by omega);have c0:=hc 0 (by omega);rw[YF] at c0;rw[rI] at cG;rw[show((0:Nat):Int)=0 from rfl,Py] at c0;obtain⟨r,hr⟩:=Kj (xa L (yj a k 0));rw[hr] at c0;have HRr:=zH hr;go_wp2_with fail;go_ret;exact⟨zm (by rw[HRr.out]),bW.out.trans (aO.out.mono (by omega))⟩
 case pos=>
 obtain⟨A,cap,hv,cG,iJ,hI⟩:=HO.out.form;subst hv;have rI:=jA a L k a.sts.length;obtain⟨b0,o0,e0,N',hc⟩:=hI (by omega);subst e0;rw[rI] at cG;obtain⟨W2,dZ⟩:=Kj wr
 have HCS:As (∀X,Am W2.heap.size W2 X->∀j:Nat,j<a.sts.length->X.cell? ⟨b0,o0+j,Z⟩=J (O U ((xa L (yj a k (j:Int)):Nat):Int))):=fun X hX j hj=>by
  rw[<-dZ] at hX;have:=hc j (by omega);rw[YF] at this;exact(hX.cell (p:=⟨b0,_,Z⟩) N').trans this
 rw[dZ] at HO aO N' ⊢;have Tv:=aO.out.size;go_wp2_with fail;simp only[rI]
 go_loopw [10,11] (fun v i wx=>∃s:Nat,s<=a.sts.length/\i=O U (s:Int)/\As (Own wx W2.heap.size v (cl a L (k+1) s))/\As (Am W2.heap.size W2 wx)) (fun _ i _=>a.sts.length-(Ar i).toNat)
 case atStart=>exact⟨0,by omega,rfl,Own.nil _ _,Ll _ _⟩
 obtain⟨s,hs,rfl,HP,cd⟩:=hrel;have bz:=zH (aO.out.trans (cd.out.mono Tv));have bQ:=La bz.out cj.out;have q1:=zh bQ 1 rfl
 by_cases dR:s<a.sts.length
 case neg=>
  obtain rfl:s=a.sts.length:=by omega
  go_wp2_with fail
  go_roundw
  case rel=>exact⟨k+1,by omega,by go_num,HP.out.low Tv,bz⟩
  simp[Ar];omega
 case pos=>
 obtain⟨b,o,A',k',e',iX,c1,hM⟩:=(HS.out.keep bz.out).at_ s dR;subst e';have fN:=ru.out _ (Lh dR);have Tu:=sumTo_end a k dR;have RO:As (∀m∈a.sts[s],m∈a.mvs):=fun m hm=>NG.2 ⟨_,Lh dR,hm⟩
 have pc:=zH hM;obtain⟨M,hM0⟩:=Kj (a.sts[s]);rw[hM0] at c1 fN RO Tu pc;have sB:=zH Tu;have rF:=jA a L (k+1) s;go_wp2_with fail
 go_loop [12,13] (fun n i=>∃j:Nat,j<=M.length/\i=O U (j:Int)/\n=O U ((xa L (kZ a k M j):Nat):Int)) (fun _ i=>M.length-(Ar i).toNat)
 case atStart=>exact⟨0,by omega,rfl,by rw[sumTo_zero,QO];rfl⟩
 obtain⟨j,hj,rfl,rfl⟩:=hrel
 by_cases cc:j<M.length
 case neg=>
  obtain rfl:j=M.length:=by omega
  have HR:As (cl a L (k+1) (s+1)=cl a L (k+1) s++[((xa L (kZ a k M M.length):Nat):Int)]):=by rw[As,cl_succ,sB.out]
  obtain⟨r,hr⟩:=Kj (xa L (kZ a k M M.length));rw[hr] at HR ⊢;go_wp2_with (at_builtin;go_must (refine jL rfl _ _ rfl W2.heap.size u10 _ (r:Int) rfl HP.out rfl (by omega) cd.out.size ?_);intro v' w3 cA nC aF)
  go_roundw
  case rel=>exact⟨s+1,by omega,by go_num,by rw[HR.out];exact cA,cd.out.trans aF⟩
  simp[Ar];omega
 case pos=>
 obtain⟨b2,o2,e2,bE,_,_,_,_,_,_,_,d7⟩:=pc.out.row j cc;subst e2;obtain⟨_,_,z3,z4⟩:=HZ.out _ (RO.out _ (Lh cc));have sN:=sumTo_succ a k M cc;obtain⟨t,et⟩:=Lp z3;rw[et] at d7 sN z4;have lA:t<a.sts.length:=by omega
 have u0:=HCS.out _ cd.out t lA;have y1:=wk L (kZ a k M j);have y2:=wk L (yj a k (t:Int));have y3:=sat_add L (kZ a k M j) (yj a k (t:Int));rw[<-sN] at y3;obtain⟨n1,cZ⟩:=Kj (xa L (kZ a k M j));obtain⟨n2,BH⟩:=Kj (xa L (yj a k (t:Int)));rw[cZ] at y1 y3 ⊢;rw[BH] at y2 y3 u0;have HY3:=zH y3;go_wp2_with fail
 go_round
 case rel => 
  refine⟨j+1,by omega,by go_num,?_⟩;rw[<-HY3.out];exact congrArg (O U) (by first | (split<;>omega) | omega)
 simp[Ar];omega
theorem Xh(p:Pb)(hf:Qz p)(hz:zJ p.a p.a.sts=0)(h1:1<=p.a.sts.length)(K L:Nat)(hk:p.k=(K:Int))(hK:K<=6)(hL:L<=1048576)(A:Bb)(kc:Nat)(SV:Bb)(ks:Nat)(w:Ba)(hS:SAt w w.heap.size SV p.a.sts) :
  An Al 97 #[.agg (p.vs A kc SV ks),O U L] w fun e w'=>e=Ak (O U ((p.t.cases.length*xa L (yj p.a K 0):Nat):Int))/\Am w.heap.size w w':=by
 have st:=hf.1.1;have HN:=zH (fun (w':Ba) (h:SAt w' w'.heap.size SV p.a.sts)=>QR p.a hf.2 hz h1 K L hK hL SV ks w' h);have Cw:=wk L (yj p.a K 0);obtain⟨r,hr⟩:=Kj (xa L (yj p.a K 0));rw[hr] at HN Cw ⊢;unfold Pb.vs;rw[hk];obtain⟨w1,ab⟩:=Kj (w.alloc (Ag (p.vs A kc SV ks) 29));have bj:=zx w (Ag (p.vs A kc SV ks) 29);have aw:Am w.heap.size w w1:=by rw[<-ab];exact zW w _
 rw[ab] at bj;unfold Pb.vs at ab bj;rw[hk] at ab bj;have eh:w1.heap.size=w.heap.size+1:=by rw[<-ab];simp
 have bW:=zH aw;have HS:=zH ((hS.keep aw).more (by omega:w.heap.size<=w1.heap.size));have ag:=zH ab;have q3:=zh bj 3 rfl;have q4:=zh bj 4 rfl;have q5:=zh bj 5 rfl;have q6:=zh bj 6 rfl;obtain⟨cn,FP⟩:=Kj p.t.cases.length;rw[FP] at ag q3 st ⊢;have hm:cn*r<=30*1048577:=LU st (by omega);have hw:IntKind.i64.wrap ((cn:Int)*(r:Int))=((cn*r:Nat):Int):=by rw[Lo,<-Int.natCast_mul];omega
 go_enter func97,ntmps97;go_wp2_with fail;rw[ag.out];have ld:w.heap.size<w1.heap.size:=by omega
 have aS:As (∀X,Am w1.heap.size w1 X->X.cell? ⟨w.heap.size,3,Z⟩=J (I A cn kc)/\X.cell? ⟨w.heap.size,4,Z⟩=J (O U p.a.n)/\X.cell? ⟨w.heap.size,5,Z⟩=J (I SV p.a.sts.length ks)/\X.cell? ⟨w.heap.size,6,Z⟩=J (O U K)):=fun X hX=>
  ⟨(hX.cell (p:=⟨_,_,Z⟩) ld).trans q3,(hX.cell (p:=⟨_,_,Z⟩) ld).trans q4,(hX.cell (p:=⟨_,_,Z⟩) ld).trans q5,(hX.cell (p:=⟨_,_,Z⟩) ld).trans q6⟩
 have sA:As (∀X,Am w1.heap.size w1 X->SAt X X.heap.size SV p.a.sts):=fun X hX=>(HS.out.keep hX).more hX.size
 go_region_held3 (fun w'=>w'.cell? ⟨w.heap.size,3,Z⟩=J (I A cn kc)/\w'.cell? ⟨w.heap.size,4,Z⟩=J (O U p.a.n)/\w'.cell? ⟨w.heap.size,5,Z⟩=J (I SV p.a.sts.length ks)/\w'.cell? ⟨w.heap.size,6,Z⟩=J (O U K))
  (first | exact⟨q3,q4,q5,q6⟩ | exact aS.out _ (JR ak) | exact aS.out _ ak)
  ((go_at_call 136;refine(HN.out _ (sA.out _ (by repeat (first | exact Ll _ _ | refine Below.drew ?_ | refine yy ?_ _)))).mono ?_;rintro e w3 ⟨rfl,ak⟩))
 have rZ:=zH (bW.out.trans ((JR ak).mono (by have:w1.drew.heap.size=w1.heap.size:=rfl;omega)));go_wp2_with fail;go_ret;exact⟨zm (by first | rfl | rw[hw]),rZ.out⟩
def YV(p:Pb):Nat:=p.t.cases.length*xa 4096 (yj p.a p.k.toNat 0)
def YD(a:Ad):Bool:=decide (a.sts.length<=8)&&decide (a.mvs.length<=40)
def qf(p:Pb):Bool:=vc p.t&&YD p.a&&!(decide (3<p.t.n)&&decide (p.t.n<=5))&&(decide (zZ p≠0)||(decide (YV p<=60)||decide (4096<YV p)))
theorem fewPB_t{p:Pb}(h:vc p.t=Aw):qf p=Aw:=by unfold qf;rw[h];rfl
theorem fewPB_a{p:Pb}(h:YD p.a=Aw):qf p=Aw:=by unfold qf;rw[h];simp
theorem fewPB_n{p:Pb}(h:3<p.t.n)(h2:p.t.n<=5):qf p=Aw:=by unfold qf;rw[Lw h,Lw h2];simp
theorem fewPB_e{p:Pb}(h:vc p.t=Av)(h1:YD p.a=Av)(h2:¬(3<p.t.n/\p.t.n<=5))(h3:zZ p≠0):qf p=Av:=by
 unfold qf;have e:(decide (3<p.t.n)&&decide (p.t.n<=5))=Aw:=by simpa[Bool.and_eq_false_imp] using fun x=>by omega
 rw[h,h1,e,Lw h3];rfl
theorem fewPB_m{p:Pb}(h:vc p.t=Av)(h1:YD p.a=Av)(h2:¬(3<p.t.n/\p.t.n<=5))(h3:zZ p=0):qf p=(decide (YV p<=60)||decide (4096<YV p)):=by
 unfold qf;have e:(decide (3<p.t.n)&&decide (p.t.n<=5))=Aw:=by simpa[Bool.and_eq_false_imp] using fun x=>by omega
 rw[h,h1,e,h3];simp
theorem XE{a:Ad}:YD a=Av↔FewA a:=by unfold YD FewA;simp
theorem num_exec{p:Pb}(h:zZ p=0):(YV p<=60\/4096<YV p)->(yt p<=60\/4096<yt p):=by
 obtain⟨fE,_⟩:=yp h;obtain⟨h1,_⟩:=xj fE;intro hn;have e:yt p=p.t.cases.length*yj p.a p.k.toNat 0:=by unfold yt;rw[PM]
 have hm:=sat_mul 4096 p.t.cases.length (yj p.a p.k.toNat 0) h1;rw[e];rcases hn with hn | hn
 . left
   unfold YV at hn;have cG:xa 4096 (yj p.a p.k.toNat 0)<=60:=Lu (Nat.le_mul_of_pos_left _ h1) hn;have hx:yj p.a p.k.toNat 0<=4096:=by unfold xa at cG;omega
   rwa[sat_eq hx] at hn
 right;exact hm.1 hn
theorem few_x{p:Pb}(h:qf p=Av):yU p/\¬(3<p.t.n/\p.t.n<=5):=by
 unfold qf at h;simp only[Bool.and_eq_true,Bool.not_eq_true',Bool.or_eq_true,decide_eq_true_eq] at h;obtain⟨⟨⟨h1,h2⟩,h3⟩,h4⟩:=h;refine⟨⟨⟨JH.1 h1,XE.1 h2⟩,fun h0=>?_⟩,fun hn=>?_⟩
 . rcases h4 with h4 | h4
   . exact absurd h0 h4
   exact num_exec h0 h4
 rw[Lw hn.1,Lw hn.2] at h3
 cases h3
theorem few_any(p:Pb)(hl:Y0 p)(A:Bb)(kc:Nat)(SV:Bb)(ks:Nat)(w:Ba)(hA:CAt w w.heap.size A p.t.cases)(hS:SAt w w.heap.size SV p.a.sts) :
  An Al 54 #[.agg (p.vs A kc SV ks)] w fun e w'=>e=Ak (Ah (qf p))/\Am w.heap.size w w':=by
 have HT:=zH (fun (w':Ba) (h:CAt w' w'.heap.size A p.t.cases)=>rfewT_any p.t A kc hl.1.1 hl.1.2 w' h);have HD:=zH (fun (w':Ba) (h:SAt w' w'.heap.size SV p.a.sts)=>rfewA_any p.a SV ks hl.2.1 hl.2.2 w' h);have HC:=zH (fun (hf:Qz p) (w':Ba) (h1:CAt w' w'.heap.size A p.t.cases) (h2:SAt w' w'.heap.size SV p.a.sts)=>gL p hf A kc SV ks w' h1 h2);have ai:=zH (@fewPB_t p);have aj:=zH (@fewPB_a p);have ax:=zH (@fewPB_n p);have cK:=zH (@fewPB_e p);have fA:=zH (@fewPB_m p);obtain⟨R,Ek⟩:=Kj (qf p);rw[Ek] at ai aj ax cK fA ⊢;obtain⟨w1,ab⟩:=Kj (w.alloc (Ag (p.vs A kc SV ks) 29));have bj:=zx w (Ag (p.vs A kc SV ks) 29);have aw:Am w.heap.size w w1:=by rw[<-ab];exact zW w _
 have eh:w1.heap.size=w.heap.size+1:=by rw[<-ab];simp
 rw[ab] at bj
 have HN:=zH (fun (w':Ba) (hf:Qz p) (h0:zZ p=0) (h:SAt w' w'.heap.size SV p.a.sts)=>
  Xh p hf (xt hf.2 (yp h0).2.1).1 (xt hf.2 (yp h0).2.1).2.1 p.k.toNat 4096 (by have:=(yp h0).2.2.2.1;omega) (by have:=(yp h0).2.2.2.2;omega) (by decide) A kc SV ks w' h)
 unfold Pb.vs at ab bj ⊢;have cj:=zH bj;have bW:=zH aw;have HA:=zH ((hA.keep aw).more (by omega:w.heap.size<=w1.heap.size));have HS:=zH ((hS.keep aw).more (by omega:w.heap.size<=w1.heap.size));have ag:=zH ab;obtain⟨q0,q1,q2,q3,_⟩:=Ka bj;clear hA hS ab aw bj hl Ek;obtain⟨bT,hbT⟩:=Kj (vc p.t);obtain⟨bA,iK⟩:=Kj (YD p.a);have lW:As ((decide (p.a.sts.length<=8)&&decide (p.a.mvs.length<=40))=bA):=iK;rw[hbT] at HT ai cK fA;rw[iK] at aj cK fA;have GJ:=zH hbT;have Bg:=zH iK;clear hbT iK;go_enter func54,ntmps54;go_wp2_with fail;rw[ag.out];go_wp2_with fail;refine(HT.out w1 HA.out).mono ?_;rintro e w2 ⟨rfl,ae⟩;have B2:=zH (bW.out.trans (ae.mono (by omega)));have fX:=zH ((HS.out.keep ae).more ae.size);have Hk:=zH ((HA.out.keep ae).more ae.size);have bQ:=La ae cj.out;have au:=zH bQ;have cM:=ae.size;have q4:=zh bQ 4 rfl;have q5:=zh bQ 5 rfl;clear ae bQ HT ag q0 q1 q2 q3
 cases bT with
 | false=>
  have hR:=zH (ai.out rfl);clear ai aj ax cK fA HD;go_wp2_with fail;go_ret;exact⟨zy hR.out.symm,B2.out⟩
 | true=>
 clear ai;go_wp2_with fail;refine(HD.out w2 fX.out).mono ?_;rw[lW.out];rintro e w3 ⟨rfl,ak⟩;have B3:=zH (B2.out.trans (ak.mono (by omega)));have sC:=zH ((fX.out.keep ak).more ak.size);have pg:=zH ((Hk.out.keep ak).more ak.size);have bQ:=La ak au.out;have aC:=zH bQ;have cz:=ak.size;obtain⟨q0,q1,q2,q3,q4,q5,q6,_⟩:=Kg bQ;clear ak bQ HD
 cases bA with
 | false=>
  have hR:=zH (aj.out rfl);clear aj ax cK fA;go_wp2_with fail;go_ret;exact⟨zy hR.out.symm,B3.out⟩
 | true=>
 clear aj;have HFP:As (Qz p):=⟨JH.1 GJ.out,XE.1 Bg.out⟩;have F4:=zH (cK.out (by simp) (by simp));have F5:=zH (fA.out (by simp) (by simp));clear cK fA GJ Bg lW
 by_cases h3:3<p.t.n/\p.t.n<=5
 case pos=>
  have hR:=zH (ax.out h3.1 h3.2);obtain⟨h31,h32⟩:=h3;clear ax F4 F5;go_wp2_with fail
  all_goals first | (exfalso;omega) | skip
  all_goals
   go_ret;exact⟨zy hR.out.symm,B3.out⟩
 case neg=>
 have G4:=zH (F4.out h3);have G5:=zH (F5.out h3);clear ax F4 F5;obtain⟨E,hE⟩:=Kj (zZ p);rw[hE] at HC G4 G5;have Ca:=zH hE;clear hE;obtain⟨M,hM⟩:=Kj (p.t.cases.length*xa 4096 (yj p.a p.k.toNat 0));have pc:As (YV p=M):=hM;rw[hM] at HN;clear hM;have h35:¬(3<p.t.n)\/(3<p.t.n/\¬p.t.n<=5):=by omega
 clear h3;rcases h35 with h31 | ⟨h31,h32⟩
 all_goals
  go_wp2_with fail
  all_goals first | (exfalso;omega) | skip
  refine(HC.out HFP.out w3 pg.out sC.out).mono ?_;rintro e w4 ⟨rfl,aD⟩;have B4:=zH (B3.out.trans (aD.mono (by omega)));have Bd:=zH ((sC.out.keep aD).more aD.size);have bQ:=La aD aC.out;have iy:=aD.size;obtain⟨q0,q1,q2,q3,q4,q5,q6,_⟩:=Kg bQ;clear aD bQ HC
  by_cases h0:E=0
  case neg=>
   have hR:=zH (G4.out h0);have e0:(E != 0)=Av:=by simpa using h0
   clear G4 G5 h0 HN;go_wp2_with fail;go_ret;exact⟨zy hR.out.symm,B4.out⟩
  case pos=>
   subst h0;have hR:=zH (G5.out rfl);rw[pc.out] at hR;clear G4 G5;go_wp2_with fail;refine(HN.out w4 HFP.out Ca.out Bd.out).mono ?_;rintro e w5 ⟨rfl,am⟩;have B5:=zH (B4.out.trans (am.mono (by omega)));clear am HN pc q0 q1 q2 q3 q4 q5 q6
   by_cases hm:M<=60
   . have fd:As (R=Av):=hR.out.trans (by rw[Lw hm];rfl)
     clear hR;go_wp2_with fail
     all_goals first | (exfalso;omega) | skip
     go_ret;exact⟨zy fd.out.symm,B5.out⟩
   . have fd:As (R=decide (4096<M)):=hR.out.trans (by rw[Lv hm];rfl)
     clear hR;go_wp2_with fail
     all_goals first | (exfalso;omega) | skip
     go_ret;exact⟨zy (by rw[fd.out,Lv (show ¬((M:Int)<=60) by omega),R6];exact Qv (by omega)),B5.out⟩
def yc(s:Sy):Int:=if (zY s.p).2≠0 then (zY s.p).2 else if s=(zY s.p).1 then 0 else 3
theorem X4(p:Pb)(h:zZ p=0)(mG:yt p<=60):(zI p (zE p)).1.length<=2100/\(zI p (zE p)).2.length<=60:=by
 obtain⟨fE,_,_,dg,CK⟩:=yp h;obtain⟨h1,cZ,nd⟩:=xj fE
 have hl:p.t.cases.length*(zL p.a p.k.toNat 0).length<=60:=by
  rw[yK];unfold yt at mG;rw[PM];exact mG
 rw[X7 p];refine⟨ZZ p _ (by omega) (fun w hw=>?_) _ hl,?_⟩
 . rw[xy p.a _ 0 w hw];omega
 rw[qc,Zw];exact hl
theorem runW_mem(p:Pb)(l:List (Nat×List Rd)):∀x∈(zI p l).2,∃y∈l,∃vs,x=⟨y.1,y.2,(zC vs p.t.n.toNat (yA p y.1) y.2 y.2.length).2⟩:=by
 have key:∀n,n<=l.length->∀x∈(zI p (l.take n)).2,∃y∈l,∃vs,x=⟨y.1,y.2,(zC vs p.t.n.toNat (yA p y.1) y.2 y.2.length).2⟩:=by
  intro n
  induction n with
  | zero=>intro _ x hx;simp[jQ] at hx
  | succ n ih=>
   intro hl x hx;rw[Ls (by omega),qw] at hx;rcases LX.1 hx with hx | hx
   . exact ih (by omega) x hx
   . rw[LQ] at hx
     exact⟨l[n],Lh _,_,hx⟩
 have:=key l.length (Ld _);rwa[LK] at this
theorem QA:LowS qo:=⟨⟨⟨by decide,fun c h=>by simp[qo] at h⟩,by decide,fun c h=>by simp[qo] at h⟩,by decide,by decide,fun c h=>by simp[qo] at h⟩
theorem gc{p:Pb}(hp:Y0 p)(hf:yU p):LowS (zY p).1:=by
 by_cases h0:zZ p=0
 case neg=>rw[xn h0];exact QA
 case pos=>
 rcases hf.2 h0 with mG | mG
 case inr=>rw[xA h0 mG];exact QA
 case inl=>
 rw[qA h0 (by omega)];obtain⟨r1,r2⟩:=X4 p h0 mG;obtain⟨fE,_,_,dg,CK⟩:=yp h0;obtain⟨h1,cZ,nd⟩:=xj fE;refine⟨hp,by show(zI p (zE p)).1.length<=_;omega,by show(zI p (zE p)).2.length<=_;omega,fun x hx=>?_⟩;obtain⟨y,hy,vs,rfl⟩:=runW_mem p (zE p) x hx
 have lw:y.2.length<=6:=by
  unfold zE at hy;obtain⟨d,_,hy⟩:=Nw.1 hy;obtain⟨w',lZ,rfl⟩:=LS.1 hy;show w'.length<=6;rw[xy p.a _ 0 w' lZ];omega
 refine⟨by show y.2.length<=_;omega,?_,fun v hv=>?_⟩
 . show(zC vs p.t.n.toNat (yA p y.1) y.2 y.2.length).2.length<=_
   rw[yH];omega
 rw[ko _ _ _ _ _ v hv];omega
theorem vi(s:Sy)(hs:LowS s)(hf:yU s.p)(A SV AV AX:Bb)(kc ks kv kx:Nat)(w:Ba)(hS:SyAt w w.heap.size A SV AV AX s) :
  An Al 37 #[.agg (s.vs_ A kc SV ks AV kv AX kx)] w fun e w'=>e=Ak (O U (yc s))/\Am w.heap.size w w':=by
 obtain⟨w1,ab⟩:=Kj (w.alloc (Ag (s.vs_ A kc SV ks AV kv AX kx) 39));have bj:=zx w (Ag (s.vs_ A kc SV ks AV kv AX kx) 39);have aw:Am w.heap.size w w1:=by rw[<-ab];exact zW w _
 have eh:w1.heap.size=w.heap.size+1:=by rw[<-ab];simp
 rw[ab] at bj;have nh:=zH (hS.up aw);have HB:=zH (XN s.p hf A kc SV ks w1 (hS.up aw).fc (hS.up aw).fs);have pd:=zH (gc hs.fp hf);have UG:=zH hs;have Gw:As (yc s=if (zY s.p).2≠0 then (zY s.p).2 else if s=(zY s.p).1 then 0 else 3):=rfl
 have bU:=zH (fun (h:(zY s.p).2=0)=>(by
  by_cases h0:zZ s.p=0
  case neg=>rw[xn h0] at h;exact absurd h h0
  case pos=>
   by_cases h1:4096<yt s.p
   . rw[xA h0 h1] at h;cases h
   . rw[qA h0 (by omega)];exact⟨rfl,rfl⟩:(zY s.p).1.p=s.p/\(zY s.p).1.n=s.p.t.n))
 unfold Sy.vs_ at ab bj ⊢;unfold Pb.vs at HB;have ag:=zH ab;have cj:=zH bj;have bW:=zH aw;have p6:=zh bj 6 rfl;obtain⟨R,hR⟩:=Kj (zY s.p);rw[hR] at HB pd Gw bU;obtain⟨r,hr⟩:=Kj (yc s);rw[hr] at Gw ⊢;clear ab bj aw hS hs hf hR hr;go_enter func37,ntmps37;go_wp2_with fail;rw[ag.out];go_wp2_with fail;refine HB.out.mono ?_;rintro e w2 ⟨A2,fK,fR,fJ,Tf,KC,Te,KB,rfl,T7,Cu,Vm,ae⟩;obtain⟨T,E⟩:=R;obtain⟨W3,ii,b3,cz,aG⟩:=zn w2 (T.vs_ A2 fK fR fJ Tf KC Te KB) 39;have sC:=zH (T7.up aG);have aC:=zH (bW.out.trans ((Lc ae aG).mono (by omega)));have cM:=ae.size;have d0:=Lb aG (by omega:w.heap.size<w2.heap.size) (Lb ae (by omega:w.heap.size<w1.heap.size) cj.out);have O':=zH ((nh.out.up ae).up aG);unfold Sy.vs_ at ii b3 ⊢;have fy:=zH ii;have du:=zH d0;have od:=zH b3;clear ae T7 Cu Vm aG ii HB ag p6 nh cj;dsimp only at Gw bU pd sC;go_simp;rename_i pX;refine pX _ _ ?_;clear pX;refine Nu rfl fun K5 dt=>?_
 go_simp;refine dt _ _ ?_;clear dt K5;refine Nu rfl fun K5 dt=>?_
 go_simp;refine dt _ _ ?_;clear dt K5;refine Nu rfl fun K5 dt=>?_
 go_simp;refine dt _ _ ?_;clear dt K5;refine Nu rfl fun K5 dt=>?_
 go_simp;refine dt _ _ ?_;clear dt K5;refine Nu rfl fun K5 dt=>?_
 go_simp;rw[fy.out];refine dt _ _ ?_
 by_cases h0:E=0
 case neg=>
  have e0:(E != 0)=Av:=by simpa using h0
  have hR:As (r=E):=Gw.out.trans (Lj h0);clear Gw bU h0 d0 b3;go_wp2_with fail;go_ret;exact⟨zm hR.out.symm,aC.out⟩
 case pos=>
 subst h0;obtain⟨Ol,Om⟩:=bU.out rfl;have Io:r=if s=T then 0 else 3:=Gw.out.trans (Lg (by simp));have H3:As (s≠T->r=3):=fun h=>Io.trans (Lg h)
 have H0:As (s=T->r=0):=fun h=>Io.trans (Lj h)
 have HTP:=zH Ol;have Cf:=zH (@sy_eq s T);have x7:W3.cell? ⟨w.heap.size,7,Z⟩=J (O U s.n):=zh d0 7 rfl;have x8:W3.cell? ⟨w.heap.size,8,Z⟩=J (I AV s.vs.length kv):=zh d0 8 rfl;have y7:W3.cell? ⟨w2.heap.size,7,Z⟩=J (O U T.n):=zh b3 7 rfl;have y8:W3.cell? ⟨w2.heap.size,8,Z⟩=J (I Tf T.vs.length KC):=zh b3 8 rfl;have ID:=zH (eqV_any AV Tf kv KC s.vs T.vs W3 W3.heap.size (Ld _) O'.out.fv sC.out.fv UG.out.fv pd.out.fv);have B9:=zH (fun n=>eqX_any AX Te kx KB s.xs T.xs (W3.drewN n) O'.out.fx sC.out.fx (Lu UG.out.fx (by decide)) (Lu pd.out.fx (by decide)) UG.out.fe pd.out.fe);clear Ol Om Io Gw bU d0 b3 pd UG
 by_cases h1:s.n=T.n
 case neg=>
  have hR:=zH (H3.out (fun h=>h1 (congrArg Sy.n h)));have e0:(s.n != T.n)=Av:=by simpa using h1
  clear H3 H0 h1 ID B9 Cf;go_wp2_with fail
  all_goals
   go_ret;exact⟨zm hR.out.symm,aC.out⟩
 case pos=>
 have e0:(s.n != T.n)=Aw:=by simpa using h1
 have nj:=zH h1;go_wp2_with fail;refine ID.out.mono ?_;rintro e w4 ⟨rfl,n,rfl⟩;have x9:(W3.drewN n).cell? ⟨w.heap.size,9,Z⟩=J (I AX s.xs.length kx):=zh du.out 9 rfl;have y9:(W3.drewN n).cell? ⟨w2.heap.size,9,Z⟩=J (I Te T.xs.length KB):=zh od.out 9 rfl
 by_cases h2:s.vs=T.vs
 case neg=>
  have hR:=zH (H3.out (fun h=>h2 (congrArg Sy.vs h)));rw[Lv h2];go_wp2_with fail
  all_goals
   go_ret;exact⟨zm hR.out.symm,yy aC.out n⟩
 case pos=>
 rw[Lw h2];have HV2:=zH h2;go_wp2_with fail;refine(B9.out n).mono ?_;rintro e w5 ⟨rfl,am⟩;have B5:=zH (aC.out.trans ((yy (Ll W3.heap.size W3) n).trans am |>.mono (by omega)))
 by_cases h3:s.xs=T.xs
 case neg=>
  have hR:=zH (H3.out (fun h=>h3 (congrArg Sy.xs h)));rw[Lv h3];go_wp2_with fail
  all_goals
   go_ret;exact⟨zm hR.out.symm,B5.out⟩
 have hR:=zH (H0.out (Cf.out HTP.out.symm ⟨nj.out,HV2.out⟩ h3));rw[Lw h3];go_wp2_with fail
 all_goals
  go_ret;exact⟨zm hR.out.symm,B5.out⟩
end
section
def At(vs:List Vw)(i:Int)(v:Vw):Prop:=0<=i/\vs[i.toNat]?=J v
theorem At.mono{vs us:List Vw}{i:Int}{v:Vw}(h:At vs i v):At (vs++us) i v:=
 ⟨h.1,by rw[LC (Lq.1 h.2).1];exact h.2⟩
theorem At.lt{vs:List Vw}{i:Int}{v:Vw}(h:At vs i v):0<=i/\i<vs.length:=⟨h.1,by have:=(Lq.1 h.2).1;have:=h.1;omega⟩
theorem Q1(vs:List Vw)(v:Vw):∃us,(qd vs v).1=vs++us:=by
 unfold qd
 split
 . exact⟨[],by simp⟩
 exact⟨[v],rfl⟩
theorem putW_at(vs:List Vw)(v:Vw):At (qd vs v).1 (qd vs v).2 v:=by
 unfold qd
 split
 . rename_i h
   unfold kJ;rw[Lj h];refine⟨by omega,?_⟩;have h1:=List.idxOf_lt_length_of_mem h;show vs[((vs.idxOf v:Nat):Int).toNat]?=_;rw[Lm,Li h1,List.getElem_idxOf]
 refine⟨by omega,?_⟩;show(vs++[v])[((vs.length:Nat):Int).toNat]?=_;rw[Lm];simp
theorem putW_mem(vs:List Vw)(v:Vw):∀u∈(qd vs v).1,u∈vs\/u=v:=by
 unfold qd
 split
 . exact fun u h=>.inl h
 intro u h;rcases LX.1 h with h | h
 . exact .inl h
 exact .inr (LQ.1 h)
theorem putW_nodup{vs:List Vw}(v:Vw)(h:vs.Nodup):(qd vs v).1.Nodup:=by
 unfold qd
 split
 . exact h
 rename_i hn;exact List.nodup_append.2 ⟨h,by simp,fun a ha b hb=>by rw[LQ] at hb;subst hb;exact fun e=>hn (e▸ha)⟩
theorem ux(f:Nat->Vw)(vs:List Vw):∀p,∃us,(yx f vs p).1=vs++us
 | 0=>⟨[],by simp[yx]⟩
 | p+1=>by
  obtain⟨u1,h1⟩:=ux f vs p;obtain⟨u2,h2⟩:=Q1 (yx f vs p).1 (f p);exact⟨u1++u2,by rw[yx];dsimp only;rw[h2,h1,L6]⟩
theorem rowW_at(f:Nat->Vw)(vs:List Vw):∀n p,p<n->At (yx f vs n).1 ((yx f vs n).2.getD p 0) (f p)
 | n+1,p,h=>by
  rw[yx];dsimp only;have hl:=xI f vs n
  by_cases hp:p<n
  . rw[Lf,LC (by omega),<-Lf]
    obtain⟨u2,h2⟩:=Q1 (yx f vs n).1 (f n);rw[h2];exact(rowW_at f vs n p hp).mono
  . obtain rfl:p=n:=by omega
    rw[Lf,Ly (by omega),hl,Nq];exact putW_at _ _
theorem Z4(f:Nat->Vw)(vs:List Vw):∀n,∀u∈(yx f vs n).1,u∈vs\/∃p,p<n/\u=f p
 | 0,u,h=>.inl h
 | n+1,u,h=>by
  rw[yx] at h;rcases putW_mem _ _ u h with h | h
  . rcases Z4 f vs n u h with h | ⟨p,hp,e⟩
    . exact .inl h
    . exact .inr ⟨p,by omega,e⟩
  . exact .inr ⟨n,by omega,h⟩
theorem vW(f:Nat->Vw){vs:List Vw}(h:vs.Nodup):∀n,(yx f vs n).1.Nodup
 | 0=>h
 | n+1=>by rw[yx];exact putW_nodup _ (vW f h n)
def Z6(vs:List Vw)(n:Nat)(inp:List Int)(word:List Rd)(k:Nat):List Int:=(zC vs n inp word k).2.getD k []
def fV(vs:List Vw)(n:Nat)(inp:List Int)(word:List Rd):Nat->Nat->Vw
 | 0,p=>yR p (inp.getD p 0)
 | k+1,p=>qn (word.getD k default) (k+1) p (Z6 vs n inp word k)
section
variable (vs:List Vw) (n:Nat) (inp:List Int) (word:List Rd)
theorem wz:∀j,(∃us,(zC vs n inp word j).1=vs++us)/\∀k,k<=j->∃us,(zC vs n inp word j).1=(zC vs n inp word k).1++us
 | 0=>⟨by rw[zC];exact ux _ vs n,fun k hk=>⟨[],by obtain rfl:k=0:=(by omega);simp⟩⟩
 | j+1=>by
  obtain⟨⟨u1,h1⟩,h2⟩:=wz j;obtain⟨u3,h3⟩:=ux (fun p=>qn (word.getD j default) (j+1) p ((zC vs n inp word j).2.getD j [])) (zC vs n inp word j).1 n;have e:(zC vs n inp word (j+1)).1=(zC vs n inp word j).1++u3:=by rw[zC];exact h3
  refine⟨⟨u1++u3,by rw[e,h1,L6]⟩,fun k hk=>?_⟩
  by_cases Wh:k<=j
  . obtain⟨u4,h4⟩:=h2 k Wh
    exact⟨u4++u3,by rw[e,h4,L6]⟩
  . obtain rfl:k=j+1:=by omega
    exact⟨[],by simp⟩
theorem jx:∀j k,k<=j->(zC vs n inp word j).2.getD k []=Z6 vs n inp word k
 | 0,k,h=>by obtain rfl:k=0:=(by omega);rfl
 | j+1,k,h=>by
  by_cases Wh:k<=j
  . rw[<-jx j k Wh,zC,Lf,LC (by rw[yH];omega),<-Lf]
  . obtain rfl:k=j+1:=by omega
    rfl
theorem jR(k:Nat):(Z6 vs n inp word k).length=n:=by
 have h:k<(zC vs n inp word k).2.length:=by rw[yH];omega
 unfold Z6;rw[Lf,Li h];exact ko vs n inp word k _ (Lh h)
theorem rowK_eq:∀k,∃us,(zC vs n inp word k).1=(yx (fV vs n inp word k) us n).1/\Z6 vs n inp word k=(yx (fV vs n inp word k) us n).2
 | 0=>⟨vs,rfl,rfl⟩
 | k+1=>⟨(zC vs n inp word k).1,rfl,by
   unfold Z6;rw[zC,Lf,Ly (by rw[yH];omega),yH,Nq]
   rfl⟩
theorem Zv(j k p:Nat)(hk:k<=j)(hp:p<n):At (zC vs n inp word j).1 ((Z6 vs n inp word k).getD p 0) (fV vs n inp word k p):=by
 obtain⟨us,e1,e2⟩:=rowK_eq vs n inp word k;obtain⟨u4,h4⟩:=(wz vs n inp word j).2 k hk;rw[h4,e2,e1];exact(rowW_at _ us n p hp).mono
theorem Q4:∀j,∀u∈(zC vs n inp word j).1,u∈vs\/∃k p,k<=j/\p<n/\u=fV vs n inp word k p
 | 0,u,h=>by
  rw[zC] at h;rcases Z4 _ vs n u h with h | ⟨p,hp,e⟩
  . exact .inl h
  . exact .inr ⟨0,p,Ld _,hp,e⟩
 | j+1,u,h=>by
  rw[zC] at h;rcases Z4 _ _ n u h with h | ⟨p,hp,e⟩
  . rcases Q4 j u h with h | ⟨k,p,hk,hp,e⟩
    . exact .inl h
    . exact .inr ⟨k,p,by omega,hp,e⟩
  . exact .inr ⟨j+1,p,Ld _,hp,e⟩
theorem Ye(h:vs.Nodup):∀j,(zC vs n inp word j).1.Nodup
 | 0=>by rw[zC];exact vW _ h n
 | j+1=>by rw[zC];exact vW _ (Ye h j) n
end
structure XFin(p:Pb)(Hq:List Vw)(c:Nat)(word:List Rd)(x:Exn)(vs:List Vw):Prop where
 hc:x.c=(c:Int)
 hw:x.word=word
 hv:x.views=(zC vs p.t.n.toNat (yA p c) word word.length).2
 ht:∃us,Hq=(zC vs p.t.n.toNat (yA p c) word word.length).1++us
theorem QP(p:Pb)(l:List (Nat×List Rd)) :
  (∀i (h:i<l.length),∃x vs,(zI p l).2[i]?=J x/\XFin p (zI p l).1 l[i].1 l[i].2 x vs)/\(∀u∈(zI p l).1,∃y∈l,∃vs k q,k<=y.2.length/\q<p.t.n.toNat/\u=fV vs p.t.n.toNat (yA p y.1) y.2 k q/\∃us,(zI p l).1=(zC vs p.t.n.toNat (yA p y.1) y.2 y.2.length).1++us)/\(zI p l).1.Nodup:=by
 have key:∀n,n<=l.length ->
   (∀i (h:i<n) (hl:i<l.length),∃x vs,(zI p (l.take n)).2[i]?=J x/\XFin p (zI p (l.take n)).1 l[i].1 l[i].2 x vs)/\(∀u∈(zI p (l.take n)).1,∃y∈l,∃vs k q,k<=y.2.length/\q<p.t.n.toNat/\u=fV vs p.t.n.toNat (yA p y.1) y.2 k q/\∃us,(zI p (l.take n)).1=(zC vs p.t.n.toNat (yA p y.1) y.2 y.2.length).1++us)/\(zI p (l.take n)).1.Nodup:=by
  intro n
  induction n with
  | zero=>intro _;exact⟨fun i h=>absurd h (by omega),fun u h=>by simp[jQ] at h,by simp[jQ]⟩
  | succ n ih=>
   intro hn;obtain⟨h1,h2,h3⟩:=ih (by omega);have fj:n<l.length:=by omega
   have e:zI p (l.take (n+1))=((zC (zI p (l.take n)).1 p.t.n.toNat (yA p l[n].1) l[n].2 l[n].2.length).1,(zI p (l.take n)).2++[⟨l[n].1,l[n].2,(zC (zI p (l.take n)).1 p.t.n.toNat (yA p l[n].1) l[n].2 l[n].2.length).2⟩]):=by
    rw[Ls fj,qw]
   obtain⟨⟨u0,Hw⟩,_⟩:=wz (zI p (l.take n)).1 p.t.n.toNat (yA p l[n].1) l[n].2 l[n].2.length;have ay:(zI p (l.take n)).2.length=n:=by rw[qc,PV];omega
   rw[e];dsimp only;refine⟨fun i hi hl=>?_,fun u hu=>?_,Ye _ _ _ _ h3 _⟩
   . by_cases cx:i<n
     . obtain⟨x,vs,hx,⟨a,b,c,⟨us,lz⟩⟩⟩:=h1 i cx hl
       refine⟨x,vs,by rw[LC (by omega)];exact hx,a,b,c,us++u0,?_⟩;rw[Hw,lz,L6]
     . obtain rfl:i=n:=by omega
       refine⟨_,(zI p (l.take i)).1,by rw[Ly (by omega),ay,Nq];rfl,rfl,rfl,rfl,[],by simp⟩
   . rcases Q4 _ _ _ _ _ u hu with h | ⟨k,q,hk,hq,eu⟩
     . obtain⟨y,hy,vs,k,q,a,b,c,us,lz⟩:=h2 u h
       exact⟨y,hy,vs,k,q,a,b,c,us++u0,by rw[Hw,lz,L6]⟩
     . exact⟨l[n],Lh _,(zI p (l.take n)).1,k,q,hk,hq,eu,[],by simp⟩
 have h:=key l.length (Ld _);rw[LK] at h;exact⟨fun i hi=>h.1 i hi hi,h.2⟩
theorem own_bit{r:Rd}(h:yN r=0)(p:Nat)(hp:(p:Int)<r.n):(r.h p).toNat.testBit p=Av:=by
 unfold yN at h
 split at h
 . cases h
 rename_i hn
 have key:∀k,k<=5->yJ r (5-k) k=0->∀q,k<=q->q<5->xE r.n q (r.h q)=0:=by
  intro k hk
  induction hm:5-k generalizing k with
  | zero=>intro _ q h1 h2;omega
  | succ m ih=>
   intro hz q h1 h2;unfold yJ at hz
   split at hz
   . rename_i az;exact absurd hz az
   . rename_i az
     by_cases e:q=k
     . subst e;simpa using az
     . exact ih (k+1) (by omega) (by omega) hz q (by omega) h2
 have h1:=key 0 (by omega) h p (by omega) (by omega);unfold xE at h1;rw[Lg (by omega)] at h1
 split at h1
 . cases h1
 split at h1
 . assumption
 cases h1
theorem uv(r:Rd)(k p:Nat)(now:List Int)(q:Nat)(hq:q<5):(qn r k p now).h q=yh r p now q:=by
 match q,hq with
 | 0,_=>rfl
 | 1,_=>rfl
 | 2,_=>rfl
 | 3,_=>rfl
 | 4,_=>rfl
structure Fine(s:Sy)(K N:Nat):Prop where
 n:s.n=(N:Int)
 pn:s.p.t.n=(N:Int)
 k:s.p.k=(K:Int)
 n1:1<=N
 n5:N<=5
 k6:K<=6
 lv:s.vs.length<=2100
 lx:s.xs.length<=60
 word:∀x∈s.xs,x.word.length=K/\∀r∈x.word,yu r=0/\r.n=(N:Int)
 views:∀x∈s.xs,x.views.length=K+1/\∀l∈x.views,l.length=N/\∀i∈l,0<=i/\i<s.vs.length
 vs:∀v∈s.vs,(∃q:Nat,v.p=(q:Int)/\q<N)/\(∃r:Nat,v.r=(r:Int)/\r<=K)/\(0<v.r->∃u,At s.vs (v.h v.p.toNat) u/\u.p=v.p/\u.r=v.r-1)
theorem built_fine{p:Pb}(hf:yU p)(h0:zZ p=0)(mG:yt p<=60):∃K N,Fine (qM p) K N:=by
 obtain⟨fE,sT,nx,dg,CK⟩:=yp h0;obtain⟨h1,cZ,nd⟩:=xj fE;obtain⟨r1,r2⟩:=X4 p h0 mG;obtain⟨K,hK⟩:=Lp dg;obtain⟨N,hN⟩:=Lp (show 0<=p.t.n by omega);have hNN:p.t.n.toNat=N:=by omega
 obtain⟨f1,f2,f3⟩:=QP p (zE p)
 have fa:∀y∈zE p,y.2.length=K/\∀r∈y.2,yu r=0/\r.n=(N:Int):=fun y hy=>by
  unfold zE at hy;obtain⟨d,_,hy⟩:=Nw.1 hy;obtain⟨w',lZ,rfl⟩:=LS.1 hy;refine⟨by show w'.length=K;rw[xy p.a _ 0 w' lZ];omega,fun r hr=>?_⟩;obtain⟨m,hm,rfl⟩:=ju p.a _ 0 w' lZ r hr;obtain⟨z1,z2,_⟩:=xL (xt hf.1.2 sT).1 m hm;exact⟨z1,by rw[z2,<-nx,hN]⟩
 have hx:∀x∈(zI p (zE p)).2,∃y∈zE p,∃vs,XFin p (zI p (zE p)).1 y.1 y.2 x vs:=fun x hx=>by
  obtain⟨i,hi,e⟩:=LT hx;rw[qc] at hi;obtain⟨x',vs,Hu,hh⟩:=f1 i hi
  have:x=x':=by
   rw[Li (by rw[qc];exact hi),e] at Hu;exact NS Hu
  subst this;exact⟨_,Lh hi,vs,hh⟩
 refine⟨K,N,hN,hN,hK,by omega,by omega,by omega,r1,r2,fun x hm=>?_,fun x hm=>?_,fun v hv=>?_⟩
 . obtain⟨y,hy,vs,hh⟩:=hx x hm
   rw[hh.hw];exact fa y hy
 . obtain⟨y,hy,vs,hh⟩:=hx x hm
   obtain⟨lw,_⟩:=fa y hy;rw[hh.hv];refine⟨by rw[yH,lw],fun l hl=>?_⟩;obtain⟨k,hk,rfl⟩:=LT hl;rw[yH] at hk
   have e:(zC vs p.t.n.toNat (yA p y.1) y.2 y.2.length).2[k]'(by rw[yH];exact hk)=Z6 vs p.t.n.toNat (yA p y.1) y.2 k:=by
    rw[<-jx vs p.t.n.toNat (yA p y.1) y.2 y.2.length k (by omega),Lf,Li (by rw[yH];exact hk)];rfl
   rw[e];refine⟨by rw[jR,hNN],fun i hi=>?_⟩;obtain⟨q,hq,rfl⟩:=LT hi;rw[jR] at hq;have ha:=Zv vs p.t.n.toNat (yA p y.1) y.2 y.2.length k q (by omega) hq;obtain⟨us,lz⟩:=hh.ht;have hb:=(ha.mono (us:=us));rw[<-lz,Lf,Li (by rw[jR];exact hq)] at hb;exact hb.lt
 obtain⟨y,hy,vs,k,q,hk,hq,rfl,us,lz⟩:=f2 v hv;obtain⟨lw,KF⟩:=fa y hy
 cases k with
 | zero=>exact⟨⟨q,rfl,by omega⟩,⟨0,rfl,by omega⟩,fun h=>absurd h (by show ¬((0:Int)<0);omega)⟩
 | succ k=>
  refine⟨⟨q,rfl,by omega⟩,⟨k+1,rfl,by omega⟩,fun _=>⟨fV vs p.t.n.toNat (yA p y.1) y.2 k q,?_,?_,?_⟩⟩
  . have cJ:k<y.2.length:=by omega
    have hg:y.2.getD k default=y.2[k]:=by rw[Lf,Li cJ];rfl
    have rC:=KF _ (Lh cJ);have hb:=own_bit (kh rC.1).2.2.1 q (by rw[rC.2];omega)
    have e:(fV vs p.t.n.toNat (yA p y.1) y.2 (k+1) q).h ((fV vs p.t.n.toNat (yA p y.1) y.2 (k+1) q).p.toNat)=(Z6 vs p.t.n.toNat (yA p y.1) y.2 k).getD q 0:=by
     show(qn (y.2.getD k default) (k+1) q (Z6 vs p.t.n.toNat (yA p y.1) y.2 k)).h ((q:Int).toNat)=_;rw[Lm,uv _ _ _ _ _ (by omega),hg];unfold yh;rw[Lj ⟨by rw[jR];exact hq,hb⟩]
    rw[e];show At (zI p (zE p)).1 _ _;rw[lz];exact(Zv vs p.t.n.toNat (yA p y.1) y.2 y.2.length k q (by omega) hq).mono
  . cases k<;>rfl
  . cases k with
    | zero=>show(0:Int)=((0+1:Nat):Int)-1;rfl
    | succ k=>show((k+1:Nat):Int)=((k+1+1:Nat):Int)-1;omega
end
section
open Go.RowKit Go.Shelf
attribute [local go_sem] Oper.semAt_some
def RetBt(p:Pb)(A:Bb)(kc:Nat)(SV:Bb)(ks:Nat)(w:Ba)(e:Ending)(w':Ba):Prop:=
 ∃AV kv AE ke,e=Ak (Ai #[O U p.t.n,O U p.t.ins,O U p.t.outs,I A p.t.cases.length kc,O U p.a.n,I SV p.a.sts.length ks,O U p.k,O U p.t.n,.slice AV (zI p (zE p)).1.length kv,.slice AE (zI p (zE p)).2.length ke]) /\
  OwnV w' w.heap.size (.slice AV (zI p (zE p)).1.length kv) (zI p (zE p)).1/\OwnX Qw (fun k=>w.heap.size<=k) w' w.heap.size (.slice AE (zI p (zE p)).2.length ke) (zI p (zE p)).2/\Am w.heap.size w w'
theorem built_any(p:Pb)(hf:yU p)(lD:zZ p=0)(mG:yt p<=60)(A:Bb)(kc:Nat)(SV:Bb)(ks:Nat)(w:Ba)(hA:CAt w w.heap.size A p.t.cases)(hS:SAt w w.heap.size SV p.a.sts) :
  An Al 98 #[.agg (p.vs A kc SV ks)] w (RetBt p A kc SV ks w):=by
 obtain⟨fE,sT,nx,tJ,Fo⟩:=yp lD;obtain⟨K,hK⟩:=Lp tJ;obtain⟨sr,cZ,nd⟩:=xj fE;have OE:K<=6:=by omega
 have sq:yt p=yj p.a K 0*p.t.cases.length:=by unfold yt;rw[hK];rfl
 have FO:yj p.a K 0<=60:=by
  have:=RD (yj p.a K 0) sr;omega
 obtain⟨hz,av⟩:zJ p.a p.a.sts=0/\1<=p.a.sts.length:=⟨(xt hf.1.2 sT).1,(xt hf.1.2 sT).2.1⟩;obtain⟨N,hN⟩:=Lp (show 0<=p.t.n by omega);have mQ:=zH hf;have Bg:=zH sT;have lQ:=zH nx;have HTI:=zH (ZQ fE);obtain⟨w1,ab,d0,d1,d2,aP,lj⟩:=jv w (p.vs A kc SV ks) #[O U 0,O U 0,O U 0,I Z 0 0,O U 0,I Z 0 0,O U 0,O U 0,I Z 0 0,I Z 0 0] #[O U p.t.n,O U p.t.ins,O U p.t.outs,I A p.t.cases.length kc,O U p.a.n,I SV p.a.sts.length ks,O U p.k,O U p.t.n,I Z 0 0,I Z 0 0] 29 39 39;have Iv:=XC p.a SV ks hz hf.1.2 K OE 0 w1 (by by_cases h:K=0;exact .inl h;exact .inr ⟨by omega,by omega⟩) (by rw[yK];omega) ((hS.keep lj).more lj.size);have HFR:=zH Iv;have HA:=zH hA;have HS:=zH hS;have ec:=zH lj;have du:=zH d0;have cy:=zH d1;have ff:=zH d2;have ag:=zH ab;have pf:=zH hK;have dM:=zH hN;have SO:=zH sq;have H60:=zH mG;have HCS:=zH sr;have OC:1<=N/\N<=5:=by omega
 clear ab d0 d1 d2 lj hA hS hf hK hN sq mG lD fE sT nx tJ Fo cZ nd hz av Iv sr;unfold Pb.vs at ag du ⊢;go_enter func98,ntmps98;go_wp2_with fail;rw[ag.out];have Iv:=HFR.out;unfold jt at HFR;rw[<-pf.out] at Iv;refine Iv.mono ?_;rintro e wr ⟨v,rfl,hW,hb⟩;have bz:=ec.out.size;obtain⟨ac,ly⟩:=Kj (zL p.a K 0);rw[ly] at hW;obtain⟨AW,cw,rfl,hWD⟩:=WdsAt.of (bs:=w.heap.size+1+1) hW (by omega) rfl;obtain⟨SC,F8⟩:∃SC:Au->Au->Array Au,SC=fun V E=>#[O U p.t.n,O U p.t.ins,O U p.t.outs,I A p.t.cases.length kc,O U p.a.n,I SV p.a.sts.length ks,O U p.k,O U p.t.n,V,E]:=⟨_,rfl⟩
 obtain⟨WR,rfl⟩:∃x,x=wr:=⟨_,rfl⟩;obtain⟨D,hD⟩:∃D,D=WR.heap.size:=⟨_,rfl⟩;have hDb:w.heap.size+3<=D:=by have:=hb.size;omega
 have H0:As (Bt D (w.heap.size+1+1) SC WR [] [] (I Z 0 0) (I Z 0 0) WR):=
  ⟨Wrote.refl _ _,by omega,by omega,by omega,by rw[F8];exact Lb hb (by omega) ff.out,OwnV.nil _ _,OwnX.nil _ _ _ _,fun k e=>(by cases e)⟩
 have ti:As (WR.heap[w.heap.size]?=J (Ag #[O U p.t.n,O U p.t.ins,O U p.t.outs,I A p.t.cases.length kc,O U p.a.n,I SV p.a.sts.length ks,O U p.k] 29 (0,0))):=Lb hb (by omega) du.out;have HP1:As (WR.heap[w.heap.size+1]?=J (Ag #[O U 0,O U 0,O U 0,I Z 0 0,O U 0,I Z 0 0,O U 0,O U 0,I Z 0 0,I Z 0 0] 39 (0,0))):=Lb hb (by omega) cy.out;have UU:As (Am w.heap.size w WR):=ec.out.trans (hb.mono (by omega));have Uy:=zH hWD;rw[<-hD] at Uy;have tf:=zH F8;have oX:=zH ly;have lq:=zH hD;have st:p.t.cases.length<=30:=mQ.out.1.1.1;have mU:ac.length<=60:=by rw[<-ly,yK];exact FO
 have Ev:As (∀x∈ac,x.length<=6):=fun x hx=>by rw[<-ly] at hx;rw[xy p.a K 0 x hx];exact OE
 clear hW hb F8 ly hD hWD du cy ff ag ec HFR Iv bz aP;go_wp2_with fail
 go_loopw [5] (fun i wx=>∃(c:Nat) (V E:Au),c<=p.t.cases.length/\i=O U (c:Int)/\As (Bt D (w.heap.size+1+1) SC WR (zI p (pcs ac c)).1 (zI p (pcs ac c)).2 V E wx)) (fun i _=>p.t.cases.length-(Ar i).toNat)
 case atStart=>exact⟨0,_,_,by omega,rfl,H0.out⟩
 clear H0;obtain⟨c,V0,E0,hc,rfl,ir⟩:=hrel;have hbig:=ir.out.big;have ix:∀k,k<D->k≠w.heap.size+1+1->wr.heap[k]?=WR.heap[k]?:=fun k h1 h2=>ir.out.wr.block k (by have:=lq.out;omega) h2
 have P0:=(ix _ (by omega) (by omega)).trans ti.out;have p0:wr.cell? ⟨w.heap.size,0,Z⟩=J (O U p.t.n):=zh P0 0 rfl;have p3:wr.cell? ⟨w.heap.size,3,Z⟩=J (I A p.t.cases.length kc):=zh P0 3 rfl;have p6:wr.cell? ⟨w.heap.size,6,Z⟩=J (O U p.k):=zh P0 6 rfl
 by_cases WV:c<p.t.cases.length
 case neg=>
  obtain rfl:c=p.t.cases.length:=by omega
  have M7:p.t.cases.length*ac.length<=60:=by have h1:=SO.out;have h2:=H60.out;have h3:=congrArg List.length oX.out;rw[yK] at h3;rw[h3,PM] at h1;omega
  obtain⟨AV,kv,rfl,_⟩:=ir.out.tb.form (by have:=ZZ p ac (by have:=dM.out;omega) Ev.out p.t.cases.length M7;omega);obtain⟨AE,ke,rfl,_,_,_⟩:=ir.out.out.form zX;have bJ:=(ix (w.heap.size+1) (by omega) (by omega)).trans HP1.out;have bn:=ir.out.sys;rw[tf.out] at bn;have s0:wr.cell? ⟨w.heap.size+1+1,0,Z⟩=J (O U p.t.n):=zh bn 0 rfl;have s1:wr.cell? ⟨w.heap.size+1+1,1,Z⟩=J (O U p.t.ins):=zh bn 1 rfl;have s2:wr.cell? ⟨w.heap.size+1+1,2,Z⟩=J (O U p.t.outs):=zh bn 2 rfl;have s3:wr.cell? ⟨w.heap.size+1+1,3,Z⟩=J (I A p.t.cases.length kc):=zh bn 3 rfl;have s4:wr.cell? ⟨w.heap.size+1+1,4,Z⟩=J (O U p.a.n):=zh bn 4 rfl;have s5:wr.cell? ⟨w.heap.size+1+1,5,Z⟩=J (I SV p.a.sts.length ks):=zh bn 5 rfl;have s6:wr.cell? ⟨w.heap.size+1+1,6,Z⟩=J (O U p.k):=zh bn 6 rfl;have s7:wr.cell? ⟨w.heap.size+1+1,7,Z⟩=J (O U p.t.n):=zh bn 7 rfl;have s8:wr.cell? ⟨w.heap.size+1+1,8,Z⟩=J (.slice AV (zI p (pcs ac p.t.cases.length)).1.length kv):=zh bn 8 rfl;have s9:wr.cell? ⟨w.heap.size+1+1,9,Z⟩=J (.slice AE (zI p (pcs ac p.t.cases.length)).2.length ke):=zh bn 9 rfl;have y0:wr.cell? ⟨w.heap.size+1,0,Z⟩=J (O U 0):=zh bJ 0 rfl;have f0:=zi bJ 0;have y1:wr.cell? ⟨w.heap.size+1,1,Z⟩=J (O U 0):=zh bJ 1 rfl;have f1:=zi bJ 1;have y2:wr.cell? ⟨w.heap.size+1,2,Z⟩=J (O U 0):=zh bJ 2 rfl;have f2:=zi bJ 2
  have y3:wr.cell? ⟨w.heap.size+1,3,Z⟩=J (I Z 0 0):=zh bJ 3 rfl;have f3:=zi bJ 3;have y4:wr.cell? ⟨w.heap.size+1,4,Z⟩=J (O U 0):=zh bJ 4 rfl;have f4:=zi bJ 4;have y5:wr.cell? ⟨w.heap.size+1,5,Z⟩=J (I Z 0 0):=zh bJ 5 rfl;have f5:=zi bJ 5;have y6:wr.cell? ⟨w.heap.size+1,6,Z⟩=J (O U 0):=zh bJ 6 rfl;have f6:=zi bJ 6;have y7:wr.cell? ⟨w.heap.size+1,7,Z⟩=J (O U 0):=zh bJ 7 rfl;have f7:=zi bJ 7;have y8:wr.cell? ⟨w.heap.size+1,8,Z⟩=J (I Z 0 0):=zh bJ 8 rfl;have f8:=zi bJ 8;have y9:wr.cell? ⟨w.heap.size+1,9,Z⟩=J (I Z 0 0):=zh bJ 9 rfl;have f9:=zi bJ 9;have Bo:=zH ir.out;have aY:Am w.heap.size w wr:=UU.out.trans (ir.out.wr.below (by have:=UU.out.size;omega) (fun k h1 h2=>by have h3:k=w.heap.size+1+1:=h2;omega));obtain⟨k1,k2,k3,k4,k5⟩:=kK (O U p.t.n) (O U p.t.ins) (O U p.t.outs) (I A p.t.cases.length kc) (O U p.a.n) (I SV p.a.sts.length ks) (O U p.k) (O U p.t.n) (.slice AV (zI p (pcs ac p.t.cases.length)).1.length kv) (.slice AE (zI p (pcs ac p.t.cases.length)).2.length ke) bJ aY (by omega:w.heap.size<=w.heap.size+1)
  obtain⟨WF,dP⟩:=Kj (((((((((((wr.setCell ⟨w.heap.size+1,0,Z⟩ (O U p.t.n)).setCell ⟨w.heap.size+1,1,Z⟩ (O U p.t.ins)).setCell ⟨w.heap.size+1,2,Z⟩ (O U p.t.outs)).setCell ⟨w.heap.size+1,3,Z⟩ (I A p.t.cases.length kc)).setCell ⟨w.heap.size+1,4,Z⟩ (O U p.a.n)).setCell ⟨w.heap.size+1,5,Z⟩ (I SV p.a.sts.length ks)).setCell ⟨w.heap.size+1,6,Z⟩ (O U p.k)).setCell ⟨w.heap.size+1,7,Z⟩ (O U p.t.n)).setCell ⟨w.heap.size+1,8,Z⟩ (.slice AV (zI p (pcs ac p.t.cases.length)).1.length kv)).setCell ⟨w.heap.size+1,9,Z⟩ (.slice AE (zI p (pcs ac p.t.cases.length)).2.length ke)));rw[dP] at k1 k2 k3 k4 k5;have K1:=zH k1;have K2:=zH k2;have K4:=zH k4;have K5:=zH k5;have Dc:=zH dP;clear bJ bn P0 aY k1 k2 k3 k4 k5 dP;go_wp2_with fail;rw[Dc.out];obtain⟨z0,z1,z2,z3,z4,z5,z6,z7,z8,z9⟩:=zM K1.out;refine LP (v:=Ai #[O U p.t.n,O U p.t.ins,O U p.t.outs,I A p.t.cases.length kc,O U p.a.n,I SV p.a.sts.length ks,O U p.k,O U p.t.n,.slice AV (zI p (pcs ac p.t.cases.length)).1.length kv,.slice AE (zI p (pcs ac p.t.cases.length)).2.length ke]) (by simp[results,results98,go_sem,z0,z1,z2,z3,z4,z5,z6,z7,z8,z9]) rfl ?_;have lD:zE p=pcs ac p.t.cases.length:=by rw[X7,<-oX.out,show p.k.toNat=K by have:=pf.out;omega]
  unfold RetBt;rw[lD];have bz:=Bo.out.big;refine⟨AV,kv,AE,ke,rfl,?_,?_,K2.out⟩
  . exact(Bo.out.tb.of_same fun k hk=>K4.out k (by have:=(Bo.out.tb.lt' k hk).1;omega)).low (by omega)
  exact(OwnX.mono zX (Bo.out.out.keep zX ⟨by have:=K5.out;omega,fun k hs _=>K4.out k (by omega)⟩ fun k hk=>K4.out k (by have:=(Bo.out.out.lt k hk).1;omega)) fun k _ hs=>(by omega)).low (by omega)
 have hc1:(c:Int)<(p.t.cases.length:Int):=by omega
 have HSM:=zH ix;clear ix P0;go_wp2_with fail;obtain⟨wo,rfl⟩:∃x,x=wr:=⟨_,rfl⟩
 go_loopw [6] (fun i wx=>∃(j:Nat) (V E:Au),j<=ac.length/\i=O U (j:Int)/\As (Bt D (w.heap.size+1+1) SC WR (zI p (pcw ac c j)).1 (zI p (pcw ac c j)).2 V E wx)) (fun i _=>ac.length-(Ar i).toNat)
 case atStart=>exact⟨0,V0,E0,by omega,rfl,by rw[Q7];exact ir.out⟩
 obtain⟨j,V1,E1,hj,rfl,ib⟩:=hrel
 by_cases Wo:j<ac.length
 case neg=>
  obtain rfl:j=ac.length:=by omega
  have HBe:=zH (by have h:=ib.out;rw[pcw_end] at h;exact h);clear ib;go_wp2_with fail
  go_roundw
  case rel=>exact⟨c+1,V1,E1,by omega,by go_num,HBe.out⟩
  simp[Ar];omega
 obtain⟨gw,A2,c2,eAW,nC,fm,Il,fd,sL⟩:=Uy.out j Wo;subst eAW;have hKp:KeepB (fun k=>k<D/\k≠w.heap.size+1+1) WR wr:=ib.out.wr.keep fun k _ hs=>hs.2
 have DF:wr.cell? ⟨gw,j,Z⟩=J (I A2 ac[j].length c2):=qX hKp ⟨fm,by omega⟩ Il
 have eZ:c*ac.length+j<60:=by
  have h1:=SO.out;have h2:=H60.out;have h3:=congrArg List.length oX.out;rw[yK] at h3;rw[h3,PM] at h1;have h4:=RQ ac.length (show c+1<=p.t.cases.length by omega);rw[Nat.succ_mul] at h4;omega
 obtain⟨Vp,oH⟩:=Xg p ac (by have:=dM.out;omega) Ev.out c j (by omega) (by omega);have oN:=qw p (pcw ac c j) (c,ac[j]);rw[<-pcw_succ ac c j Wo] at oN;obtain⟨word,mT⟩:=Kj (ac[j]);rw[mT] at DF fd oN Il sL;have oI:word∈zL p.a K 0:=by rw[oX.out,<-mT];exact Lh Wo
 have ns:=xy p.a K 0 word oI
 have Dc:As (∀r∈word,yu r=0/\r.n=(N:Int)):=fun r hr=>by
  obtain⟨m,hm,rfl⟩:=ju p.a K 0 word oI r hr;obtain⟨z1,z2,_⟩:=xL (xt mQ.out.1.2 Bg.out).1 m hm;exact⟨z1,by rw[z2,<-lQ.out,dM.out]⟩
 obtain⟨AE,ke,rfl,_,_,_⟩:=ib.out.out.form zX;obtain⟨pi,E8⟩:=Kj ((zI p (pcw ac c j)).1);obtain⟨sK,EX⟩:=Kj ((zI p (pcw ac c j)).2);rw[E8,EX] at oN ib;rw[E8] at Vp;rw[EX] at oH;have tS:yA p c=p.t.cases[c].inp:=by unfold yA;rw[Lf,Li WV];rfl
 have Pa:As (zI p (pcw ac c (j+1))=((stQ pi N p.t.cases[c].inp word (K+1)).1,sK++[⟨(c:Int),word,(stQ pi N p.t.cases[c].inp word (K+1)).2⟩])):=by
  rw[oN];show(_,_)=_;rw[tS,ns,show p.t.n.toNat=N by have:=dM.out;omega]
  rfl
 obtain⟨bc,oc,A0,c0,A1',c1',A2',c2',eA,hbcl,FQ,_,_,hIn,_,_⟩:=HA.out.row c WV;subst eA;have FE:p.t.cases[c].inp.length=N:=by have h1:=HTI.out _ (Lh WV);have:=dM.out;omega
 obtain⟨inp,DX⟩:=Kj (p.t.cases[c].inp);rw[DX] at FQ hIn Pa FE;have mP:=zH hIn;have tn:=zH Il;have HC0:=zH FQ;have dk:=zH fd;have AS:=zH sL;clear sL;have HIL:=zH FE;have pz:As (sK.length<60):=by show sK.length<60;omega
 have O6:=zH Vp;have O3:=zH ns;have BK:(j:Int)<(ac.length:Int):=by omega
 have hgwl:gw<wr.heap.size:=by have:=ib.out.big;omega
 clear FE DX oN tS hIn FQ fd Il hKp E8 EX mT oI oH Vp ns;go_wp2_with fail;clear DF;obtain⟨W1,dj,x1,av,aV⟩:=zn wr #[O U c,I A2 word.length c2,I Z 0 0] 128;rw[dj];have EC:As (Bq D (w.heap.size+1+1) wr.heap.size SC WR c (I A2 word.length c2) pi sK [] [] V1 (I AE sK.length ke) (I Z 0 0) (I Z 0 0) W1):=Bt.start ib.out aV x1;clear dj x1 av aV ib;obtain⟨bx,cd⟩:∃bx,bx=wr.heap.size:=⟨_,rfl⟩;rw[<-cd] at EC ⊢;clear cd
 go_loopw [8] (fun i wx=>∃(k:Nat) (V Y:Au),k<=K+1/\i=O U (k:Int)/\As (Bq D (w.heap.size+1+1) bx SC WR c (I A2 word.length c2) (stQ pi N inp word k).1 sK (stQ pi N inp word k).2 [] V (I AE sK.length ke) Y (I Z 0 0) wx)) (fun i _=>K+1-(Ar i).toNat)
 case atStart=>exact⟨0,V1,_,by omega,rfl,EC.out⟩
 clear EC;obtain⟨k,V2,Y2,hk,rfl,HQ⟩:=hrel;have hbig:=HQ.out.big;have P0:=(HQ.out.wr.block _ (by have:=lq.out;omega) (by omega)).trans ti.out;have p0:wr.cell? ⟨w.heap.size,0,Z⟩=J (O U p.t.n):=zh P0 0 rfl;have p3:wr.cell? ⟨w.heap.size,3,Z⟩=J (I (J ⟨bc,oc,Z⟩) p.t.cases.length kc):=zh P0 3 rfl;have p6:wr.cell? ⟨w.heap.size,6,Z⟩=J (O U p.k):=zh P0 6 rfl;clear P0
 by_cases hkK:k<=K
 case neg=>
  have HKQ:As (k=K+1):=by show k=K+1;omega
  have cG:¬((k:Int)<=p.k):=by have:=pf.out;omega
  obtain⟨AY,ky,rfl,_,_,_⟩:=HQ.out.vw.form yV;have bn:=HQ.out.sys;rw[tf.out] at bn;have fH:=zH bn;have s9:wr.cell? ⟨w.heap.size+1+1,9,Z⟩=J (I AE sK.length ke):=zh bn 9 rfl;have f9:=zi bn 9;have x0:wr.cell? ⟨bx,0,Z⟩=J (O U c):=zh HQ.out.x 0 rfl;have x1:wr.cell? ⟨bx,1,Z⟩=J (I A2 word.length c2):=zh HQ.out.x 1 rfl;have x2:wr.cell? ⟨bx,2,Z⟩=J (.slice AY (stQ pi N inp word k).2.length ky):=zh HQ.out.x 2 rfl;have rW:=zH (zx wr (Ag #[O U c,I A2 word.length c2,.slice AY (stQ pi N inp word k).2.length ky] 128));have mN:=zH (HQ.out.out.below zX (zW wr (Ag #[O U c,I A2 word.length c2,.slice AY (stQ pi N inp word k).2.length ky] 128)) (Ld _));have Nb:=HQ.out.bsl;have hbsw:w.heap.size+1+1<wr.heap.size:=by omega
  have Na:=HQ.out.bxl;clear bn;go_wp2_with (at_builtin;obtain⟨aW,aA,l',bN⟩:=mN.out;refine yE kXn_ok rfl (.tmp 110) (.tmp 112) rfl D (I AE sK.length ke) sK.length aW.flatten rfl l' wr.heap.size #[O U c,I A2 word.length c2,.slice AY (stQ pi N inp word k).2.length ky] rfl rW.out rfl (by simp[Value.oneCell']) (Lu (Px pz.out) (by decide)) (by simp;omega) _ rfl ?_;intro g' cap w7 pJ iW dO tP;have b7:=(iW.block _ (by simp;omega) (fun e=>mN.out.ne Nb e.symm)).trans (yD fH.out _);have c7:=zh b7 9 rfl;have fr7:=zi b7 9;have HDN:=zH (Bq.done HQ.out (zW wr _) aA bN rfl rfl dk.out AS.out pJ iW dO (by rw[tf.out];rfl));clear pJ iW dO aA bN l' b7)
  go_roundw
  case rel=>exact⟨j+1,V2,_,by omega,by go_num,by rw[Pa.out,<-HKQ.out];exact HDN.out⟩
  simp[Ar];omega
 have cG:(k:Int)<=p.k:=by have:=pf.out;omega
 have hkw:k<=6:=by omega
 obtain⟨vk,Cq⟩:=Kj ((stQ pi N inp word k).1);obtain⟨yk,Tl⟩:=Kj ((stQ pi N inp word k).2);obtain⟨f,hf⟩:=Kj (fQ inp word yk k);have lw:=stQ_len pi N inp word k;have dr:=stQ_few pi N inp word k;have KF:=stQ_row pi N inp word k;have sN:=stQ_succ pi N inp word k;rw[Cq,Tl] at HQ;rw[Tl] at lw KF;rw[Cq] at dr;rw[Cq,Tl,hf] at sN;have rQ:=zH sN;have HYR:=zH KF;have HYL:=zH lw
 have lk:As (vk.length<=2100+30):=by
  have h1:=LU hkw OC.2;have h2:=O6.out;show vk.length<=2130;omega
 have GX:=zH hf;clear Cq Tl hf lw dr KF sN;obtain⟨AY,ky,rfl,_,_,_⟩:=HQ.out.vw.form yV;go_wp2_with fail;clear p0 p3 p6
 go_loopw [9,10] (fun l i wx=>∃(q:Nat) (V:Au),q<=N/\i=O U (q:Int)/\As (Bq D (w.heap.size+1+1) bx SC WR c (I A2 word.length c2) (yx f vk q).1 sK yk (yx f vk q).2 V (I AE sK.length ke) (I AY yk.length ky) l wx)) (fun _ i _=>N-(Ar i).toNat)
 case atStart=>exact⟨0,V2,by omega,rfl,HQ.out⟩
 clear HQ;obtain⟨q,V3,hq,rfl,HQ⟩:=hrel;have hbig:=HQ.out.big;have P0:=(HQ.out.wr.block _ (by have:=lq.out;omega) (by omega)).trans ti.out;have p0:wr.cell? ⟨w.heap.size,0,Z⟩=J (O U p.t.n):=zh P0 0 rfl;have p3:wr.cell? ⟨w.heap.size,3,Z⟩=J (I (J ⟨bc,oc,Z⟩) p.t.cases.length kc):=zh P0 3 rfl;clear P0;obtain⟨AL,kl,eL,hkl1,hkl2,_⟩:=HQ.out.row.form;subst eL
 by_cases hqN:q<N
 case neg=>
  have HQQ:As (q=N):=by show q=N;omega
  have VC:¬((q:Int)<p.t.n):=by have:=dM.out;omega
  have x2:wr.cell? ⟨bx,2,Z⟩=J (I AY yk.length ky):=zh HQ.out.x 2 rfl;have rW:=zH (zx wr (Ag #[.slice AL (yx f vk q).2.length kl] 50));have mN:=zH (HQ.out.vw.below yV (zW wr (Ag #[.slice AL (yx f vk q).2.length kl] 50)) (Ld _));have Na:=HQ.out.bxl;have hbxD:=HQ.out.hx;go_wp2_with (at_builtin;obtain⟨aW,aA,l',bN⟩:=mN.out;refine yE Qp rfl (.tmp 104) (.tmp 106) rfl D (I AY yk.length ky) yk.length aW.flatten rfl l' wr.heap.size #[.slice AL (yx f vk q).2.length kl] rfl rW.out rfl (by simp[Value.oneCell']) (by rw[HYL.out];omega) (by simp;omega) _ rfl ?_;intro g' cap w7 pJ iW dO tP;have b7:=(iW.block bx (by simp;omega) (fun e=>(HQ.out.nY bx e.symm).1 rfl)).trans (yD HQ.out.x _);have c7:=zh b7 2 rfl;have fr7:=zi b7 2;have i9:=zH (Bq.close HQ.out (zW wr _) aA bN pJ iW dO);clear pJ iW dO aA bN l' b7)
  go_roundw
  case rel=>exact⟨k+1,V3,_,by omega,by go_num,by rw[rQ.out,<-HQQ.out];exact i9.out⟩
  simp[Ar];omega
 have VC:(q:Int)<p.t.n:=by have:=dM.out;omega
 have mz:Am w.heap.size w wr:=UU.out.trans (HQ.out.wr.below (by have:=UU.out.size;omega) (fun k h1 h2=>by have h3:k=w.heap.size+1+1:=h2;omega));have Il:=(mz.cell (p:=⟨bc,oc+c*3,Z⟩) hbcl).trans HC0.out;have hqi:q<inp.length:=by have:=HIL.out;omega
 obtain⟨bi,oi,eI,Z',hci⟩:=mP.out.at_ q hqi;subst eI;have hiw:=(mz.cell (p:=⟨bi,oi+q,Z⟩) Z').trans hci;obtain⟨iv,Ws⟩:=Kj (inp[q]);rw[Ws] at hiw;have HIV:As (inp.getD q 0=iv):=by show _=_;rw[Lf,Li hqi,<-Ws];rfl
 have sS:(0:Int)<=(q:Int):=by omega
 have mZ:(q:Int)<(inp.length:Int):=by omega
 have s':(0:Int)<=(c:Int):=by omega
 have EL:=zH (first_any q iv wr);have HPO:=zH (stQ_few pi N inp word k);have Na:=HQ.out.bxl;clear mz hci Ws;go_wp2_with fail;refine EL.out.mono ?_;rintro e w5 ⟨rfl,am⟩;obtain⟨W6,pu,b6,fD,iN⟩:=zn w5 (yR q iv).cells 133;have cB:Am wr.heap.size wr W6:=Lc am iN;have cY:=am.size;have Ev:=zH pu;have dw:=zH cB;have ph:=zH b6;unfold Vw.cells at Ev;unfold Vw.cells;clear EL am pu b6 iN cB Il hiw p0 p3;go_simp;rename_i pX;refine pX _ _ ?_;clear pX;refine Nu rfl fun K5 dt=>?_
 go_simp;refine dt _ _ ?_;clear dt K5;refine Nu rfl fun K5 dt=>?_
 go_simp;rw[Ev.out];refine dt _ _ ?_;clear dt K5 Ev;rcases NC k with dg | MG
 case' inl=>
  have DV:¬((0:Int)<(k:Int)):=by omega
  have EK:As (f q=yR q iv):=by
   show f q=_;rw[<-GX.out,dg];show yR q (inp.getD q 0)=_;rw[HIV.out]
  rw[<-EK.out] at ph;have ph:As (W6.heap[w5.heap.size]?=J (Ag (f q).cells 133 (0,0))):=ph;obtain⟨W9,tc⟩:=Kj W6;rw[tc] at dw ph ⊢;clear tc EK dg
 case' inr=>
  obtain⟨k',en⟩:∃k',k=k'+1:=⟨k-1,by omega⟩;have DV:(0:Int)<(k:Int):=by omega
  have MF:IntKind.i64.wrap ((k:Int)-1)=(k':Int):=by rw[Lo];omega
  have FC:k'<word.length:=by have:=O3.out;omega
  have FB:k'<yk.length:=by have:=HYL.out;omega
  have EK:As (f q=qn word[k'] k q yk[k']):=by
   show f q=_;rw[<-GX.out,en];show qn (word.getD k' default) (k'+1) q (yk.getD k' [])=_;rw[Lf,Li FC,Lf,Li FB]
   rfl
  have Q6:=HQ.out.on dw.out;have hR6:RAtS (fun k=>w.heap.size+1+1<k/\k<D) W6 A2 word:=dk.out.keep (Q6.wr.keep fun k _ hs e=>by have h3:k=w.heap.size+1+1:=e;omega);have oJ:W6.cell? ⟨gw,j,Z⟩=J (I A2 word.length c2):=qX (S:=fun k=>w.heap.size+1+1<k/\k<D) (Q6.wr.keep fun k _ hs e=>by have h3:k=w.heap.size+1+1:=e;omega) ⟨nC,fm⟩ tn.out;obtain⟨br,or_,eA2,aK,r0,r1,r2,r3,r4,r5,r6⟩:=hR6.rat.row k' FC;subst eA2;obtain⟨AYx,kyx,eY,_,_,hYc⟩:=Q6.vw.form yV
  cases eY
  obtain⟨gy,eAY,_,hgy,hyc⟩:=hYc (by omega);subst eAY;obtain⟨cs,⟨A3,c3,rfl,nR⟩,al⟩:=hyc k' FB;have hy6:W6.cell? ⟨gy,k',Z⟩=J (I A3 yk[k'].length c3):=by simpa[cIs,kIs] using al 0 _ rfl
  have x6:W6.cell? ⟨bx,2,Z⟩=J (I (J ⟨gy,0,Z⟩) yk.length ky):=zh Q6.x 2 rfl;have eM:=HYR.out k' FB;obtain⟨row,ah⟩:=Kj (yk[k']);obtain⟨rd,rC⟩:=Kj (word[k']);have Cx:=Dc.out word[k'] (Lh FC);rw[ah] at hy6 nR eM EK;rw[rC] at r0 r1 r2 r3 r4 r5 r6 Cx EK;have hhs:=Zc (kh Cx.1).2.2.1 q (by omega);have sB:=zH (fun (X:Ba) (hX:Am W6.heap.size W6 X)=>seen_any rd k q (by omega) hhs A3 c3 row (by rw[Cx.2,eM]) (by omega) X ((nR.iat.keep hX).more hX.size));have hk'0:(0:Int)<=(k':Int):=by omega
  have hk'1:(k':Int)<(word.length:Int):=by omega
  have hk'2:(k':Int)<(yk.length:Int):=by omega
  have Wm:(0:Int)<=(j:Int):=by omega
  have HKS:=zH en;have h11l:w5.heap.size<W6.heap.size:=zj ph.out;clear MG en Q6 hR6 hYc hyc al nR ah rC Cx hhs eM;go_wp2_with fail
  go_still_tail 17,(by kernel_rfl)
  change wpList _ _ _ _ _ W6.drew;obtain⟨W7,po⟩:∃W7,W7=W6.drew:=⟨_,rfl⟩;have pD:As (Am W6.heap.size W6 W7):=by rw[po];exact(Ll _ _).drew
  rw[<-po];clear po r0 r1 r2 r3 r4 r5 r6 oJ hy6 x6;go_wp2_with fail;refine(sB.out W7 pD.out).mono ?_;rintro e w8 ⟨rfl,eD⟩;obtain⟨vv,hvv⟩:=Kj (qn rd k q row);rw[hvv] at EK ⊢;have FX:Am W6.heap.size W6 w8:=Lc pD.out eD;have b8:=Lb FX h11l ph.out;unfold Vw.cells at b8;obtain⟨k1,k2⟩:=vw_store8 vv b8 (Lc dw.out FX) (by omega:wr.heap.size<=w5.heap.size);obtain⟨W9,tc⟩:=Kj (((((((((w8.setCell ⟨w5.heap.size,0,Z⟩ (O U vv.p)).setCell ⟨w5.heap.size,1,Z⟩ (O U vv.r)).setCell ⟨w5.heap.size,2,Z⟩ (O U vv.i)).setCell ⟨w5.heap.size,3,Z⟩ (O U vv.h0)).setCell ⟨w5.heap.size,4,Z⟩ (O U vv.h1)).setCell ⟨w5.heap.size,5,Z⟩ (O U vv.h2)).setCell ⟨w5.heap.size,6,Z⟩ (O U vv.h3)).setCell ⟨w5.heap.size,7,Z⟩ (O U vv.h4)));rw[tc] at k1 k2;have Uz:=zH tc;have y0:w8.cell? ⟨w5.heap.size,0,Z⟩=J (O U (yR q iv).p):=zh b8 0 rfl;have fr0:=zi b8 0;have y1:w8.cell? ⟨w5.heap.size,1,Z⟩=J (O U (yR q iv).r):=zh b8 1 rfl;have fr1:=zi b8 1;have y2:w8.cell? ⟨w5.heap.size,2,Z⟩=J (O U (yR q iv).i):=zh b8 2 rfl;have fr2:=zi b8 2;have y3:w8.cell? ⟨w5.heap.size,3,Z⟩=J (O U (yR q iv).h0):=zh b8 3 rfl;have fr3:=zi b8 3;have y4:w8.cell? ⟨w5.heap.size,4,Z⟩=J (O U (yR q iv).h1):=zh b8 4 rfl;have fr4:=zi b8 4;have y5:w8.cell? ⟨w5.heap.size,5,Z⟩=J (O U (yR q iv).h2):=zh b8 5 rfl;have fr5:=zi b8 5
  have y6:w8.cell? ⟨w5.heap.size,6,Z⟩=J (O U (yR q iv).h3):=zh b8 6 rfl;have fr6:=zi b8 6;have y7:w8.cell? ⟨w5.heap.size,7,Z⟩=J (O U (yR q iv).h4):=zh b8 7 rfl;have fr7:=zi b8 7;have ph:As (W9.heap[w5.heap.size]?=J (Ag (f q).cells 133 (0,0))):=by rw[EK.out];exact k1
  have dw:As (Am wr.heap.size wr W9):=k2;clear FX b8 k1 k2 tc hvv eD sB pD EK;unfold Vw.cells;go_simp;rename_i pX;refine pX _ _ ?_;refine Nu rfl fun K5 dt=>?_
  go_simp;rw[Uz.out];refine dt _ _ ?_;clear Uz HKS DV MF y0 y1 y2 y3 y4 y5 y6 y7 fr0 fr1 fr2 fr3 fr4 fr5 fr6 fr7
 all_goals
  have Q9:=HQ.out.on dw.out;have Cx:=jd f vk q;have L1:=xI f vk q;obtain⟨AV,kv,eV,hT⟩:=Q9.tb.form (by have:=lk.out;omega);subst eV;have De:=zH (put_any p.t.n AV kv (yx f vk q).1 (f q) W9 hT (by have:=lk.out;omega));have bn:=Q9.sys;rw[tf.out] at bn;have s7:W9.cell? ⟨w.heap.size+1+1,7,Z⟩=J (O U p.t.n):=zh bn 7 rfl;have s8:W9.cell? ⟨w.heap.size+1+1,8,Z⟩=J (.slice AV (yx f vk q).1.length kv):=zh bn 8 rfl;have PU:=zH Q9;have HRL2:=zH L1;obtain⟨v,hv⟩:=Kj (f q);have GW:=zH hv;rw[hv] at De ph;have x0:W9.cell? ⟨w5.heap.size,0,Z⟩=J (O U v.p):=zh ph.out 0 rfl;have x1:W9.cell? ⟨w5.heap.size,1,Z⟩=J (O U v.r):=zh ph.out 1 rfl;have x2:W9.cell? ⟨w5.heap.size,2,Z⟩=J (O U v.i):=zh ph.out 2 rfl;have x3:W9.cell? ⟨w5.heap.size,3,Z⟩=J (O U v.h0):=zh ph.out 3 rfl;have x4:W9.cell? ⟨w5.heap.size,4,Z⟩=J (O U v.h1):=zh ph.out 4 rfl;have x5:W9.cell? ⟨w5.heap.size,5,Z⟩=J (O U v.h2):=zh ph.out 5 rfl;have x6:W9.cell? ⟨w5.heap.size,6,Z⟩=J (O U v.h3):=zh ph.out 6 rfl;have x7:W9.cell? ⟨w5.heap.size,7,Z⟩=J (O U v.h4):=zh ph.out 7 rfl;clear hv Cx L1 hT bn Q9;go_wp2_with fail
  all_goals first | (exfalso;omega) | skip
  refine De.out.mono ?_;rintro e ed Me;obtain⟨A3,k3,rfl,hO3,y',ct⟩:=put_out Me PU.out.tb PU.out.big;have UX:=Lc dw.out ct;have bn:=(HQ.out.on UX).sys;rw[tf.out] at bn;have s7:ed.cell? ⟨w.heap.size+1+1,7,Z⟩=J (O U p.t.n):=zh bn 7 rfl;have s8:ed.cell? ⟨w.heap.size+1+1,8,Z⟩=J (.slice AV (yx f vk q).1.length kv):=zh bn 8 rfl;have f7:=zi bn 7;have f8:=zi bn 8;have HS10:=zH bn;obtain⟨ES,Cp⟩:=Kj ((qd (yx f vk q).1 v).1);obtain⟨iz,Wq⟩:=Kj ((qd (yx f vk q).1 v).2);rw[Cp] at hO3 y';have Gu:=zH Cp;have HIZ:=zH Wq;have mO:=zH hO3;have HV3:=zH y';have HB10:=zH UX;have pH:=UX.size;have Nb:=HQ.out.bsl;rw[Cp,Wq];clear Me hO3 y' ct UX bn Cp Wq De x0 x1 x2 x3 x4 x5 x6 x7 ph;obtain⟨Et,Ok,Uq,Vy,Gh⟩:=zn ed #[O U p.t.n,I A3 ES.length k3] 36;have O5:=zH Ok;have Du:As (Am wr.heap.size wr Et):=HB10.out.trans (Gh.mono pH);have t0:Et.cell? ⟨ed.heap.size,0,Z⟩=J (O U p.t.n):=zh Uq 0 rfl;have t1:Et.cell? ⟨ed.heap.size,1,Z⟩=J (I A3 ES.length k3):=zh Uq 1 rfl;have bn:=(HQ.out.on Du.out).sys;rw[tf.out] at bn;have e7:Et.cell? ⟨w.heap.size+1+1,7,Z⟩=J (O U p.t.n):=zh bn 7 rfl;have e8:Et.cell? ⟨w.heap.size+1+1,8,Z⟩=J (.slice AV (yx f vk q).1.length kv):=zh bn 8 rfl;have fe7:=zi bn 7;have fe8:=zi bn 8;have hbs11:w.heap.size+1+1<Et.heap.size:=by omega
  have GJ:=zH (Bq.put HQ.out Du.out (u:=O U p.t.n) (mO.out.of_same fun k hk=>Gh.block k (mO.out.lt' k hk).2) (fun k hk=>by
   rcases HV3.out k hk with e | e
   . exact .inl e
   . exact .inr (by have:=dw.out.size;omega)) (by rw[tf.out];rfl) (by rw[tf.out];rfl))
  obtain⟨OU,C0⟩:=Kj ((Et.setCell ⟨w.heap.size+1+1,7,Z⟩ (O U p.t.n)).setCell ⟨w.heap.size+1+1,8,Z⟩ (I A3 ES.length k3));rw[C0] at GJ;have HY10:=zH C0;have KY:OU.heap.size=Et.heap.size:=by rw[<-C0];simp
  have UN:As ((OU.alloc (Ag #[O U iz] 3)).heap[ed.heap.size+1]?=J (Ag #[O U iz] 3 (0,0))):=by show _=_;rw[<-Vy,<-KY];exact zx OU _
  have HRN:=zH (GJ.out.row.alloc (Ag #[O U iz] 3));have HDY:=zH GJ.out.big
  have EA:As (yx f vk (q+1)=(ES,(yx f vk q).2++[iz])):=by
   show(_,_)=_;rw[GW.out,Gu.out,HIZ.out]
  clear Ok Uq Gh bn C0 s7 s8 f7 f8 HS10 mO HV3 Gu HIZ GW PU;go_simp;rename_i pX;refine pX _ _ ?_;clear pX;refine Nu rfl fun K5 dt=>?_
  go_simp;refine dt _ _ ?_;clear dt K5;refine Nu rfl fun K5 dt=>?_
  go_simp;refine dt _ _ ?_;clear dt K5;refine Nu rfl fun K5 dt=>?_
  go_simp;refine dt _ _ ?_;clear dt K5;refine Nu rfl fun K5 dt=>?_
  go_simp;refine dt _ _ ?_;clear dt K5;refine Nu rfl fun K5 dt=>?_
  go_simp;rw[O5.out];refine dt _ _ ?_;clear dt K5 O5;have HRL3:As ((yx f vk q).2.length<=1000000000):=by show _<=_;rw[HRL2.out];omega
  have HDZ:As (D<=(OU.alloc (Ag #[O U iz] 3)).heap.size):=by show _<=_;have:=HDY.out;simp;omega
  go_wp2_with (at_builtin;go_loud (rw[HY10.out];refine yE ud rfl (.tmp 99) (.tmp 101) rfl D (.slice AL (yx f vk q).2.length kl) (yx f vk q).2.length ((yx f vk q).2.map (O U)) rfl HRN.out (ed.heap.size+1) #[O U iz] rfl UN.out rfl (by simp[Value.oneCell']) HRL3.out HDZ.out _ rfl ?_;intro g' cap iu pJ iW dO tP;have rT:=zH (Bq.push GJ.out (zW OU _) pJ iW dO);clear pJ iW dO))
  go_roundw
  case rel=>exact⟨q+1,_,by omega,by go_num,by rw[EA.out];exact rT.out⟩
  case measure=>simp[Ar];omega
end
section
open Go.RowKit
attribute [local go_sem] Oper.semAt_some
theorem num_many{p:Pb}(h:zZ p=0):4096<YV p↔4096<yt p:=by
 obtain⟨fE,_⟩:=yp h;obtain⟨h1,_⟩:=xj fE;have e:yt p=p.t.cases.length*yj p.a p.k.toNat 0:=by unfold yt;rw[PM]
 rw[e];exact sat_mul 4096 p.t.cases.length (yj p.a p.k.toNat 0) h1
theorem rbuild_any(p:Pb)(hf:yU p)(A:Bb)(kc:Nat)(SV:Bb)(ks:Nat)(w:Ba)(hA:CAt w w.heap.size A p.t.cases)(hS:SAt w w.heap.size SV p.a.sts) :
  An Al 55 #[.agg (p.vs A kc SV ks)] w (RetSys (zY p) w):=by
 have HC:=zH (fun (w':Ba) (h1:CAt w' w'.heap.size A p.t.cases) (h2:SAt w' w'.heap.size SV p.a.sts)=>gL p hf.1 A kc SV ks w' h1 h2)
 have HN:=zH (fun (w':Ba) (h0:zZ p=0) (h:SAt w' w'.heap.size SV p.a.sts)=>
  Xh p hf.1 (xt hf.1.2 (yp h0).2.1).1 (xt hf.1.2 (yp h0).2.1).2.1 p.k.toNat 4096 (by have:=(yp h0).2.2.2.1;omega) (by have:=(yp h0).2.2.2.2;omega) (by decide) A kc SV ks w' h)
 have HB:=zH (fun (h0:zZ p=0) (mG:yt p<=60) (w':Ba) (h1:CAt w' w'.heap.size A p.t.cases) (h2:SAt w' w'.heap.size SV p.a.sts)=>built_any p hf h0 mG A kc SV ks w' h1 h2);have Dr:=zH (@xn p);have pb:=zH (@xA p);have Rc:=zH (@qA p);have Rz:=zH (@num_many p);have mQ:=zH hf.2;obtain⟨R,hR⟩:=Kj (zY p);rw[hR] at Dr pb Rc ⊢;obtain⟨w1,ab,d0,d1,av,aV⟩:=yI w (p.vs A kc SV ks) #[O U 0,O U 0,O U 0,I Z 0 0,O U 0,I Z 0 0,O U 0,O U 0,I Z 0 0,I Z 0 0] 29 39;have IR:=zH hA;have HSW:=zH hS;have HA:=zH ((hA.keep aV).more aV.size);have HS:=zH ((hS.keep aV).more aV.size);unfold Pb.vs at ab d0 ⊢;have ag:=zH ab;have du:=zH d0;have cy:=zH d1;have ib:=zH aV;obtain⟨p0,p1,p2,p3,p4,p5,p6,_⟩:=Kg d0;obtain⟨E,hE⟩:=Kj (zZ p);have Ca:=zH hE;rw[hE] at HC Dr;obtain⟨M,hM⟩:=Kj (p.t.cases.length*xa 4096 (yj p.a p.k.toNat 0));have pc:As (YV p=M):=hM;rw[hM] at HN;clear ab d0 d1 aV hA hS hf hR hE hM;go_enter func55,ntmps55;go_wp2_with fail;rw[ag.out];go_wp2_with fail;refine(HC.out w1 HA.out HS.out).mono ?_;rintro e w2 ⟨rfl,ae⟩;have B2:=zH (ib.out.trans (ae.mono (by omega)));have Hk:=zH ((HA.out.keep ae).more ae.size);have fX:=zH ((HS.out.keep ae).more ae.size);have cM:=ae.size;have d0:=La ae du.out;have d1:=La ae cy.out;have be:=zH d0;have ai:=zH d1;clear ae HC ag du cy HA HS p0 p1 p2 p3 p4 p5 p6
 obtain⟨p0,p1,p2,p3,p4,p5,p6,_⟩:=Kg d0
 by_cases h0:E=0
 case neg=>
  have hR:=zH (Dr.out h0);have e0:(E != 0)=Av:=by simpa using h0
  have y0:=zh d1 0 rfl;have f0:=zi d1 0;have y1:=zh d1 1 rfl;have f1:=zi d1 1;have y2:=zh d1 2 rfl;have f2:=zi d1 2;have y3:=zh d1 3 rfl;have f3:=zi d1 3;have y4:=zh d1 4 rfl;have f4:=zi d1 4;have y5:=zh d1 5 rfl;have f5:=zi d1 5;have y6:=zh d1 6 rfl;have f6:=zi d1 6;have y7:=zh d1 7 rfl;have f7:=zi d1 7;have y8:=zh d1 8 rfl;have f8:=zi d1 8;have y9:=zh d1 9 rfl;have f9:=zi d1 9;obtain⟨k1,k2,k3⟩:=kK (O U 0) (O U 0) (O U 0) (I Z 0 0) (O U 0) (I Z 0 0) (O U 0) (O U 0) (I Z 0 0) (I Z 0 0) d1 B2.out (by omega:w.heap.size<=w.heap.size+1);obtain⟨WF,dP⟩:=Kj (((((((((((w2.setCell ⟨w.heap.size+1,0,Z⟩ (O U 0)).setCell ⟨w.heap.size+1,1,Z⟩ (O U 0)).setCell ⟨w.heap.size+1,2,Z⟩ (O U 0)).setCell ⟨w.heap.size+1,3,Z⟩ (I Z 0 0)).setCell ⟨w.heap.size+1,4,Z⟩ (O U 0)).setCell ⟨w.heap.size+1,5,Z⟩ (I Z 0 0)).setCell ⟨w.heap.size+1,6,Z⟩ (O U 0)).setCell ⟨w.heap.size+1,7,Z⟩ (O U 0)).setCell ⟨w.heap.size+1,8,Z⟩ (I Z 0 0)).setCell ⟨w.heap.size+1,9,Z⟩ (I Z 0 0)));rw[dP] at k1 k2 k3;have Ce:=zH k1;have fZ:=zH k2;have UJ:=zH k3;have Dc:=zH dP;clear k1 k2 k3 dP;clear pb Rc Rz HN HB mQ h0 d0 d1;go_wp2_with fail;rw[Dc.out];obtain⟨z0,z1,z2,z3,z4,z5,z6,z7,z8,z9⟩:=zM Ce.out
  refine LP (v:=.tuple #[Ai #[O U 0,O U 0,O U 0,I Z 0 0,O U 0,I Z 0 0,O U 0,O U 0,I Z 0 0,I Z 0 0],O U E]) (by simp[results,results55,go_sem,z0,z1,z2,z3,z4,z5,z6,z7,z8,z9]) rfl ?_;rw[hR.out];exact RetSys.zero _ fZ.out
 case pos=>
 subst h0;clear Dr;go_wp2_with fail;refine(HN.out w2 Ca.out fX.out).mono ?_;rintro e w3 ⟨rfl,ak⟩;have B3:=zH (B2.out.trans (ak.mono (by omega)));have pg:=zH ((Hk.out.keep ak).more ak.size);have sC:=zH ((fX.out.keep ak).more ak.size);have cz:=ak.size;have d0:=La ak be.out;have d1:=La ak ai.out;have HF0:=zH d0;have EL:=zH d1;clear ak HN be ai Hk fX p0 p1 p2 p3 p4 p5 p6
 by_cases hm:4096<M
 case pos=>
  have hR:=zH (pb.out Ca.out ((Rz.out Ca.out).1 (by rw[pc.out];exact hm)));have VR:(4096:Int)<(M:Int):=by omega
  have y0:=zh d1 0 rfl;have f0:=zi d1 0;have y1:=zh d1 1 rfl;have f1:=zi d1 1;have y2:=zh d1 2 rfl;have f2:=zi d1 2;have y3:=zh d1 3 rfl;have f3:=zi d1 3;have y4:=zh d1 4 rfl;have f4:=zi d1 4;have y5:=zh d1 5 rfl;have f5:=zi d1 5;have y6:=zh d1 6 rfl;have f6:=zi d1 6;have y7:=zh d1 7 rfl;have f7:=zi d1 7;have y8:=zh d1 8 rfl;have f8:=zi d1 8;have y9:=zh d1 9 rfl;have f9:=zi d1 9;obtain⟨k1,k2,k3⟩:=kK (O U 0) (O U 0) (O U 0) (I Z 0 0) (O U 0) (I Z 0 0) (O U 0) (O U 0) (I Z 0 0) (I Z 0 0) d1 B3.out (by omega:w.heap.size<=w.heap.size+1);obtain⟨WF,dP⟩:=Kj (((((((((((w3.setCell ⟨w.heap.size+1,0,Z⟩ (O U 0)).setCell ⟨w.heap.size+1,1,Z⟩ (O U 0)).setCell ⟨w.heap.size+1,2,Z⟩ (O U 0)).setCell ⟨w.heap.size+1,3,Z⟩ (I Z 0 0)).setCell ⟨w.heap.size+1,4,Z⟩ (O U 0)).setCell ⟨w.heap.size+1,5,Z⟩ (I Z 0 0)).setCell ⟨w.heap.size+1,6,Z⟩ (O U 0)).setCell ⟨w.heap.size+1,7,Z⟩ (O U 0)).setCell ⟨w.heap.size+1,8,Z⟩ (I Z 0 0)).setCell ⟨w.heap.size+1,9,Z⟩ (I Z 0 0)));rw[dP] at k1 k2 k3;have Ce:=zH k1;have fZ:=zH k2;have UJ:=zH k3;have Dc:=zH dP;clear k1 k2 k3 dP;clear pb Rc Rz HB mQ d0 d1;go_wp2_with fail;rw[Dc.out];obtain⟨z0,z1,z2,z3,z4,z5,z6,z7,z8,z9⟩:=zM Ce.out
  refine LP (v:=.tuple #[Ai #[O U 0,O U 0,O U 0,I Z 0 0,O U 0,I Z 0 0,O U 0,O U 0,I Z 0 0,I Z 0 0],O U 17]) (by simp[results,results55,go_sem,z0,z1,z2,z3,z4,z5,z6,z7,z8,z9]) rfl ?_;rw[hR.out];exact RetSys.zero _ fZ.out
 case neg=>
 have BN:¬(4096<yt p):=fun h=>hm (by rw[<-pc.out];exact(Rz.out Ca.out).2 h)
 have mG:yt p<=60:=by
  rcases mQ.out Ca.out with h | h
  . exact h
  exact absurd h BN
 have hR:=zH (Rc.out Ca.out (by omega));have VR:¬((4096:Int)<(M:Int)):=by omega
 have HB':=zH (HB.out Ca.out mG w3 pg.out sC.out);have pA:=zH (X4 p Ca.out mG).1;obtain⟨p0,p1,p2,p3,p4,p5,p6,_⟩:=Kg d0;clear pb Rc Rz HB mQ BN mG d0 d1 pc;go_wp2_with fail
 all_goals first | (exfalso;omega) | skip
 refine HB'.out.mono ?_;rintro e w4 ⟨AV,kv,AE,ke,rfl,hV,hX,aD⟩;have B4:=zH (B3.out.trans (aD.mono (by omega)));have HVO:=zH hV;have HXO:=zH hX;have iy:=aD.size;have d1:=La aD EL.out;have HG1:=zH d1;have Hj:=zH ((pg.out.keep aD).more aD.size);have Bd:=zH ((sC.out.keep aD).more aD.size);clear hV hX aD HB' HF0 EL p0 p1 p2 p3 p4 p5 p6 d1;obtain⟨W5,dQ,b5,cY,ea⟩:=zn w4 #[O U p.t.n,O U p.t.ins,O U p.t.outs,I A p.t.cases.length kc,O U p.a.n,I SV p.a.sts.length ks,O U p.k,O U p.t.n,.slice AV (zI p (zE p)).1.length kv,.slice AE (zI p (zE p)).2.length ke] 39;have d1:=La ea HG1.out;have B5:=zH (B4.out.trans (ea.mono (by omega)));have aT:=zH ea;have mJ:=zH dQ;obtain⟨x0,x1,x2,x3,x4,x5,x6,x7,x8,x9⟩:=zM b5;have oy:¬((8192:Int)<((zI p (zE p)).1.length:Int)):=by have:=pA.out;omega
 clear dQ ea b5;go_simp;rename_i pX;refine pX _ _ ?_;clear pX;refine Nu rfl fun K5 dt=>?_
 go_simp;refine dt _ _ ?_;clear dt K5;refine Nu rfl fun K5 dt=>?_
 go_simp;rw[mJ.out];refine dt _ _ ?_;clear dt K5 mJ;have y0:=zh d1 0 rfl;have f0:=zi d1 0;have y1:=zh d1 1 rfl;have f1:=zi d1 1;have y2:=zh d1 2 rfl;have f2:=zi d1 2;have y3:=zh d1 3 rfl;have f3:=zi d1 3;have y4:=zh d1 4 rfl;have f4:=zi d1 4;have y5:=zh d1 5 rfl;have f5:=zi d1 5;have y6:=zh d1 6 rfl;have f6:=zi d1 6;have y7:=zh d1 7 rfl;have f7:=zi d1 7;have y8:=zh d1 8 rfl;have f8:=zi d1 8;have y9:=zh d1 9 rfl;have f9:=zi d1 9;obtain⟨k1,k2,k3⟩:=kK (O U p.t.n) (O U p.t.ins) (O U p.t.outs) (I A p.t.cases.length kc) (O U p.a.n) (I SV p.a.sts.length ks) (O U p.k) (O U p.t.n) (.slice AV (zI p (zE p)).1.length kv) (.slice AE (zI p (zE p)).2.length ke) d1 B5.out (by omega:w.heap.size<=w.heap.size+1);obtain⟨WF,dP⟩:=Kj (((((((((((W5.setCell ⟨w.heap.size+1,0,Z⟩ (O U p.t.n)).setCell ⟨w.heap.size+1,1,Z⟩ (O U p.t.ins)).setCell ⟨w.heap.size+1,2,Z⟩ (O U p.t.outs)).setCell ⟨w.heap.size+1,3,Z⟩ (I A p.t.cases.length kc)).setCell ⟨w.heap.size+1,4,Z⟩ (O U p.a.n)).setCell ⟨w.heap.size+1,5,Z⟩ (I SV p.a.sts.length ks)).setCell ⟨w.heap.size+1,6,Z⟩ (O U p.k)).setCell ⟨w.heap.size+1,7,Z⟩ (O U p.t.n)).setCell ⟨w.heap.size+1,8,Z⟩ (.slice AV (zI p (zE p)).1.length kv)).setCell ⟨w.heap.size+1,9,Z⟩ (.slice AE (zI p (zE p)).2.length ke)));rw[dP] at k1 k2 k3;have Ce:=zH k1;have fZ:=zH k2;have UJ:=zH k3;have Dc:=zH dP;clear k1 k2 k3 dP;clear d1;go_wp2_with fail;rw[Dc.out]
 obtain⟨z0,z1,z2,z3,z4,z5,z6,z7,z8,z9⟩:=zM Ce.out;refine LP (v:=.tuple #[Ai #[O U p.t.n,O U p.t.ins,O U p.t.outs,I A p.t.cases.length kc,O U p.a.n,I SV p.a.sts.length ks,O U p.k,O U p.t.n,.slice AV (zI p (zE p)).1.length kv,.slice AE (zI p (zE p)).2.length ke],O U 0]) (by simp[results,results55,go_sem,z0,z1,z2,z3,z4,z5,z6,z7,z8,z9]) rfl ?_;rw[hR.out];have ix:∀k,k≠w.heap.size+1->k<w4.heap.size->WF.heap[k]?=w4.heap[k]?:=fun k a b=>(UJ.out.2.1 k a).trans (aT.out.block k b)
 have hz:w4.heap.size<=WF.heap.size:=by have:=aT.out.size;have:=UJ.out.2.2;omega
 obtain⟨AV',kv',eV,hT⟩:=(HVO.out.of_same fun k hk=>ix k (by have:=(HVO.out.lt' k hk).1;omega) (HVO.out.lt' k hk).2).form (by have:=pA.out;omega)
 cases eV
 obtain⟨AE',ke',eE,_,_,T2,_⟩:=wZ (HXO.out.keep zX ⟨hz,fun k hs hl=>ix k (by omega) hl⟩ fun k hk=>ix k (by have:=(HXO.out.lt k hk).1;omega) (HXO.out.lt k hk).2)
 cases eE
 exact⟨A,kc,SV,ks,AV,kv,AE,ke,rfl,⟨(IR.out.keep fZ.out).more fZ.out.size,(HSW.out.keep fZ.out).more fZ.out.size,hT.rows,T2⟩,hT.lec,hT.lem,fZ.out⟩
def kj(p:Pb):Bool:=qf p&&decide ((zY p).2=0)
theorem right_any(p:Pb)(hl:Y0 p)(A:Bb)(kc:Nat)(SV:Bb)(ks:Nat)(w:Ba)(hA:CAt w w.heap.size A p.t.cases)(hS:SAt w w.heap.size SV p.a.sts) :
  An Al 32 #[.agg (p.vs A kc SV ks)] w fun e w'=>e=Ak (Ah (kj p))/\Am w.heap.size w w':=by
 obtain⟨w1,ab⟩:=Kj (w.alloc (Ag (p.vs A kc SV ks) 29));have bj:=zx w (Ag (p.vs A kc SV ks) 29);have aw:Am w.heap.size w w1:=by rw[<-ab];exact zW w _
 have eh:w1.heap.size=w.heap.size+1:=by rw[<-ab];simp
 rw[ab] at bj;have HF:=zH (few_any p hl A kc SV ks w1 ((hA.keep aw).more aw.size) ((hS.keep aw).more aw.size));have dV:=zH (fun (h:qf p=Av) (X:Ba) (hX:Am w1.heap.size w1 X)=>rbuild_any p (few_x h).1 A kc SV ks X ((((hA.keep aw).more aw.size).keep hX).more hX.size) ((((hS.keep aw).more aw.size).keep hX).more hX.size));have rk:As (kj p=(qf p&&decide ((zY p).2=0))):=rfl;obtain⟨r,hr⟩:=Kj (kj p);rw[hr] at rk ⊢;obtain⟨R,hR⟩:=Kj (zY p);rw[hR] at dV rk;obtain⟨b,hb⟩:=Kj (qf p);rw[hb] at HF dV rk;unfold Pb.vs at ab bj HF dV ⊢;have ag:=zH ab;have cj:=zH bj;have bW:=zH aw;have p5:=zh bj 5 rfl;have p6:=zh bj 6 rfl;clear ab bj aw hA hS hl hr hR hb;go_enter func32,ntmps32;go_wp2_with fail;rw[ag.out];go_wp2_with fail;refine HF.out.mono ?_;rintro e w2 ⟨rfl,ae⟩;have au:=zH (bW.out.trans (ae.mono (by omega)));have d0:=Lb ae (by omega:w.heap.size<w1.heap.size) cj.out;have cM:=ae.size
 cases b with
 | false=>
  have hRf:As (r=Aw):=rk.out;clear rk dV HF p5 p6 d0 ae cj ag;go_wp2_with fail;go_ret;exact⟨zy hRf.out.symm,au.out⟩
 | true=>
  have aC:=zH (dV.out rfl w2 ae);have hRf:As (r=decide (R.2=0)):=rk.out;clear p5 p6 ae dV HF cj ag rk;obtain⟨p0,p1,p2,p3,p4,p5,p6,_⟩:=Kg d0;clear d0;go_wp2_with fail;refine aC.out.mono ?_;rintro e w3 ⟨A2,fK,fR,fJ,Tf,KC,Te,KB,rfl,T7,Cu,Vm,ak⟩;obtain⟨T,E⟩:=R;have fB:=zH (au.out.trans ((ak.trans (zW w3 (Ag (T.vs_ A2 fK fR fJ Tf KC Te KB) 39) |>.mono ak.size)).mono (by omega)));unfold Sy.vs_ at fB ⊢;clear ak T7 Cu Vm aC p5 p6;go_wp2_with fail;go_ret;exact⟨zy (by rw[hRf.out];first | rfl | exact Qv Iff.rfl | (rw[NL];simp)),fB.out⟩
theorem yF{s:Sy}(hf:yU s.p)(h:yc s=0):s=qM s.p/\∃K N,Fine s K N:=by
 unfold yc at h
 by_cases h1:(zY s.p).2≠0
 . rw[Lj h1] at h;exact absurd h h1
 rw[Lg h1] at h
 by_cases h2:s=(zY s.p).1
 · have h0 : zZ s.p = 0 := by
    by_cases h0:zZ s.p=0
    . exact h0
    rw[xn h0] at h1;exact absurd h0 h1
   have hm:¬4096<yt s.p:=fun hm=>by rw[xA h0 hm] at h1;exact h1 (by decide)
   rw[qA h0 (by omega)] at h2;obtain⟨K,N,hF⟩:=built_fine hf h0 (by rcases hf.2 h0 with h | h;exact h;exact absurd h hm);exact⟨h2,K,N,by rw[h2];exact hF⟩
 rw[Lg h2] at h;cases h
def xM(bs:List Bool):Array Au:=(bs.map Ah).toArray
theorem jp(bs:List Bool)(i:Nat)(b:Bool):(xM bs).setIfInBounds i (Ah b)=xM (bs.set i b):=by
 unfold xM;rw[List.setIfInBounds_toArray,List.map_set]
theorem qh(bs:List Bool)(i:Nat)(h:i<bs.length):(xM bs)[i]?=J (Ah bs[i]):=by
 unfold xM;simp[h]
def kBo:Kd:=⟨4,58,1,1,Ah Aw⟩
theorem kBo_ok:KdOk Al kBo:=⟨Pm,by kernel_rfl,by rfl,by decide,by decide⟩
theorem made_bools(n:Nat):madeCells #[Ah Aw] (n*1)=xM (List.replicate n Aw):=by
 unfold madeCells xM;apply Array.ext
 . simp
 intro i h1 h2;simp[Nat.mod_one]
theorem xm(n:Nat)(hn:n<=100000)(W:Ba):(Instr.makeSlice 58 (O U n) (O U n)).run Al W=.ok (I (J ⟨W.heap.size,0,Z⟩) n n) (W.alloc (Ag (xM (List.replicate n Aw)) 4)):=by
 obtain⟨i0,hi,dx,ce,dI⟩:=yT kBo_ok;have hb:i0.bytes=1:=dI;have hs:i0.size=1:=ce;have h:=run_make (P:=Al) W 58 4 i0 (Ah Aw) Pm hi dx U U (n:Int) (n:Int) (by omega) (So _) (by rw[hb];omega) (by omega);rw[h,hs];simp only[Int.toNat_natCast];rw[show(Ah Aw).cells=#[Ah Aw] from rfl,made_bools]
end
section
open Go.RowKit
def kSt:Kd:=⟨106,65,2,16,Ai #[O U 0,O U 0]⟩
theorem kSt_ok:KdOk Al kSt:=⟨underlying65,by kernel_rfl,by rfl,by decide,by decide⟩
def kBl:Kd:=⟨4,58,1,1,Ah Aw⟩
theorem kBl_ok:KdOk Al kBl:=⟨Pm,by kernel_rfl,by rfl,by decide,by decide⟩
section
variable {w w':Ba} {B B':Nat} {A:Bb}
def BAt(w:Ba)(B:Nat)(A:Bb)(bs:List Bool):Prop:=
 0<bs.length->∃b off,A=J ⟨b,off,Z⟩/\b<B/\∀(i:Nat) (hi:i<bs.length),w.cell? ⟨b,off+i,Z⟩=J (Ah bs[i])
theorem BAt.keep{bs:List Bool}(h:BAt w B A bs)(hb:Am B w w'):BAt w' B A bs:=fun h0=>by
 obtain⟨b,off,e,hlt,hc⟩:=h h0;exact⟨b,off,e,hlt,fun i hi=>(hb.cell (p:=⟨b,_,Z⟩) hlt).trans (hc i hi)⟩
theorem BAt.more{bs:List Bool}(h:BAt w B A bs)(hB:B<=B'):BAt w B' A bs:=fun h0=>by
 obtain⟨b,off,e,hlt,hc⟩:=h h0;exact⟨b,off,e,by omega,hc⟩
theorem BAt.nil(w:Ba)(B:Nat)(A:Bb):BAt w B A []:=fun h=>absurd h (by simp)
theorem BAt.at_{bs:List Bool}(h:BAt w B A bs)(i:Nat)(hi:i<bs.length):∃b off,A=J ⟨b,off,Z⟩/\b<B/\w.cell? ⟨b,off+i,Z⟩=J (Ah bs[i]):=by
 obtain⟨b,off,e,hlt,hc⟩:=h (by omega);exact⟨b,off,e,hlt,hc i hi⟩
def BRow(w:Ba)(g:Nat)(bs:List Bool):Prop:=w.heap[g]?=J (Ag (xM bs) 4 (0,0))
theorem BRow.lt{g:Nat}{bs:List Bool}(h:BRow w g bs):g<w.heap.size:=zj h
theorem BRow.at_{g:Nat}{bs:List Bool}(h:BRow w g bs)(hB:g<B):BAt w B (J ⟨g,0,Z⟩) bs:=fun _=>⟨g,0,rfl,hB,fun i hi=>by rw[LI];exact zh h i (qh bs i hi)⟩
def TAt(w:Ba)(B:Nat)(A:Bb)(ts:List (Int×Int)):Prop:=
 0<ts.length->∃b off,A=J ⟨b,off,Z⟩/\b<B/\∀(i:Nat) (hi:i<ts.length),w.cell? ⟨b,off+i*2,Z⟩=J (O U ts[i].1)/\w.cell? ⟨b,off+i*2+1,Z⟩=J (O U ts[i].2)
theorem TAt.keep{ts:List (Int×Int)}(h:TAt w B A ts)(hb:Am B w w'):TAt w' B A ts:=fun h0=>by
 obtain⟨b,off,e,hlt,hc⟩:=h h0;exact⟨b,off,e,hlt,fun i hi=>⟨(hb.cell (p:=⟨b,_,Z⟩) hlt).trans (hc i hi).1,(hb.cell (p:=⟨b,_,Z⟩) hlt).trans (hc i hi).2⟩⟩
theorem TAt.more{ts:List (Int×Int)}(h:TAt w B A ts)(hB:B<=B'):TAt w B' A ts:=fun h0=>by
 obtain⟨b,off,e,hlt,hc⟩:=h h0;exact⟨b,off,e,by omega,hc⟩
theorem TAt.nil(w:Ba)(B:Nat)(A:Bb):TAt w B A []:=fun h=>absurd h (by simp)
theorem TAt.at_{ts:List (Int×Int)}(h:TAt w B A ts)(i:Nat)(hi:i<ts.length):∃b off,A=J ⟨b,off,Z⟩/\b<B/\w.cell? ⟨b,off+i*2,Z⟩=J (O U ts[i].1)/\w.cell? ⟨b,off+i*2+1,Z⟩=J (O U ts[i].2):=by
 obtain⟨b,off,e,hlt,hc⟩:=h (by omega);exact⟨b,off,e,hlt,hc i hi⟩
def jG(ts:List (Int×Int)):List Au:=ts.flatMap fun t=>[O U t.1,O U t.2]
theorem stCs_snoc(ts:List (Int×Int))(t:Int×Int):jG (ts++[t])=jG ts++#[O U t.1,O U t.2].toList:=by simp[jG,List.flatMap_append]
theorem XZ:∀(ts:List (Int×Int)) (i:Nat) (hi:i<ts.length),(jG ts)[i*2]?=J (O U ts[i].1)/\(jG ts)[i*2+1]?=J (O U ts[i].2)
 | t::ts,0,_=>by simp[jG]
 | t::ts,i+1,hi=>by
  have h:=XZ ts i (by simpa using hi);have e:jG (t::ts)=[O U t.1,O U t.2]++jG ts:=rfl;rw[e,Ly (by simp;omega),Ly (by simp;omega)];simp only[List.length_cons,List.length_nil,List.getElem_cons_succ];rw[show(i+1)*2-(0+1+1)=i*2 by omega,show(i+1)*2+1-(0+1+1)=i*2+1 by omega];exact h
theorem TAt.of_own{K:Kd}{base:Nat}{A':Bb}{n c:Nat}{ts:List (Int×Int)}(h:OwnR K w base (I A' n c) n (jG ts))(hn:ts.length=n):TAt w w.heap.size A' ts:=fun h0=>by
 obtain⟨A,cap,e,_,_,h3⟩:=h.form
 cases e
 obtain⟨g,rfl,_,hg,hc⟩:=h3 (by omega);exact⟨g,0,rfl,hg,fun i hi=>⟨by rw[LI];exact hc _ _ (XZ ts i hi).1,by rw[LI];exact hc _ _ (XZ ts i hi).2⟩⟩
end
end
section
open Go.ChangeShapes Go.WideShapes Go.ChangeAt Go.RowKit Go.Deep
theorem lit_nat{k:IntKind}{i:Int}(hk:k.min=0)(h:(Lit.int k i).wf=true):∃n:Nat,i=(n:Int)/\(n:Int)<=k.max:=by
 unfold Lit.wf at h;simp only[Bool.and_eq_true,decide_eq_true_iff] at h;obtain⟨n,hn⟩:=Lp (by omega:0<=i);exact⟨n,hn,by omega⟩
theorem u8_lt{n:Nat}(h:(n:Int)<=IntKind.max .u8):n<256:=by
 have m8:IntKind.max .u8=255:=by decide
 omega
end
section
open Go.RowKit
structure Fh where
 op:Int
 p:Int
 o:Int
 v:Int
 g:Int
inductive Fm where
 | mk (h:Fh) (args:List Fm)
def Fm.h:Fm->Fh
 | .mk h _=>h
def Fm.args:Fm->List Fm
 | .mk _ l=>l
instance:Inhabited Fm:=⟨.mk ⟨0,0,0,0,0⟩ []⟩
def usP(op:Int):Bool:=decide (op=1\/op=3\/op=4\/op=5\/op=10)
def usO(op:Int):Bool:=decide (op=3)
def usV(op:Int):Bool:=decide (op=1\/op=2\/op=5\/op=6)
def usG(op:Int):Bool:=decide (op=11\/op=12\/op=13)
def arN(op:Int):Int:=if op=8\/op=9\/op=17 then 2 else if op<=6 then 0 else 1
def mxV(op:Int):Int:=if op=6 then 6 else 7
def qI(n:Nat)(h:Fh)(k:Nat):Int:=
 if h.op<0\/17<h.op then 1 else if (k:Int)≠arN h.op then 15
 else if (usP h.op=Av/\¬(0<=h.p/\h.p<=(n:Int)-1))\/(usO h.op=Av/\¬(0<=h.o/\h.o<=(n:Int)-1))\/(usV h.op=Av/\¬(0<=h.v/\h.v<=mxV h.op))\/(usG h.op=Av/\¬(0<=h.g/\h.g<=(2:Int)^n-1)) then 2
 else if (usP h.op=Aw/\h.p≠0)\/(usO h.op=Aw/\h.o≠0)\/(usV h.op=Aw/\h.v≠0)\/(usG h.op=Aw/\h.g≠0) then 3 else 0
def YC:List Int->Int
 | []=>0
 | e::l=>if e≠0 then e else YC l
def uG(n:Nat)(R:Fm->Int)(f:Fm):Int:=if qI n f.h f.args.length≠0 then qI n f.h f.args.length else YC (f.args.map R)
def yW(n:Nat):Nat->Fm->Int
 | 0=>uG n fun _=>0
 | d+1=>uG n (yW n d)
def zP(R:Fm->Nat×Nat)(l:List Fm):Nat×Nat:=l.foldl (fun a x=>(a.1+(R x).1,max a.2 (R x).2)) (1,0)
def zR:Nat->Fm->Nat×Nat
 | 0=>fun f=>((zP (fun _=>(0,0)) f.args).1,(zP (fun _=>(0,0)) f.args).2+1)
 | d+1=>fun f=>((zP (zR d) f.args).1,(zP (zR d) f.args).2+1)
def uW(x:Nat×Nat):Int:=if 128<x.1 then 5 else if 24<x.2 then 12 else 0
def qy(n:Int)(d:Nat)(f:Fm):Int:=if n<1\/5<n then 2 else if uW (zR d f)≠0 then uW (zR d f) else yW n.toNat d f
def FsAt(w:Ba)(B:Nat):Nat->Bb->List Fm->Prop
 | 0,_,l=>l=[]
 | d+1,A,l=>0<l.length->∃b o,A=J ⟨b,o,Z⟩/\b<B/\∀i (hi:i<l.length),∃A' c',
   (∀j v,#[O U l[i].h.op,O U l[i].h.p,O U l[i].h.o,O U l[i].h.v,O U l[i].h.g,I A' l[i].args.length c'][j]?=J v->w.cell? ⟨b,o+i*6+j,Z⟩=J v)/\FsAt w B d A' l[i].args
def Fm.vs(f:Fm)(A:Bb)(c:Nat):Array Au:=#[O U f.h.op,O U f.h.p,O U f.h.o,O U f.h.v,O U f.h.g,I A f.args.length c]
theorem FsAt.keep:∀ {d:Nat} {w w':Ba} {B:Nat} {A:Bb} {l:List Fm},FsAt w B d A l->Am B w w'->FsAt w' B d A l
 | 0,_,_,_,_,_,h,_=>h
 | d+1,w,w',B,A,l,h,hb=>fun h0=>by
  obtain⟨b,o,e,hlt,hr⟩:=h h0;refine⟨b,o,e,hlt,fun i hi=>?_⟩;obtain⟨A',c',h1,h2⟩:=hr i hi;exact⟨A',c',fun j v hv=>(hb.cell hlt).trans (h1 j v hv),FsAt.keep h2 hb⟩
theorem FsAt.more:∀ {d:Nat} {w:Ba} {B B':Nat} {A:Bb} {l:List Fm},FsAt w B d A l->B<=B'->FsAt w B' d A l
 | 0,_,_,_,_,_,h,_=>h
 | d+1,w,B,B',A,l,h,hb=>fun h0=>by
  obtain⟨b,o,e,hlt,hr⟩:=h h0;refine⟨b,o,e,by omega,fun i hi=>?_⟩;obtain⟨A',c',h1,h2⟩:=hr i hi;exact⟨A',c',h1,FsAt.more h2 hb⟩
def RecAt(w:Ba)(A:Bb)(l:List Fm)(F:Array Au->Fm->Ba->Prop):Prop:=∀i (hi:i<l.length),∃b o A' c',A=J ⟨b,o,Z⟩/\b<w.heap.size /\
 (∀W,Am w.heap.size w W->∀j v,(l[i].vs A' c')[j]?=J v->W.cell? ⟨b,o+i*6+j,Z⟩=J v)/\∀X,Am w.heap.size w X->F (l[i].vs A' c') l[i] X
theorem RecAt.of{d:Nat}{w:Ba}{A:Bb}{l:List Fm}{F:Array Au->Fm->Ba->Prop}(h:FsAt w w.heap.size (d+1) A l)
  (hF:∀(x:Fm) (A':Bb) (c':Nat) (X:Ba),x∈l->FsAt X X.heap.size d A' x.args->F (x.vs A' c') x X):RecAt w A l F:=fun i hi=>by
 obtain⟨b,o,e,hlt,hr⟩:=h (by omega);obtain⟨A',c',h1,h2⟩:=hr i hi;exact⟨b,o,A',c',e,hlt,fun W hW j v hv=>(hW.cell hlt).trans (h1 j v hv),fun X hX=>hF _ A' c' X (Lh hi) ((h2.keep hX).more hX.size)⟩
theorem RecAt.none{w:Ba}{A:Bb}{l:List Fm}{F:Array Au->Fm->Ba->Prop}(h:FsAt w w.heap.size 0 A l):RecAt w A l F:=fun i hi=>by
 rw[show l=[] from h] at hi;cases hi
theorem qV(R:Fm->Nat×Nat)(l:List Fm)(x:Fm):zP R (l++[x])=((zP R l).1+(R x).1,max (zP R l).2 (R x).2):=by unfold zP;rw[Pp];rfl
theorem ut(R:Fm->Nat×Nat):∀(l:List Fm) (a:Nat×Nat),a.1<=(l.foldl (fun a x=>(a.1+(R x).1,max a.2 (R x).2)) a).1/\a.2<=(l.foldl (fun a x=>(a.1+(R x).1,max a.2 (R x).2)) a).2
 | [],a=>⟨Ld _,Ld _⟩
 | x::l,a=>by
  have:=ut R l (a.1+(R x).1,max a.2 (R x).2);rw[N7];dsimp only at this;omega
theorem qU(R:Fm->Nat×Nat)(l:List Fm)(k:Nat):(zP R (l.take k)).1<=(zP R l).1/\(zP R (l.take k)).2<=(zP R l).2:=by
 have h:=ut R (l.drop k) (zP R (l.take k))
 have e:zP R l=(l.drop k).foldl (fun a x=>(a.1+(R x).1,max a.2 (R x).2)) (zP R (l.take k)):=by
  unfold zP;rw[<-Pp,PR]
 rw[e];exact h
theorem wj(R:Fm->Nat×Nat)(hR:∀x,(R x).2<=(R x).1):∀(l:List Fm) (a:Nat×Nat),a.2+1<=a.1->(l.foldl (fun a x=>(a.1+(R x).1,max a.2 (R x).2)) a).2+1<=(l.foldl (fun a x=>(a.1+(R x).1,max a.2 (R x).2)) a).1
 | [],_,h=>h
 | x::l,a,h=>by
  rw[N7];refine wj R hR l _ ?_;have:=hR x;dsimp only;omega
theorem jb:∀(d:Nat) (f:Fm),(zR d f).2<=(zR d f).1
 | 0,f=>wj _ (fun _=>Ld _) f.args (1,0) (by decide)
 | d+1,f=>wj _ (jb d) f.args (1,0) (by decide)
theorem uu(R:Fm->Nat×Nat){l:List Fm}{x:Fm}(h:x∈l):(R x).1<=(zP R l).1:=by
 obtain⟨k,hk,rfl⟩:=LT h;have h1:=(qU R l (k+1)).1;rw[Ls hk,qV] at h1;dsimp only at h1;omega
theorem QL(R:Fm->Nat×Nat)(hR:∀x,1<=(R x).1):∀(l:List Fm) (a:Nat×Nat),a.1+l.length<=(l.foldl (fun a x=>(a.1+(R x).1,max a.2 (R x).2)) a).1
 | [],_=>Ld _
 | x::l,a=>by
  have:=QL R hR l (a.1+(R x).1,max a.2 (R x).2);have:=hR x;rw[N7,Lx];dsimp only at *;omega
theorem qW(R:Fm->Nat×Nat)(hR:∀x,1<=(R x).1)(l:List Fm):l.length<=(zP R l).1:=by
 have:1+l.length<=(zP R l).1:=QL R hR l (1,0);omega
theorem kd:∀(d:Nat) (f:Fm),1<=(zR d f).1
 | 0,f=>(ut _ f.args (1,0)).1
 | _+1,f=>(ut _ f.args (1,0)).1
theorem wS(e:Int)(l:List Int):YC (e::l)=if e≠0 then e else YC l:=rfl
theorem ffsE_none{l:List Int}(h:∀e∈l,e=0):YC l=0:=by
 induction l with
 | nil=>rfl
 | cons e l ih=>
  rw[wS,Lg (by simpa using h e (by simp))];exact ih fun x hx=>h x (by simp[hx])
theorem ffsE_at{l:List Int}{k:Nat}(hk:k<l.length)(h0:∀j (hj:j<l.length),j<k->l[j]=0)(h1:l[k]≠0):YC l=l[k]:=by
 induction l generalizing k with
 | nil=>simp at hk
 | cons e l ih=>
  cases k with
  | zero=>
   simp only[List.getElem_cons_zero] at h1 ⊢;rw[wS,Lj h1]
  | succ k=>
   have he:e=0:=h0 0 (by simp) (by omega);simp only[List.getElem_cons_succ] at h1 ⊢;rw[wS,Lg (by simpa using he)];refine ih (by simpa using hk) (fun j hj hlt=>?_) h1;have:=h0 (j+1) (by simpa using hj) (by omega);simpa using this
end
section
open Go.ChangeShapes Go.WideShapes Go.ChangeAt Go.RowKit Go.Deep
theorem FsAt.deep:∀ {d:Nat} {w:Ba} {B:Nat} {A:Bb} {l:List Fm},FsAt w B d A l->FsAt w B (d+1) A l
 | 0,_,_,_,l,h=>fun h0=>by
  have e:l=[]:=h;rw[e] at h0;cases h0
 | d+1,w,B,A,l,h=>fun h0=>by
  obtain⟨b,o,e,hlt,hr⟩:=h h0;refine⟨b,o,e,hlt,fun i hi=>?_⟩;obtain⟨A',c',h1,h2⟩:=hr i hi;exact⟨A',c',h1,FsAt.deep h2⟩
theorem FsAt.deeper{d d':Nat}{w:Ba}{B:Nat}{A:Bb}{l:List Fm}(h:FsAt w B d A l)(hd:d<=d'):FsAt w B d' A l:=by
 induction d' with
 | zero=>have:d=0:=(by omega);subst this;exact h
 | succ k ih=>
  by_cases e:d=k+1
  . subst e;exact h
  . exact(ih (by omega)).deep
section
variable {H:Type} {enc:TypeId×Au->H} {P:Program} {W:Ba} {base:Nat} {spare:Nat->Bool} {aN:Bool}
theorem open_rowsS{α:Type}[Inhabited α]{t e:TypeId}{fuel:Nat}{cs:List Au}{x:DataW H×List MemPlace}{s:Nat}(L:List Au->α->Prop)(ht:P.underlying t=J (.slice e))(hs:P.cellsOf e=s)(h1:0<s)
  (rd:∀(m:Nat) (cs:List Au) (y:DataW H×List MemPlace),DataW.trod enc P W base spare aN m e cs=J y->qm P e y.1->SizeOf.sizeOf y.1<SizeOf.sizeOf x.1->∃a,L cs a)
  (h:DataW.trod enc P W base spare aN fuel t cs=J x) (hw:qm P t x.1) :
  ∃(A:Bb) (iw:List α) (cap:Nat),cs=[I A iw.length cap]/\iw.length*P.bytesOf e<=reachBytes /\
   (0<iw.length->∃b off,A=J ⟨b,off,Z⟩/\b<W.heap.size/\∀(i:Nat) (hi:i<iw.length),∃cs,L cs iw[i]/\∀(k:Nat) (y:Au),cs[k]?=J y->W.cell? ⟨b,off+i*s+k,Z⟩=J y):=by
 rcases open_slice ht h with ⟨rfl,_⟩ | ⟨a,len,cap,m,n',D,Pl,rfl,_,hlc,iJ,hm,sa,hi⟩
 . exact⟨Z,[],0,rfl,by simp,fun h=>absurd h (by simp)⟩
 have V8:len<=m:=by rw[hm];split<;>omega
 rw[sa] at hw rd;obtain⟨hb,aZ⟩:=Yz ht hw
 have oS:∀i,i<len->∃(a':α) (cs:List Au),cs.length=s/\L cs a'/\∀(k:Nat) (y:Au),cs[k]?=J y->W.cell? (a.add (i*s+k))=J y:=fun i hlt=>by
  obtain⟨rf,hc,Vr⟩:=hi i (by omega);rw[hs] at hc;obtain⟨_,aA,aI⟩:=World.cells?_some hc;have cS:D i∈(List.range len).map D:=LS.2 ⟨i,PO.2 hlt,rfl⟩;have aP:=List.sizeOf_lt_of_mem cS;obtain⟨u,hu⟩:=rd _ _ _ Vr (aZ _ cS) (by simp only[DataW.slice.sizeOf_spec];omega);refine⟨u,rf,aA,hu,fun k y hk=>?_⟩;have en:k<s:=by rw[<-aA];exact(Lq.1 hk).1
  rw[<-Go.Deep.add_add,aI k en,hk]
 obtain⟨iw,CX,has⟩:∃iw:List α,iw.length=len/\∀i (hi:i<iw.length),∃cs:List Au,cs.length=s/\L cs iw[i]/\∀(k:Nat) (y:Au),cs[k]?=J y->W.cell? (a.add (i*s+k))=J y:=by
  refine⟨(List.range len).map fun i=>if h:i<len then Classical.choose (oS i h) else default,by simp,fun i hi=>?_⟩;have iV:i<len:=by simpa using hi
  simp only[List.getElem_map,List.getElem_range,iV,dite_true];exact Pi (oS i iV)
 subst CX;have cN:iw.length*P.bytesOf e<=reachBytes:=by simpa using hb
 refine⟨J a,iw,cap,rfl,cN,fun h0=>?_⟩;obtain⟨c0,oQ,_,FS⟩:=has 0 h0;have Eo:=FS 0 _ (Li (by omega));obtain⟨b,off,ET⟩:=a;have tH:ET=Z:=by simpa[Addr.add] using World.cell?_spot Eo
 subst tH;refine⟨b,off,rfl,?_,fun i hi=>?_⟩
 . have:=N4 W _ Eo
   simpa[Addr.add] using this
 obtain⟨c1,_,hL,hc1⟩:=has i hi;refine⟨c1,hL,fun k y hk=>?_⟩;have:=hc1 k y hk;rw[add_plain] at this;rw[<-PJ] at this;exact this
end
section
variable {H:Type} {enc:TypeId×Au->H} {W:Ba} {base:Nat} {spare:Nat->Bool} {aN:Bool}
theorem cellsFm:Al.cellsOf 32=6:=by kernel_rfl
theorem jn:Al.cellsOf 30=1:=by kernel_rfl
theorem bytesFm:Al.bytesOf 32=64:=by kernel_rfl
theorem Ya:∀(k m:Nat) (cs:List Au) (y:DataW H×List MemPlace),SizeOf.sizeOf y.1<k->DataW.trod enc Al W base spare aN m 32 cs=J y->qm Al 32 y.1 ->
  ∃(f:Fm) (d:Nat) (A:Bb) (c:Nat),cs=(f.vs A c).toList/\f.args.length<=17592186044416/\FsAt W W.heap.size d A f.args
 | 0,_,_,_,hk,_,_=>absurd hk (by omega)
 | k+1,m,cs,y,hk,h,hw=>by
  obtain⟨xs,n,rfl,hx,hl,np,Ii⟩:=N5 PK h;have hd:y.1=.agg (xs.map (·.1)):=congrArg Prod.fst hx;rw[hd] at hw hk;rw[cellsFm] at hl;have Ve:xs.length=6:=np
  match cs,hl with
  | [c0,c1,c2,c3,c4,c5],_=>
   have f0:=Ii 0 _ rfl;have f1:=Ii 1 _ rfl;have f2:=Ii 2 _ rfl;have f3:=Ii 3 _ rfl;have f4:=Ii 4 _ rfl;have f5:=Ii 5 _ rfl
   obtain⟨x0,x1,x2,x3,x4,x5,rfl⟩:∃x0 x1 x2 x3 x4 x5,xs=[x0,x1,x2,x3,x4,x5]:=by
    match xs,Ve with
    | [x0,x1,x2,x3,x4,x5],_=>exact⟨x0,x1,x2,x3,x4,x5,rfl⟩
   have g0:DataW.trod enc Al W base spare aN n 3 [c0]=J x0:=by simpa[xe,jn] using f0
   have g1:DataW.trod enc Al W base spare aN n 3 [c1]=J x1:=by simpa[xe,jn] using f1
   have g2:DataW.trod enc Al W base spare aN n 3 [c2]=J x2:=by simpa[xe,jn] using f2
   have g3:DataW.trod enc Al W base spare aN n 3 [c3]=J x3:=by simpa[xe,jn] using f3
   have g4:DataW.trod enc Al W base spare aN n 3 [c4]=J x4:=by simpa[xe,jn] using f4
   have g5:DataW.trod enc Al W base spare aN n 30 [c5]=J x5:=by simpa[xe,jn] using f5
   have w5:qm Al 30 x5.1:=qa PK hw (j:=5) rfl rfl;obtain⟨i0,e0,_⟩:=Nc LE g0;obtain⟨i1,e1,_⟩:=Nc LE g1;obtain⟨i2,e2,_⟩:=Nc LE g2;obtain⟨i3,e3,_⟩:=Nc LE g3;obtain⟨i4,e4,_⟩:=Nc LE g4
   have cY:SizeOf.sizeOf x5.1<k:=by
    have pk:x5.1∈List.map (fun z:DataW H×List MemPlace=>z.1) [x0,x1,x2,x3,x4,x5]:=by simp
    have:=List.sizeOf_lt_of_mem pk;simp only[DataW.agg.sizeOf_spec] at hk;omega
   obtain⟨A,l,c,e5,M',hA⟩:=open_rowsS (α:=Fm) (fun cs f=>∃(d:Nat) (A:Bb) (c:Nat),cs=(f.vs A c).toList/\FsAt W W.heap.size d A f.args) underlying30 cellsFm (by decide)
    (fun m cs y h hw aP=>by obtain⟨f,d,A,c,e,_,h2⟩:=Ya k m cs y (by omega) h hw;exact⟨f,d,A,c,e,h2⟩) g5 w5
   cases e0;cases e1;cases e2;cases e3;cases e4;cases e5
   have ay:l.length<=17592186044416:=by rw[bytesFm] at M';unfold reachBytes at M';omega
   by_cases h0:0<l.length
   case neg=>
    have pN:l=[]:=LJ (by omega);refine⟨.mk ⟨i0,i1,i2,i3,i4⟩ l,0,A,c,rfl,ay,?_⟩;show l=[];exact pN
   obtain⟨b,off,eA,hb,hc⟩:=hA h0
   have key:∀q,q<=l.length->∃D,∀i (hi:i<l.length),i<q->∃A' c',(∀j v,(l[i].vs A' c')[j]?=J v->W.cell? ⟨b,off+i*6+j,Z⟩=J v)/\FsAt W W.heap.size D A' l[i].args:=by
    intro q
    induction q with
    | zero=>exact fun _=>⟨0,fun i _ h=>absurd h (by omega)⟩
    | succ q ih=>
     intro hq;obtain⟨D,hD⟩:=ih (by omega);obtain⟨cs1,⟨d1,A1,k1,rfl,h1⟩,h2⟩:=hc q (by omega);refine⟨max D d1,fun i hi hiq=>?_⟩
     by_cases e:i=q
     . subst e
       exact⟨A1,k1,fun j v hv=>h2 j v (by rw[Array.getElem?_toList];exact hv),h1.deeper (Pc _ _)⟩
     . obtain⟨A',c',a1,a2⟩:=hD i hi (by omega)
       exact⟨A',c',a1,a2.deeper (PB _ _)⟩
   obtain⟨D,hD⟩:=key l.length (Ld _);refine⟨.mk ⟨i0,i1,i2,i3,i4⟩ l,D+1,A,c,rfl,ay,fun _=>⟨b,off,eA,hb,fun i hi=>?_⟩⟩;obtain⟨A',c',a1,a2⟩:=hD i hi hi;exact⟨A',c',a1,a2⟩
theorem Zt{b0:Nat}{v:Au}{d:DataW H}{ps:List MemPlace}(hv:Value.okWide Al W .any b0 32 v)(h:DataW.Trod enc Al W base spare aN 32 v d ps)(hw:qm Al 32 d) :
  ∃(f:Fm) (dd:Nat) (A:Bb) (c:Nat),v=.agg (f.vs A c)/\f.args.length<=17592186044416/\FsAt W W.heap.size dd A f.args:=by
 obtain⟨cs,rfl,_⟩:=okWide_struct PK hv;obtain⟨fuel,hf⟩:=h;obtain⟨f,dd,A,c,e,hl,hA⟩:=Ya _ _ _ _ (Nat.lt_succ_self _) hf hw;refine⟨f,dd,A,c,?_,hl,hA⟩;have e2:cs.toList=(f.vs A c).toList:=e;rw[Array.toList_inj.1 e2]
end
end
section
open Go.RowKit
def FsS(w:Ba)(S:Nat->Prop):Nat->Bb->List Fm->Prop
 | 0,_,l=>l=[]
 | d+1,A,l=>0<l.length->∃b o,A=J ⟨b,o,Z⟩/\S b/\b<w.heap.size/\∀i (hi:i<l.length),∃A' c',(∀j v,(l[i].vs A' c')[j]?=J v->w.cell? ⟨b,o+i*6+j,Z⟩=J v)/\FsS w S d A' l[i].args
theorem FsS.of:∀ {d:Nat} {w:Ba} {B:Nat} {A:Bb} {l:List Fm},FsAt w B d A l->B<=w.heap.size->FsS w (fun k=>k<B) d A l
 | 0,_,_,_,_,h,_=>h
 | d+1,w,B,A,l,h,hB=>fun h0=>by
  obtain⟨b,o,e,hlt,hr⟩:=h h0;refine⟨b,o,e,hlt,by omega,fun i hi=>?_⟩;obtain⟨A',c',h1,h2⟩:=hr i hi;exact⟨A',c',h1,FsS.of h2 hB⟩
theorem FsS.at_:∀ {d:Nat} {w:Ba} {S:Nat->Prop} {A:Bb} {l:List Fm},FsS w S d A l->FsAt w w.heap.size d A l
 | 0,_,_,_,_,h=>h
 | d+1,w,S,A,l,h=>fun h0=>by
  obtain⟨b,o,e,_,hlt,hr⟩:=h h0;refine⟨b,o,e,hlt,fun i hi=>?_⟩;obtain⟨A',c',h1,h2⟩:=hr i hi;exact⟨A',c',h1,FsS.at_ h2⟩
theorem FsS.keep:∀ {d:Nat} {w w':Ba} {S S':Nat->Prop} {A:Bb} {l:List Fm},FsS w S d A l->w.heap.size<=w'.heap.size->(∀k,k<w.heap.size->S k->S' k/\w'.heap[k]?=w.heap[k]?)->FsS w' S' d A l
 | 0,_,_,_,_,_,_,h,_,_=>h
 | d+1,w,w',S,S',A,l,h,hs,hk=>fun h0=>by
  obtain⟨b,o,e,hS,hlt,hr⟩:=h h0;refine⟨b,o,e,(hk b hlt hS).1,by omega,fun i hi=>?_⟩;obtain⟨A',c',h1,h2⟩:=hr i hi;exact⟨A',c',fun j v hv=>(LL (a:=⟨b,o+i*6+j,Z⟩) (hk b hlt hS).2).trans (h1 j v hv),FsS.keep h2 hs hk⟩
theorem FsS.deep:∀ {d:Nat} {w:Ba} {S:Nat->Prop} {A:Bb} {l:List Fm},FsS w S d A l->FsS w S (d+1) A l
 | 0,_,_,_,l,h=>fun h0=>by
  have e:l=[]:=h;rw[e] at h0;cases h0
 | d+1,w,S,A,l,h=>fun h0=>by
  obtain⟨b,o,e,hS,hlt,hr⟩:=h h0;refine⟨b,o,e,hS,hlt,fun i hi=>?_⟩;obtain⟨A',c',h1,h2⟩:=hr i hi;exact⟨A',c',h1,FsS.deep h2⟩
theorem FsS.deeper{d d':Nat}{w:Ba}{S:Nat->Prop}{A:Bb}{l:List Fm}(h:FsS w S d A l)(hd:d<=d'):FsS w S d' A l:=by
 induction hd with
 | refl=>exact h
 | step _ ih=>exact ih.deep
def FmX(w:Ba)(S:Nat->Prop)(F:Fm)(v:Au):Prop:=∃d A c,v=.agg (F.vs A c)/\FsS w S d A F.args
theorem FmX.keep{w w':Ba}{S S':Nat->Prop}{F:Fm}{v:Au}(h:FmX w S F v)(hs:w.heap.size<=w'.heap.size)(hk:∀k,k<w.heap.size->S k->S' k/\w'.heap[k]?=w.heap[k]?):FmX w' S' F v:=by
 obtain⟨d,A,c,e,h⟩:=h;exact⟨d,A,c,e,h.keep hs hk⟩
def FmA(w:Ba)(F:Fm)(v:Au):Prop:=FmX w (fun _=>True) F v
theorem FmA.keep{w w':Ba}{F:Fm}{v:Au}(h:FmA w F v)(hb:Am w.heap.size w w'):FmA w' F v:=FmX.keep h hb.size fun k hk _=>⟨trivial,hb.block k hk⟩
theorem FmX.all{w:Ba}{S:Nat->Prop}{F:Fm}{v:Au}(h:FmX w S F v):FmA w F v:=h.keep (Ld _) fun _ _ _=>⟨trivial,rfl⟩
theorem FmA.of{w:Ba}{d c:Nat}{A:Bb}{F:Fm}(h:FsAt w w.heap.size d A F.args):FmA w F (.agg (F.vs A c)):=FmX.all ⟨d,A,c,rfl,FsS.of h (Ld _)⟩
def RetFm(S:Nat->Prop)(F:Fm)(w:Ba)(e:Ending)(w':Ba):Prop:=∃v,e=Ak v/\FmX w' (fun k=>S k\/w.heap.size<=k) F v/\Am w.heap.size w w'
def RetFa(F:Fm)(w:Ba)(e:Ending)(w':Ba):Prop:=∃v,e=Ak v/\FmA w' F v/\Am w.heap.size w w'
theorem RetFm.all{S:Nat->Prop}{F:Fm}{w w':Ba}{e:Ending}(h:RetFm S F w e w'):RetFa F w e w':=by
 obtain⟨v,h1,h2,h3⟩:=h;exact⟨v,h1,h2.all,h3⟩
theorem fs_row{w:Ba}{S:Nat->Prop}{g:Nat}{cs:Array Au}{t:TypeId}{l:List Fm}(hg:w.heap[g]?=J (Ag cs t (0,0)))(hS:S g)
  (h:∀i (hi:i<l.length),∃d A' c',(∀j v,(l[i].vs A' c')[j]?=J v->cs[i*6+j]?=J v)/\FsS w S d A' l[i].args):∃D,FsS w S D (J ⟨g,0,Z⟩) l:=by
 have key:∀q,q<=l.length->∃D,∀i (hi:i<l.length),i<q->∃A' c',(∀j v,(l[i].vs A' c')[j]?=J v->w.cell? ⟨g,0+i*6+j,Z⟩=J v)/\FsS w S D A' l[i].args:=by
  intro q
  induction q with
  | zero=>exact fun _=>⟨0,fun i _ h=>absurd h (by omega)⟩
  | succ q ih=>
   intro hq;obtain⟨D,hD⟩:=ih (by omega);obtain⟨d1,A1,k1,h1,h2⟩:=h q (by omega);refine⟨max D d1,fun i hi hiq=>?_⟩
   by_cases e:i=q
   . subst e
     exact⟨A1,k1,fun j v hv=>zh hg _ (by rw[LI];exact h1 j v hv),h2.deeper (Pc _ _)⟩
   . obtain⟨A',c',a1,a2⟩:=hD i hi (by omega)
     exact⟨A',c',a1,a2.deeper (PB _ _)⟩
 obtain⟨D,hD⟩:=key l.length (Ld _);exact⟨D+1,fun _=>⟨g,0,rfl,hS,(Ln.1 hg).1,fun i hi=>hD i hi hi⟩⟩
theorem fs_one{w:Ba}{S:Nat->Prop}{g:Nat}{t:TypeId}{F:Fm}{A:Bb}{c d:Nat}(hg:w.heap[g]?=J (Ag (F.vs A c) t (0,0)))(hS:S g)(h:FsS w S d A F.args):∃D,FsS w S D (J ⟨g,0,Z⟩) [F]:=
 fs_row hg hS fun i hi=>by
  obtain rfl:i=0:=by have:i<1:=hi;omega
  exact⟨d,A,c,fun j v hv=>by rw[P9,LI];exact hv,h⟩
end
section
section
variable {α:Type} [DecidableEq α]
def kX(rg:List α)(k:α):List α:=if k∈rg then rg else rg++[k]
def qb(l:List α):List α:=l.foldl kX []
theorem vT(l:List α)(k:α):qb (l++[k])=kX (qb l) k:=by simp[qb,List.foldl_append]
theorem mem_uniqF{rg:List α}{k x:α}:x∈kX rg k↔x∈rg\/x=k:=by
 unfold kX
 split
 . rename_i h
   exact⟨.inl,fun h'=>h'.elim id (fun e=>e▸h)⟩
 simp
theorem Xr{x:α}:∀ {l rg:List α},x∈l.foldl kX rg↔x∈rg\/x∈l
 | [],rg=>by simp
 | k::l,rg=>by rw[N7,Xr,mem_uniqF,L9,or_assoc]
theorem xW{l:List α}{x:α}:x∈qb l↔x∈l:=by unfold qb;rw[Xr];simp
def kD(l:List α):List Int:=l.map fun k=>((qb l).idxOf k:Int)
theorem jY(l:List α):(kD l).length=l.length:=by simp[kD]
theorem Xu(l:List α)(k:α):kD (l++[k])=kD l++[if k∈l then ((qb l).idxOf k:Int) else ((qb l).length:Int)]:=by
 unfold kD;rw[LF,vT]
 congr 1
 . refine Ps fun x hx=>?_
   unfold kX
   split
   . rfl
   rw[NI,Lj (xW.2 hx)]
 simp only[List.map_cons,List.map_nil,List.cons.injEq,and_true];unfold kX
 by_cases h:k∈l
 . rw[Lj (xW.2 h),Lj h]
 rw[Lg (fun e=>h (xW.1 e)),Lg h,NI,Lg (fun e=>h (xW.1 e))];simp
end
inductive Conn (n:Nat) (aH:Nat->Nat->Prop):Nat->Nat->Prop
 | refl (i:Nat):Conn n aH i i
 | step {i j k:Nat}:Conn n aH i j->j<n->k<n->aH j k->Conn n aH i k
section
variable {n:Nat} {aH:Nat->Nat->Prop}
theorem Conn.trans{i j k:Nat}(h:Conn n aH i j)(g:Conn n aH j k):Conn n aH i k:=by
 induction g with
 | refl=>exact h
 | step _ h1 h2 h3 ih=>exact .step ih h1 h2 h3
theorem Conn.one{i j:Nat}(hi:i<n)(hj:j<n)(h:aH i j):Conn n aH i j:=.step (.refl i) hi hj h
end
theorem Ym{p:Nat->Prop}:∀n,p n->∃m,m<=n/\p m/\∀k,k<m->¬p k:=by
 intro n
 induction n using Nat.strongRecOn with
 | _ n ih=>
  intro hn
  by_cases h:∃k,k<n/\p k
  . obtain⟨k,hk,hp⟩:=h
    obtain⟨m,h1,h2,h3⟩:=ih k hk hp;exact⟨m,by omega,h2,h3⟩
  . exact⟨n,Ld _,hn,fun k hk hp=>h ⟨k,hk,hp⟩⟩
structure Far(n:Nat)(aH:Nat->Nat->Prop)(cp:Nat->Prop)(f:Nat->Int):Prop where
 ge:∀i,i<n->-1<=f i
 zero:∀i,i<n->(f i=0↔cp i)
 step:∀i,i<n->0<f i->∃k,k<n/\aH i k/\f k=f i-1
 low:∀i k,i<n->k<n->aH i k->0<=f k->0<=f i/\f i<=f k+1
section
variable {n:Nat} {aH:Nat->Nat->Prop} {cp:Nat->Prop} {f g:Nat->Int}
theorem Far.le(hf:Far n aH cp f)(hg:Far n aH cp g):∀(d:Nat) (i:Nat),i<n->f i=(d:Int)->0<=g i/\g i<=f i:=by
 intro d
 induction d with
 | zero=>
  intro i hi h;have:=(hg.zero i hi).2 ((hf.zero i hi).1 h);omega
 | succ d ih=>
  intro i hi h;obtain⟨k,hk,ha,he⟩:=hf.step i hi (by omega);obtain⟨h1,h2⟩:=ih k hk (by omega);have:=hg.low i k hi hk ha h1;omega
theorem Far.uniq(hf:Far n aH cp f)(hg:Far n aH cp g)(i:Nat)(hi:i<n):f i=g i:=by
 have h1:=hf.ge i hi;have h2:=hg.ge i hi
 by_cases h:0<=f i
 . obtain⟨d,hd⟩:=Lp h
   obtain⟨h3,h4⟩:=hf.le hg d i hi hd;obtain⟨e,he⟩:=Lp h3;have:=hg.le hf e i hi he;omega
 by_cases h3:0<=g i
 . obtain⟨e,he⟩:=Lp h3
   have:=hg.le hf e i hi he;omega
 omega
end
theorem Xl:∀(n:Nat) (l:List Nat),l.Nodup->(∀x,x∈l->x<n)->l.length<=n
 | 0,l,_,h=>by cases l with
  | nil=>simp
  | cons a l=>exact absurd (h a (by simp)) (by omega)
 | n+1,l,hn,h=>by
  have h1:=Xl n (l.filter (·≠n)) (hn.filter _) (fun x hx=>by
   have h2:=List.mem_filter.1 hx;have h4:=h x h2.1;have h3:x≠n:=by simpa using h2.2
   omega)
  have h2:l.length<=(l.filter (·≠n)).length+1:=by
   by_cases hm:n∈l
   . have:l.filter (·≠n)=l.erase n:=by rw[hn.erase_eq_filter];congr 1;funext x;by_cases e:x=n<;>simp[e]
     rw[this,List.length_erase_of_mem hm];omega
   . rw[List.filter_eq_self.2 (fun x hx=>by simp;rintro rfl;exact hm hx)];omega
  omega
theorem Qt{n:Nat}{aH:Nat->Nat->Prop}{f:Nat->Int}(step:∀i,i<n->0<f i->∃k,k<n/\aH i k/\f k=f i-1){i:Nat}(hi:i<n):f i<n:=by
 by_cases h:0<=f i
 . obtain⟨d,hd⟩:=Lp h
   have aZ:∀e,e<=d->∃k,k<n/\f k=(e:Int):=by
    intro e he
    have:∀m,m<=d->∃k,k<n/\f k=((d-m:Nat):Int):=by
     intro m
     induction m with
     | zero=>intro _;exact⟨i,hi,by simpa using hd⟩
     | succ m ih=>
      intro hm;obtain⟨k,hk,nF⟩:=ih (by omega);obtain⟨k',en,_,sY⟩:=step k hk (by omega);exact⟨k',en,by omega⟩
    obtain⟨k,hk,nF⟩:=this (d-e) (by omega);exact⟨k,hk,by omega⟩
   have:∃l:List Nat,l.length=d+1/\l.Nodup/\∀x∈l,x<n:=by
    have hc:∀m,m<=d+1->∃l:List Nat,l.length=m/\l.Nodup/\(∀x∈l,x<n)/\∀x∈l,f x<(m:Int):=by
     intro m
     induction m with
     | zero=>intro _;exact⟨[],rfl,Sx,by simp,by simp⟩
     | succ m ih=>
      intro hm;obtain⟨l,h1,h2,h3,h4⟩:=ih (by omega);obtain⟨k,hk,nF⟩:=aZ m (by omega);refine⟨k::l,by simp[h1],P5.2 ⟨fun cJ=>?_,h2⟩,fun x hx=>?_,fun x hx=>?_⟩
      . have:=h4 k cJ;omega
      . rcases L9.1 hx with rfl | hx
        . exact hk
        . exact h3 x hx
      . rcases L9.1 hx with rfl | hx
        . omega
        . have:=h4 x hx;omega
    obtain⟨l,h1,h2,h3,_⟩:=hc (d+1) (Ld _);exact⟨l,h1,h2,h3⟩
   obtain⟨l,h1,h2,h3⟩:=this;have:=Xl n l h2 h3;omega
 omega
end
section
theorem JB{l:List Int}{i j:Nat}{x d:Int}(h:i<l.length):(l.set i x).getD j d=if j=i then x else l.getD j d:=by
 rw[Lf,Lf,Rs]
 by_cases e:i=j
 . subst e;simp[h]
 rw[Lg e,Lg (fun e'=>e e'.symm)]
theorem ye{l:List Int}{i:Nat}(h:i<l.length)(d:Int):l.getD i d=l[i]:=by rw[Lf,Li h];rfl
section
variable {n:Nat} {aH:Nat->Nat->Prop} {cp:Nat->Prop}
structure Bfs(n:Nat)(aH:Nat->Nat->Prop)(cp:Nat->Prop)(out:List Int)(q:List Nat):Prop where
 len:out.length=n
 ge:∀i,i<n->-1<=out.getD i 0
 zero:∀i,i<n->(out.getD i 0=0↔cp i)
 step:∀i,i<n->0<out.getD i 0->∃k,k<n/\aH i k/\out.getD k 0=out.getD i 0-1
 inq:∀x∈q,x<n/\0<=out.getD x 0
 asc:q.Pairwise (fun x y=>out.getD x 0<=out.getD y 0)
 near:∀x∈q,∀i,i<n->out.getD i 0<=out.getD x 0+1
 done:∀k,k<n->0<=out.getD k 0->k∉q->∀i,i<n->aH i k->0<=out.getD i 0/\out.getD i 0<=out.getD k 0+1
structure BfsH(n:Nat)(aH:Nat->Nat->Prop)(cp:Nat->Prop)(h:Nat)(pre:List Nat)(out:List Int)(q:List Nat):Prop where
 len:out.length=n
 ge:∀i,i<n->-1<=out.getD i 0
 zero:∀i,i<n->(out.getD i 0=0↔cp i)
 step:∀i,i<n->0<out.getD i 0->∃k,k<n/\aH i k/\out.getD k 0=out.getD i 0-1
 inq:∀x∈q,x<n/\0<=out.getD x 0
 asc:q.Pairwise (fun x y=>out.getD x 0<=out.getD y 0)
 hlt:h<n
 hge:0<=out.getD h 0
 after:∀x∈q,out.getD h 0<=out.getD x 0
 near:∀i,i<n->out.getD i 0<=out.getD h 0+1
 done:∀k,k<n->0<=out.getD k 0->k∉q->k≠h->∀i,i<n->aH i k->0<=out.getD i 0/\out.getD i 0<=out.getD k 0+1
 seen:∀t∈pre,0<=out.getD t 0
theorem Bfs.start(l:List Nat)(out:List Int)(hl:out.length=n)(h:∀i,i<n->out.getD i 0=if i∈l then 0 else -1)(hm:∀x∈l,x<n)(hs:∀i,i<n->(cp i↔i∈l)):Bfs n aH cp out l where
 len:=hl
 ge:=fun i hi=>by rw[h i hi];split<;>omega
 zero:=fun i hi=>by
  rw[h i hi,hs i hi]
  by_cases e:i∈l
  . simp[e]
  . simp[e]
 step:=fun i hi h0=>by rw[h i hi] at h0;split at h0<;>omega
 inq:=fun x hx=>⟨hm x hx,by rw[h x (hm x hx),Lj hx];omega⟩
 asc:=by
  refine List.pairwise_iff_forall_sublist.2 fun {a b} pm=>?_
  have ha:=pm.subset (show a∈[a,b] by simp);have hb:=pm.subset (show b∈[a,b] by simp);rw[h a (hm a ha),h b (hm b hb),Lj ha,Lj hb];omega
 near:=fun x hx i hi=>by rw[h x (hm x hx),Lj hx,h i hi];split<;>omega
 done:=fun k hk h0 hn=>by rw[h k hk,Lg hn] at h0;omega
theorem Bfs.pop{h:Nat}{out:List Int}{q:List Nat}(b:Bfs n aH cp out (h::q)):BfsH n aH cp h [] out q where
 len:=b.len
 ge:=b.ge
 zero:=b.zero
 step:=b.step
 inq:=fun x hx=>b.inq x (PF _ hx)
 asc:=(Rf.1 b.asc).2
 hlt:=(b.inq h (by simp)).1
 hge:=(b.inq h (by simp)).2
 after:=(Rf.1 b.asc).1
 near:=b.near h (by simp)
 done:=fun k hk h0 hq az=>b.done k hk h0 (by simp[hq,az])
 seen:=by simp
theorem BfsH.skip{h t:Nat}{pre:List Nat}{out:List Int}{q:List Nat}(b:BfsH n aH cp h pre out q)(ht:0<=out.getD t 0):BfsH n aH cp h (pre++[t]) out q:=by
 refine⟨b.len,b.ge,b.zero,b.step,b.inq,b.asc,b.hlt,b.hge,b.after,b.near,b.done,fun x hx=>?_⟩;rcases LX.1 hx with hx | hx
 . exact b.seen x hx
 rw[LQ] at hx;subst hx;exact ht
theorem BfsH.see{h t:Nat}{pre:List Nat}{out:List Int}{q:List Nat}(b:BfsH n aH cp h pre out q)(hn:t<n)(ha:aH t h)(ht:out.getD t 0<0) :
  BfsH n aH cp h (pre++[t]) (out.set t (out.getD h 0+1)) (q++[t]):=by
 have Tt:t≠h:=by rintro rfl;have:=b.hge;omega
 have lA:t<out.length:=by rw[b.len];exact hn
 have gt:(out.set t (out.getD h 0+1)).getD t 0=out.getD h 0+1:=by rw[JB lA,Lj rfl]
 have go:∀j,j≠t->(out.set t (out.getD h 0+1)).getD j 0=out.getD j 0:=fun j hj=>by rw[JB lA,Lg hj]
 have hge:=b.hge;have hq:∀x∈q,x≠t:=fun x hx=>by rintro rfl;have:=(b.inq x hx).2;omega
 refine⟨by rw[RL];exact b.len,fun i hi=>?_,fun i hi=>?_,fun i hi h0=>?_,fun x hx=>?_,?_,b.hlt,by rw[go h (N9 Tt)];exact hge,fun x hx=>?_,fun i hi=>?_,fun k hk h0 FA hkh i hi hai=>?_,fun x hx=>?_⟩
 . by_cases e:i=t
   . subst e;rw[gt];omega
   rw[go i e];exact b.ge i hi
 . by_cases e:i=t
   . subst e
     rw[gt,<-b.zero i hi];omega
   rw[go i e];exact b.zero i hi
 . by_cases e:i=t
   . subst e
     exact⟨h,b.hlt,ha,by rw[gt,go h (N9 Tt)];omega⟩
   rw[go i e] at h0 ⊢;obtain⟨k,hk,hak,he⟩:=b.step i hi h0;exact⟨k,hk,hak,by rw[go k (by rintro rfl;omega)];exact he⟩
 . rcases LX.1 hx with hx | hx
   . rw[go x (hq x hx)];exact b.inq x hx
   rw[LQ] at hx;subst hx;exact⟨hn,by rw[gt];omega⟩
 . refine RR.2 ⟨?_,List.pairwise_singleton _ _,fun x hx y hy=>?_⟩
   . exact b.asc.imp_of_mem fun {x y} hx hy h1=>by rw[go x (hq x hx),go y (hq y hy)];exact h1
   rw[LQ] at hy;subst hy;rw[gt,go x (hq x hx)];exact b.near x (b.inq x hx).1
 . rw[go h (N9 Tt)]
   rcases LX.1 hx with hx | hx
   . rw[go x (hq x hx)];exact b.after x hx
   rw[LQ] at hx;subst hx;rw[gt];omega
 . rw[go h (N9 Tt)]
   by_cases e:i=t
   . subst e;rw[gt];omega
   rw[go i e];exact b.near i hi
 . have DV:k≠t:=by rintro rfl;exact FA (by simp)
   rw[go k DV] at h0 ⊢;have:=b.done k hk h0 (fun e=>FA (PG _ e)) hkh i hi hai;have TO:i≠t:=by rintro rfl;omega
   rw[go i TO];exact this
 rcases LX.1 hx with hx | hx
 . have h1:=b.seen x hx
   rw[go x (by rintro rfl;omega)];exact h1
 rw[LQ] at hx;subst hx;rw[gt];omega
theorem BfsH.close{h:Nat}{pre:List Nat}{out:List Int}{q:List Nat}(b:BfsH n aH cp h pre out q)(hp:∀i,i<n->aH i h->i∈pre):Bfs n aH cp out q where
 len:=b.len
 ge:=b.ge
 zero:=b.zero
 step:=b.step
 inq:=b.inq
 asc:=b.asc
 near:=fun x hx i hi=>by have:=b.near i hi;have:=b.after x hx;omega
 done:=fun k hk h0 hq i hi ha=>by
  by_cases e:k=h
  . subst e
    exact⟨b.seen i (hp i hi ha),b.near i hi⟩
  . exact b.done k hk h0 hq e i hi ha
theorem Bfs.far{out:List Int}(b:Bfs n aH cp out []):Far n aH cp (fun i=>out.getD i 0) where
 ge:=b.ge
 zero:=b.zero
 step:=b.step
 low:=fun i k hi hk ha h0=>b.done k hk h0 (by simp) i hi ha
theorem neg_set{out:List Int}{t:Nat}{x:Int}(ht:t<out.length)(h:out.getD t 0<0)(hx:0<=x):((out.set t x).filter (fun y=>decide (y<0))).length+1=(out.filter (fun y=>decide (y<0))).length:=by
 rw[ye ht] at h;rw[<-Sq,<-Sq,List.countP_set ht];have h1:decide (out[t]<0)=Av:=by simpa using h
 have h2:decide (x<0)=Aw:=by simpa using hx
 have h3:0<out.countP (fun y=>decide (y<0)):=List.countP_pos_iff.2 ⟨out[t],Lh ht,h1⟩;rw[h1,h2];simp only[if_true,Bool.false_eq_true,if_false];omega
end
theorem far_list{n:Nat}{aH:Nat->Nat->Prop}{cp:Nat->Prop}{a b:List Int}(hf:Far n aH cp (fun i=>a.getD i 0))(hg:Far n aH cp (fun i=>b.getD i 0))(ha:a.length=n)(hb:b.length=n):a=b:=by
 refine NO (by omega) fun i h1 h2=>?_
 have:=hf.uniq hg i (by omega);rwa[ye h1,ye h2] at this
theorem far_reach{n:Nat}{aH:Nat->Nat->Prop}{cp:Nat->Prop}{f:Nat->Int}(hf:Far n aH cp f)(hs:∀i k,aH i k->aH k i)(i:Nat)(hi:i<n):0<=f i↔∃j,j<n/\cp j/\Conn n aH j i:=by
 constructor
 . intro h
   obtain⟨d,hd⟩:=Lp h;clear h
   induction d generalizing i with
   | zero=>exact⟨i,hi,(hf.zero i hi).1 hd,.refl _⟩
   | succ d ih=>
    obtain⟨k,hk,ha,he⟩:=hf.step i hi (by omega);obtain⟨j,hj,sb,hc⟩:=ih k hk (by omega);exact⟨j,hj,sb,hc.trans (Conn.one hk hi (hs _ _ ha))⟩
 rintro⟨j,hj,sb,hc⟩
 induction hc with
 | refl=>have:=(hf.zero j hj).2 sb;omega
 | step _ h1 h2 h3 ih=>exact(hf.low _ _ h2 h1 (hs _ _ h3) (ih h1)).1
end
section
theorem snocI{α:Type}{P:List α->Prop}(h0:P [])(hs:∀l x,P l->P (l++[x]))(l:List α):P l:=by
 rw[<-List.reverse_reverse l]
 induction l.reverse with
 | nil=>exact h0
 | cons x t ih=>rw[List.reverse_cons];exact hs _ _ ih
def jJ(c:List Int)(k:Int):List Nat:=(List.range c.length).filter fun i=>decide (c.getD i 0=k)
def zU(ps:List Nat)(cls:Nat->List Int)(i:Nat):List (Nat×Nat):=ps.flatMap fun p=>(jJ (cls p) ((cls p).getD i 0)).map fun k=>(k,p)
def qB(ps:List Nat)(cls:Nat->List Int)(i k:Nat):Prop:=∃p∈ps,(cls p).getD i 0=(cls p).getD k 0
theorem adjE_symm(ps:List Nat)(cls:Nat->List Int)(i k:Nat)(h:qB ps cls i k):qB ps cls k i:=by obtain⟨p,hp,e⟩:=h;exact⟨p,hp,e.symm⟩
theorem mem_memE{c:List Int}{k:Int}{i:Nat}:i∈jJ c k↔i<c.length/\c.getD i 0=k:=by simp[jJ]
theorem kB{n:Nat}{ps:List Nat}{cls:Nat->List Int}(hl:∀p∈ps,(cls p).length=n){i:Nat}{t:Nat×Nat}:t∈zU ps cls i↔t.1<n/\t.2∈ps/\(cls t.2).getD t.1 0=(cls t.2).getD i 0:=by
 unfold zU;simp only[List.mem_flatMap,List.mem_map,mem_memE];constructor
 . rintro⟨p,hp,k,⟨h1,h2⟩,rfl⟩
   exact⟨by rw[<-hl p hp];exact h1,hp,h2⟩
 rintro⟨h1,h2,h3⟩;exact⟨t.2,h2,t.1,⟨by rw[hl _ h2];exact h1,h3⟩,rfl⟩
theorem nbr_adj{n:Nat}{ps:List Nat}{cls:Nat->List Int}(hl:∀p∈ps,(cls p).length=n){i t:Nat}(ht:t<n):t∈(zU ps cls i).map (·.1)↔qB ps cls t i:=by
 rw[LS];constructor
 . rintro⟨x,hx,rfl⟩
   obtain⟨h1,h2,h3⟩:=(kB hl).1 hx;exact⟨x.2,h2,h3⟩
 rintro⟨p,hp,e⟩;exact⟨(t,p),(kB hl).2 ⟨ht,hp,e⟩,rfl⟩
theorem nbr_asc{ps:List Nat}{cls:Nat->List Int}(hp:ps.Pairwise (·<·))(i:Nat):(zU ps cls i).Pairwise (fun a b=>a.2<=b.2):=by
 unfold zU
 induction ps with
 | nil=>simp
 | cons p ps ih=>
  obtain⟨h1,h2⟩:=Rf.1 hp;rw[Nr];refine RR.2 ⟨?_,ih h2,fun x hx y hy=>?_⟩
  . exact Sh.2 (List.Pairwise.imp (fun _=>Ld _) (List.pairwise_of_forall (fun _ _=>trivial):List.Pairwise (fun _ _=>True) _))
  . obtain⟨k,_,rfl⟩:=LS.1 hx
    obtain⟨q,hq,hy⟩:=Nw.1 hy;obtain⟨k',_,rfl⟩:=LS.1 hy;exact Px (h1 q hq)
def qi(f:List Int)(d:Int)(b t:Nat×Nat):Nat×Nat:=if f.getD t.1 0=d/\t.1<b.1 then t else b
def yO(f:List Int)(d:Int)(n:Nat)(l:List (Nat×Nat)):Nat×Nat:=l.foldl (qi f d) (n,0)
theorem bestE_snoc(f:List Int)(d:Int)(n:Nat)(l:List (Nat×Nat))(t:Nat×Nat):yO f d n (l++[t])=qi f d (yO f d n l) t:=by simp[yO,List.foldl_append]
theorem Qx(f:List Int)(d:Int)(n:Nat):∀(l:List (Nat×Nat)) (b:Nat×Nat),(l.foldl (qi f d) b).1<=b.1
 | [],b=>Ld _
 | t::l,b=>by
  rw[N7];refine Lu (Qx f d n l _) ?_;unfold qi
  split
  . rename_i h;omega
  . exact Ld _
theorem gh(f:List Int)(d:Int)(n:Nat):∀(l:List (Nat×Nat)) (b:Nat×Nat),(l.Pairwise fun a b=>a.2<=b.2) ->
  (∀t∈l,f.getD t.1 0=d->(l.foldl (qi f d) b).1<=t.1) /\
  ((l.foldl (qi f d) b)=b\/((l.foldl (qi f d) b)∈l/\f.getD (l.foldl (qi f d) b).1 0=d/\(l.foldl (qi f d) b).1<b.1/\∀t∈l,t.1=(l.foldl (qi f d) b).1->(l.foldl (qi f d) b).2<=t.2))
 | [],b,_=>⟨by simp,.inl rfl⟩
 | t::l,b,hp=>by
  obtain⟨h1,h2⟩:=Rf.1 hp;obtain⟨i1,i2⟩:=gh f d n l (qi f d b t) h2;have cG:=Qx f d n l (qi f d b t);rw[N7]
  generalize l.foldl (qi f d) (qi f d b t)=r at *
  by_cases hc:f.getD t.1 0=d/\t.1<b.1
  . have e:qi f d b t=t:=Lj hc
    rw[e] at i2 cG;refine⟨fun x hx FK=>?_,.inr ?_⟩
    . rcases L9.1 hx with rfl | hx
      . exact cG
      . exact i1 x hx FK
    . rcases i2 with rfl | ⟨j1,j2,j3,j4⟩
      · exact ⟨by simp, hc.1, hc.2, fun x hx he => by
         rcases L9.1 hx with rfl | hx
         . exact Ld _
         . exact h1 x hx⟩
      · exact ⟨List.mem_cons_of_mem _ j1, j2, by omega, fun x hx he => by
         rcases L9.1 hx with rfl | hx
         . omega
         . exact j4 x hx he⟩
  . have e:qi f d b t=b:=Lg hc
    rw[e] at i2 cG;refine⟨fun x hx FK=>?_,?_⟩
    . rcases L9.1 hx with rfl | hx
      . have:¬x.1<b.1:=fun h=>hc ⟨FK,h⟩
        omega
      . exact i1 x hx FK
    . rcases i2 with h | ⟨j1,j2,j3,j4⟩
      . exact .inl h
      . refine .inr ⟨PF _ j1,j2,j3,fun x hx he=>?_⟩
        rcases L9.1 hx with rfl | hx
        . have:¬x.1<b.1:=fun h=>hc ⟨by rw[he];exact j2,h⟩
          omega
        . exact j4 x hx he
def yZ(f:List Int)(n:Nat)(nb:Nat->List (Nat×Nat)):Nat->Nat->List (Nat×Nat)
 | 0,_=>[]
 | d+1,i=>yO f (d:Int) n (nb i)::yZ f n nb d (yO f (d:Int) n (nb i)).1
theorem vh(f:List Int)(n:Nat)(nb:Nat->List (Nat×Nat)):∀d i,(yZ f n nb d i).length=d
 | 0,_=>rfl
 | d+1,i=>by rw[yZ,Lx,vh]
def yv(set:List Bool):List Nat:=(List.range set.length).filter fun i=>set.getD i Aw==Aw
theorem jX{set:List Bool}{i:Nat}:i∈yv set↔i<set.length/\set.getD i Aw=Aw:=by simp[yv]
noncomputable def jj(n:Nat)(aH:Nat->Nat->Prop)(set:List Bool):List Bool:=(List.range n).map fun i=>@decide (∀j,j<n->Conn n aH j i->set.getD j Aw=Av) (Classical.propDecidable _)
theorem qZ(n:Nat)(aH:Nat->Nat->Prop)(set:List Bool):(jj n aH set).length=n:=by simp[jj]
theorem heldL_at(n:Nat)(aH:Nat->Nat->Prop)(set:List Bool)(i:Nat)(h:i<n):(jj n aH set)[i]'(by rw[qZ];exact h)=Av↔∀j,j<n->Conn n aH j i->set.getD j Aw=Av:=by simp[jj]
theorem Jw{n:Nat}{aH:Nat->Nat->Prop}{set:List Bool}{f:List Int}(hn:set.length=n)(hf:Far n aH (fun i=>i∈yv set) (fun i=>f.getD i 0))(hl:f.length=n)(hs:∀i k,aH i k->aH k i):jj n aH set=f.map fun d=>decide (d<0):=by
 refine NO (by rw[qZ];simp[hl]) fun i h1 h2=>?_
 have hi:i<n:=by rwa[qZ] at h1
 rw[NL,heldL_at n aH set i hi,Ny,Pd];have hr:=far_reach hf hs i hi;rw[<-ye (by omega:i<f.length) 0];constructor
 . intro h
   refine Int.not_le.1 fun h0=>?_
   obtain⟨j,hj,sb,hc⟩:=hr.1 h0;have h3:=(jX.1 sb).2;rw[h j hj hc] at h3
   cases h3
 intro h j hj hc
 cases hb:set.getD j Aw with
 | true=>rfl
 | false=>have:=hr.2 ⟨j,hj,jX.2 ⟨by omega,hb⟩,hc⟩;omega
def xP(n:Nat)(aH:Nat->Nat->Prop)(cp:Nat->Prop):Nat->Nat->Prop
 | 0,i=>cp i
 | d+1,i=>∃k,k<n/\aH i k/\xP n aH cp d k
noncomputable def Zh(n:Nat)(aH:Nat->Nat->Prop)(cp:Nat->Prop)(i:Nat):Int:=
 @dite _ (∃d,xP n aH cp d i) (Classical.propDecidable _) (fun h=>((Classical.choose (Ym (p:=fun d=>xP n aH cp d i) (Classical.choose h) (Pi h)):Nat):Int)) (fun _=>-1)
theorem xT{n:Nat}{aH:Nat->Nat->Prop}{cp:Nat->Prop}{i d:Nat}(h:xP n aH cp d i):∃m:Nat,Zh n aH cp i=(m:Int)/\m<=d/\xP n aH cp m i/\∀k,k<m->¬xP n aH cp k i:=by
 have h1:∃d,xP n aH cp d i:=⟨d,h⟩;unfold Zh;rw[dif_pos h1];obtain⟨a1,a2,a3⟩:=Pi (Ym (p:=fun d=>xP n aH cp d i) (Classical.choose h1) (Pi h1));exact⟨_,rfl,Nat.le_of_not_lt fun hlt=>a3 d hlt h,a2,a3⟩
theorem jz{n:Nat}{aH:Nat->Nat->Prop}{cp:Nat->Prop}{i:Nat}(h:¬ ∃d,xP n aH cp d i):Zh n aH cp i=-1:=by
 unfold Zh;rw[dif_neg h]
theorem distN_far(n:Nat)(aH:Nat->Nat->Prop)(cp:Nat->Prop):Far n aH cp (Zh n aH cp) where
 ge:=fun i _=>by
  by_cases h:∃d,xP n aH cp d i
  . obtain⟨d,hd⟩:=h
    obtain⟨m,e,_⟩:=xT hd;omega
  . rw[jz h];omega
 zero:=fun i _=>by
  constructor
  . intro h0
    by_cases h:∃d,xP n aH cp d i
    . obtain⟨d,hd⟩:=h
      obtain⟨m,e,_,h2,_⟩:=xT hd;obtain rfl:m=0:=by omega
      exact h2
    . rw[jz h] at h0;omega
  . intro h0
    obtain⟨m,e,h1,_⟩:=xT (d:=0) (show xP n aH cp 0 i from h0);omega
 step:=fun i _ h0=>by
  by_cases h:∃d,xP n aH cp d i
  . obtain⟨d,hd⟩:=h
    obtain⟨m,e,_,h2,h3⟩:=xT hd;obtain⟨m',rfl⟩:∃m',m=m'+1:=⟨m-1,by omega⟩;obtain⟨k,hk,ha,hr⟩:=h2;obtain⟨j,e2,hj,hj2,_⟩:=xT hr;refine⟨k,hk,ha,?_⟩;have:¬j<m':=fun hlt=>h3 (j+1) (by omega) ⟨k,hk,ha,hj2⟩
    omega
  . rw[jz h] at h0;omega
 low:=fun i k _ hk ha h0=>by
  by_cases h:∃d,xP n aH cp d k
  . obtain⟨d,hd⟩:=h
    obtain⟨m,e,_,h2,_⟩:=xT hd;obtain⟨j,e2,hj,_⟩:=xT (d:=m+1) (show xP n aH cp (m+1) i from⟨k,hk,ha,h2⟩);omega
  . rw[jz h] at h0;omega
theorem far_ex(n:Nat)(aH:Nat->Nat->Prop)(cp:Nat->Prop):∃f:List Int,f.length=n/\Far n aH cp (fun i=>f.getD i 0):=by
 refine⟨(List.range n).map (Zh n aH cp),by simp,?_⟩;have h:=distN_far n aH cp;have e:∀i,i<n->((List.range n).map (Zh n aH cp)).getD i 0=Zh n aH cp i:=fun i hi=>by rw[ye (by simpa using hi)];simp
 refine⟨fun i hi=>by simp only[e i hi];exact h.ge i hi,fun i hi=>by simp only[e i hi];exact h.zero i hi,fun i hi h0=>?_,fun i k hi hk ha h0=>?_⟩
 . simp only[e i hi] at h0 ⊢
   obtain⟨k,hk,ha,hd⟩:=h.step i hi h0;exact⟨k,hk,ha,by rw[e k hk];exact hd⟩
 simp only[e i hi,e k hk] at h0 ⊢;exact h.low i k hi hk ha h0
def xq(bs:List Bool)(k:Nat):List Bool:=bs.take k++List.replicate (bs.length-k) Aw
theorem jk(bs:List Bool):xq bs 0=List.replicate bs.length Aw:=by simp[xq]
theorem j9(bs:List Bool):xq bs bs.length=bs:=by simp[xq]
theorem j8(bs:List Bool){k:Nat}(hk:k<=bs.length):(xq bs k).length=bs.length:=by simp[xq];omega
theorem j7(bs:List Bool){k:Nat}(hk:k<bs.length):(xq bs k).set k bs[k]=xq bs (k+1):=by
 unfold xq;rw[Ls hk,List.set_append_right _ _ (by simp;omega)];rw[show bs.length-k=(bs.length-(k+1))+1 by omega,List.replicate_succ];rw[show k-(bs.take k).length=0 by simp;omega,List.set_cons_zero,L6]
 rfl
end
section
open Go.RowKit Go.Shelf
attribute [local go_sem] Oper.semAt_some
theorem prs_all(n:Nat)(hn:0<n):∀m i,zt n i m=(List.range (m*n)).map fun t=>(i+t / n,t % n)
 | 0,i=>by simp[zt]
 | m+1,i=>by
  rw[zt,prs_all n hn m (i+1),Nat.succ_mul,Nat.add_comm (m*n) n,List.range_add,LF,PP]
  congr 1
  . refine Ps fun t ht=>?_
    have:=PO.1 ht;rw[Nat.div_eq_of_lt this,Sl this,Py]
  . refine Ps fun t _=>?_
    simp only[Function.comp];rw[Nat.add_div_left _ hn,Nat.add_mod_left]
    congr 1
    omega
theorem vt(n m:Nat)(hn:0<n):(zt n 0 m).length=m*n:=by rw[prs_all n hn];simp
theorem Qy(s:Sy)(A SV AV AX:Bb)(kc ks kv kx:Nat)(w:Ba):An Al 119 #[.agg (s.vs_ A kc SV ks AV kv AX kx)] w fun e w'=>
  e=Ak (.func (.func 144) #[] #[Aj (J ⟨w.heap.size,0,Z⟩)])/\w.alloc (Ag (s.vs_ A kc SV ks AV kv AX kx) 39)=w':=by
 unfold Sy.vs_;go_enter func119,ntmps119;go_wp2;go_ret;exact⟨rfl,rfl⟩
structure PtC(C:Array Au)(K M:Nat)(AX:Bb)(kx:Nat):Prop where
 c6:C[6]?=J (O U (K:Int))
 c9:C[9]?=J (I AX M kx)
theorem gi(C:Array Au)(K M:Nat)(hK:K<=100)(hM:M<=100)(AX:Bb)(kx:Nat)(hC:PtC C K M AX kx)(bs:Nat)(w:Ba)(hb:w.heap[bs]?=J (Ag C 39 (0,0))) :
  Y1 Al 144 #[Aj (J ⟨bs,0,Z⟩)] (fun x:Nat×Nat=>#[Ai #[O U x.1,O U x.2]]) (fun k=>k=bs) (zt (K+1) 0 M) w:=fun n hn l Af Jx W hW hJ OG hY h0=>by
 have my:bs<w.heap.size:=(Ln.1 hb).1;have iB:=(hW.block bs my).trans hb;have HY:=zH hY;have c9:=zh iB 9 hC.c9;have HC6:=zH hC.c6;have H0:=zH h0;have ti:=zH iB;have VI:bs<W.heap.size:=LH my hW.size;refine Ru Sg rfl trivial ?_ rfl;simp only[ntmps144,List.size_toArray,List.length_cons,List.length_nil,Nat.reduceAdd,Nat.reduceSub,Array.replicate_succ,Array.replicate_zero,List.push_toArray,List.append_toArray,List.nil_append,List.cons_append];gi_wp2
 gi_loopw [8] (fun q wr=>∃s:Nat,s<=M/\q=O U (s:Int)/\∃pre:List { x:Nat×Nat // x∈zt (K+1) 0 M },As (pre.map (·.1)++zt (K+1) s (M-s)=zt (K+1) 0 M)/\As (Af pre wr)/\As (wr.heap[bs]?=J (Ag C 39 (0,0)))/\W.heap.size<=wr.heap.size) (fun q _=>M-(Ar q).toNat)
 case atStart=>exact⟨0,by omega,rfl,[],by simp[As],H0,ti,Ld _⟩
 case round=>
  obtain⟨s,hs,rfl,pre,fa,eS,nO,aP⟩:=hrel
  by_cases hlt:s<M
  · have BO : zt (K + 1) s (M - s) = yS (K + 1) s 0 ++ zt (K + 1) (s + 1) (M - (s + 1)) := by
     rw[show M-s=(M-(s+1))+1 by omega,zt];unfold yS;rw[Nl]
    have HP:As (pre.map (·.1)++(yS (K+1) s 0++zt (K+1) (s+1) (M-(s+1)))=zt (K+1) 0 M):=by rw[<-BO];exact fa.out
    have q6:=zh nO.out 6 HC6.out;have ab:IntKind.i64.wrap ((K:Int)+1)=(K:Int)+1:=by rw[Lo];omega
    gi_wp2_with fail
    gi_loopw [15] (fun q wr=>∃j:Nat,j<=K+1/\q=O U (j:Int)/\∃pre:List { x:Nat×Nat // x∈zt (K+1) 0 M },As (pre.map (·.1)++(yS (K+1) s j++zt (K+1) (s+1) (M-(s+1)))=zt (K+1) 0 M)/\As (Af pre wr)/\As (wr.heap[bs]?=J (Ag C 39 (0,0)))/\W.heap.size<=wr.heap.size) (fun q _=>K+1-(Ar q).toNat)
    case atStart=>exact⟨0,by omega,rfl,pre,HP,eS,nO,aP⟩
    case round=>
     obtain⟨j,hj,rfl,pre,fa,eS,nO,aP⟩:=hrel
     by_cases cc:j<K+1
     · have mr : pre.map (·.1) ++ ((s, j) :: (yS (K + 1) s (j + 1) ++ zt (K + 1) (s + 1) (M - (s + 1)))) = zt (K + 1) 0 M := by
        have:=fa.out;rw[uy cc,L3] at this;exact this
       have cS:(s,j)∈zt (K+1) 0 M:=by rw[<-mr];simp
       have ay:pre.length<(zt (K+1) 0 M).length:=by
        have:=congrArg List.length mr;simp only[List.length_append,List.length_map,List.length_cons] at this;omega
       obtain⟨fn,tmps,assign,body,hy,hR⟩:=HY.out pre ⟨(s,j),cS⟩ _ eS.out ay;dsimp only at hy
       have rU:As ((pre++[(⟨(s,j),cS⟩:{ x:Nat×Nat // x∈zt (K+1) 0 M })]).map (·.1)++(yS (K+1) s (j+1)++zt (K+1) (s+1) (M-(s+1)))=zt (K+1) 0 M):=by
        rw[LF,L6];exact mr
       have HR:=zH hR;gi_wp2_with fail;refine HR.out.mono ?_;rintro e W3 (⟨rfl,BS,mu⟩ | ⟨rfl,nQ⟩)
       . have av:wr.heap.size<=W3.heap.size:=mu.size
         have P3:=zH ((mu.same bs rfl (by omega)).trans nO.out);have J3:=zH BS;have lB:W.heap.size<=W3.heap.size:=by omega
         gi_wp2_with fail
         go_roundw
         case rel=>exact⟨j+1,by omega,by go_num,_,rU,J3,P3,lB⟩
         case measure=>simp[Ar];omega
       . gi_wp2_with fail
         refine LP (P8 rfl _ _ _) rfl ?_;refine⟨⟨_,rfl⟩,.inr ⟨_,?_,nQ⟩⟩;exact⟨_,rU.out⟩
     . obtain rfl:j=K+1:=by omega
       have HP:As (pre.map (·.1)++zt (K+1) (s+1) (M-(s+1))=zt (K+1) 0 M):=by have:=fa.out;rwa[gM,LW] at this
       gi_wp2_with fail
       go_roundw
       case rel=>exact⟨s+1,by omega,by go_num,pre,HP,eS,nO,aP⟩
       case measure=>simp[Ar];omega
  . obtain rfl:M=s:=by omega
    have HP:As (pre.map (·.1)=zt (K+1) 0 M):=by have:=fa.out;rwa[Nq,zt,Nk] at this
    gi_wp2_with fail
    go_end0
    exact⟨⟨_,rfl⟩,.inl ⟨pre,HP.out,eS.out⟩⟩
end
section
open Go.RowKit Go.Shelf
theorem uB{w:Ba}{base:Nat}{v:Au}{xs:List Int}(h:Own w base v xs){k:Nat}{cs:Array Au}{t:TypeId}(hk:w.heap[k]?=J (Ag cs t (0,0)))(ht:t≠3):v.ownBlock≠J k:=by
 intro e;rcases h.2 with ⟨rfl,_⟩ | ⟨g,cap,cur,rfl,_,hg,_⟩
 . cases e
 simp only[Value.ownBlock,Option.some.injEq] at e;subst e;rw[hk] at hg
 cases hg
 exact ht rfl
theorem vu{w:Ba}{base:Nat}{v:Au}{xs:List Int}(h:Own w base v xs):∀r,v.ownBlock=J r->base<=r/\∀o,w.heap[r]?=J o->o.isCells=Av:=by
 intro r hr;refine⟨(h.lt r hr).1,fun o ho=>?_⟩;rcases h.2 with ⟨rfl,_⟩ | ⟨g,cap,cur,rfl,_,hg,_⟩
 . cases hr
 simp only[Value.ownBlock,Option.some.injEq] at hr;subst hr;rw[hg] at ho
 cases ho
 rfl
end
end Go.Proofs.YtkmbdfdaffmhjaaGreat
