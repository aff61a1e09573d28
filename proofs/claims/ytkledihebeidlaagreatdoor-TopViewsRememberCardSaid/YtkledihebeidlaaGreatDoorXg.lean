/- Merged. -/
import Derived.Test.YtkledihebeidlaaGreatDoorXf
import Derived.Lib.FrozenHead2
import Derived.Lib.OthersKept
import Derived.Lib.Builder
import Derived.Lib.AppendStr
import Derived.Laws.Externs
import Derived.Deep.CutBlock
import Derived.Sort.CutIn
import Derived.Orders
open Go.Proofs.Tryz
open Go.Value renaming int->O,slice->I,bool->Ah,agg->Ai,pointer->Aj
open Go.IntKind renaming i64->U
open Option renaming none->Z,some->J
open Go.Obj renaming cells->Ag
open Go.Ending renaming returned->Ak
open Go.Proofs.Tryz renaming prog->Al
open Go.RowKit renaming Below->Am,intOf->Ao,Hid->Ap
open Go renaming Calls->An,Value->Aq
open Bool renaming true->Ar,false->As
open List renaming filter_cons->Rb
namespace Go.Proofs.YtkledihebeidlaaGreatDoor
abbrev Sb:=@List.mem_of_find?_eq_some
abbrev R7:=@Array.getD_eq_getD_getElem?
set_option maxRecDepth 100000
set_option maxHeartbeats 40000000
section
open Go.RowKit Go.Shelf
attribute [local go_sem] Oper.semAt_some
def yY(k:Nat)(f:Nat->Nat):Nat->Nat:=fun q=>if q<k then f q else 0
theorem gF_zero(n:Int)(f:Nat->Nat):gF n (yY 0 f)=#[O U n,O U 0,O U 0,O U 0,O U 0,O U 0]:=rfl
theorem gF_set(n:Int)(f:Nat->Nat){k:Nat}(hk:k<5):(gF n (yY k f)).set! (1+k) (O U (f k:Nat))=gF n (yY (k+1) f):=by
 obtain rfl | rfl | rfl | rfl | rfl:k=0\/k=1\/k=2\/k=3\/k=4:=by omega
 all_goals rfl
theorem gph_set{w:Ba}{g:Nat}{cs:Array Aq}{t:TypeId}(h:w.heap[g]?=J (Ag cs t (0,0)))(i:Nat)(v:Aq):(w.setCell ⟨g,i,Z⟩ v).heap[g]?=J (Ag (cs.set! i v) t (0,0)):=by
 rw[World.setCell,Pe,Lm rfl,h]
 rfl
theorem xq{P:Program}{fn:Func}{p u:Tmp}{ty:TypeId}(h:fn.results=#[.cell p ty,.tmp u])(tmps:Array Aq)(w:Ba)(g:Nat)(t:TypeId)(cs:Array Aq)(fr:Nat×Nat)(d:TypeDesc)
  (hp:tmps.getD p undef=Aj (J ⟨g,0,Z⟩)) (hg:w.heap[g]?=J (Ag cs t fr))
  (hu:P.underlying ty=J d) (hd:(match d with | .struct _ | .array _ _=>Ar | _=>As)=Ar) (hi:(P.info? ty).map (·.size)=J cs.size) (x:Aq) (hx:tmps.getD u undef=x) :
  (results fn tmps).run P w=.ok (.tuple #[.agg cs,x]) w:=by
 rw[results_cell_tmp h,hp,hx];simp[asAddr,Result.andThen,run_loadVar_row w g t ty cs fr d hg hu hd hi]
theorem jI{w:Ba}{g:Nat}{a0 a1 a2 a3 a4 a5:Aq}{t:TypeId}(h:w.heap[g]?=J (Ag #[a0,a1,a2,a3,a4,a5] t (0,0)))(v0 v1 v2 v3 v4 v5:Aq) :
  ∃W,((((((w.setCell ⟨g,0,Z⟩ v0).setCell ⟨g,1,Z⟩ v1).setCell ⟨g,2,Z⟩ v2).setCell ⟨g,3,Z⟩ v3).setCell ⟨g,4,Z⟩ v4).setCell ⟨g,5,Z⟩ v5)=W/\W.heap[g]?=J (Ag #[v0,v1,v2,v3,v4,v5] t (0,0))/\(∀k,k≠g->W.heap[k]?=w.heap[k]?)/\(∀B,B<=g->Am B w W)/\W.heap.size=w.heap.size:=by
 refine⟨_,rfl,?_,fun k hk=>?_,fun B hB=>?_,by simp[World.setCell]⟩
 . exact Li _ g 5 _ _ v5 (Li _ g 4 _ _ v4 (Li _ g 3 _ _ v3 (Li _ g 2 _ _ v2 (Li _ g 1 _ _ v1 (Li _ g 0 _ _ v0 h)))))
 . exact(Ld _ ⟨g,5,Z⟩ v5 k hk).trans ((Ld _ ⟨g,4,Z⟩ v4 k hk).trans ((Ld _ ⟨g,3,Z⟩ v3 k hk).trans ((Ld _ ⟨g,2,Z⟩ v2 k hk).trans ((Ld _ ⟨g,1,Z⟩ v1 k hk).trans (Ld _ ⟨g,0,Z⟩ v0 k hk)))))
 exact(((((((Ln _ _).setCell hB _).setCell hB _).setCell hB _).setCell hB _).setCell hB _).setCell hB _)
theorem YH(n:Nat)(hn:n<=5)(f:Nat->Nat)(kf:Nat)(lb:Array Aq)(ek:Enters Al kf)(w:Ba)
  (hC:∀p:Nat,p<n->∀X,Am w.heap.size w X->An Al kf (#[O U (p:Int)]++lb) X fun e w'=>e=Ak (O U ((f p:Nat):Int))/\Am X.heap.size X w') :
  An Al 102 #[O U (n:Int),.func (.func kf) #[] lb] w fun e w'=>e=Ak (.agg (gF n (yY n f)))/\Am w.heap.size w w':=by
 have HC:=zH hC;obtain⟨w1,af,d0,d1,aW,ay⟩:=yx w #[O U 0,O U 0,O U 0,O U 0,O U 0,O U 0] #[O U (n:Int),O U 0,O U 0,O U 0,O U 0,O U 0] 45 45;have au:=zH af;have cd:=zH ay;have aX:=zH d0;have bH:Ap (w1.heap[w.heap.size+1]?=J (Ag (gF n (yY 0 f)) 45 (0,0))):=by rw[gF_zero];exact d1
 clear hC af d0 d1 ay;go_enter func102,ntmps102;go_upto_region 2 with fail
 rw[au.out];go_wp2_with fail
 go_loopw [10] (fun i wr=>∃k:Nat,k<=n/\i=O U (k:Int)/\Ap (wr.heap[w.heap.size]?=J (Ag #[O U 0,O U 0,O U 0,O U 0,O U 0,O U 0] 45 (0,0)))/\Ap (wr.heap[w.heap.size+1]?=J (Ag (gF n (yY k f)) 45 (0,0)))/\Ap (Am w.heap.size w wr)) (fun i _=>n-(Ao i).toNat)
 case atStart=>exact⟨0,by omega,rfl,aX,bH,cd⟩
 obtain⟨k,hk,rfl,H0,H1,HB⟩:=hrel;have iK:IntKind.i64.wrap ((k:Int)+1)=((k+1:Nat):Int):=by rw[Lw];omega
 by_cases aa:k<n
 . have cW:(0:Int)<=(k:Int):=by omega
   have cp:(k:Int)<(n:Int):=by omega
   have en:(k:Int)<5:=by omega
   have HK:=zH (HC.out k aa wr HB.out);go_wp2_with fail;rw[ek];refine HK.out.mono ?_;rintro e w2 ⟨rfl,ae⟩;have l1:=zd H1.out;have WJ:=zH (Lb ae (by omega) H0.out);have IC:=zH (Lb ae l1 H1.out);have aN:=zH (Lc HB.out ae);have f1:=zb IC.out (1+k);have c1:=za IC.out (1+k) (Zc n (yY k f) (show k<5 by omega));clear ae;go_wp2_with fail
   go_roundw
   case rel=>
    refine⟨k+1,by omega,by go_num,?_,?_,?_⟩
    . exact(Ld w2 ⟨w.heap.size+1,1+k,Z⟩ _ w.heap.size (by show w.heap.size≠w.heap.size+1;omega)).trans WJ.out
    . rw[Ap,gph_set IC.out,gF_set _ _ (by omega)]
    exact aN.out.setCell (by show w.heap.size<=w.heap.size+1;omega) _
   simp[Ao];omega
 obtain ot:k=n:=by omega
 have cp:¬(k:Int)<(n:Int):=by omega
 have OU:=zH H1.out;rw[ot] at OU;have e1:=OU.out;unfold gF at e1;obtain⟨y0,y1,y2,y3,y4,y5,_⟩:=Kg e1;obtain⟨z0,z1,z2,z3,z4,z5,_⟩:=Kg H0.out;have f0:=zb H0.out 0;have f1:=zb H0.out 1;have f2:=zb H0.out 2;have f3:=zb H0.out 3;have f4:=zb H0.out 4;have f5:=zb H0.out 5;clear e1 ot H1;go_wp2_with fail;obtain⟨wS,lc,q1,q2,q3,q4⟩:=jI H0.out (O U (n:Int)) (O U ((yY n f 0:Nat):Int)) (O U ((yY n f 1:Nat):Int)) (O U ((yY n f 2:Nat):Int)) (O U ((yY n f 3:Nat):Int)) (O U ((yY n f 4:Nat):Int));rw[lc];refine LP (RN (P:=Al) rfl _ _ w.heap.size 45 _ (0,0) _ rfl q1 N2 rfl (by kernel_rfl)) rfl ?_;exact⟨rfl,HB.out.trans (q3 _ (Lh _))⟩
theorem sized_gr(n:Nat)(h1:1<=n)(hn:n<=5)(f:Nat->Nat)(kf:Nat)(lb:Array Aq)(ek:Enters Al kf)(w:Ba)
  (hC:∀p:Nat,p<n->∀X,Am w.heap.size w X->An Al kf (#[O U (p:Int)]++lb) X fun e w'=>e=Ak (O U ((f p:Nat):Int))/\Am X.heap.size X w') :
  An Al 61 #[O U (n:Int),.func (.func kf) #[] lb] w fun e w'=>e=Ak (.tuple #[.agg (gF n (yY n f)),O U 0])/\Am w.heap.size w w':=by
 obtain⟨w1,af,d0,aW,ay⟩:=zq w #[O U 0,O U 0,O U 0,O U 0,O U 0,O U 0] 45;have HC:=zH (YH n hn f kf lb ek w1 fun p hp X hX=>hC p hp X (Lc ay hX));have au:=zH af;have cd:=zH ay;have aX:=zH d0;have e1:¬(n:Int)<1:=by omega
 have e2:¬(5:Int)<(n:Int):=by omega
 clear hC af d0 ay;go_enter func61,ntmps61;go_upto_region 1 with fail
 rw[au.out];go_wp2_with fail;refine HC.out.mono ?_;rintro e w2 ⟨rfl,ae⟩;have H0:=zH (La ae aX.out);have aN:=zH (Lc cd.out ae);obtain⟨z0,z1,z2,z3,z4,z5,_⟩:=Kg H0.out;have f0:=zb H0.out 0;have f1:=zb H0.out 1;have f2:=zb H0.out 2;have f3:=zb H0.out 3;have f4:=zb H0.out 4;have f5:=zb H0.out 5;clear ae HC;unfold gF;go_wp2_with fail;obtain⟨wS,lc,q1,q2,q3,q4⟩:=jI H0.out (O U (n:Int)) (O U ((yY n f 0:Nat):Int)) (O U ((yY n f 1:Nat):Int)) (O U ((yY n f 2:Nat):Int)) (O U ((yY n f 3:Nat):Int)) (O U ((yY n f 4:Nat):Int));rw[lc];refine LP (xq (P:=Al) rfl _ _ w.heap.size 45 _ (0,0) _ rfl q1 N2 rfl (by kernel_rfl) _ rfl) rfl ?_;exact⟨rfl,aN.out.trans (q3 _ (Lh _))⟩
theorem Z8(p:Nat)(hp:p<5)(w:Ba):An Al 62 #[O U (p:Int)] w fun e w'=>e=Ak (O U ((2^p:Nat):Int))/\Am w.heap.size w w':=by
 obtain rfl | rfl | rfl | rfl | rfl:p=0\/p=1\/p=2\/p=3\/p=4:=by omega
 all_goals
  go_enter func62,ntmps62;go_wp2_with fail;go_ret;exact⟨rfl,Ln _ _⟩
theorem Xr(n:Nat)(h1:1<=n)(hn:n<=5)(w:Ba):An Al 25 #[O U (n:Int)] w fun e w'=>e=Ak (.tuple #[.agg (gF n (yY n fun q=>2^q)),O U 0])/\Am w.heap.size w w':=by
 obtain⟨w1,af,d0,aW,ay⟩:=zq w #[O U 0,O U 0,O U 0,O U 0,O U 0,O U 0] 45;have HC:=zH (sized_gr n h1 hn (fun q=>2^q) 62 #[] (Pg func62 (by kernel_rfl) rfl) w1 fun p hp X _=>Z8 p (by omega) X);obtain⟨f,hf⟩:∃f,yY n (fun q=>2^q)=f:=⟨_,rfl⟩;rw[hf] at HC ⊢;have au:=zH af;have cd:=zH ay;have aX:=zH d0;unfold gF at HC ⊢;clear af d0 ay hf;go_enter func25,ntmps25;go_upto_region 1 with fail
 rw[au.out];go_wp2_with fail;refine HC.out.mono ?_;rintro e w2 ⟨rfl,ae⟩;have H0:=zH (La ae aX.out);have aN:=zH (Lc cd.out ae);obtain⟨z0,z1,z2,z3,z4,z5,_⟩:=Kg H0.out;have f0:=zb H0.out 0;have f1:=zb H0.out 1;have f2:=zb H0.out 2;have f3:=zb H0.out 3;have f4:=zb H0.out 4;have f5:=zb H0.out 5;clear ae HC;go_wp2_with fail;obtain⟨wS,lc,q1,q2,q3,q4⟩:=jI H0.out (O U (n:Int)) (O U ((f 0:Nat):Int)) (O U ((f 1:Nat):Int)) (O U ((f 2:Nat):Int)) (O U ((f 3:Nat):Int)) (O U ((f 4:Nat):Int));rw[lc];refine LP (xq (P:=Al) rfl _ _ w.heap.size 45 _ (0,0) _ rfl q1 N2 rfl (by kernel_rfl) _ rfl) rfl ?_;exact⟨rfl,aN.out.trans (q3 _ (Lh _))⟩
end
section
open Go.RowKit
theorem make_row(n:Nat)(h1:1<=n)(h5:n<=5)(W:Ba):(Instr.makeSlice 49 (O U n) (O U n)).run Al W=.ok (I (J ⟨W.heap.size,0,Z⟩) n n) (W.alloc (Ag ((List.replicate n 0).map (O U)).toArray 3)):=by
 obtain rfl | rfl | rfl | rfl | rfl:n=1\/n=2\/n=3\/n=4\/n=5:=by omega
 all_goals kernel_rfl
theorem XG(n b:Nat)(h1:1<=n)(h5:n<=5)(u:Int)(w:Ba)(hb:w.heap[b]?=J (Ag #[O U u] 3 (0,0))) :
  An Al 54 #[I (J ⟨b,0,Z⟩) 1 1,O U n] w fun e w'=>∃g,e=Ak (I (J ⟨g,0,Z⟩) n n)/\w.heap.size<=g/\RowAt w' g (List.replicate n u)/\Am w.heap.size w w':=by
 have eT:=make_row n h1 h5;obtain⟨ar,ns⟩:∃ar:List Aq,(List.replicate n 0).map (O U)=ar:=⟨_,rfl⟩;rw[ns] at eT;have Ce:ar.length=n:=by rw[<-ns];simp
 have hc:=za hb 0 rfl;have aD:=zd hb;have hm:=Tryz.bits_Mul 1 n (by omega) (by omega) w;have e1:(1*n / 18446744073709551616:Nat)=0:=by omega
 have e2:(1*n % 18446744073709551616:Nat)=n:=by omega
 rw[e1,e2] at hm;have Fv:¬(n:Int)<0:=by omega
 clear ns e1 e2;go_enter func54,ntmps54;go_wp2_with fail;refine hm.mono ?_;rintro e w1 ⟨rfl,af⟩;obtain rfl:=af;clear hm;obtain⟨W0,bg,b0,bk,bh⟩:=zq w1 ar.toArray 3;have hx:W0.cell? ⟨b,0,Z⟩=J (O U u):=(bh.cell (p:=⟨b,0,Z⟩) aD).trans hc;have BB:=zH bh;have BX:=zH b0;have HX:=zH hx;clear hc bh b0 hx hb;go_wp2_with ((refine wpList_copy_splice rfl (.tmp 31) (.tmp 32) 49 49 rfl 3 Ni size_int (J ⟨w1.heap.size,0,Z⟩) (J ⟨b,0,Z⟩) n n 1 1 rfl rfl w1.heap.size 0 ar 3 BX.out [O U u] (by simp[Nat.min_def];omega) (fun _=>⟨rfl,_,rfl,one_src HX.out⟩) (by simp;omega) (by simp[Value.oneCell']) w1.heap.size w1 BB.out (Lh _) ?_);intro w2 iq ae);obtain⟨g,hg⟩:=Kh w1.heap.size;have s1:=splice_rep (cur:=ar) (x:=O U u) (k:=0) (m:=1) (n:=n) Ce (by simp) (by omega);have S1:=zH s1;have s':=zH hg;rw[hg] at iq ae ⊢;clear s1 BX HX BB bg bk eT hg
 go_loopw [8] (fun l wr=>∃(k:Nat) (cur:List Aq),1<=k/\k<=n/\l=O U k/\Ap (cur.length=n)/\Ap (cur.take k=List.replicate k (O U u))/\Ap (wr.heap[g]?=J (Ag cur.toArray 3 (0,0)))/\Am g w1 wr) (fun l _=>n-(Ao l).toNat)
 case atStart=>exact⟨1,splice ar 0 [O U u],by omega,h1,rfl,S1.out.2,S1.out.1,iq,ae⟩
 obtain⟨k,cur,cp,ot,rfl,bD,rX,aJ,iA⟩:=hrel
 by_cases aa:k<n
 . clear S1 iq ae
   have cW:(0:Int)<=(k:Int):=by omega
   have dz:(k:Int)<=(n:Int):=by omega
   have bj:¬n=k:=by omega
   have rH:¬k=n:=by omega
   go_upto_region 9 with fail
   obtain⟨d,hd⟩:=Kh (n-k);obtain⟨m,hm⟩:=Kh (Nat.min k d);have iO:min k d=m:=hm;have KP:1<=m:=by omega
   have fX:k+m<=n:=by omega
   have SX:m<=k:=by omega
   clear iO
   have ma:∀j v,(List.replicate m (O U u))[j]?=J v->wr.cell? ((⟨g,0,Z⟩:Addr).add j)=J v:=by
    intro j v hj;have FL:j<m:=by have:=(Ll.1 hj).1;simpa using this
    rw[Pp,Lm FL] at hj
    cases hj
    rw[NR,LH];refine za aJ.out j ?_;rw[List.getElem?_toArray];have h2:=congrArg (fun l=>l[j]?) rX.out;simp only[List.getElem?_take,List.getElem?_replicate] at h2;rwa[Lm (by omega),Lm (by omega)] at h2
   have SP:=zH (splice_rep (cur:=cur) (x:=O U u) (k:=k) (m:=m) (n:=n) bD.out rX.out fX);have sO:=zH ma;have HM:=zH hm;have ff:=zH iA;have aW:IntKind.i64.wrap ((k:Int)+(m:Int))=(k:Int)+(m:Int):=IntWalk.i64_in _ (by omega);have oU:=zH aW;clear ma hm iA aW
   go_region_law ((refine step_copy_splice (by rfl) (.tmp 41) (.tmp 44) 49 49 (by rfl) 3 Ni size_int (J ⟨g,k,Z⟩) (J ⟨g,0,Z⟩) d d k n (by simp[go_sem]) (by simp[go_sem]) g k cur 3 aJ.out (List.replicate m (O U u)) (by rw[Nz];exact HM.out.symm) (fun _=>⟨rfl,_,rfl,sO.out⟩) (by rw[Nz,bD.out];exact fX) (by intro v hv;rw[List.eq_of_mem_replicate hv];rfl) g w1 ff.out.drew (Lh _) ?_;intro w3 Fn ak;rw[Nz]))
   all_goals
    rw[oU.out];go_wp2_with fail
    go_frame
    go_roundw
    case rel=>
     (repeat apply Exists.intro)
     exact⟨⟨k+m,splice cur k (List.replicate m (O U u)),by omega,by omega,rfl,SP.out.2,SP.out.1,Fn,ak⟩,by first | rfl | (go_frame;rfl) | (simp[Act.put];done)⟩
    case measure=>simp[Ao];omega
 obtain rfl:k=n:=by omega
 go_wp2_with fail;go_ret;refine⟨g,rfl,by have:=s'.out;omega,?_,by have:=s'.out;rw[this];exact iA⟩;unfold RowAt;have e:=rX.out;rw[NE (by have:=bD.out;omega)] at e;rw[aJ.out,e];simp
def gU(n:Int)(vs:List Vw)(i:Int):List Int×Int:=if atE n vs [i]≠0 then ([],atE n vs [i]) else (zt (yE vs [i.toNat]),0)
def RetPast(r:List Int×Int)(w:Ba)(e:Ending)(w':Ba):Prop:=∃v,e=Ak (.tuple #[v,O U r.2])/\Own w' w.heap.size v r.1/\Am w.heap.size w w'
theorem RetPast.of{r:List Int×Int}{w w':Ba}{v:Aq}{xs:List Int}{c:Int}(h:r=(xs,c))(ho:Own w' w.heap.size v xs)(hb:Am w.heap.size w w'):RetPast r w (Ak (.tuple #[v,O U c])) w':=⟨v,by rw[h],by rw[h];exact ho,hb⟩
theorem JL{n:Int}{vs:List Vw}{i:Int}(h:atE n vs [i]≠0):gU n vs i=([],atE n vs [i]):=by unfold gU;rw[Lm h]
theorem gT{n:Int}{vs:List Vw}{i:Nat}(h:atE n vs [(i:Int)]=0):gU n vs i=(zt (yE vs [i]),0):=by unfold gU;rw[Lk (by simp[h]),Lu]
theorem Jn(n:Int)(A:Bb)(cap:Nat)(vs:List Vw)(i:Int)(w:Ba)(hT:TArg w A cap vs) :
  An Al 9 #[Ai #[O U n,I A vs.length cap],O U i] w (RetPast (gU n vs i) w):=by
 have HT:=zH hT;have df:=hT.few;clear hT;go_enter func9,ntmps9;go_wp2_with fail;obtain⟨W0,bg,b0,bk,bh⟩:=zq w #[O U n,I A vs.length cap] 33;rw[bg];clear bg;have hI:IAt (W0.alloc (Ag #[O U i] 3)) (W0.alloc (Ag #[O U i] 3)).heap.size (J ⟨w.heap.size+1,0,Z⟩) [i]:=by have:=IAt.box W0 i 3;rwa[bk] at this
 have aI:=zw W0 (Ag #[O U i] 3);refine(QG n A (J ⟨w.heap.size+1,0,Z⟩) cap 1 vs [i] (W0.alloc (Ag #[O U i] 3)) (HT.out.keep (bh.trans (aI.mono (by omega)))) hI (by simp)).mono ?_;rintro e w1 ⟨rfl,hb⟩;have d0:=Lb hb (by simp;omega) (Lb aI (by omega) b0);have B1:Ap (Am w.heap.size w w1):=bh.trans ((aI.trans (hb.mono (by simp))).mono (by omega));have l1:w.heap.size<w1.heap.size:=by have:=hb.size;simp at this;omega
 clear hI aI;obtain⟨t0,t1,_⟩:=Ka d0;clear b0 bk bh hb d0
 by_cases hc:atE n vs [i]=0
 . have e0:(atE n vs [i] != 0)=As:=by simp[hc]
   obtain⟨ik,_,bP⟩:=atE_ok hc;obtain⟨h0,h1⟩:=bP i (by simp);obtain⟨j,rfl⟩:=Lq h0;have hj:j<vs.length:=by omega
   have hz:=zH (gT hc);clear hc bP;go_wp2_with fail;have hI:IAt (w1.alloc (Ag #[O U (j:Int)] 3)) (w1.alloc (Ag #[O U (j:Int)] 3)).heap.size (J ⟨w1.heap.size,0,Z⟩) (zt [j]):=IAt.box w1 j 3;have aI:=zw w1 (Ag #[O U (j:Int)] 3);have B2:=Lc B1.out aI;refine(wh n A (J ⟨w1.heap.size,0,Z⟩) cap 1 vs [j] _ (HT.out.keep B2) ik.acyc hI (by simp;omega) (by simp)).mono ?_;rintro e w2 ⟨v,rfl,ho,ae⟩;have Fs:=ho.low B2.size;have B3:Ap (Am w.heap.size w w2):=Lc B2 ae;obtain⟨A3,c3,rfl,_,_,_⟩:=Fs.form;have HO:=zH Fs;clear hI aI B2 ho ae Fs ik;go_wp2_with fail
   go_ret2
   exact RetPast.of hz.out HO.out B3.out
 have e0:(atE n vs [i] != 0)=Ar:=by simpa using hc
 have hz:=zH (JL hc);clear hc;go_wp2_with fail
 go_ret2
 exact RetPast.of hz.out (Own.nil _ _) B1.out
def qW(n:Int)(vs:List Vw)(i:Int):List Int×Int:=if atE n vs [i]≠0 then ([],atE n vs [i]) else (xV vs (yE vs [i.toNat]) (List.replicate n.toNat (-1)),0)
theorem YL{n:Int}{vs:List Vw}{i:Int}(h:atE n vs [i]≠0):qW n vs i=([],atE n vs [i]):=by unfold qW;rw[Lm h]
theorem YK{n:Nat}{vs:List Vw}{i:Nat}(h:atE (n:Int) vs [(i:Int)]=0):qW n vs i=(xV vs (yE vs [i]) (List.replicate n (-1)),0):=by unfold qW;rw[Lk (by simp[h]),Lu,Lu]
theorem vN(n:Int)(A:Bb)(cap:Nat)(vs:List Vw)(i:Int)(w:Ba)(hT:TArg w A cap vs) :
  An Al 21 #[Ai #[O U n,I A vs.length cap],O U i] w (RetPast (qW n vs i) w):=by
 have HT:=zH hT;have df:=hT.few;clear hT;go_enter func21,ntmps21;go_wp2_with fail;obtain⟨W0,bg,b0,bk,bh⟩:=zq w #[O U n,I A vs.length cap] 33;rw[bg];clear bg;have hI:IAt (W0.alloc (Ag #[O U i] 3)) (W0.alloc (Ag #[O U i] 3)).heap.size (J ⟨w.heap.size+1,0,Z⟩) [i]:=by have:=IAt.box W0 i 3;rwa[bk] at this
 have aI:=zw W0 (Ag #[O U i] 3);refine(QG n A (J ⟨w.heap.size+1,0,Z⟩) cap 1 vs [i] (W0.alloc (Ag #[O U i] 3)) (HT.out.keep (bh.trans (aI.mono (by omega)))) hI (by simp)).mono ?_;rintro e w1 ⟨rfl,hb⟩;have d0:=Lb hb (by simp;omega) (Lb aI (by omega) b0);have B1:Ap (Am w.heap.size w w1):=bh.trans ((aI.trans (hb.mono (by simp))).mono (by omega));have l1:w.heap.size<w1.heap.size:=by have:=hb.size;simp at this;omega
 clear hI aI;obtain⟨t0,t1,_⟩:=Ka d0;have HD:=zH d0;clear b0 bk bh hb d0
 by_cases hc:atE n vs [i]=0
 . have e0:(atE n vs [i] != 0)=As:=by simp[hc]
   obtain⟨ik,_,bP⟩:=atE_ok hc;obtain⟨h0,h1⟩:=bP i (by simp);obtain⟨j,rfl⟩:=Lq h0;have hj:j<vs.length:=by omega
   obtain⟨N,rfl⟩:=Lq (show 0<=n by have:=ik.1;omega);have dT:1<=N:=by have:=ik.1;omega
   have nd:N<=5:=by have:=ik.2.1;omega
   have hz:=zH (YK hc);have HW:=zH ik;clear hc bP ik;go_wp2_with fail;obtain⟨W4,lN,b4,fD,fu⟩:=zq w1 #[O U (-1)] 3;rw[lN];clear lN;refine(XG N w1.heap.size dT nd (-1) W4 b4).mono ?_;rintro e w2 ⟨g,rfl,cI,bC,ae⟩;have B2:Ap (Am w.heap.size w w2):=B1.out.trans ((fu.trans (ae.mono (by omega))).mono B1.out.size);have d2:=Lb ae (by omega) (Lb fu l1 HD.out);have l2:w.heap.size<w2.heap.size:=by have:=ae.size;omega
   have nk:w.heap.size<g:=by omega
   have dO:=zH bC;have fd:=zH d2;clear t0 t1;obtain⟨t0,t1,_⟩:=Ka d2;clear b4 fD fu cI bC ae d2;go_wp2_with fail;have hI:IAt (w2.alloc (Ag #[O U (j:Int)] 3)) (w2.alloc (Ag #[O U (j:Int)] 3)).heap.size (J ⟨w2.heap.size,0,Z⟩) (zt [j]):=IAt.box w2 j 3;have aI:=zw w2 (Ag #[O U (j:Int)] 3);have B3:=Lc B2.out aI;refine(wh N A (J ⟨w2.heap.size,0,Z⟩) cap 1 vs [j] _ (HT.out.keep B3) HW.out.acyc hI (by simp;omega) (by simp)).mono ?_;rintro e W3 ⟨v3,rfl,fj,ak⟩;have B4:Ap (Am w.heap.size w W3):=Lc B3 ak;have cD:Am w2.heap.size w2 W3:=aI.trans (ak.mono (by simp));have S7:g<w2.heap.size:=dO.out.lt;have R3:RowAt W3 g (List.replicate N (-1)):=Lb cD S7 dO.out;have T3:=zH (Lb cD l2 fd.out);obtain⟨P3,c3,rfl,mx,Ga,dX⟩:=fj.form;rw[zu] at mx fj;have O6:=cD.size;have pE:g<(w2.alloc (Ag #[O U (j:Int)] 3)).heap.size:=by simp;omega
   have O3:=zH fj;have I3:=zH dX;have rc:=zH R3;have bq:(yE vs [j]).length<=vs.length:=by have:=wg vs [j];rwa[zu] at this
   have bS:=zH (fun x (hx:x∈yE vs [j])=>(kN.1 hx).1);obtain⟨ls,pA⟩:=Kh (yE vs [j]);rw[zu,pA];rw[pA] at mx I3 O3 bq bS;have Ev:=zH pA;clear pA fj dX t0 t1 ak cD hI aI B3 R3;go_wp2_with fail
   go_loopw [27] (fun l pj=>∃k':Nat,k'<=ls.length/\l=O U k'/\RowAt pj g (xV vs (ls.take k') (List.replicate N (-1)))/\W3.grownBy pj (J g)) (fun l _=>ls.length-(Ao l).toNat)
   case atStart=>exact⟨0,by omega,rfl,by simpa[xV] using rc.out,Pa _ _⟩
   obtain⟨k',cX,rfl,pp,cC⟩:=hrel;have GX:=zH pp;have BW:Ap (Am w.heap.size w wr):=B4.out.grown cC (by have:=B4.out.size;omega) (fun r e=>by cases e;omega)
   by_cases fJ:k'<ls.length
   . have hx:=bS.out ls[k'] (Le fJ)
     have FF:=zH (Qb vs ls k' fJ (List.replicate N (-1)));obtain⟨x,dd⟩:=Kh (ls[k']);rw[dd] at hx FF;have aM:(zt ls).length=ls.length:=zu ls;obtain⟨b3,EO,rfl,ak,sf⟩:=I3.out.at_ k' (by omega);have oz:g+1<=b3:=by have:=(O3.out.lt b3 rfl).1;omega
     have lK:(zt ls)[k']'(by omega)=(x:Int):=by simp[zt,dd]
     rw[lK] at sf;have r3:=(LU (cC.block b3 ak (by simp;omega))).trans sf;obtain⟨b,off,rfl,aL,c0,c1,c2,c4,c5,c6,c7,c8⟩:=(HT.out.rows.keep BW.out).row x hx;have t1:wr.cell? ⟨w.heap.size,1,Z⟩=J (I (J ⟨b,off,Z⟩) vs.length cap):=za ((cC.block w.heap.size (zd T3.out) (by simp;omega)).trans T3.out) 1 rfl;have fG:(0:Int)<=(x:Int):=by omega
     have aW:(x:Int)<(vs.length:Int):=by omega
     have cW:(0:Int)<=(k':Int):=by omega
     have cp:(k':Int)<(ls.length:Int):=by omega
     have lR:=zH cC;have M9:=zH dd;have HV:=zH (qt hx);clear cC dd aM lK sf pp;go_upto_region 9 with fail
     obtain⟨W1,cA,z0,OZ,zB⟩:=zq wr vs[x].cells 100;unfold Vw.cells at cA;rw[cA];clear cA;have Gd:=Jb (HW.out.beg hx);obtain⟨q,hq⟩:=Lq Gd.1;have hqk:q<N:=by have:=Gd.2.1;omega
     have Bh:vs[x].p.toNat=q:=by omega
     have zr:RowAt W1 g (xV vs (ls.take k') (List.replicate N (-1))):=(zB.block g GX.out.lt).trans GX.out;have zG:Ap (W3.grownBy W1 (J g)):=lR.out.trans ⟨zB.os,zB.tape,zB.output,zB.size,fun j hj _=>zB.block j hj⟩;have y0:W1.cell? ⟨wr.heap.size,0,Z⟩=J (O U (q:Int)):=by rw[<-hq];exact za z0 0 rfl
     have y1:W1.cell? ⟨wr.heap.size,1,Z⟩=J (O U vs[x].r):=za z0 1 rfl;have y2:W1.cell? ⟨wr.heap.size,2,Z⟩=J (O U vs[x].i):=za z0 2 rfl;have cP:(xV vs (ls.take k') (List.replicate N (-1))).length=N:=by rw[qU];simp
     obtain⟨u0,r0⟩:∃u:Int,W1.cell? ⟨g,q,Z⟩=J (O U u):=⟨_,zr.cell q (by omega)⟩;have f0:=zr.froz q;have l0:=zr.lt;have ZR:=zH zr;have VN:=zH Bh;have mZ:(0:Int)<=(q:Int):=by omega
     have tn:(q:Int)<(N:Int):=by omega
     clear z0 zB OZ Gd hq Bh zr t1 r3 c0 c1 c2 c4 c5 c6 c7 c8 cP
     by_cases hr:vs[x].r=0
     . have e1:(vs[x].r==0)=Ar:=by simp[hr]
       have dx:Ap (xV vs (ls.take (k'+1)) (List.replicate N (-1))=(xV vs (ls.take k') (List.replicate N (-1))).set q vs[x].i):=by
        show _=_;rw[FF.out,HV.out,Lm hr,VN.out]
       clear hr;go_wp2_with fail
       go_roundw
       case rel=>exact⟨k'+1,by omega,by go_num,by rw[dx.out];exact ZR.out.set q _,zG.out.trans (yj _ g q _)⟩
       simp[Ao];omega
     have e1:(vs[x].r==0)=As:=by simp[hr]
     have dx:Ap (xV vs (ls.take (k'+1)) (List.replicate N (-1))=xV vs (ls.take k') (List.replicate N (-1))):=by
      show _=_;rw[FF.out,HV.out,Lk hr]
     clear hr;go_wp2_with fail
     go_roundw
     case rel=>exact⟨k'+1,by omega,by go_num,by rw[dx.out];exact ZR.out,zG.out⟩
     simp[Ao];omega
   obtain rfl:k'=ls.length:=by omega
   go_wp2_with fail
   go_ret2
   have cP:(xV vs ls (List.replicate N (-1))).length=N:=by rw[qU];simp
   have KG:=GX.out;rw[LC] at KG;have ap:=KG.own (base:=w.heap.size) (by omega) (by rw[cP];unfold maxLen;omega);rw[cP] at ap;refine RetPast.of (hz.out.trans ?_) ap BW.out;rw[Ev.out]
 have e0:(atE n vs [i] != 0)=Ar:=by simpa using hc
 have hz:=zH (YL hc);clear hc;go_wp2_with fail
 go_ret2
 exact RetPast.of hz.out (Own.nil _ _) B1.out
end
section
open Go.RowKit Go.Shelf
attribute [local go_sem] Oper.semAt_some
theorem set10B{w:Ba}{g:Nat}{a0 a1 a2 a3 a4 a5 a6 a7 a8 a9:Aq}{t:TypeId}(h:w.heap[g]?=J (Ag #[a0,a1,a2,a3,a4,a5,a6,a7,a8,a9] t (0,0)))(v0 v1 v2 v3 v4 v5 v6 v7 v8 v9:Aq) :
  ∃W,((((((((((w.setCell ⟨g,0,Z⟩ v0).setCell ⟨g,1,Z⟩ v1).setCell ⟨g,2,Z⟩ v2).setCell ⟨g,3,Z⟩ v3).setCell ⟨g,4,Z⟩ v4).setCell ⟨g,5,Z⟩ v5).setCell ⟨g,6,Z⟩ v6).setCell ⟨g,7,Z⟩ v7).setCell ⟨g,8,Z⟩ v8).setCell ⟨g,9,Z⟩ v9)=W/\W.heap[g]?=J (Ag #[v0,v1,v2,v3,v4,v5,v6,v7,v8,v9] t (0,0))/\(∀k,k≠g->W.heap[k]?=w.heap[k]?)/\(∀B,B<=g->Am B w W)/\W.heap.size=w.heap.size:=by
 refine⟨_,rfl,?_,fun k hk=>?_,fun B hB=>?_,by simp[World.setCell]⟩
 . skip
   have k0:(w.setCell ⟨g,0,Z⟩ v0).heap[g]?=J (Ag #[v0,a1,a2,a3,a4,a5,a6,a7,a8,a9] t (0,0)):=Li _ g 0 _ _ v0 h;have k1:((w.setCell ⟨g,0,Z⟩ v0).setCell ⟨g,1,Z⟩ v1).heap[g]?=J (Ag #[v0,v1,a2,a3,a4,a5,a6,a7,a8,a9] t (0,0)):=Li _ g 1 _ _ v1 k0;have k2:(((w.setCell ⟨g,0,Z⟩ v0).setCell ⟨g,1,Z⟩ v1).setCell ⟨g,2,Z⟩ v2).heap[g]?=J (Ag #[v0,v1,v2,a3,a4,a5,a6,a7,a8,a9] t (0,0)):=Li _ g 2 _ _ v2 k1;have k3:((((w.setCell ⟨g,0,Z⟩ v0).setCell ⟨g,1,Z⟩ v1).setCell ⟨g,2,Z⟩ v2).setCell ⟨g,3,Z⟩ v3).heap[g]?=J (Ag #[v0,v1,v2,v3,a4,a5,a6,a7,a8,a9] t (0,0)):=Li _ g 3 _ _ v3 k2;have k4:(((((w.setCell ⟨g,0,Z⟩ v0).setCell ⟨g,1,Z⟩ v1).setCell ⟨g,2,Z⟩ v2).setCell ⟨g,3,Z⟩ v3).setCell ⟨g,4,Z⟩ v4).heap[g]?=J (Ag #[v0,v1,v2,v3,v4,a5,a6,a7,a8,a9] t (0,0)):=Li _ g 4 _ _ v4 k3;have k5:((((((w.setCell ⟨g,0,Z⟩ v0).setCell ⟨g,1,Z⟩ v1).setCell ⟨g,2,Z⟩ v2).setCell ⟨g,3,Z⟩ v3).setCell ⟨g,4,Z⟩ v4).setCell ⟨g,5,Z⟩ v5).heap[g]?=J (Ag #[v0,v1,v2,v3,v4,v5,a6,a7,a8,a9] t (0,0)):=Li _ g 5 _ _ v5 k4;have k6:(((((((w.setCell ⟨g,0,Z⟩ v0).setCell ⟨g,1,Z⟩ v1).setCell ⟨g,2,Z⟩ v2).setCell ⟨g,3,Z⟩ v3).setCell ⟨g,4,Z⟩ v4).setCell ⟨g,5,Z⟩ v5).setCell ⟨g,6,Z⟩ v6).heap[g]?=J (Ag #[v0,v1,v2,v3,v4,v5,v6,a7,a8,a9] t (0,0)):=Li _ g 6 _ _ v6 k5
   have k7:((((((((w.setCell ⟨g,0,Z⟩ v0).setCell ⟨g,1,Z⟩ v1).setCell ⟨g,2,Z⟩ v2).setCell ⟨g,3,Z⟩ v3).setCell ⟨g,4,Z⟩ v4).setCell ⟨g,5,Z⟩ v5).setCell ⟨g,6,Z⟩ v6).setCell ⟨g,7,Z⟩ v7).heap[g]?=J (Ag #[v0,v1,v2,v3,v4,v5,v6,v7,a8,a9] t (0,0)):=Li _ g 7 _ _ v7 k6;have k8:(((((((((w.setCell ⟨g,0,Z⟩ v0).setCell ⟨g,1,Z⟩ v1).setCell ⟨g,2,Z⟩ v2).setCell ⟨g,3,Z⟩ v3).setCell ⟨g,4,Z⟩ v4).setCell ⟨g,5,Z⟩ v5).setCell ⟨g,6,Z⟩ v6).setCell ⟨g,7,Z⟩ v7).setCell ⟨g,8,Z⟩ v8).heap[g]?=J (Ag #[v0,v1,v2,v3,v4,v5,v6,v7,v8,a9] t (0,0)):=Li _ g 8 _ _ v8 k7;have k9:((((((((((w.setCell ⟨g,0,Z⟩ v0).setCell ⟨g,1,Z⟩ v1).setCell ⟨g,2,Z⟩ v2).setCell ⟨g,3,Z⟩ v3).setCell ⟨g,4,Z⟩ v4).setCell ⟨g,5,Z⟩ v5).setCell ⟨g,6,Z⟩ v6).setCell ⟨g,7,Z⟩ v7).setCell ⟨g,8,Z⟩ v8).setCell ⟨g,9,Z⟩ v9).heap[g]?=J (Ag #[v0,v1,v2,v3,v4,v5,v6,v7,v8,v9] t (0,0)):=Li _ g 9 _ _ v9 k8;exact k9
 . exact(Ld _ ⟨g,9,Z⟩ v9 k hk).trans ((Ld _ ⟨g,8,Z⟩ v8 k hk).trans ((Ld _ ⟨g,7,Z⟩ v7 k hk).trans ((Ld _ ⟨g,6,Z⟩ v6 k hk).trans ((Ld _ ⟨g,5,Z⟩ v5 k hk).trans ((Ld _ ⟨g,4,Z⟩ v4 k hk).trans ((Ld _ ⟨g,3,Z⟩ v3 k hk).trans ((Ld _ ⟨g,2,Z⟩ v2 k hk).trans ((Ld _ ⟨g,1,Z⟩ v1 k hk).trans (Ld _ ⟨g,0,Z⟩ v0 k hk)))))))))
 have b0:=(Ln B w).setCell (p:=⟨g,0,Z⟩) hB v0;have b1:=b0.setCell (p:=⟨g,1,Z⟩) hB v1;have b2:=b1.setCell (p:=⟨g,2,Z⟩) hB v2;have b3:=b2.setCell (p:=⟨g,3,Z⟩) hB v3;have b4:=b3.setCell (p:=⟨g,4,Z⟩) hB v4;have b5:=b4.setCell (p:=⟨g,5,Z⟩) hB v5;have b6:=b5.setCell (p:=⟨g,6,Z⟩) hB v6;have b7:=b6.setCell (p:=⟨g,7,Z⟩) hB v7;have b8:=b7.setCell (p:=⟨g,8,Z⟩) hB v8;have b9:=b8.setCell (p:=⟨g,9,Z⟩) hB v9;exact b9
def RetCb(p:Pb)(w:Ba)(e:Ending)(w':Ba):Prop:=∃(T:Sy) (AC SV AV AX:Bb) (kc ks kv kx:Nat) (b:Bool),e=Ak (.tuple #[.agg (T.vs_ AC kc SV ks AV kv AX kx),Ah b])/\Am w.heap.size w w' /\
 (b=Ar->xh p=Ar/\T=(zK p).1/\Jo T=0/\SyAt w' w'.heap.size AC SV AV AX T/\XCap w' AX T.xs/\T.vs.length<=kv/\kv<=maxLen)
theorem RetCb.zero{p:Pb}{w w':Ba}(h:Am w.heap.size w w'):RetCb p w (Ak (.tuple #[Ai #[O U 0,O U 0,O U 0,I Z 0 0,O U 0,I Z 0 0,O U 0,O U 0,I Z 0 0,I Z 0 0],Ah As])) w':=⟨xC,Z,Z,Z,Z,0,0,0,0,As,rfl,h,fun h=>(by cases h)⟩
theorem gu(p:Pb)(hl:gC p)(A SV:Bb)(kc ks:Nat)(w:Ba)(hA:CAt w w.heap.size A p.t.cases)(hS:SAt w w.heap.size SV p.a.sts) :
  An Al 7 #[.agg (p.vs A kc SV ks)] w (RetCb p w):=by
 obtain⟨wa,lH,da,KC,MJ⟩:=zq w (p.vs A kc SV ks) 29;obtain⟨w1,af,db,Sw,tO⟩:=zq wa #[O U 0,O U 0,O U 0,I Z 0 0,O U 0,I Z 0 0,O U 0,O U 0,I Z 0 0,I Z 0 0] 36;have hB:Am w.heap.size w w1:=MJ.trans (tO.mono (by omega));have da:w1.heap[w.heap.size]?=J (Ag (p.vs A kc SV ks) 29 (0,0)):=Lb tO (by omega) da;rw[KC] at db;have bQ:w1.heap.size=w.heap.size+2:=by omega
 have EE:Ap (∀X,Am w1.heap.size w1 X->CAt X w.heap.size A p.t.cases/\SAt X w.heap.size SV p.a.sts):=fun X hX=>⟨hA.keep (Lc hB hX),hS.keep (Lc hB hX)⟩
 have Es:=zH (JD p hl A kc SV ks w1 ((hA.keep hB).more hB.size) ((hS.keep hB).more hB.size));have Dj:=zH (fun (h:xh p=Ar) (X:Ba) (hX:Am w1.heap.size w1 X)=>ur p (Ze (by unfold xh at h;rw[LL] at h;exact h.1)).1 A kc SV ks X w.heap.size (by have:=hX.size;omega) (EE.out X hX).1 (EE.out X hX).2)
 have lO:=zH (fun (h:xh p=Ar) (A SV AV AX:Bb) (kc ks kv kx:Nat) (X:Ba) (hX:SyAt X X.heap.size A SV AV AX (zK p).1)=>rver_any (zK p).1 (Zo hl (Ze (by unfold xh at h;rw[LL] at h;exact h.1)).1) (by
  have h2:(zK p).2=0/\(zK p).1.p=p:=by
   unfold xh at h;rw[LL,Ry] at h;refine⟨h.2,?_⟩
   by_cases h0:zD p=0
   case neg=>rw[xN h0] at h;exact absurd h.2 h0
   case pos=>
    by_cases h1:4096<zP p
    . rw[xr h0 h1] at h;cases h.2
    . rw[qh h0 (by omega)];rfl
  rw[h2.2];exact(Ze (by unfold xh at h;rw[LL] at h;exact h.1)).1) A SV AV AX kc ks kv kx X hX)
 have tT:Ap (xh p=Ar->(zK p).2=0):=fun h=>by
  unfold xh at h;rw[LL,Ry] at h;exact h.2
 have ez:Ap (∀X,Am w1.heap.size w1 X->X.heap[w.heap.size]?=J (Ag #[O U p.t.n,O U p.t.ins,O U p.t.outs,I A p.t.cases.length kc,O U p.a.n,I SV p.a.sts.length ks,O U p.k] 29 (0,0))/\X.heap[w.heap.size+1]?=J (Ag #[O U 0,O U 0,O U 0,I Z 0 0,O U 0,I Z 0 0,O U 0,O U 0,I Z 0 0,I Z 0 0] 36 (0,0))):=fun X hX=>⟨La hX da,La hX db⟩
 unfold Pb.vs at lH Es Dj ⊢;have Vr:=zH lH;have au:=zH af;have HB:=zH hB;have HZ:=zH bQ;obtain⟨rb,tm⟩:=Kh (xh p);have lQ:=zH tm;rw[tm] at Es Dj tT lO;obtain⟨D0,D1⟩:=ez.out w1 (Ln _ _);obtain⟨p0,p1,p2,p3,p4,p5,p6,_⟩:=Kf D0;clear lH af da db KC Sw MJ tO hB hA hS hl tm D0 D1;go_enter func7,ntmps7;go_upto_region 1 with fail
 rw[Vr.out,au.out];go_wp2_with fail;refine Es.out.mono ?_;rintro e w2 ⟨rfl,ae⟩;have G2:=zH ae;obtain⟨D0,D1⟩:=ez.out _ G2.out;clear ae Es p0 p1 p2 p3 p4 p5 p6
 cases rb with
 | false=>
  have E1:=zH D1;obtain⟨r0,r1,r2,r3,r4,r5,r6,r7,r8,r9⟩:=qe D1;have g0:=zb D1 0;have g1:=zb D1 1;have g2:=zb D1 2;have g3:=zb D1 3;have g4:=zb D1 4;have g5:=zb D1 5;have g6:=zb D1 6;have g7:=zb D1 7;have g8:=zb D1 8;have g9:=zb D1 9;have mP:=zH (Lc HB.out G2.out);clear D0 D1 Dj tT lQ ez EE lO;go_wp2_with fail;obtain⟨WF,cK,f1,f2,f3,f4⟩:=set10B E1.out (O U 0) (O U 0) (O U 0) (I Z 0 0) (O U 0) (I Z 0 0) (O U 0) (O U 0) (I Z 0 0) (I Z 0 0);rw[cK]
  (try simp only[Exit.inBlock,Exit.then])
  refine LP (xq (P:=Al) rfl _ _ (w.heap.size+1) 36 _ (0,0) _ rfl f1 underlying36 rfl (by kernel_rfl) _ rfl) rfl ?_;exact RetCb.zero (mP.out.trans (f3 _ (by omega)))
 | true=>
  have HC:=zH (Dj.out (by simp) w2 G2.out);have HV:=zH (lO.out (by simp));have lJ:=tT.out (by simp);obtain⟨RB,Gv⟩:=Kh (zK p);rw[Gv] at HC lJ HV;have iY:Ap (RB.1=(zK p).1):=by rw[Ap,Gv]
  obtain⟨T,r⟩:=RB;dsimp only at lJ HC iY HV;subst lJ;obtain⟨p0,p1,p2,p3,p4,p5,p6,_⟩:=Kf D0;clear D0 D1 Gv Dj tT EE lO;go_wp2_with fail;refine HC.out.mono ?_;rintro e w7 ⟨A2,fh,fw,fg,AV,kv,AX,kx,rfl,pP,BA,BD,fZ⟩;have G7:=zH (Lc G2.out fZ);have lP:=zH pP;have sR:Ap (w1.heap.size<=w2.heap.size):=G2.out.size;have C4:=zH BA;have C5:=zH BD;unfold Sy.vs_ at HV ⊢;clear fZ pP HC p0 p1 p2 p3 p4 p5 p6 BA BD;dsimp only;go_upto_region 4 with fail
  obtain⟨w8,Kt,d8,tj,pL⟩:=zq w7 #[O U T.p.t.n,O U T.p.t.ins,O U T.p.t.outs,I A2 T.p.t.cases.length fh,O U T.p.a.n,I fw T.p.a.sts.length fg,O U T.p.k,O U T.n,I AV T.vs.length kv,I AX T.xs.length kx] 36;rw[Kt];have LX:Am w8.heap.size w8 w8.drew:=(Ln _ w8).drew;have Cy:Am w7.heap.size w7 w8.drew:=pL.trans (LX.mono (by omega));have G8:=zH (Lc G7.out Cy);have AS:=lP.out w8.drew (by have:=Cy.size;omega) (fun k _ hk=>Cy.block k hk);have Nc:=zH (HV.out A2 fw AV AX fh fg kv kx w8.drew AS.1);have OJ:Ap (w8.drew.heap[w7.heap.size]?=J (Ag #[O U T.p.t.n,O U T.p.t.ins,O U T.p.t.outs,I A2 T.p.t.cases.length fh,O U T.p.a.n,I fw T.p.a.sts.length fg,O U T.p.k,O U T.n,I AV T.vs.length kv,I AX T.xs.length kx] 36 (0,0))):=d8;have FD:=G7.out.size;have hz:=HZ.out;clear Kt d8 AS HV;refine zI [(0,Ar),(1,Ar),(2,Ar),(3,Ar),(4,Ar),(5,As),(6,Ar),(7,Ar),(8,As),(9,As)] (fun X=>X.heap[w7.heap.size]?=J (Ag #[O U T.p.t.n,O U T.p.t.ins,O U T.p.t.outs,I A2 T.p.t.cases.length fh,O U T.p.a.n,I fw T.p.a.sts.length fg,O U T.p.k,O U T.n,I AV T.vs.length kv,I AX T.xs.length kx] 36 (0,0))) (by kernel_rfl) (by kernel_rfl) OJ.out ?_
  repeat
   apply zU rfl
   . rintro K' ah X u1
     obtain⟨x0,x1,x2,x3,x4,x5,x6,x7,x8,x9⟩:=qe u1;clear u1;go_simp;exact ah
  refine zN rfl ?_;intro K' ah;go_simp;refine Nc.out.mono ?_;rintro e w9 ⟨rfl,Gk⟩;have sj:Am w7.heap.size w7 w9:=Lc Cy Gk;have OI:Ap (w9.heap[w7.heap.size]?=J (Ag #[O U T.p.t.n,O U T.p.t.ins,O U T.p.t.outs,I A2 T.p.t.cases.length fh,O U T.p.a.n,I fw T.p.a.sts.length fg,O U T.p.k,O U T.n,I AV T.vs.length kv,I AX T.xs.length kx] 36 (0,0))):=La Gk OJ.out;have G9:=zH (G7.out.trans (sj.mono FD));have EI:=zH sj;refine ah _ _ OI.out ?_;have E1:=zH (ez.out _ G9.out).2;obtain⟨r0,r1,r2,r3,r4,r5,r6,r7,r8,r9⟩:=qe E1.out;have g0:=zb E1.out 0;have g1:=zb E1.out 1;have g2:=zb E1.out 2;have g3:=zb E1.out 3;have g4:=zb E1.out 4;have g5:=zb E1.out 5;have g6:=zb E1.out 6;have g7:=zb E1.out 7;have g8:=zb E1.out 8;have g9:=zb E1.out 9;have mP:=zH (Lc HB.out G9.out);clear ah K' Gk sj Nc Cy LX pL tj ez
  repeat
   apply zU rfl
   . rintro K' ah X u1
     obtain⟨x0,x1,x2,x3,x4,x5,x6,x7,x8,x9⟩:=qe u1;clear u1;go_simp;exact ah
  refine zN rfl ?_;intro K' ah;go_simp;obtain⟨WF,cK,f1,f2,f3,f4⟩:=set10B E1.out (O U T.p.t.n) (O U T.p.t.ins) (O U T.p.t.outs) (I A2 T.p.t.cases.length fh) (O U T.p.a.n) (I fw T.p.a.sts.length fg) (O U T.p.k) (O U T.n) (I AV T.vs.length kv) (I AX T.xs.length kx);rw[cK];have Ov:Ap (WF.heap[w7.heap.size]?=J (Ag #[O U T.p.t.n,O U T.p.t.ins,O U T.p.t.outs,I A2 T.p.t.cases.length fh,O U T.p.a.n,I fw T.p.a.sts.length fg,O U T.p.k,O U T.n,I AV T.vs.length kv,I AX T.xs.length kx] 36 (0,0))):=(f2 _ (by omega)).trans OI.out;refine ah _ _ Ov.out ?_;clear ah K';refine zN rfl ?_;intro K' ah;go_simp;refine ah _ _ Ov.out ?_;refine yr ?_;clear ah K';go_wp2_with fail
  (try simp only[Exit.inBlock,Exit.then])
  refine LP (xq (P:=Al) rfl _ _ (w.heap.size+1) 36 _ (0,0) _ rfl f1 underlying36 rfl (by kernel_rfl) _ rfl) rfl ?_;have KD:=lP.out WF (by have:=EI.out.size;omega) (fun k cp hk=>(f2 k (by have:=sR.out;omega)).trans (EI.out.block k hk));refine⟨T,A2,fw,AV,AX,fh,fg,kv,kx,_,rfl,mP.out.trans (f3 _ (by omega)),fun hv=>⟨lQ.out,iY.out,by simpa using hv,KD.1,KD.2,C4.out,C5.out⟩⟩
end
section
def exSy:Sy:=(zK exPb).1
theorem ex_few:xx exPb=Ar:=by decide +kernel
theorem ex_fewx:wZ exPb:=(Ze ex_few).1
theorem ex_ok:(zK exPb).2=0:=by decide +kernel
theorem exs_len:exSy.vs.length=8/\exSy.xs.length=4/\exSy.n=2:=by decide +kernel
end
section
open Go.RowKit Go.Shelf
attribute [local go_sem] Oper.semAt_some
theorem exs_in2:qW 2 exSy.vs 2=([0,-1],0):=by decide +kernel
theorem exs_in4:qW 2 exSy.vs 4=([0,0],0):=by decide +kernel
theorem ux(w:Ba):An Al 6 #[] w fun e w'=>e=Ak (Ah Ar)/\Am w.heap.size w w':=by
 go_enter func6,ntmps6;go_wp2_with fail;refine(gt w).mono ?_;rintro e w1 ⟨A,kc,SV,ks,rfl,Ef,so,aH⟩;have cd:=zH aH;have mQ:=zH (ur exPb ex_fewx A kc SV ks w1 w1.heap.size (Lh _) Ef so);have HR:Ap (zK exPb=(exSy,0)):=Prod.ext rfl ex_ok;rw[HR.out] at mQ;have mK:=zH exs_in2;have OA:=zH exs_in4;have rh:=zH exs_len;obtain⟨T,hT⟩:=Kh exSy;rw[hT] at mQ mK OA rh;clear Ef so aH HR hT;go_wp2_with fail;refine mQ.out.mono ?_;rintro e w2 ⟨A2,fh,fw,fg,AV,kv,AX,kx,rfl,pP,BA,BD,ae⟩;have lP:=zH pP;have C4:=zH BA;have C5:=zH BD;have aN:=zH (Lc cd.out ae);unfold Sy.vs_;obtain⟨l1,l2,l3⟩:=rh.out;dsimp only;rw[l1,l2,l3];have pb:=zH l1;clear pP BA BD ae mQ l1 l2 l3 cd;go_upto_region 2 with fail
 obtain⟨W3,dV,d3,le,ak⟩:=zq w2 #[O U T.p.t.n,O U T.p.t.ins,O U T.p.t.outs,I A2 T.p.t.cases.length fh,O U T.p.a.n,I fw T.p.a.sts.length fg,O U T.p.k,O U 2,I AV 8 kv,I AX 4 kx] 36;rw[dV];have Sk:=(lP.out W3 (by omega) (fun k _ hk=>ak.block k hk)).1.fv;have NO:Ap (TArg W3 AV kv T.vs):=⟨Sk,C4.out,C5.out,by have:=pb.out;omega⟩;have cx:=zH (Lc aN.out ak);have t5:=zH d3;have rQ:=vN 2 AV kv T.vs 2 W3 NO.out;rw[mK.out,pb.out] at rQ;have HC:=zH rQ;have x7:=za d3 7 rfl;have x8:=za d3 8 rfl;have x9:=za d3 9 rfl;clear dV d3 le ak rQ;go_wp2_with fail;refine HC.out.mono ?_;rintro e w4 ⟨v,rfl,hO,bK⟩;dsimp only;have eB:=zH (Lc cx.out bK);have lE:=zH hO;have rP:=vN 2 AV kv T.vs 4 w4 (NO.out.keep bK);rw[OA.out,pb.out] at rP;have OM:=zH rP;have tB:=La bK t5.out;have z7:=za tB 7 rfl;have z8:=za tB 8 rfl;clear rP tB bK x7 x8 x9 HC hO;go_wp2_with fail;refine OM.out.mono ?_;rintro e w5 ⟨vb,rfl,MB,bJ⟩;dsimp only;have ed:=zH (Lc eB.out bJ);have tr:=lE.out.below bJ (Lh _);obtain⟨A4,k4,rfl,-,-,DO⟩:=tr.form;obtain⟨A5,k5,rfl,-,-,BQ⟩:=MB.form;obtain⟨g4,o4,rfl,-,Md⟩:=DO (by simp);obtain⟨g5,o5,rfl,-,tH⟩:=BQ (by simp);have c4:w5.cell? ⟨g4,o4+1,Z⟩=J (O U (-1)):=Md 1 (by simp);have c5:w5.cell? ⟨g5,o5+1,Z⟩=J (O U 0):=tH 1 (by simp)
 clear DO BQ Md tH tr MB lE z7 z8 OM bJ;simp only[List.length_cons,List.length_nil,Nat.reduceAdd];go_wp2_with fail;go_ret;exact⟨rfl,ed.out⟩
end
section
open Go.RowKit Go.Shelf
structure KeepCl(D:Nat)(K:Nat->Prop)(W W':Ba):Prop where
 kb:KeepB K W W'
 cl:∀(k:Nat) (o:Obj),D<=k->W.heap[k]?=J o->o.isCells=Ar->W'.heap[k]?=J o
theorem KeepCl.trans{D:Nat}{K:Nat->Prop}{A B C:Ba}(h:KeepCl D K A B)(k:KeepCl D K B C):KeepCl D K A C:=
 ⟨h.kb.trans k.kb,fun i o hi ho hc=>k.cl i o hi (h.cl i o hi ho hc) hc⟩
theorem KeepCl.alloc(D:Nat)(K:Nat->Prop)(W:Ba)(o:Obj):KeepCl D K W (W.alloc o):=⟨KeepB.alloc K W o,fun k _ _ hk _=>(NJ W o k (Lf.1 hk).1).trans hk⟩
theorem KeepCl.of_below{D:Nat}{K:Nat->Prop}{W W':Ba}(h:Am W.heap.size W W'):KeepCl D K W W':=
 ⟨⟨h.size,fun k _ hl=>h.block k hl⟩,fun k _ _ hk _=>(h.block k (Lf.1 hk).1).trans hk⟩
theorem KeepCl.putObj{D:Nat}{K:Nat->Prop}{W:Ba}{l:Nat}(h:¬K l){o:Obj}(ho:W.heap[l]?=J o)(hc:o.isCells=As)(o':Obj):KeepCl D K W (W.putObj l o'):=
 ⟨KeepB.putObj h o',fun k o2 _ hk h2=>(NN (fun e=>by subst e;rw[ho] at hk;cases hk;rw[hc] at h2;cases h2)).trans hk⟩
def IterC{β:Type}(P:Program)(g:Nat)(lb:Array Aq)(cO:β->Array Aq)(D:Nat)(K:Nat->Prop)(xs:List β)(w:Ba):Prop:=
 ∀n,1<=n->SeqStopsK Fence.wide n P g lb (fun x:{ x:β // x∈xs }=>cO x.1) (KeepCl D K) (fun ys=>ys.map (·.1)=xs) (fun pre=>pre.map (·.1) <+: xs) xs.length w
section
variable {P:Program}
theorem Xh{β:Type}{g:Operand}{ps:Array Tmp}{assign body:Code}{Q:Exit->Act->Ba->Prop}{a:Act}{w:Ba}
  {gf:Nat} {lb:Array Aq} (hg:a.eval g=.func (.func gf) #[] lb) (eg:Enters P gf)
  {cO:β->Array Aq} {K:Nat->Prop} {xs:List β} (dy:IterC P gf lb cO w.heap.size K xs w) (hK:∀k,K k->k<w.heap.size) (lh:∀x,(cO x).size=ps.size)
  (Ac:List { x:β // x∈xs }->Ba->Prop) (Ix:Code->List { x:β // x∈xs }->Ba->Prop) (hI:OwnFrom w.heap.size Ac) (Cu:∀c,OwnFrom w.heap.size (Ix c)) (h0:Ac [] w)
  (C:β->Array Aq) (T:TypeId) (a₁:{ x:β // x∈xs }->Nat->Act)
  (cY:∀(l:Nat) (pre:List { x:β // x∈xs }) (x:{ x:β // x∈xs }) (W:Ba) (K':Act->Ba->Prop),Ac pre W->(∀g,g=W.heap.size->Ac pre (W.alloc (Ag (C x.1) T))->K' (a₁ x g) (W.alloc (Ag (C x.1) T))) ->
   assign.wpIn (Fence.wide.inRound l) 7 P (Exit.then K' (fun _ _ _=>False)) { tmps:=(ps.zip (cO x.1)).foldl (fun t (p,v)=>t.setIfInBounds p v) a.tmps,defers:=[] } W)
  (fL:∀(l:Nat) (pre:List { x:β // x∈xs }) (x:{ x:β // x∈xs }) (g:Nat) (W:Ba),w.heap.size<=g->W.heap[g]?=J (Ag (C x.1) T (0,0))->Ac pre W->pre.length<xs.length->body.wpIn (Fence.wide.inRound l) 7 P (ownPostG w.heap.size (KeepCl w.heap.size K) Ac Ix (pre++[x]) W) (a₁ x g) W)
  (fK:∀(D:Nat) (ys:List { x:β // x∈xs }) (W:Ba),w.heap.size<=D->ys.map (·.1)=xs->Ac ys W->W.heap[D]?=J (.deferred (J []))->Q .normal { a with defers:={ target:=.collected D,args:=#[] }::a.defers } W)
  (fE:∀(D:Nat) (c:Code) (pre:List { x:β // x∈xs }) (W:Ba),w.heap.size<=D->pre.map (·.1) <+: xs->Ix c pre W->W.heap[D]?=J (.deferred (J []))->c.wp P Q { a with defers:={ target:=.collected D,args:=#[] }::a.defers } W)
  (eU:∀pre W,Ac pre W->w.heap.size<=W.heap.size) :
  (Code.rangeFunc g ps assign body).wp P Q a w:=
 (P6 (n:=9)).1 (wpIn_rangeFunc_ownH (F:=Fence.wide) (n:=9) rfl (by omega) hg trivial eg (dy 8 (by omega)) KeepCl.trans
  (fun W l o o' hl ho hc _=>KeepCl.putObj (fun hk=>by have:=hK l hk;omega) ho hc o') (Ln _ _) (fun x=>lh x.1) Ac Ix hI Cu h0
  (fun x a' W=>∃g,a'=a₁ x g/\w.heap.size<=g/\W.heap[g]?=J (Ag (C x.1) T (0,0)))
  (fun x a' _ W W' row ⟨g,e,nm,hc⟩ cC hr=>⟨g,e,nm,(LI cC (fun r e=>(hr r e).2) hc rfl).trans hc⟩)
  (fun l pre x W K' hi ah=>cY l pre x W K' hi fun g oz iQ=>by
   refine ah _ _ ?_ ?_ iQ ⟨g,rfl,by rw[oz];exact eU _ _ hi,by rw[oz];exact ze _ _⟩
   . exact⟨by simp,fun k o _ hk ho=>(NJ W _ k (Lf.1 hk).1).trans hk⟩
   . exact KeepCl.alloc _ _ _ _)
  (fun l pre x a' W _ _ hi ⟨g,e,nm,hc⟩ hl=>by subst e;exact fL l pre x g W nm hc hi hl) fK
  (fun D c pre W hD hS hc hk=>P6.2 (fE D c pre W hD hS hc hk)))
end
end
section
open Go.RowKit Go.Shelf
attribute [local go_sem] Oper.semAt_some
def qo:Int->List Rd->List (Int×Rd)
 | _,[]=>[]
 | b,r::l=>(b,r)::qo r.f l
theorem RAt.same{w w':Ba}{B:Nat}{A:Bb}{xs:List Rd}(h:RAt w B A xs)(hs:w.heap.size<=w'.heap.size)(hk:∀k,k<B->w'.heap[k]?=w.heap[k]?):RAt w' B A xs:=by
 have h2:=h.keep (jz hs hk);exact h2
theorem JM(A:Bb)(n c:Nat)(w:Ba):An Al 59 #[I A n c] w fun e w'=>
  e=Ak (.func (.func 99) #[] #[Aj (J ⟨w.heap.size,0,Z⟩)])/\w.alloc (Ag #[I A n c] 39)=w':=by
 go_enter func59,ntmps59;go_wp2;go_ret;exact⟨rfl,rfl⟩
theorem YA(L:List Rd)(hl:L.length<=100)(A:Bb)(kw B bx:Nat)(w:Ba)(hb:w.heap[bx]?=J (Ag #[I A L.length kw] 39))(Co:RAt w B A L)(hB:B<=w.heap.size) :
  IterC Al 99 #[Aj (J ⟨bx,0,Z⟩)] (fun x:Int×Rd=>#[O U x.1,.agg x.2.cells]) w.heap.size (fun k=>k<B\/k=bx) (qo 0 L) w:=fun n hn l Af Jx W hW hJ Ee hY h0=>by
 have aI:bx<w.heap.size:=(Lf.1 hb).1;have ce:W.heap[bx]?=J (Ag #[I A L.length kw] 39):=(hW.block bx aI).trans hb;have nt:RAt W B A L:=Co.keep (hW.mono hB);have HY:=zH hY;have If:Ap (∀s X o,Af s X->Af s (X.alloc o)):=fun s X o hs=>hJ s X (X.alloc o) Z hs (World.grownBy_alloc X o Z) (fun r e=>by cases e)
 have c0:=za ce 0 rfl;have i5:=zH nt;have H0:=zH h0;have dQ:=zH ce;have hDW:w.heap.size<=W.heap.size:=hW.size;have GH:B<=W.heap.size:=LE hB hW.size;have TL:bx<W.heap.size:=LD aI hW.size;clear hb Co ce nt hY h0;refine P4 func99 rfl trivial ?_ rfl;simp only[ntmps99,List.size_toArray,List.length_cons,List.length_nil,Nat.reduceAdd,Nat.reduceSub,Array.replicate_succ,Array.replicate_zero,List.push_toArray,List.append_toArray,List.nil_append,List.cons_append];gi_wp2
 gi_loopw [3,8] (fun b p wr=>∃(bv:Int) (j:Nat),j<=L.length/\b=O U bv/\p=O U (j:Int)/\∃pre:List { x:Int×Rd // x∈qo 0 L },Ap (pre.map (·.1)++qo bv (L.drop j)=qo 0 L)/\Ap (Af pre wr)/\Ap (RAt wr B A L)/\Ap (wr.heap[bx]?=J (Ag #[I A L.length kw] 39))/\W.heap.size<=wr.heap.size) (fun _ p _=>L.length-(Ao p).toNat)
 case atStart=>exact⟨0,0,by omega,rfl,rfl,[],by simp[Ap],H0,i5,dQ,Lh _⟩
 case round=>
  obtain⟨bv,j,hj,rfl,rfl,pre,hp,dW,iW,dB,bk⟩:=hrel;have iK:IntKind.i64.wrap ((j:Int)+1)=((j+1:Nat):Int):=by rw[Lw];omega
  by_cases bf:j<L.length
  . obtain⟨b2,o2,rfl,ae,m0,m1,m2,m3,m4,m5,m6⟩:=iW.out.row j bf
    have BR:L.drop j=L[j]::L.drop (j+1):=Lx bf;obtain⟨m,hm⟩:=Kh (L[j]);rw[hm] at m0 m1 m2 m3 m4 m5 m6 BR
    have iN:pre.map (·.1)++((bv,m)::qo m.f (L.drop (j+1)))=qo 0 L:=by
     have:=hp.out;rw[BR,qo] at this;exact this
    have bS:(bv,m)∈qo 0 L:=by rw[<-iN];simp
    have aM:pre.length<(qo 0 L).length:=by
     have:=congrArg List.length iN;simp only[List.length_append,List.length_map,List.length_cons] at this;omega
    obtain⟨fn,tmps,assign,body,hy,hR⟩:=HY.out pre ⟨(bv,m),bS⟩ _ (If.out _ _ (Ag #[O U m.n,O U m.h0,O U m.h1,O U m.h2,O U m.h3,O U m.h4,O U m.f] 75) dW.out) aM;unfold Rd.cells at hy;dsimp only at hy
    have re:Ap ((pre++[(⟨(bv,m),bS⟩:{ x:Int×Rd // x∈qo 0 L })]).map (·.1)++qo m.f (L.drop (j+1))=qo 0 L):=by
     rw[Ap,LN,L1];exact iN
    have HR:=zH hR;have DK:(0:Int)<=(j:Int):=by omega
    have DJ:(j:Int)<(L.length:Int):=by omega
    have Vf:=ze wr (Ag #[O U m.n,O U m.h0,O U m.h1,O U m.h2,O U m.h3,O U m.h4,O U m.f] 75);gi_wp2_with fail;refine HR.out.mono ?_;rintro e W3 (⟨rfl,oK,eo⟩ | ⟨rfl,fa⟩)
    . have aW:wr.heap.size<=W3.heap.size:=by have:=eo.kb.size;simp at this;omega
      have cp:∀k,(k<B\/k=bx)->k<wr.heap.size->W3.heap[k]?=wr.heap[k]?:=fun k hk aa=>(eo.kb.same k hk (by simp;omega)).trans (zC (Pj aa) _ |>.trans (Pj aa).symm)
      have S3:=zH (iW.out.same aW (fun k hk=>cp k (.inl hk) (by omega)));have B3:=zH ((cp bx (.inr rfl) (by omega)).trans dB.out);have J3:=zH oK;have io:W.heap.size<=W3.heap.size:=by omega
      have g0:=eo.cl wr.heap.size _ (by omega) Vf rfl;have g1:=za g0 6 rfl;gi_wp2_with fail
      go_roundw
      case rel=>exact⟨m.f,j+1,by omega,rfl,by go_num,_,re,J3,S3,B3,io⟩
      case measure=>simp[Ao];omega
    . gi_wp2_with fail
      refine LP (PE rfl _ _ _) rfl ?_;refine⟨⟨_,rfl⟩,.inr ⟨_,?_,fa⟩⟩;exact⟨_,re.out⟩
  . have ft:j=L.length:=by omega
    subst ft;have iN:pre.map (·.1)=qo 0 L:=by have:=hp.out;rwa[Nv,qo,L7] at this
    gi_wp2_with fail
    go_end0
    exact⟨⟨_,rfl⟩,.inl ⟨pre,iN,dW.out⟩⟩
theorem Zs(n:Nat)(h1:1<=n)(h5:n<=5)(w:Ba):An Al 58 #[O U (n:Int)] w fun e w'=>e=Ak (O U 0)/\w'=w:=by
 have e1:¬((n:Int)<1):=by omega
 have e5:¬(5<(n:Int)):=by omega
 go_enter func58,ntmps58;go_wp2_with fail;go_ret;exact⟨rfl,rfl⟩
structure WOk(n:Nat)(L:List Rd):Prop where
 n1:1<=n
 n5:n<=5
 l:L.length<=100
 r:∀x∈qo 0 L,zJ x.2=0/\x.2.n=(n:Int)/\∃s f:Nat,s<32/\f<32/\x.1=(s:Int)/\x.2.f=(f:Int)/\s &&& f=s
theorem word_any(n:Nat)(L:List Rd)(h:WOk n L)(B kw:Nat)(A:Bb)(w:Ba)(hR:RAt w B A L)(hB:B<=w.heap.size) :
  An Al 24 #[O U (n:Int),I A L.length kw] w fun e w'=>e=Ak (O U 0)/\Am w.heap.size w w':=by
 obtain⟨n1,n5,hl,hr⟩:=h;have tT:=zH hr;have HN:=zH (fun X=>Zs n n1 n5 X);have HI:=zH (fun (bx:Nat) (X:Ba) (hb:X.heap[bx]?=J (Ag #[I A L.length kw] 39)) (hx:RAt X B A L) (hB:B<=X.heap.size)=>YA L hl A kw B bx X hb hx hB);obtain⟨w1,af,d0,d1,aW,ay⟩:=yx w #[O U (n:Int)] #[O U 0] 3 46;have HS:=zH (hR.keep (ay.mono hB));have cd:=zH ay;have aX:=zH d0;have bH:=zH d1;have au:=zH af;have p0:=za d0 0 rfl;have p1:=za d1 0 rfl;have f1:=zb d1 0;have KR:¬((1024:Int)<(L.length:Int)):=by omega
 have GH:=ay.size;clear d0 d1 ay hr hR af;refine yb func24 rfl ?_;simp only[ntmps24,List.size_toArray,List.length_cons,List.length_nil,Nat.reduceAdd,Nat.reduceSub,Array.replicate_succ,Array.replicate_zero,List.push_toArray,List.append_toArray,List.nil_append,List.cons_append];go_upto_region 1 with fail
 rw[au.out];go_wp2_with fail;refine(HN.out _).mono ?_;rintro e w2 ⟨rfl,rfl⟩;go_wp2_with fail;refine(JM A L.length kw w2).mono ?_;rintro e W ⟨rfl,hW⟩;have bb:=ze w2 (Ag #[I A L.length kw] 39);have bG:Am w2.heap.size w2 W:=by rw[<-hW];exact zw _ _
 have dk:w2.heap.size<W.heap.size:=by rw[<-hW];simp
 rw[hW] at bb;have ib:=zH (HI.out w2.heap.size W bb (HS.out.keep (bG.mono (by omega))) (by omega));have aN:=zH bG;have N3:Ap (RsIn w.heap.size #[O U (n:Int)] 3 0 w w2):=⟨cd.out,aX.out,bH.out⟩;have HW:=zH (N3.out.on aN.out (by omega));clear hW bb bG HI p0 p1 f1 N3;go_wp2_with fail
 refine Xh rfl (Pg func99 (by kernel_rfl) rfl) ib.out (by rintro k (h | rfl)<;>omega) (fun _=>rfl)
  (fun (pre:List { x:Int×Rd // x∈qo 0 L }) X=>RsIn w.heap.size #[O U (n:Int)] 3 0 w X/\W.heap.size<=X.heap.size)
  (fun _ _ _=>False)
  (fun _ _ _ _ h hg hr=>⟨h.1.turn hg (fun r e=>⟨by have:=(hr r e).1;omega,(hr r e).2⟩),LE h.2 hg.size⟩) (fun _ _ _ _ _ h _ _=>h)
  ⟨HW.out,Lh _⟩ (fun x=>x.2.cells) 75 ?a1 ?assign ?body ?done ?stop (fun _ _ h=>h.2)
 case assign=>
  intro l pre x X K hI hK;obtain⟨g,hg⟩:∃g,g=X.heap.size:=⟨_,rfl⟩;have HK:=zH (hK g hg ⟨hI.1.on (zw X _) (zd hI.1.b1),by have:=hI.2;simp;omega⟩);have HG:=zH hg;unfold Rd.cells at HK ⊢;dsimp only at HK ⊢;clear hK hg hI;gi_wp2;rw[<-HG.out];exact HK.out
 case body=>
  intro l pre x g W1 hg ep hI aa;obtain⟨dY,dX⟩:=hI;obtain⟨z1,z2,s,f,ls,lf,es,ef,hk⟩:=tT.out x.1 x.2;have nz:=zH es;obtain⟨m,hm⟩:=Kh x.1.2;have HM:=zH hm;rw[hm] at z1 z2 ef ep;have HC:=zH (fun X=>km m X);rw[z1] at HC;unfold Rd.cells at HC ep;have Vj:=zH z2;have OG:=zH ef;have hz:=(ut lf ls).2 hk;have mL:=zH dY;have EA:=zH ep;obtain⟨q0,q1,q2,q3,q4,q5,q6,_⟩:=Kf ep;clear hm z1 z2 es ef ep dY hk aa;gi_wp2_with fail;refine⟨trivial,(R6 l ((Re (n:=6)).2 (HC.out W1))).mono ?_⟩;rintro e W2 ⟨rfl,ae⟩;have mK:=zH (mL.out.on ae (by have:=mL.out.below.size;omega));have nD:=zH ((ae.block g (zd EA.out)).trans EA.out);have aN:=zH ae;have q0:=za nD.out 0 (u:=O U m.n) rfl;have q6:=za nD.out 6 (u:=O U m.f) rfl;rw[Vj.out] at q0;rw[OG.out] at q6;have p0:=za mK.out.b0 0 rfl;have iq:=KeepCl.of_below (D:=W.heap.size) (K:=fun k=>k<B\/k=w2.heap.size) ae;have cB:=ae.size;clear ae q1 q2 q3 q4 q5;rw[nz.out];gi_wp2_with fail;exact⟨xX aN.out,iq,mK.out,by omega⟩
 case done=>
  intro D ys W1 hD dv hI dD;have HI:=zH hI.1;have p0:=za HI.out.b1 0 rfl;have f0:=zb HI.out.b1 0;have HD:=zH dD;have Se:w.heap.size<=D:=by omega
  clear hI dv dD ib HW;go_wp2_with fail;refine yv (B:=w.heap.size) (qK (B:=w.heap.size) Se ((HI.out.keeps (D:=D) 0).same D _ (Lh _) HD.out rfl)) ?_;intro X hX;have hI:=HI.out.set 0;have c1:=hI.cell hX;refine⟨O U 0,?_,rfl,hI.below.trans hX.below⟩;clear hX hI;simp[results,results24,go_sem,c1]
 intro D c pre W1 _ _ h;exact h.elim
theorem ZB(n n':Int)(f g:Nat->Nat)(hf:∀q,q<5->f q<32)(hg:∀q,q<5->g q<32)(p:Nat)(hp:p<5)(bA bB:Nat)(w:Ba)(hA:w.heap[bA]?=J (Ag (gF n f) 45 (0,0)))(hB:w.heap[bB]?=J (Ag (gF n' g) 45 (0,0)))(hT:Tab w)(h3:3<=w.heap.size) :
  An Al 103 #[O U (p:Int),Aj (J ⟨bA,0,Z⟩),Aj (J ⟨bB,0,Z⟩)] w fun e w'=>e=Ak (O U ((xf f (g p) 5:Nat):Int))/\Am w.heap.size w w':=by
 have HC:=zH (fun (X:Ba) (hX:Am w.heap.size w X)=>ZT n f hf (g p) (hg p hp) X (hT.keep hX h3) (LE h3 hX.size));have ia:Ap (∀X,Am w.heap.size w X->X.heap[bA]?=J (Ag (gF n f) 45 (0,0))/\X.cell? ⟨bB,1+p,Z⟩=J (O U ((g p:Nat):Int))):=fun X hX=>⟨La hX hA,za (La hX hB) (1+p) (Zc n' g hp)⟩
 have pw:(0:Int)<=(p:Int):=by omega
 have hp5:(p:Int)<5:=by omega
 obtain⟨m,hm⟩:=Kh (g p);rw[hm] at HC ia ⊢;have G0:Ap (Am w.heap.size w w.drew):=(Ln _ _).drew;unfold gF at HC ia;clear hA hB hT h3 hf hg hm;go_enter func103,ntmps103;go_upto_region 1 with fail
 refine zI [(0,Ar),(1,Ar),(2,Ar),(3,Ar),(4,Ar),(5,As),(6,Ar)] (fun X=>X.heap[bA]?=J (Ag #[O U n,O U (f 0:Nat),O U (f 1:Nat),O U (f 2:Nat),O U (f 3:Nat),O U (f 4:Nat)] 45 (0,0))/\X.cell? ⟨bB,1+p,Z⟩=J (O U ((m:Nat):Int))) (by kernel_rfl) (by kernel_rfl) (ia.out _ G0.out) ?_
 repeat
  apply zU rfl
  . rintro K' ah X ⟨u1,u2⟩
    obtain⟨x0,x1,x2,x3,x4,x5,_⟩:=Kg u1;clear u1;go_simp;exact ah
 refine zN rfl ?_;intro K' ah;go_simp;refine(HC.out _ G0.out).mono ?_;rintro e w2 ⟨rfl,ae⟩;have HB:=zH (Lc G0.out ae);refine ah _ _ (ia.out _ HB.out) ?_;clear ah K' ae
 repeat
  apply zU rfl
  . rintro K' ah X -
    go_simp;exact ah
 refine yr ?_;go_wp2_with fail;go_ret;exact⟨rfl,HB.out⟩
def prF(n:Nat)(f g:Nat->Nat):Nat->Nat:=yY n fun q=>xf f (g q) 5
theorem Yu(n:Nat)(n':Int)(hn:n<=5)(f g:Nat->Nat)(hf:∀q,q<5->f q<32)(hg:∀q,q<5->g q<32)(w:Ba)(hT:Tab w)(h3:3<=w.heap.size) :
  An Al 64 #[.agg (gF n f),.agg (gF n' g)] w fun e w'=>e=Ak (.agg (gF n (prF n f g)))/\Am w.heap.size w w':=by
 obtain⟨w1,af,d0,d1,d2,aW,ay⟩:=xF w (gF n f) (gF n' g) #[O U 0,O U 0,O U 0,O U 0,O U 0,O U 0] 45 45 45;have HC:=zH (YH n hn (fun q=>xf f (g q) 5) 103 #[Aj (J ⟨w.heap.size,0,Z⟩),Aj (J ⟨w.heap.size+1,0,Z⟩)] (Pg func103 (by kernel_rfl) rfl) w1 fun p hp X hX=>ZB n n' f g hf hg p (by omega) w.heap.size (w.heap.size+1) X (La hX d0) (La hX d1) ((hT.keep ay h3).keep hX (by omega)) (by have:=hX.size;omega));change Ap (An _ _ _ _ fun e w'=>e=Ak (.agg (gF n (prF n f g)))/\_) at HC;obtain⟨h,hh⟩:=Kh (prF n f g);rw[hh] at HC ⊢;have fd:=zH d2;have cd:=zH ay;unfold gF at af d0 HC ⊢;have au:=zH af;have y0:=za d0 0 rfl;clear af d0 d1 d2 aW ay hT h3 hh hf hg;go_enter func64,ntmps64;go_upto_region 1 with fail
 rw[au.out];go_wp2_with fail;refine HC.out.mono ?_;rintro e w2 ⟨rfl,ae⟩;have H0:=zH (La ae fd.out);have aN:=zH (Lc cd.out ae);obtain⟨z0,z1,z2,z3,z4,z5,_⟩:=Kg H0.out;have f0:=zb H0.out 0;have f1:=zb H0.out 1;have f2:=zb H0.out 2;have f3:=zb H0.out 3;have f4:=zb H0.out 4;have f5:=zb H0.out 5;clear ae HC y0;go_wp2_with fail;obtain⟨wS,lc,q1,q2,q3,q4⟩:=jI H0.out (O U (n:Int)) (O U ((h 0:Nat):Int)) (O U ((h 1:Nat):Int)) (O U ((h 2:Nat):Int)) (O U ((h 3:Nat):Int)) (O U ((h 4:Nat):Int));rw[lc];refine LP (RN (P:=Al) rfl _ _ (w.heap.size+1+1) 45 _ (0,0) _ rfl q1 N2 rfl (by kernel_rfl)) rfl ?_;exact⟨rfl,aN.out.trans (q3 _ (by omega))⟩
def rdF(n:Nat)(f:Nat->Nat):Rd:=⟨(n:Int),(f 0:Nat),(f 1:Nat),(f 2:Nat),(f 3:Nat),(f 4:Nat),0⟩
theorem JH(n:Nat)(f:Nat->Nat):(rdF n f).gcells=gF (n:Int) f:=rfl
theorem YR(n:Nat)(f:Nat->Nat)(h:zS (rdF n f)=0)(w:Ba):An Al 100 #[.agg (gF (n:Int) f)] w fun e w'=>e=Ak (O U 0)/\Am w.heap.size w w':=by
 have:=wG (rdF n f) w;rw[h,JH] at this;exact this
theorem both_gr(n:Nat)(f g:Nat->Nat)(hf:zS (rdF n f)=0)(hg:zS (rdF n g)=0)(w:Ba) :
  An Al 63 #[.agg (gF (n:Int) f),.agg (gF (n:Int) g)] w fun e w'=>e=Ak (O U 0)/\Am w.heap.size w w':=by
 obtain⟨w1,af,d0,d1,aW,ay⟩:=yx w (gF (n:Int) f) (gF (n:Int) g) 45 45;have fP:=zH (YR n f hf w1);have fB:=zH (fun X=>YR n g hg X);have cd:=zH ay;have bH:=zH d1;have aX:=zH d0;unfold gF at af fP fB aX bH ⊢;have au:=zH af;obtain⟨x0,x1,x2,x3,x4,x5,_⟩:=Kg aX.out;clear af d0 d1 aW ay hf hg;go_enter func63,ntmps63;go_upto_region 1 with fail
 rw[au.out];go_wp2_with fail;refine fP.out.mono ?_;rintro e w2 ⟨rfl,ae⟩;have e0:=La ae aX.out;have e1:=La ae bH.out;have H0:=zH e0;have H1:=zH e1;have aN:=zH (Lc cd.out ae);clear ae fP x0 x1 x2 x3 x4 x5 e0;obtain⟨x0,x1,x2,x3,x4,x5,_⟩:=Kg e1;have HC:=zH (fB.out w2);clear e1;go_wp2_with fail;refine HC.out.mono ?_;rintro e w3 ⟨rfl,ak⟩;have y0:=za (La ak H0.out) 0 rfl;have y1:=za (La ak H1.out) 0 rfl;have cx:=zH (Lc aN.out ak);clear ak HC x0 x1 x2 x3 x4 x5;go_wp2_with fail;go_ret;exact⟨rfl,cx.out⟩
theorem YZ(n:Nat)(hn:n<=5)(f g:Nat->Nat)(hf:zS (rdF n f)=0)(hg:zS (rdF n g)=0)(BQ:∀q,q<5->f q<32)(mt:∀q,q<5->g q<32)(w:Ba)(hT:Tab w)(h3:3<=w.heap.size) :
  An Al 26 #[.agg (gF (n:Int) f),.agg (gF (n:Int) g)] w fun e w'=>e=Ak (.tuple #[.agg (gF (n:Int) (prF n f g)),O U 0])/\Am w.heap.size w w':=by
 obtain⟨w1,af,d0,d1,d2,aW,ay⟩:=xF w (gF (n:Int) f) (gF (n:Int) g) #[O U 0,O U 0,O U 0,O U 0,O U 0,O U 0] 45 45 45;have fP:=zH (both_gr n f g hf hg w1);have fB:=zH (fun (X:Ba) (hX:Am w1.heap.size w1 X)=>Yu n (n:Int) hn f g BQ mt X ((hT.keep ay h3).keep hX (by omega)) (by have:=hX.size;omega));obtain⟨h,hh⟩:=Kh (prF n f g);rw[hh] at fB ⊢;have cd:=zH ay;have fd:=zH d2;have bH:=zH d1;have aX:=zH d0;unfold gF at af fP fB aX bH ⊢;have au:=zH af;obtain⟨x0,x1,x2,x3,x4,x5,_⟩:=Kg aX.out;obtain⟨y0,y1,y2,y3,y4,y5,_⟩:=Kg bH.out;clear af d0 d1 d2 aW ay hf hg BQ mt hT hh;go_enter func26,ntmps26;go_upto_region 1 with fail
 rw[au.out];go_wp2_with fail;refine fP.out.mono ?_;rintro e w2 ⟨rfl,ae⟩;have e0:=La ae aX.out;have e1:=La ae bH.out;have H2:=zH (La ae fd.out);have aN:=zH (Lc cd.out ae);have HC:=zH (fB.out w2 ae);clear ae fP x0 x1 x2 x3 x4 x5 y0 y1 y2 y3 y4 y5;obtain⟨x0,x1,x2,x3,x4,x5,_⟩:=Kg e0;obtain⟨y0,y1,y2,y3,y4,y5,_⟩:=Kg e1;clear e0 e1;go_wp2_with fail;refine HC.out.mono ?_;rintro e w3 ⟨rfl,ak⟩;have H0:=zH (La ak H2.out);have cx:=zH (Lc aN.out ak);obtain⟨z0,z1,z2,z3,z4,z5,_⟩:=Kg H0.out;have f0:=zb H0.out 0;have f1:=zb H0.out 1;have f2:=zb H0.out 2;have f3:=zb H0.out 3;have f4:=zb H0.out 4;have f5:=zb H0.out 5;clear ak HC x0 x1 x2 x3 x4 x5 y0 y1 y2 y3 y4 y5;go_wp2_with fail;obtain⟨wS,lc,q1,q2,q3,q4⟩:=jI H0.out (O U (n:Int)) (O U ((h 0:Nat):Int)) (O U ((h 1:Nat):Int)) (O U ((h 2:Nat):Int)) (O U ((h 3:Nat):Int)) (O U ((h 4:Nat):Int));rw[lc];refine LP (xq (P:=Al) rfl _ _ (w.heap.size+1+1) 45 _ (0,0) _ rfl q1 N2 rfl (by kernel_rfl) _ rfl) rfl ?_;exact⟨rfl,cx.out.trans (q3 _ (by omega))⟩
end
section
open Go.RowKit
end
section
open Go.RowKit Go.Shelf
attribute [local go_sem] Oper.semAt_some
theorem Ji{w w':Ba}{b B:Nat}(h:Wrote (fun z=>z=b) w w')(hb:B<=b)(hl:B<=w.heap.size):Am B w w':=⟨h.os,h.tape,h.output,h.size,fun k hk=>h.block k (by omega) (by show ¬k=b;omega)⟩
theorem h_nat{r:Rd}{N:Nat}(h:zJ r=0)(hn:r.n=(N:Int))(h5:N<=5){q:Nat}(hq:q<5):r.h q=(((r.h q).toNat:Nat):Int)/\(r.h q).toNat<32:=by
 by_cases pr:q<N
 . obtain⟨m,hm,aa,_⟩:=qL h hn h5 pr
   have:=Nj (n:=2) (by omega) h5;rw[hm,Lu];exact⟨rfl,by omega⟩
 have hg : zS r = 0 := by
  unfold zJ at h
  split at h
  . rename_i bj;exact absurd h bj
  rename_i bj;simpa using bj
 have h2:=wC hg q hq;unfold yB at h2;rw[Lm (by omega)] at h2
 split at h2
 . cases h2
 rename_i h3;have:r.h q=0:=by simpa using h3
 rw[this];decide
end
section
structure GOk(N:Nat)(f:Nat->Nat):Prop where
 lo:∀q,q<N->f q<2^N/\(f q).testBit q=Ar
 hi:∀q,N<=q->q<5->f q=0
theorem GOk.lt{N:Nat}{f:Nat->Nat}(h:GOk N f)(h5:N<=5):∀q,q<5->f q<32:=fun q hq=>by
 by_cases c:q<N
 . have:=(h.lo q c).1
   have h2:2^N<=2^5:=Nj (by omega) h5;omega
 . rw[h.hi q (by omega) hq];omega
theorem GOk.graph{N:Nat}{f:Nat->Nat}(h:GOk N f)(h1:1<=N)(h5:N<=5):zS (rdF N f)=0:=by
 have hh:∀q,q<5->yB (rdF N f).n q ((rdF N f).h q)=0:=by
  intro q hq
  have e:(rdF N f).h q=(f q:Int):=by
   obtain rfl | rfl | rfl | rfl | rfl:q=0\/q=1\/q=2\/q=3\/q=4:=by omega
   all_goals rfl
  rw[e];show yB (N:Int) q (f q)=0;unfold yB
  by_cases hN:q<N
  . obtain⟨a,b⟩:=h.lo q hN
    rw[Lk (by omega),Lk (by rw[Lu];have:=Nat.one_le_two_pow (n:=N);omega),Lu,Lm b]
  rw[Lm (by omega),h.hi q (by omega) hq];rfl
 have hk:∀k,k<=5->zX (rdF N f) k (5-k)=0:=by
  intro k
  induction k with
  | zero=>intro _;rfl
  | succ k ih=>
   intro hk;rw[zX,Lk (by rw[hh _ (by omega)];decide)];have:=ih (by omega);rwa[show 5-(k+1)+1=5-k by omega]
 unfold zS;rw[Lk (by show ¬((N:Int)<1\/5<(N:Int));omega)];exact hk 5 (by omega)
theorem ZU{N:Nat}{f:Nat->Nat}{m:Nat}:∀j,(∀i,i<j->f i<2^N)->xf f m j<2^N
 | 0,_=>RZ N
 | j+1,h=>by
  rw[xf]
  split
  . exact Nat.or_lt_two_pow (ZU j fun i hi=>h i (by omega)) (h j (by omega))
  . exact ZU j fun i hi=>h i (by omega)
def rdH(r:Rd)(q:Nat):Nat:=(r.h q).toNat
def prC(N:Nat)(L:List Rd):Nat->Nat->Nat
 | 0=>yY N fun q=>2^q
 | k+1=>prF N (prC N L k) (rdH (L.getD k default))
theorem gok_sil(N:Nat):GOk N (yY N fun q=>2^q):=
 ⟨fun q hq=>by unfold yY;rw[Lm hq];exact⟨Nat.pow_lt_pow_right (by omega) hq,by simp⟩,fun q hq _=>by unfold yY;rw[Lk (by omega)]⟩
theorem gok_pr{N:Nat}(h5:N<=5){f g:Nat->Nat}(hf:GOk N f)(hg:GOk N g):GOk N (prF N f g):=by
 refine⟨fun q hq=>?_,fun q hq _=>by unfold prF yY;rw[Lk (by omega)]⟩;unfold prF yY;dsimp only;rw[Lm hq];refine⟨ZU 5 fun i hi=>?_,(jV _ _ _ _).2 ⟨q,by omega,(hg.lo q hq).2,(hf.lo q hq).2⟩⟩
 by_cases c:i<N
 . exact(hf.lo i c).1
 rw[hf.hi i (by omega) hi];exact RZ N
theorem ZP{N:Nat}(h5:N<=5){r:Rd}(h:zJ r=0)(hn:r.n=(N:Int)):GOk N (rdH r):=by
 refine⟨fun q hq=>?_,fun q hq Bj=>?_⟩
 . obtain⟨m,hm,h1,h2⟩:=qL h hn h5 hq
   unfold rdH;rw[hm,Lu];exact⟨h1,h2⟩
 have h2:=wC (xI h).2.2.1 q Bj;unfold yB at h2;rw[Lm (by omega)] at h2
 split at h2
 . cases h2
 rename_i h3;have:r.h q=0:=by simpa using h3
 unfold rdH;rw[this];rfl
theorem ZQ{N:Nat}(h5:N<=5){L:List Rd}(h:∀r∈L,zJ r=0/\r.n=(N:Int)):∀k,k<=L.length->GOk N (prC N L k)
 | 0,_=>gok_sil N
 | k+1,hk=>by
  rw[prC,Lg,Lj (show k<L.length by omega)];obtain⟨a1,a2⟩:=h _ (Le (show k<L.length by omega));exact gok_pr h5 (ZQ h5 h k (by omega)) (ZP h5 a1 a2)
theorem gR{N:Nat}(h5:N<=5){word:List Rd}{j:Nat}(h:∀r∈word,zJ r=0/\r.n=(N:Int)):∀k q,j+k<=word.length->q<N->prC N (word.drop j) k q=ko word j k q
 | 0,q,_,hq=>by rw[prC,ko];unfold yY;rw[Lm hq]
 | k+1,q,hk,hq=>by
  have hg:(word.drop j).getD k default=word.getD (j+k) default:=by
   rw[Lg,Lg,RD]
  rw[prC,ko];unfold prF yY;dsimp only;rw[Lm hq,hg];show xf _ (rdH (word.getD (j+k) default) q) 5=xf _ (rdH (word.getD (j+k) default) q) 5
  have hm:word.getD (j+k) default∈word:=by
   rw[Lg,Lj (show j+k<word.length by omega)];exact Le _
  obtain⟨a1,a2⟩:=h _ hm;have pB:=((ZP h5 a1 a2).lo q hq).1;refine vB 5 fun i _ hi=>?_
  have K3:i<N:=by
   by_cases c:i<N
   . exact c
   . have hp:2^N<=2^i:=Nj (by omega) (by omega)
     rw[Pr (by omega)] at hi;cases hi
  exact gR h5 h k i (by omega) K3
end
section
open Go.RowKit Go.Shelf
attribute [local go_sem] Oper.semAt_some
theorem Yt:∀(b:Int) (L:List Rd) (r:Rd),r∈L->∃x∈qo b L,x.2=r
 | _,[],_,h=>by cases h
 | b,a::L,r,h=>by
  rcases LF.1 h with rfl | h
  . exact⟨(b,r),by rw[qo];exact PN,rfl⟩
  . obtain⟨x,hx,e⟩:=Yt a.f L r h
    exact⟨x,by rw[qo];exact PC _ hx,e⟩
theorem WOk.each{N:Nat}{L:List Rd}(h:WOk N L):∀r∈L,zJ r=0/\r.n=(N:Int):=fun r hr=>by
 obtain⟨x,hx,rfl⟩:=Yt 0 L r hr;exact⟨(h.r x hx).1,(h.r x hx).2.1⟩
theorem Zz(N:Nat)(L:List Rd)(h:WOk N L)(B kw:Nat)(A:Bb)(w:Ba)(hR:RAt w B A L)(hB:B<=w.heap.size)(hT:Tab w)(h3:3<=w.heap.size) :
  An Al 8 #[O U (N:Int),I A L.length kw] w fun e w'=>e=Ak (.tuple #[.agg (gF N (prC N L L.length)),O U 0])/\Am w.heap.size w w':=by
 have hl:=h.l;have hG:=fun m hm=>ZQ h.n5 h.each m hm
 have hE:=h.each;obtain⟨w1,af,d1,aW,ay⟩:=zq w #[O U 0,O U 0,O U 0,O U 0,O U 0,O U 0] 45;have sL:=zH (word_any N L h B kw A w1 (hR.keep (ay.mono hB)) (by omega));have Ho:=zH (fun X=>Xr N h.n1 h.n5 X)
 have Of:=zH (fun (m:Nat) (hm:m<L.length) (X:Ba) (hX:Am w.heap.size w X)=>YZ N h.n5 (prC N L m) (rdH L[m]) ((hG m (by omega)).graph h.n1 h.n5)
  ((ZP h.n5 (hE _ (Le hm)).1 (hE _ (Le hm)).2).graph h.n1 h.n5) ((hG m (by omega)).lt h.n5) ((ZP h.n5 (hE _ (Le hm)).1 (hE _ (Le hm)).2).lt h.n5) X (hT.keep hX h3) (by have:=hX.size;omega))
 have rf:Ap (∀m (hm:m<L.length),prF N (prC N L m) (rdH L[m])=prC N L (m+1)):=fun m hm=>by
  rw[prC,Lg,Lj hm];rfl
 have VW:Ap (∀m (hm:m<L.length) q,q<5->L[m].h q=((rdH L[m] q:Nat):Int)):=fun m hm q hq=>by
  obtain⟨a1,a2⟩:=hE _ (Le hm);exact(h_nat a1 a2 h.n5 hq).1
 have ec:Ap (∀m (hm:m<L.length),L[m].n=(N:Int)):=fun m hm=>(hE _ (Le hm)).2
 have HR:Ap (∀X,Am w.heap.size w X->RAt X B A L):=fun X hX=>hR.keep (hX.mono hB)
 have au:=zH af;have cd:=zH ay;have bH:=zH d1;have oU:=zH aW;clear af d1 aW ay hR hT h3 h hG hE;go_enter func8,ntmps8;go_upto_region 1 with fail
 rw[au.out];unfold gF at Ho Of;go_wp2_with fail;refine sL.out.mono ?_;rintro e w2 ⟨rfl,ae⟩;have aN:=zH (cd.out.trans (ae.mono (by have:=oU.out;omega)));have fd:=zH (La ae bH.out);clear ae sL au cd bH;go_wp2_with fail;refine(Ho.out w2).mono ?_;rintro e w3 ⟨rfl,ak⟩;have cx:=zH (Lc aN.out ak);have t5:=zH (La ak fd.out);clear ak Ho fd aN;go_upto_region 5 with fail
 obtain⟨w4,nO,d4,fW,bK⟩:=zq w3 (gF N (prC N L 0)) 45;have AK:w3.alloc (Ag #[O U (N:Int),O U (yY N (fun q=>2^q) 0:Nat),O U (yY N (fun q=>2^q) 1:Nat),O U (yY N (fun q=>2^q) 2:Nat),O U (yY N (fun q=>2^q) 3:Nat),O U (yY N (fun q=>2^q) 4:Nat)] 45)=w4:=nO;rw[AK];obtain⟨b5,bJ⟩:=Kh w3.heap.size;rw[bJ] at d4;have Bx:w.heap.size<b5:=by have:=zd t5.out;omega
 have De:=zH (La bK t5.out);have eB:=zH (Lc cx.out bK);have H0:=zH d4;have iZ:Ap (b5<w4.heap.size):=zd d4;simp only[bJ];clear nO AK d4 fW bK cx t5 oU bJ;go_wp2_with fail
 go_loopw [8,25] (fun e i wr=>∃m:Nat,m<=L.length/\e=O U 0/\i=O U (m:Int)/\Ap (wr.heap[b5]?=J (Ag (gF N (prC N L m)) 45 (0,0)))/\Ap (Wrote (fun z=>z=b5) w4 wr)) (fun _ i _=>L.length-(Ao i).toNat)
 case atStart=>exact⟨0,by omega,rfl,rfl,H0,Wrote.refl _ _⟩
 obtain⟨m,hm,rfl,rfl,hG,hW⟩:=hrel;clear H0;have aT:Ap (Am w.heap.size w wr):=eB.out.trans (Ji hW.out (by omega) eB.out.size)
 by_cases aa:m<L.length
 . obtain⟨bw,ow,eW,cD,y0,y1,y2,y3,y4,y5,y6⟩:=(HR.out wr aT.out).row m aa
   subst eW;have HC:=Of.out m aa;have mA:=rf.out m aa;have su:=VW.out m aa;have sv:=ec.out m aa;rw[mA] at HC;obtain⟨r,hr⟩:=Kh (L[m]);rw[hr] at y0 y1 y2 y3 y4 y5 y6 HC su sv;have e0:=su 0 (by omega);have e1:=su 1 (by omega);have e2:=su 2 (by omega);have e3:=su 3 (by omega);have e4:=su 4 (by omega);rw[sv] at y0;rw[show r.h0=((rdH r 0:Nat):Int) from e0] at y1;rw[show r.h1=((rdH r 1:Nat):Int) from e1] at y2;rw[show r.h2=((rdH r 2:Nat):Int) from e2] at y3;rw[show r.h3=((rdH r 3:Nat):Int) from e3] at y4;rw[show r.h4=((rdH r 4:Nat):Int) from e4] at y5;obtain⟨u,hu⟩:=Kh (rdH r);rw[hu] at y1 y2 y3 y4 y5 HC;obtain⟨fm,LJ⟩:=Kh (prC N L m);have hG:=hG;rw[LJ] at HC hG;have iO:(0:Int)<=(m:Int):=by omega
   have KP:(m:Int)<(L.length:Int):=by omega
   obtain⟨W5,iV,d5,mb,bJ⟩:=zq wr #[O U (N:Int),O U (u 0:Nat),O U (u 1:Nat),O U (u 2:Nat),O U (u 3:Nat),O U (u 4:Nat),O U r.f] 75;have pS:=(bJ.block b5 (zd hG.out)).trans hG.out;have c0:(wr.alloc (Ag #[O U (N:Int),O U (u 0:Nat),O U (u 1:Nat),O U (u 2:Nat),O U (u 3:Nat),O U (u 4:Nat),O U r.f] 75)).cell? ⟨b5,0,Z⟩=J (O U (N:Int)):=by rw[iV];exact za pS 0 rfl
   have c1:(wr.alloc (Ag #[O U (N:Int),O U (u 0:Nat),O U (u 1:Nat),O U (u 2:Nat),O U (u 3:Nat),O U (u 4:Nat),O U r.f] 75)).cell? ⟨b5,1,Z⟩=J (O U (fm 0:Nat)):=by rw[iV];exact za pS 1 rfl
   have c2:(wr.alloc (Ag #[O U (N:Int),O U (u 0:Nat),O U (u 1:Nat),O U (u 2:Nat),O U (u 3:Nat),O U (u 4:Nat),O U r.f] 75)).cell? ⟨b5,2,Z⟩=J (O U (fm 1:Nat)):=by rw[iV];exact za pS 2 rfl
   have c3:(wr.alloc (Ag #[O U (N:Int),O U (u 0:Nat),O U (u 1:Nat),O U (u 2:Nat),O U (u 3:Nat),O U (u 4:Nat),O U r.f] 75)).cell? ⟨b5,3,Z⟩=J (O U (fm 2:Nat)):=by rw[iV];exact za pS 3 rfl
   have c4:(wr.alloc (Ag #[O U (N:Int),O U (u 0:Nat),O U (u 1:Nat),O U (u 2:Nat),O U (u 3:Nat),O U (u 4:Nat),O U r.f] 75)).cell? ⟨b5,4,Z⟩=J (O U (fm 3:Nat)):=by rw[iV];exact za pS 4 rfl
   have c5:(wr.alloc (Ag #[O U (N:Int),O U (u 0:Nat),O U (u 1:Nat),O U (u 2:Nat),O U (u 3:Nat),O U (u 4:Nat),O U r.f] 75)).cell? ⟨b5,5,Z⟩=J (O U (fm 4:Nat)):=by rw[iV];exact za pS 5 rfl
   have OL:=zH (Lc aT.out bJ);have Il:=zH pS;have CL:=zH iV;have ed:=zH bJ;clear d5 mb bJ pS iV;have ED:=zH HC;clear e0 e1 e2 e3 e4 mA su sv hr hu LJ HC;go_wp2_with fail;rw[CL.out];refine(ED.out W5 OL.out).mono ?_;rintro e w6 ⟨rfl,iU⟩;have nu:=(iU.block b5 (zd Il.out)).trans Il.out;unfold gF at nu;obtain⟨fn,mw⟩:=Kh (prC N L (m+1));have pf:=zH mw;rw[mw];obtain⟨WF,cK,f1,f2,f3,f4⟩:=jI nu (O U (N:Int)) (O U (fn 0:Nat)) (O U (fn 1:Nat)) (O U (fn 2:Nat)) (O U (fn 3:Nat)) (O U (fn 4:Nat));have g0:=zb nu 0;have g1:=zb nu 1;have g2:=zb nu 2;have g3:=zb nu 3;have g4:=zb nu 4;have g5:=zb nu 5;obtain⟨k0,k1,k2,k3,k4,k5,_⟩:=Kg nu;have lr:Am wr.heap.size wr w6:=Lc ed.out iU;have fz:=zH cK;have dr:Ap (WF.heap[b5]?=J (Ag (gF N (prC N L (m+1))) 45 (0,0))):=by rw[pf.out];exact f1
   have fl:=zd hG.out;have Vn:Ap (Wrote (fun z=>z=b5) w4 WF):=hW.out.trans ⟨(f3 b5 (Lh _)).os.trans lr.os,(f3 b5 (Lh _)).tape.trans lr.tape,(f3 b5 (Lh _)).output.trans lr.output,by have:=lr.size;have:=(f3 b5 (Lh _)).size;omega,fun z hz bj=>(f2 z bj).trans (lr.block z hz)⟩ (fun _ _ h=>h);clear cK f1 f2 f3 f4 nu mw iU lr ED OL Il CL ed c0 c1 c2 c3 c4 c5 y0 y1 y2 y3 y4 y5 y6 aT;go_wp2_with fail;rw[fz.out];exact⟨⟨m+1,by omega,rfl,by go_num,dr,Vn⟩,by simp[Ao];omega⟩
 obtain rfl:m=L.length:=by omega
 have FG:¬(L.length:Int)<(L.length:Int):=by omega
 have sZ:=hG;have HD:=zH ((hW.out.block w.heap.size (by have:=iZ.out;omega) (by show ¬w.heap.size=b5;omega)).trans De.out);clear hG hW;obtain⟨fn,mw⟩:=Kh (prC N L L.length);have oM:=sZ;rw[mw] at oM;have pf:=zH mw;have c0:wr.cell? ⟨b5,0,Z⟩=J (O U (N:Int)):=za oM.out 0 rfl;have c1:wr.cell? ⟨b5,1,Z⟩=J (O U (fn 0:Nat)):=za oM.out 1 rfl;have c2:wr.cell? ⟨b5,2,Z⟩=J (O U (fn 1:Nat)):=za oM.out 2 rfl;have c3:wr.cell? ⟨b5,3,Z⟩=J (O U (fn 2:Nat)):=za oM.out 3 rfl;have c4:wr.cell? ⟨b5,4,Z⟩=J (O U (fn 3:Nat)):=za oM.out 4 rfl;have c5:wr.cell? ⟨b5,5,Z⟩=J (O U (fn 4:Nat)):=za oM.out 5 rfl;obtain⟨y0,y1,y2,y3,y4,y5,_⟩:=Kg HD.out;have g0:=zb HD.out 0;have g1:=zb HD.out 1;have g2:=zb HD.out 2;have g3:=zb HD.out 3;have g4:=zb HD.out 4;have g5:=zb HD.out 5;have lz:=zd HD.out;obtain⟨WF,cK,f1,f2,f3,f4⟩:=jI HD.out (O U (N:Int)) (O U (fn 0:Nat)) (O U (fn 1:Nat)) (O U (fn 2:Nat)) (O U (fn 3:Nat)) (O U (fn 4:Nat));have fz:=zH cK;have nG:=zH f1;have mP:=zH (aT.out.trans (f3 _ (Lh _)));clear cK f1 f2 f3 f4 mw sZ;go_wp2_with fail;rw[fz.out]
 (try simp only[Exit.inBlock,Exit.then])
 refine LP (xq (P:=Al) rfl _ _ w.heap.size 45 _ (0,0) _ rfl nG.out N2 rfl (by kernel_rfl) _ rfl) rfl ?_;exact⟨by rw[pf.out];rfl,mP.out⟩
end
section
theorem vY:∀ {a b c:List Int},zh a b=-1->zh b c=-1->zh a c=-1
 | [],[],_,h,_=>by cases h
 | [],_::_,[],_,h=>by cases h
 | [],_::_,_::_,_,_=>rfl
 | _::_,[],_,h,_=>by cases h
 | _::_,_::_,[],_,h=>by cases h
 | x::a,y::b,z::c,h1,h2=>by
  rw[zh] at h1 h2 ⊢
  split at h1
  . split at h2
    . rw[Lm (by omega)]
    . split at h2
      . cases h2
      . rw[Lm (by omega)]
  . split at h1
    . cases h1
    . split at h2
      . rw[Lm (by omega)]
      . split at h2
        . cases h2
        . rw[Lk (by omega),Lk (by omega)]
          exact vY h1 h2
theorem vZ{a:Ad}:∀ {q:Option Mv} {l:List Mv},xU a q l=0->l.Pairwise (fun m k=>zh m.r.l k.r.l=-1)/\∀u,q=J u->∀m∈l,zh u.r.l m.r.l=-1
 | _,[],_=>⟨List.Pairwise.nil,fun _ _ m hm=>by cases hm⟩
 | q,m::l,h=>by
  rw[xU] at h
  split at h
  . rename_i h1;exact absurd h h1
  . rename_i h1
    have h2:yZ a q m=0:=by simpa using h1
    obtain⟨g1,g2⟩:=vZ h;have g3:=g2 m rfl;refine⟨Rz.2 ⟨g3,g1⟩,?_⟩;rintro u rfl k hk
    have h4:uz (J u) m=As:=by
     unfold yZ at h2
     split at h2
     . rename_i h5;exact absurd h2 h5
     . split at h2
       . cases h2
       . split at h2
         . cases h2
         . rename_i h5;simpa using h5
    have h6:zh u.r.l m.r.l=-1:=by
     have h7:¬0<=zh u.r.l m.r.l:=by unfold uz at h4;simpa using h4
     rcases jd u.r.l m.r.l with h | h | h<;>omega
    rcases LF.1 hk with rfl | hk
    . exact h6
    . exact vY h6 (g3 k hk)
theorem jG{a:Ad}:∀ {l:List (List Mv)},zk a l=0->∀x∈l,x.Pairwise (fun m k=>m.r≠k.r)
 | [],_,x,hx=>by cases hx
 | y::l,h,x,hx=>by
  rw[zk] at h
  split at h
  . rename_i h1;exact absurd h h1
  . rename_i h1
    rcases LF.1 hx with rfl | hx
    . have h2:xg a x=0:=by simpa using h1
      unfold xg at h2
      split at h2
      . cases h2
      . unfold yW at h2
        rw[L8] at h2;exact(vZ h2).1.imp fun {m k} eT e=>by rw[e,yF] at eT;cases eT
    . exact jG h x hx
theorem at_order{a:Ad}(h:zk a a.sts=0)(s:Int):(a.at_ s).Pairwise (fun m k=>m.r≠k.r):=by
 unfold Ad.at_;rw[Lg]
 cases hc:a.sts[s.toNat]? with
 | none=>exact List.Pairwise.nil
 | some l=>exact jG h l (Pf hc)
theorem pair_one{l:List Mv}(h:l.Pairwise (fun m k=>m.r≠k.r)):∀ {m y:Mv},m∈l->y∈l->m.r=y.r->m=y:=by
 induction l with
 | nil=>intro m y hm;cases hm
 | cons x l ih=>
  obtain⟨h1,h2⟩:=Rz.1 h;intro m y hm hy e;rcases LF.1 hm with h3 | h3
  . rcases LF.1 hy with h4 | h4
    . rw[h3,h4]
    . subst h3;exact absurd e (h1 y h4)
  . rcases LF.1 hy with h4 | h4
    . subst h4;exact absurd e.symm (h1 m h3)
    . exact ih h2 h3 h4 e
def wl(a:Ad)(s:Int)(r:Rd):Option Int:=((a.at_ s).find? fun m=>decide (m.r=r)).map Mv.to
theorem next_of{a:Ad}(h:zk a a.sts=0){s:Int}{m:Mv}(hm:m∈a.at_ s):wl a s m.r=J m.to:=by
 unfold wl
 cases hf:(a.at_ s).find? fun x=>decide (x.r=m.r) with
 | none=>
  have:=List.find?_eq_none.1 hf m hm;simp at this
 | some y=>
  have h1:=Sb hf;have h2:=List.find?_some hf;have h3:y.r=m.r:=LA h2;rw[pair_one (at_order h s) hm h1 h3.symm];rfl
def yq(a:Ad):Int->List Rd->Option Int
 | s,[]=>J s
 | s,r::l=>match wl a s r with
  | none=>Z
  | some t=>yq a t l
theorem vT{a:Ad}(h:zk a a.sts=0):∀(k:Nat) (s:Int) (w:List Rd),w∈zn a k s->∃t,yq a s w=J t
 | 0,s,w,hw=>by
  have:w=[]:=by simpa[zn] using hw
  subst this;exact⟨s,rfl⟩
 | k+1,s,w,hw=>by
  rw[zn] at hw;obtain⟨m,hm,hw⟩:=Nm.1 hw;obtain⟨w',dw,rfl⟩:=LZ.1 hw;obtain⟨t,ht⟩:=vT h k m.to w' dw;exact⟨t,by rw[yq,next_of h hm];exact ht⟩
end
section
open Go.RowKit Go.Shelf
attribute [local go_sem] Oper.semAt_some
theorem qS{a:Ad}{s t:Int}{r:Rd}{l:List Rd}(h:yq a s (r::l)=J t):∃u,wl a s r=J u/\yq a u l=J t:=by
 rw[yq] at h
 cases hn:wl a s r with
 | none=>rw[hn] at h;cases h
 | some u=>rw[hn] at h;exact⟨u,rfl,h⟩
end
section
theorem next_mv{a:Ad}{s u:Int}{r:Rd}(h:wl a s r=J u):∃m,m∈a.at_ s/\m∈a.mvs/\m.r=r/\m.to=u:=by
 unfold wl at h
 cases hf:(a.at_ s).find? fun m=>decide (m.r=r) with
 | none=>rw[hf] at h;cases h
 | some m=>
  rw[hf] at h;have hm:=Sb hf;have h2:=List.find?_some hf;have h3:m.r=r:=LA h2;refine⟨m,hm,?_,h3,NA h⟩;unfold Ad.at_ at hm;rw[Lg] at hm
  cases hc:a.sts[s.toNat]? with
  | none=>rw[hc] at hm;cases hm
  | some l=>rw[hc] at hm;exact Nu.2 ⟨l,Pf hc,hm⟩
theorem keep_of{a:Ad}(hg:yC a=Ar){m k:Mv}(hm:m∈a.mvs)(hk:k∈a.at_ m.to):xY m k=Ar:=by
 unfold yC at hg;exact Lz.1 (Lz.1 hg m hm) k hk
theorem Y4{a:Ad}{N:Nat}(hz:zk a a.sts=0)(hg:yC a=Ar)(hn:a.n=(N:Int)):∀(L:List Rd) (i t b:Int),yq a i L=J t->(b=0\/∃m,m∈a.mvs/\m.to=i/\m.r.f=b) ->
  ∀x∈qo b L,zJ x.2=0/\x.2.n=(N:Int)/\∃s f:Nat,s<32/\f<32/\x.1=(s:Int)/\x.2.f=(f:Int)/\s &&& f=s
 | [],_,_,_,_,_,x,hx=>by cases hx
 | r::L,i,t,b,h,hb,x,hx=>by
  obtain⟨u,hu,ht⟩:=qS h;obtain⟨m,hm,dU,Bs,Fw⟩:=next_mv hu;obtain⟨z1,z2,z3,z4⟩:=yS hz m dU;rw[qo] at hx;rcases LF.1 hx with rfl | hx
  . refine⟨by rw[<-Bs];exact z1,by rw[<-Bs];exact z2.trans hn,?_⟩
    obtain⟨f,ef,lf⟩:=yX z1;rw[Bs] at ef;rcases hb with rfl | ⟨p,hp,dF,SK⟩
    . exact⟨0,f,by omega,lf,rfl,ef,Nat.zero_and f⟩
    . obtain⟨g,eg,lg⟩:=yX (yS hz p hp).1
      refine⟨g,f,lg,lf,by rw[<-SK];exact eg,ef,?_⟩;have hk:=keep_of hg hp (by rw[dF];exact hm);unfold xY at hk;rw[eg,Bs,ef,Lu,Lu] at hk;simpa using hk
  . exact Y4 hz hg hn L u t r.f ht (.inr ⟨m,dU,Fw,by rw[Bs]⟩) x hx
theorem uO{a:Ad}:∀(j:Nat) (L:List Rd) (i t:Int),yq a i L=J t->∃i',yq a i' (L.drop j)=J t
 | 0,_,i,_,h=>⟨i,h⟩
 | _+1,[],i,_,h=>⟨i,h⟩
 | j+1,r::L,i,t,h=>by
  obtain⟨u,_,ht⟩:=qS h;exact uO j L u t ht
theorem uN{a:Ad}:∀(j:Nat) (L:List Rd) (i t:Int),yq a i L=J t->∃t',yq a i (L.take j)=J t'
 | 0,_,i,_,_=>⟨i,by rw[LQ];rfl⟩
 | _+1,[],i,_,_=>⟨i,rfl⟩
 | j+1,r::L,i,t,h=>by
  obtain⟨u,hu,ht⟩:=qS h;obtain⟨t',h'⟩:=uN j L u t ht;exact⟨t',by rw[List.take_succ_cons,yq,hu];exact h'⟩
theorem Jl{a:Ad}{N:Nat}(hz:zk a a.sts=0)(hg:yC a=Ar)(hn:a.n=(N:Int))(h1:1<=N)(h5:N<=5){L:List Rd}{t:Int}(h:yq a 0 L=J t)(hl:L.length<=100)(j k:Nat):WOk N ((L.drop j).take k):=by
 obtain⟨i,hi⟩:=uO j L 0 t h;obtain⟨t',ht⟩:=uN k _ i t hi;refine⟨h1,h5,?_,Y4 hz hg hn _ i t' 0 ht (.inl rfl)⟩;rw[Ng,Ra];omega
theorem ct_word{s:Sy}{K N:Nat}(h:Sees s K N)(hF:Fine s K N)(hz:zk s.p.a s.p.a.sts=0){x:Exn}(hx:x∈s.xs):x.word.length<=100/\∃t,yq s.p.a 0 x.word=J t:=by
 obtain⟨c,_,_,hw⟩:=h.cs x hx;refine⟨?_,vT hz K 0 _ hw⟩;have:=(hF.word x hx).1;have:=hF.k6;omega
end
section
open Go.RowKit
theorem Zb{α:Type}{l:List α}{i:Nat}(h:i<l.length){d:α}:l.getD i d=l[i]:=by
 rw[Lg,Lj h];rfl
end
section
open Go.RowKit
attribute [local go_sem] Oper.semAt_some
def TwoXs(w0:Ba)(c1 c2:Array Aq)(s t:Aq)(wx:Ba):Prop:=
 ∃g h:Nat,s=Aj (J ⟨g,0,Z⟩)/\t=Aj (J ⟨h,0,Z⟩)/\wx.heap[g]?=J (Ag c1 42 (0,0))/\wx.heap[h]?=J (Ag c2 42 (0,0))/\Am w0.heap.size w0 wx
theorem Zt(W:Ba)(o1 o2:Obj){m:Nat}(hm:W.heap.size=m):((W.alloc o1).alloc o2).heap[m]?=J o1/\((W.alloc o1).alloc o2).heap[m+1]?=J o2:=by
 subst hm;exact⟨zC (ze W o1) o2,by have:=ze (W.alloc o1) o2;rwa[LS] at this⟩
theorem QO{a L:Nat}:Int.tmod (a:Int) (L:Int)=((a % L:Nat):Int):=by
 rw[Int.tmod_eq_emod_of_nonneg (by omega)];omega
end
section
open Go.RowKit
def upd(l:Nat->Bool)(i:Nat):Nat->Bool:=fun j=>j==i||l j
theorem jF(l:Nat->Bool)(i:Nat):upd l i i=Ar:=by simp[upd]
theorem qR{l:Nat->Bool}{i j:Nat}(h:j≠i):upd l i j=l j:=by simp[upd,h]
def zZ(ops:Array Oper)(j:Nat):Option Tmp:=(ops[j]?).bind (·.dst)
def zY(ops:Array Oper)(l:Nat->Bool)(val:Nat->Aq)(L:List Nat)(a:Act):Act:=L.foldl (fun a j=>if l j then a.put (zZ ops j) (val j) else a) a
theorem Act.put_put_comm(a:Act){x y:Option Tmp}(v u:Aq)(h:∀d,x=J d->y≠J d):(a.put x v).put y u=(a.put y u).put x v:=Act.put_comm a v u h
theorem jw{ops:Array Oper}{l:Nat->Bool}{val:Nat->Aq}{x:Option Tmp}(v:Aq) :
  ∀(L:List Nat) (a:Act),(∀j∈L,∀d,x=J d->zZ ops j≠J d)->zY ops l val L (a.put x v)=(zY ops l val L a).put x v
 | [],_,_=>rfl
 | j::L,a,h=>by
  have hj:∀d,x=J d->zZ ops j≠J d:=h j (by simp);have hL:∀k∈L,∀d,x=J d->zZ ops k≠J d:=fun k hk=>h k (by simp[hk])
  show zY ops l val L (if l j then (a.put x v).put (zZ ops j) (val j) else a.put x v)=(zY ops l val L (if l j then a.put (zZ ops j) (val j) else a)).put x v
  by_cases hl:l j=Ar
  . rw[Lm hl,Lm hl,Act.put_put_comm a v (val j) hj]
    exact jw v L _ hL
  . rw[Lk hl,Lk hl]
    exact jw v L _ hL
theorem qd{ops:Array Oper}{l l':Nat->Bool}{val val':Nat->Aq} :
  ∀(L:List Nat) (a:Act),(∀j∈L,l' j=l j/\(l j=Ar->val' j=val j))->zY ops l' val' L a=zY ops l val L a
 | [],_,_=>rfl
 | j::L,a,h=>by
  have hj:=h j (by simp);show zY ops l' val' L (if l' j then a.put (zZ ops j) (val' j) else a)=zY ops l val L (if l j then a.put (zZ ops j) (val j) else a);rw[hj.1]
  by_cases hl:l j=Ar
  . rw[Lm hl,Lm hl,hj.2 hl]
    exact qd L _ (fun k hk=>h k (by simp[hk]))
  . rw[Lk hl,Lk hl]
    exact qd L _ (fun k hk=>h k (by simp[hk]))
theorem kF{ops:Array Oper}{l:Nat->Bool}{val val':Nat->Aq}{i:Nat} :
  ∀(L:List Nat) (a:Act),L.Nodup->i∈L->l i=As->(∀j∈L,j≠i->∀d,zZ ops i=J d->zZ ops j≠J d)->(∀j,l j=Ar->val' j=val j) ->
   zY ops (upd l i) val' L a=(zY ops l val L a).put (zZ ops i) (val' i)
 | [],_,_,h,_,_,_=>by cases h
 | j::L,a,hn,hi,cc,hd,hv=>by
  obtain⟨hj,pz⟩:=Pd.1 hn
  by_cases e:j=i
  . subst e
    show zY ops (upd l j) val' L (if upd l j j then a.put (zZ ops j) (val' j) else a)=(zY ops l val L (if l j then a.put (zZ ops j) (val j) else a)).put (zZ ops j) (val' j);rw[jF,Lm rfl,cc];rw[qd (l:=l) (l':=upd l j) (val:=val) (val':=val') L (a.put (zZ ops j) (val' j)) (fun k hk=>⟨qR (by rintro rfl;exact hj hk),hv k⟩)];rw[Lk (by simp)];exact jw _ L a (fun k hk=>hd k (by simp[hk]) (fun e=>hj (e▸hk)))
  · have cN : i ∈ L := by
     rcases LF.1 hi with h | h
     . exact absurd h.symm e
     . exact h
    show zY ops (upd l i) val' L (if upd l i j then a.put (zZ ops j) (val' j) else a)=(zY ops l val L (if l j then a.put (zZ ops j) (val j) else a)).put (zZ ops i) (val' i);rw[qR e]
    by_cases hl:l j=Ar
    . rw[Lm hl,Lm hl,hv j hl]
      exact kF L _ pz cN cc (fun k hk=>hd k (by simp[hk])) hv
    . rw[Lk hl,Lk hl]
      exact kF L _ pz cN cc (fun k hk=>hd k (by simp[hk])) hv
theorem put_size(a:Act)(x:Option Tmp)(v:Aq):(a.put x v).tmps.size=a.tmps.size:=by cases x<;>simp[Act.put]
theorem XJ(a:Act){x:Option Tmp}(v:Aq){k:Nat}(h:x≠J k):(a.put x v).tmps[k]?=a.tmps[k]?:=by
 cases x with
 | none=>rfl
 | some d=>exact LR (fun e=>h (by rw[e]))
theorem put_get(a:Act)(v:Aq){k:Nat}(h:k<a.tmps.size):(a.put (J k) v).tmps[k]?=J v:=by simp[Act.put,h]
theorem jx{ops:Array Oper}{l:Nat->Bool}{val:Nat->Aq}{k:Nat}:∀(L:List Nat) (a:Act),(∀j∈L,zZ ops j≠J k)->(zY ops l val L a).tmps[k]?=a.tmps[k]?
 | [],_,_=>rfl
 | j::L,a,h=>by
  show(zY ops l val L (if l j then a.put (zZ ops j) (val j) else a)).tmps[k]?=a.tmps[k]?;rw[jx L _ (fun i hi=>h i (by simp[hi]))]
  split
  . exact XJ _ _ (h j (by simp))
  . rfl
theorem wN{ops:Array Oper}{l:Nat->Bool}{val:Nat->Aq}{k i:Nat}(hl:l i=Ar)(hd:zZ ops i=J k) :
  ∀(L:List Nat) (a:Act),L.Nodup->i∈L->(∀j∈L,j≠i->zZ ops j≠J k)->k<a.tmps.size->(zY ops l val L a).tmps[k]?=J (val i)
 | [],_,_,h,_,_=>by cases h
 | j::L,a,hn,hi,h,hk=>by
  obtain⟨hj,pz⟩:=Pd.1 hn;show(zY ops l val L (if l j then a.put (zZ ops j) (val j) else a)).tmps[k]?=J (val i)
  by_cases e:j=i
  . subst e
    rw[hl,Lm rfl,jx L _ (fun q hq=>h q (by simp[hq]) (fun e=>hj (e▸hq))),hd];exact put_get a _ hk
  · have cN : i ∈ L := by
     rcases LF.1 hi with h' | h'
     . exact absurd h'.symm e
     . exact h'
    refine wN hl hd L _ pz cN (fun q hq=>h q (by simp[hq])) ?_
    split
    . rw[put_size];exact hk
    . exact hk
structure Agr(ops:Array Oper)(a0:Act)(l:Nat->Bool)(val:Nat->Aq)(a:Act):Prop where
 new:∀(i k:Nat),zZ ops i=J k->l i=Ar->k<a0.tmps.size->a.eval (.tmp k)=val i
 old:∀(k:Nat),(List.range ops.size).all (fun j=>zZ ops j != J k)=Ar->a.eval (.tmp k)=a0.eval (.tmp k)
theorem YW(a:Act)(k:Nat):a.eval (.tmp k)=(a.tmps[k]?).getD undef:=by simp[Act.eval]
theorem Agr.newD{ops:Array Oper}{a0:Act}{l:Nat->Bool}{val:Nat->Aq}{a:Act}(h:Agr ops a0 l val a)(i k:Nat)(hd:zZ ops i=J k)(hl:l i=Ar)(hk:k<a0.tmps.size):(a.tmps[k]?).getD undef=val i:=(YW a k).symm.trans (h.new i k hd hl hk)
theorem Agr.oldD{ops:Array Oper}{a0:Act}{l:Nat->Bool}{val:Nat->Aq}{a:Act}(h:Agr ops a0 l val a)(k:Nat)(hd:(List.range ops.size).all (fun j=>zZ ops j != J k)=Ar):(a.tmps[k]?).getD undef=a0.eval (.tmp k):=(YW a k).symm.trans (h.old k hd)
section
variable {P:Program} {G:Type}
def StepAt(P:Program)(ops:Array Oper)(Q:Exit->Act->Ba->Prop)(a0:Act)(val:G->Nat->Aq)(Af:(Nat->Bool)->G->Ba->Prop)(i:Nat)(o:Oper):Prop:=
 ∀(l:Nat->Bool) (g:G) (w:Ba) (a:Act),Af l g w->l i=As->(∀e∈o.after.toList,Region.binds .any e=Ar->l e.on=Ar)->Agr ops a0 l (val g) a ->
  if Region.wanted o (yielded ops a.tmps) then o.wp P a w (fun a' w'=>∃g' v,a'=a.put o.dst v/\val g' i=v/\(∀j,l j=Ar->val g' j=val g j)/\Af (upd l i) g' w') Q
  else ∃g',val g' i=undef/\(∀j,l j=Ar->val g' j=val g j)/\Af (upd l i) g' w
def StepsFrom(P:Program)(ops:Array Oper)(Q:Exit->Act->Ba->Prop)(a0:Act)(val:G->Nat->Aq)(Af:(Nat->Bool)->G->Ba->Prop):Nat->List Oper->Prop
 | _,[]=>True
 | i,o::rest=>StepAt P ops Q a0 val Af i o/\StepsFrom P ops Q a0 val Af (i+1) rest
theorem StepsFrom.at_{ops:Array Oper}{Q:Exit->Act->Ba->Prop}{a0:Act}{val:G->Nat->Aq}{Af:(Nat->Bool)->G->Ba->Prop} :
  ∀(n:Nat) (os:List Oper),StepsFrom P ops Q a0 val Af n os->∀i o,os[i]?=J o->StepAt P ops Q a0 val Af (n+i) o
 | _,[],_,i,o,h=>by simp at h
 | n,o'::os,h,0,o,ho=>by
  simp at ho;subst ho;exact h.1
 | n,o'::os,h,i+1,o,ho=>by
  have:=StepsFrom.at_ (n+1) os h.2 i o (by simpa using ho);rwa[show n+(i+1)=n+1+i from by omega]
def dagB(ops:Array Oper):Bool:=
 (List.range ops.size).all fun i=>match ops[i]? with
  | some o=>o.after.toList.all (fun e=>!Region.binds .any e||decide (e.on<i))&&(List.range ops.size).all (fun j=>j==i||o.dst.isNone||zZ ops j != o.dst)
  | none=>Ar
theorem YX{ops:Array Oper}(h:dagB ops=Ar){i:Nat}{o:Oper}(ho:ops[i]?=J o):∀e∈o.after.toList,Region.binds .any e=Ar->e.on<i:=by
 intro e he hb;have hi:i<ops.size:=(Lf.1 ho).1;have:=Lz.1 h i (by simpa using hi);simp only[ho,Bool.and_eq_true] at this;have:=Lz.1 this.1 e he;simpa[hb] using this
theorem Q3{ops:Array Oper}(h:dagB ops=Ar){i j d:Nat}(pD:j≠i)(hj:j<ops.size)(hd:zZ ops i=J d):zZ ops j≠J d:=by
 unfold zZ at hd
 cases ho:ops[i]? with
 | none=>simp[ho] at hd
 | some o=>
  simp[ho] at hd;have hi:i<ops.size:=(Lf.1 ho).1;have h1:=Lz.1 h i (by simpa using hi);simp only[ho,Bool.and_eq_true] at h1;have h2:=Lz.1 h1.2 j (by simpa using hj);simpa[pD,hd] using h2
def wj(l:Nat->Bool)(n:Nat):Nat:=((List.range n).filter fun j=>!l j).length
theorem jh{α:Type}{p q:α->Bool}(h:∀x,q x=Ar->p x=Ar):∀(L:List α) (x:α),x∈L->p x=Ar->q x=As->(L.filter q).length<(L.filter p).length
 | [],_,hx,_,_=>by cases hx
 | y::L,x,hx,hp,hq=>by
  have dJ:∀L:List α,(L.filter q).length<=(L.filter p).length:=by
   intro L
   induction L with
   | nil=>simp
   | cons z L ih=>
    rw[Rb,Rb]
    by_cases hz:q z=Ar
    . rw[Lm hz,Lm (h z hz)];simpa using ih
    . rw[Lk hz]
      split
      . simp only[List.length_cons];omega
      . exact ih
  rw[Rb,Rb];rcases LF.1 hx with rfl | hx
  . rw[hp,hq]
    have:=dJ L;simp;omega
  . have ih:=jh h L x hx hp hq
    by_cases hz:q y=Ar
    . rw[Lm hz,Lm (h y hz)];simpa using ih
    . rw[Lk hz]
      split
      . simp only[List.length_cons];omega
      . exact ih
theorem JN{l:Nat->Bool}{n i:Nat}(hi:i<n)(hl:l i=As):wj (upd l i) n<wj l n:=by
 unfold wj;refine jh (fun x hx=>?_) _ i (by simpa using hi) (by simp[hl]) (by simp[upd]);simp[upd] at hx ⊢;exact hx.2
theorem XQ{l:Nat->Bool}{n:Nat}(h:wj l n=0){i:Nat}(hi:i<n):l i=Ar:=by
 unfold wj at h;have:=List.length_eq_zero_iff.1 h;rw[List.filter_eq_nil_iff] at this;simpa using this i (by simpa using hi)
theorem Jj{ops:Array Oper}{Q:Exit->Act->Ba->Prop}{a0:Act}{val:G->Nat->Aq}{Af:(Nat->Bool)->G->Ba->Prop}(hd:dagB ops=Ar)
  (hs:StepsFrom P ops Q a0 val Af 0 ops.toList)
  (rW:∀(l:Nat->Bool) (g:G) (w:Ba),(∀i,i<ops.size->l i=Ar)->Af l g w->Q .normal (zY ops (fun _=>Ar) (val g) (List.range ops.size) a0) w) :
  ∀(fuel:Nat) (ac:Array Bool) (l:Nat->Bool) (g:G) (w:Ba),wj l ops.size<=fuel->ac.size=ops.size->(∀i,i<ops.size->ac.getD i Ar=l i)->Af l g w ->
   wpAny P .any ops Q fuel ac (zY ops l (val g) (List.range ops.size) a0) w:=by
 have MQ:∀(ac:Array Bool) (l:Nat->Bool) (g:G) (w:Ba),ac.size=ops.size->(∀i,i<ops.size->ac.getD i Ar=l i)->Af l g w->(∀i,i<ops.size->l i=Ar) ->
   Region.ready .any ops ac=[]/\Q .normal (zY ops l (val g) (List.range ops.size) a0) w:=by
  intro ac l g w bk hl hJ ai;refine⟨?_,?_⟩
  . refine RU.2 fun i hi=>?_
    obtain⟨h0,o,ho,_⟩:=PG.1 hi;have aa:i<ops.size:=(Lf.1 ho).1;rw[hl i aa,ai i aa] at h0
    cases h0
  . have:=rW l g w ai hJ
    rwa[qd (l:=l) (val:=val g) _ _ (fun j hj=>⟨(ai j (by simpa using hj)).symm,fun _=>rfl⟩)] at this
 intro fuel
 induction fuel with
 | zero=>
  intro ac l g w hf bk hl hJ;exact MQ ac l g w bk hl hJ (fun i hi=>XQ (by omega) hi)
 | succ fuel ih=>
  intro ac l g w hf bk hl hJ;refine⟨fun hr=>?_,fun i hi=>?_⟩
  . refine(MQ ac l g w bk hl hJ fun i hi=>?_).2
    -- the least that is not in l would be ready
    refine Nat.strongRecOn (motive:=fun i=>i<ops.size->l i=Ar) i (fun i IH hi=>?_) hi
    cases cc:l i with
    | true=>rfl
    | false=>
     have:i∈Region.ready .any ops ac:=by
      refine PG.2 ⟨by rw[hl i hi,cc],ops[i],by simp[hi],fun e he hb=>?_⟩;have aa:=YX hd (o:=ops[i]) (i:=i) (by simp[hi]) e (by simpa using he) hb;have h1:=IH e.on aa (by omega);rw[<-hl e.on (by omega)] at h1;have h2:e.on<ac.size:=by omega
      simpa[Array.getD,h2] using h1
     rw[hr] at this
     cases this
  . obtain⟨h0,o,ho,ai⟩:=PG.1 hi
    have aa:i<ops.size:=(Lf.1 ho).1;have cc:l i=As:=by rw[<-hl i aa];exact h0
    have dx:=StepsFrom.at_ 0 ops.toList hs i o (by simpa using ho);rw[LH] at dx
    have aj:Agr ops a0 l (val g) (zY ops l (val g) (List.range ops.size) a0):=by
     refine⟨fun j k hj S6 hk=>?_,fun k hk=>?_⟩
     · have FK : j < ops.size := by
        unfold zZ at hj;rcases Nat.lt_or_ge j ops.size with h | h
        . exact h
        . simp[Array.getElem?_eq_none h] at hj
       have:=wN (val:=val g) S6 hj (List.range ops.size) a0 List.nodup_range (by simpa using FK) (fun q hq SH=>Q3 hd SH (by simpa using hq) hj) hk;simp[Act.eval,Array.getD_eq_getD_getElem?,this]
     . have:=jx (ops:=ops) (l:=l) (val:=val g) (k:=k) (List.range ops.size) a0 (fun j hj=>by have:=Lz.1 hk j hj;simpa using this)
       simp only[Act.eval,Array.getD_eq_getD_getElem?,this]
    have nU:=dx l g w _ hJ cc (fun e he hb=>by
     have h1:=ai e (by simpa using he) hb;have fJ:=YX hd ho e he hb;rw[<-hl e.on (by omega)];have h2:e.on<ac.size:=by omega
     simpa[Array.getD,h2] using h1) aj
    have FZ:zZ ops i=o.dst:=by simp[zZ,ho]
    have go:∀(g':G) (w':Ba) (v:Aq),val g' i=v->(∀j,l j=Ar->val g' j=val g j)->Af (upd l i) g' w' ->
      wpAny P .any ops Q fuel (ac.setIfInBounds i Ar) ((zY ops l (val g) (List.range ops.size) a0).put o.dst v) w':=by
     intro g' w' v hv eP Cr
     have e:=kF (ops:=ops) (l:=l) (val:=val g) (val':=val g') (i:=i) (List.range ops.size) a0 List.nodup_range (by simpa using aa) cc
      (fun j hj fY d TE=>Q3 hd fY (by simpa using hj) TE) eP
     rw[hv,FZ] at e;rw[<-e];refine ih (ac.setIfInBounds i Ar) (upd l i) g' w' ?_ (by simpa using bk) (fun j hj=>?_) Cr
     . have:=JN aa cc;omega
     . by_cases fY:j=i
       . subst fY
         rw[jF];have:j<ac.size:=by omega
         simp[Array.getD,this]
       . rw[qR fY,<-hl j hj]
         exact getD_set_ne Ar (fun e=>fY e.symm)
    unfold wpOp;simp only[ho]
    split
    . rename_i hw
      rw[Lm hw] at nU;refine .inl (RI (fun a' w' h=>?_) nU);obtain⟨g',v,rfl,hv,eP,Cr⟩:=h;exact go g' w' v hv eP Cr
    . rename_i hw
      rw[Lk hw] at nU;obtain⟨g',hv,eP,Cr⟩:=nU;exact go g' w undef hv eP Cr
theorem kT{ops:Array Oper}{Q:Exit->Act->Ba->Prop}{a0:Act}{w0:Ba}{id:Nat}(hm:P.follows .mixedOrders=Ar)(val:G->Nat->Aq)(Af:(Nat->Bool)->G->Ba->Prop)
  (hd:dagB ops=Ar) (g0:G) (h0:Af (fun _=>As) g0 w0.drew) (hs:StepsFrom P ops Q a0 val Af 0 ops.toList)
  (rW:∀(l:Nat->Bool) (g:G) (w:Ba),(∀i,i<ops.size->l i=Ar)->Af l g w->Q .normal (zY ops (fun _=>Ar) (val g) (List.range ops.size) a0) w) :
  (Code.region id ops Ar).wp P Q a0 w0:=by
 refine wp_region_any hm ?_
 have:=Jj hd hs rW ops.size (Array.replicate ops.size As) (fun _=>As) g0 w0.drew (by unfold wj;exact LE (NW _ _) (by simp)) (by simp)
  (fun i hi=>by simp[Array.getD,hi]) h0
 have e:zY ops (fun _=>As) (val g0) (List.range ops.size) a0=a0:=by
  generalize List.range ops.size=L
  induction L with
  | nil=>rfl
  | cons j L ih=>exact ih
 rw[e] at this;exact this
end
def gP:List (Option Tmp)->(Nat->Aq)->Nat->Act->Act
 | [],_,_,a=>a
 | d::D,v,i,a=>gP D v (i+1) (a.put d (v i))
theorem gO(v:Nat->Aq)(i:Nat)(a:Act):gP [] v i a=a:=rfl
theorem jp(d:Option Tmp)(D:List (Option Tmp))(v:Nat->Aq)(i:Nat)(a:Act):gP (d::D) v i a=gP D v (i+1) (a.put d (v i)):=rfl
theorem uj(ops:Array Oper)(val:Nat->Aq):∀(n i:Nat) (a:Act),i+n=ops.size->zY ops (fun _=>Ar) val (List.range' i n) a=gP ((ops.toList.drop i).map (·.dst)) val i a
 | 0,i,a,h=>by
  have:ops.toList.drop i=[]:=List.drop_eq_nil_of_le (by simp;omega);rw[this];rfl
 | n+1,i,a,h=>by
  have hi:i<ops.toList.length:=by simp;omega
  rw[Lx hi,L9,jp,List.range'_succ];have e:zZ ops i=ops.toList[i].dst:=by simp[zZ,show i<ops.size by omega]
  rw[<-e];exact uj ops val n (i+1) _ (by omega)
theorem jW{ops:Array Oper}{val:Nat->Aq}{D:List (Option Tmp)}(hD:ops.toList.map (·.dst)=D)(a:Act):zY ops (fun _=>Ar) val (List.range ops.size) a=gP D val 0 a:=by
 rw[List.range_eq_range',uj ops val ops.size 0 a (by omega),L8,hD]
end
section
theorem Yw(N:Nat)(L:List Rd)(n:Nat):∀m,m<=n->prC N (L.take n) m=prC N L m
 | 0,_=>rfl
 | m+1,h=>by
  rw[prC,prC,Yw N L n m (by omega)]
  have:(L.take n).getD m default=L.getD m default:=by
   rw[Lg,Lg,Pc,Lm (by omega)]
  rw[this]
def ptW(x:Exn)(j k:Nat):List Rd:=(x.word.drop j).take (k-j)
def ptF(N:Nat)(x:Exn)(j k:Nat):Nat->Nat:=prC N (ptW x j k) (ptW x j k).length
theorem QS{x:Exn}{j k K:Nat}(h:x.word.length=K)(hk:k<=K):(ptW x j k).length=k-j:=by
 unfold ptW;rw[Ng,Ra];omega
theorem rm_parts{p:Pb}{K N:Nat}(hf:wZ p)(h0:zD p=0)(hF:Fine (zA p) K N)(hS:Sees (zA p) K N)(hp:(zA p).p=p){x:Exn}(hx:x∈(zA p).xs)(j k:Nat):WOk N (ptW x j k):=by
 obtain⟨dF,iM,od,-,-⟩:=zM h0;obtain⟨hz,-,hg,-,-⟩:=yD hf.1.2 iM;obtain⟨hl,t,ht⟩:=ct_word hS hF (by rw[hp];exact hz) hx;rw[hp] at ht;have h2:=hF.pn;rw[hp] at h2;exact Jl hz hg (by omega) hF.n1 hF.n5 ht hl j (k-j)
theorem rm_check{n:Int}{vs:List Vw}(h:Wf n vs)(hl:vs.length<=8192):yl n vs=0:=by
 unfold yl;rw[Lk (by have:=h.1;have:=h.2.1;omega),Lk (by omega)];exact xK.2 h.2.2
theorem rm_past{n:Int}{vs:List Vw}(hw:Wf n vs)(hl:vs.length<=8192){i:Int}(h0:0<=i)(h1:i<vs.length):gU n vs i=(zt (yE vs [i.toNat]),0):=by
 obtain⟨j,rfl⟩:=Lq h0;rw[Lu];exact gT (Jd (rm_check hw hl) (by simp[inB];omega))
theorem rm_gok{s:Sy}{K N:Nat}(hF:Fine s K N){x:Exn}(hx:x∈s.xs)(j k:Nat):∀q,q<5->ptF N x j k q<32:=by
 have h:=(hF.word x hx).2;refine(ZQ hF.n5 (fun r hr=>h r ?_) _ (Lh _)).lt hF.n5;unfold ptW at hr;exact List.mem_of_mem_drop (Rp hr)
theorem rm_same{s:Sy}{K N:Nat}(hF:Fine s K N)(hS:Sees s K N)(hw:Wf s.n s.vs){x y:Exn}(hx:x∈s.xs)(hy:y∈s.xs){j k q:Nat}(BG:j<=k)(hk:k<=K)(hq:q<N)(e:xw x k q=xw y k q) :
  ptF N x j k q=ptF N y j k q/\∀r,r<N->(ptF N x j k q).testBit r=Ar->xw x j r=xw y j r/\xw x j r∈zt (yE s.vs [(xw x k q).toNat]):=by
 obtain⟨n,rfl⟩:∃n,k=j+n:=⟨k-j,by omega⟩;have SY:=(hF.word x hx).1;have hly:=(hF.word y hy).1;obtain⟨a1,a2⟩:=Ym hF hS hw hx hy n q hk hq e
 have ex:∀z,z∈s.xs->ptF N z j (j+n) q=ko z.word j n q:=fun z hz=>by
  have hl:=(hF.word z hz).1;unfold ptF;rw[QS hl hk];unfold ptW;rw[Nat.add_sub_cancel_left,Yw N _ n n (Lh _)];exact gR hF.n5 (hF.word z hz).2 n q (by omega) hq
 rw[ex x hx,ex y hy];refine⟨a1,fun r hr hb=>?_⟩;obtain⟨b1,b2⟩:=a2 r hr hb;refine⟨b1,?_⟩;obtain⟨l1,p1⟩:=hF.row hx (by omega:j<=K)
 have h0:0<=xw x j r/\xw x j r<s.vs.length:=by
  unfold xw;rw[Lg,Lj (by omega)];exact p1 _ (Le _)
 obtain⟨m,hm⟩:=Lq h0.1;rw[hm] at b2 h0 ⊢;refine qJ.2 (kN.2 ⟨by omega,_,Nq.2 rfl,?_⟩);rw[Lu] at b2;exact b2
theorem rm_bit{h j:Nat}(hh:h<32)(hj:j<5):(bits BinOp.and U ((h:Int) / 2^j) 1==1)=h.testBit j:=by
 match j,hj with
 | 0,_=>exact LA (qH (p:=fun h=>decide ((bits BinOp.and U ((h:Int) / 2^0) 1==1)=h.testBit 0)) (by decide +kernel) hh)
 | 1,_=>exact LA (qH (p:=fun h=>decide ((bits BinOp.and U ((h:Int) / 2^1) 1==1)=h.testBit 1)) (by decide +kernel) hh)
 | 2,_=>exact LA (qH (p:=fun h=>decide ((bits BinOp.and U ((h:Int) / 2^2) 1==1)=h.testBit 2)) (by decide +kernel) hh)
 | 3,_=>exact LA (qH (p:=fun h=>decide ((bits BinOp.and U ((h:Int) / 2^3) 1==1)=h.testBit 3)) (by decide +kernel) hh)
 | 4,_=>exact LA (qH (p:=fun h=>decide ((bits BinOp.and U ((h:Int) / 2^4) 1==1)=h.testBit 4)) (by decide +kernel) hh)
end
section
open Go.RowKit
theorem RAt.part{w:Ba}{B b off:Nat}{rs:List Rd}(h:RAt w B (J ⟨b,off,Z⟩) rs)(j n:Nat):RAt w B (J ⟨b,off+j*7,Z⟩) ((rs.drop j).take n):=fun h0=>by
 have hl:0<min n (rs.length-j):=by simpa using h0
 obtain⟨b',o',e,hb,hc⟩:=h (by omega)
 cases e
 refine⟨b,off+j*7,rfl,hb,fun i hi k u hu=>?_⟩;have iQ:i<min n (rs.length-j):=by simpa using hi
 have pD:j+i<rs.length:=by omega
 have e:((rs.drop j).take n)[i]=rs[j+i]:=by simp
 rw[e] at hu;have:=hc (j+i) pD k u hu;rwa[show off+(j+i)*7+k=off+j*7+i*7+k by omega] at this
end
section
open Go.RowKit Go.Shelf
attribute [local go_sem] Oper.semAt_some
def cutA(A:Bb)(c j:Nat):Bb:=if c=j then A else A.map fun a=>a.add (j*7)
theorem RAt.ptW{w:Ba}{B:Nat}{A:Bb}{x:Exn}(h:RAt w B A x.word){j k c:Nat}(hk:k<=x.word.length)(hc:x.word.length<=c):RAt w B (cutA A c j) (ptW x j k):=fun h0=>by
 have h1:0<k-j:=by
  unfold Go.Proofs.YtkledihebeidlaaGreatDoor.ptW at h0;rw[Ng,Ra] at h0;omega
 obtain⟨b,off,e,_⟩:=h (by omega);subst e;unfold cutA;have e:(⟨b,off,Z⟩:Addr).add (j*7)=⟨b,off+j*7,Z⟩:=by simp[Addr.add]
 rw[Lk (by omega),Option.map_some,e];have h2:=RAt.part h j (k-j);unfold Go.Proofs.YtkledihebeidlaaGreatDoor.ptW at h0 ⊢;exact h2 h0
theorem Ye{x:Exn}{j k K:Nat}(N:Nat)(h:WOk N (ptW x j k))(hl:x.word.length=K)(hk:k<=K)(B kw:Nat)(A:Bb)(w:Ba)(hR:RAt w B A (ptW x j k))(hB:B<=w.heap.size)(hT:Tab w)(h3:3<=w.heap.size) :
  An Al 8 #[O U (N:Int),I A (k-j) kw] w fun e w'=>e=Ak (.tuple #[.agg (gF N (ptF N x j k)),O U 0])/\Am w.heap.size w w':=by
 rw[<-QS hl hk];exact Zz N (ptW x j k) h B kw A w hR hB hT h3
theorem XCap.upR{w w':Ba}{A:Bb}{xs:List Exn}(h:XCap w A xs)(hx:XAt w w.heap.size A xs)(hb:Am w.heap.size w w'):XCap w' A xs:=by
 intro b o q eA i hi B n c hc;obtain⟨b2,o2,_,_,_,_,e2,aa,_,h1,_,_,_⟩:=hx.row i hi;rw[eA] at e2
 cases e2
 exact h b o Z eA i hi B n c ((hb.cell (p:=⟨b,o+i*3+1,Z⟩) aa).symm.trans hc)
theorem Yf{W:Ba}{B:Nat}{A:Bb}{x:Exn}{K N:Nat}(hL:LAt W B A x.views)(hl:x.views.length=K+1)(hr:∀l∈x.views,l.length=N)(h1:1<=N) :
  ∃b o,A=J ⟨b,o,Z⟩/\b<B/\∀i,i<K+1->∃b1 o1 c,b1<B/\W.cell? ⟨b,o+i,Z⟩=J (I (J ⟨b1,o1,Z⟩) N c)/\∀q,q<N->W.cell? ⟨b1,o1+q,Z⟩=J (O U (xw x i q)):=by
 obtain⟨b,o,e,hb,hc⟩:=hL (by omega);refine⟨b,o,e,hb,fun i hi=>?_⟩;have iQ:i<x.views.length:=by omega
 obtain⟨A',c,h2,h3⟩:=hc i iQ;have hn:=hr _ (Le iQ);obtain⟨b1,o1,e1,aH,_⟩:=h3.at_ 0 (by omega);subst e1;rw[hn] at h2;refine⟨b1,o1,c,aH,h2,fun q hq=>?_⟩;obtain⟨b2,o2,e2,_,h4⟩:=h3.at_ q (by omega)
 cases e2
 rw[h4];unfold xw;rw[Zb iQ,Zb (by omega)]
theorem JV{vs S:List Int}{k:Nat}(aa:k<vs.length)(h:∀x,x∈S↔x∈vs.take k):∀x,x∈vs[k]::S↔x∈vs.take (k+1):=by
 intro x;rw[LF,h,PZ,Lj aa];simp only[Option.toList,List.mem_append,List.mem_singleton];exact or_comm
theorem mapI(w:Ba):∃W0,w.alloc (.map #[] 0)=W0/\SetAt (O U) W0 w.heap.size []/\W0.heap.size=w.heap.size+1/\Am w.heap.size w W0:=
 ⟨_,rfl,SetAt.made (O U) w,by simp,(Ln _ _).alloc (Lh _) _⟩
theorem Xg(w:Ba):(zeroValue 4).run Al w=.ok (Ah As) w:=by kernel_rfl
end
section
open Go.RowKit
def z6P:Array Aq:=#[O U 0,O U 0,O U 0,O U 0,O U 0,O U 0]
def g6P(N:Nat)(f:Nat->Nat):Array Aq:=#[O U (N:Int),O U (f 0:Nat),O U (f 1:Nat),O U (f 2:Nat),O U (f 3:Nat),O U (f 4:Nat)]
def yQ(bs g:Nat)(A:Bb)(n c:Nat)(PA:Bb)(j k N:Nat)(f:Nat->Nat)(b:Nat):Nat->Aq
 | 0=>Aj (J ⟨bs,7,Z⟩)
 | 1=>Aj (J ⟨bs,7,Z⟩)
 | 2=>O U (N:Int)
 | 3=>Aj (J ⟨g,1,Z⟩)
 | 4=>I A n c
 | 5=>O U (j:Int)
 | 6=>O U (k:Int)
 | 7=>I PA (k-j) (c-j)
 | 8=>.tuple #[Ai #[O U (N:Int),O U (f 0:Nat),O U (f 1:Nat),O U (f 2:Nat),O U (f 3:Nat),O U (f 4:Nat)],O U 0]
 | 9=>.tuple #[Ai #[O U (N:Int),O U (f 0:Nat),O U (f 1:Nat),O U (f 2:Nat),O U (f 3:Nat),O U (f 4:Nat)],O U 0]
 | 10=>Ai #[O U (N:Int),O U (f 0:Nat),O U (f 1:Nat),O U (f 2:Nat),O U (f 3:Nat),O U (f 4:Nat)]
 | 11=>O U 0
 | 12=>Aj (J ⟨b,0,Z⟩)
 | 14=>O U 0
 | _=>undef
theorem QH{bs g:Nat}{A:Bb}{n c:Nat}{PA:Bb}{j k N:Nat}{f:Nat->Nat}{b b':Nat}{l:Nat->Bool}(h:l 12=As):∀i,l i=Ar->yQ bs g A n c PA j k N f b' i=yQ bs g A n c PA j k N f b i:=fun i hi=>by
 unfold yQ
 split<;>first | rfl | (rw[h] at hi;cases hi)
structure JP(w0:Ba)(N:Nat)(f:Nat->Nat)(l:Nat->Bool)(b:Nat)(W:Ba):Prop where
 low:Am w0.heap.size w0 W
 ord:l 13=Ar->l 12=Ar
 blk:l 12=Ar->w0.heap.size<=b/\b<W.heap.size/\(l 13=As->W.heap[b]?=J (Ag z6P 45 (0,0)))/\(l 13=Ar->W.heap[b]?=J (Ag (g6P N f) 45 (0,0)))
section
variable {w0 W w':Ba} {N:Nat} {f:Nat->Nat} {l:Nat->Bool} {b:Nat}
theorem JP.start(h:Am w0.heap.size w0 W):JP w0 N f (fun _=>As) b W:=⟨h,fun h=>(by cases h),fun h=>(by cases h)⟩
theorem JP.call{i:Nat}(h:JP w0 N f l b W)(h1:12≠i)(h2:13≠i)(hb:Am W.heap.size W w'):JP w0 N f (upd l i) b w':=by
 refine⟨Lc h.low hb,fun hl=>?_,fun hl=>?_⟩
 . rw[qR h2] at hl
   rw[qR h1];exact h.ord hl
 rw[qR h1] at hl;rw[qR h2];obtain⟨a,c,d,e⟩:=h.blk hl;exact⟨a,LD c hb.size,fun q=>Lb hb c (d q),fun q=>Lb hb c (e q)⟩
theorem JP.idle{i:Nat}(h:JP w0 N f l b W)(h1:12≠i)(h2:13≠i):JP w0 N f (upd l i) b W:=h.call h1 h2 (Ln _ _)
theorem JP.alloc(h:JP w0 N f l b W)(hi:l 12=As)(hd:w'.heap[W.heap.size]?=J (Ag z6P 45 (0,0)))(hb:Am W.heap.size W w'):JP w0 N f (upd l 12) W.heap.size w':=by
 have Uo:l 13=As:=by
  cases h3:l 13 with
  | false=>rfl
  | true=>have:=h.ord h3;rw[hi] at this;cases this
 refine⟨Lc h.low hb,fun _=>jF _ _,fun _=>⟨h.low.size,zd hd,fun _=>hd,fun q=>?_⟩⟩;rw[qR (by decide),Uo] at q
 cases q
theorem JP.store(h:JP w0 N f l b W)(hi:l 12=Ar)(hd:w'.heap[b]?=J (Ag (g6P N f) 45 (0,0)))(hb:∀B,B<=b->Am B W w'):JP w0 N f (upd l 13) b w':=by
 obtain⟨a,_,_,_⟩:=h.blk hi;refine⟨h.low.trans (hb _ a),fun _=>by rw[qR (by decide)];exact hi,fun _=>⟨a,zd hd,fun q=>?_,fun _=>hd⟩⟩;rw[jF] at q
 cases q
end
theorem zv{P:Program}{G:Type}{ops:Array Oper}{Q:Exit->Act->Ba->Prop}{val:G->Nat->Aq}{Af:(Nat->Bool)->G->Ba->Prop}{i:Nat}{o:Oper}{l:Nat->Bool}{g:G}{w:Ba}{a:Act}{E:Prop}(dn:o.guard=Z)
  (h:∀K:Act->Ba->Prop,(∀(g':G) (v:Aq) (w':Ba),val g' i=v->(∀j,l j=Ar->val g' j=val g j)->Af (upd l i) g' w'->K (a.put o.dst v) w')->o.wp P a w K Q) :
  if Region.wanted o (yielded ops a.tmps) then o.wp P a w (fun a' w'=>∃g' v,a'=a.put o.dst v/\val g' i=v/\(∀j,l j=Ar->val g' j=val g j)/\Af (upd l i) g' w') Q else E:=by
 have hw:Region.wanted o (yielded ops a.tmps)=Ar:=by simp[Region.wanted,dn]
 rw[Lm hw];exact h _ fun g' v w' h1 h2 h3=>⟨g',v,rfl,h1,h2,h3⟩
end
section
open Go.RowKit Go.Shelf
attribute [local go_sem] Oper.semAt_some
theorem ZM(p:Pb)(hl:gC p)(A:Bb)(kc:Nat)(SV:Bb)(ks:Nat)(z0 z1:Nat)(cG:z0<256)(bQ:z1<256)(w:Ba)(hA:CAt w w.heap.size A p.t.cases)(hS:SAt w w.heap.size SV p.a.sts)(Ck:Tab w)(h3:3<=w.heap.size) :
  An Al 3 #[.agg (p.vs A kc SV ks),.int .u8 (z0:Int),.int .u8 (z1:Int)] w fun e w'=>e=Ak (Ah Ar)/\Am w.heap.size w w':=by
 obtain⟨w1,af,d0,aW,ay⟩:=zq w (p.vs A kc SV ks) 29;have It:=zH (fun (X:Ba) (hX:Am w1.heap.size w1 X)=>gu p hl A SV kc ks X ((hA.keep (Lc ay hX)).more (by have:=ay.size;have:=hX.size;omega)) ((hS.keep (Lc ay hX)).more (by have:=ay.size;have:=hX.size;omega)));have NM:=zH (fun (X:Ba) (hX:Am w.heap.size w X)=>Ck.keep hX h3);unfold Pb.vs at af d0 It ⊢;have au:=zH af;have aX:=zH d0;have cd:=zH ay;clear af d0 aW ay hA hS hl Ck;go_enter func3,ntmps3;go_upto_region 1 with fail
 rw[au.out];go_wp2_with fail;refine(ux w1).mono ?_;rintro e w2 ⟨rfl,ae⟩;have aN:=zH (Lc cd.out ae);have HC:=zH (It.out w2 ae);have d2:=La ae aX.out;obtain⟨p0,p1,p2,p3,p4,p5,p6,_⟩:=Kf d2;clear ae au aX It d2;go_wp2_with fail;refine HC.out.mono ?_;rintro e w3 ⟨T,A2,fw,AV,AX,fh,fg,kv,kx,b,rfl,ak,mz⟩;have cx:=zH (Lc aN.out ak);have iY:=zH mz;unfold Sy.vs_;clear ak mz HC p0 p1 p2 p3 p4 p5 p6;dsimp only;go_upto_region 4 with fail
 obtain⟨W4,lN,d4,fW,bK⟩:=zq w3 #[O U T.p.t.n,O U T.p.t.ins,O U T.p.t.outs,I A2 T.p.t.cases.length fh,O U T.p.a.n,I fw T.p.a.sts.length fg,O U T.p.k,O U T.n,I AV T.vs.length kv,I AX T.xs.length kx] 36;rw[lN];have eB:=zH (Lc cx.out bK);have De:=zH d4;have iZ:=zH fW;have Ha:=zH bK;have s9:=za d4 9 rfl;clear lN fW bK d4
 cases b with
 | false=>
  go_wp2_with fail;go_ret;exact⟨rfl,eB.out⟩
 | true=>
 obtain⟨tm,Mt,AN,pP,DV,cp,dz⟩:=iY.out rfl;have lQ:=zH tm;have VB:=zH Mt;have HVZ:=zH AN;have lP:=zH pP;have M':=zH DV;have C4:=zH cp;have C5:=zH dz;clear tm Mt AN pP DV cp dz iY
 by_cases iJ:T.xs.length=0
 . have e0:((T.xs.length:Int)==0)=Ar:=by rw[iJ];rfl
   go_wp2_with fail;go_ret;exact⟨rfl,eB.out⟩
 have e0:((T.xs.length:Int)==0)=As:=by simpa using iJ
 obtain⟨Mi,Sj,hf,h0,dq,SS,K,N,hF,D'⟩:=Yi lQ.out;have Ck:zA p=T:=by rw[VB.out,Mi]
 have iK:=fun x hx j k=>rm_parts hf h0 hF D' rfl (x:=x) hx j k
 have ik:=built_wf h0 hF;rw[Ck] at hF D' iK ik;have pW:=zH iK;have fz:=zH ik;clear iK ik;have fA:=zH hF;have Hm:=zH D';have iu:=hF.k6;have nd:=hF.n5;have SY:=hF.lx;have sP:=zH (lP.out.up Ha.out);have eN:¬T.xs.length=0:=iJ;have VH:=iZ;clear Mi Sj hf h0 dq SS hF D' Ck iJ;go_upto_region 6 with fail
 obtain⟨ka,FI⟩:=Kh (z0 % T.xs.length);obtain⟨kb,mp⟩:=Kh (z1 % T.xs.length);have ov:ka<T.xs.length:=by rw[<-FI];exact Nat.mod_lt _ (by omega)
 have ou:kb<T.xs.length:=by rw[<-mp];exact Nat.mod_lt _ (by omega)
 have lJ:Int.tmod (z0:Int) (T.xs.length:Int)=(ka:Int):=by rw[QO,FI]
 have pq:Int.tmod (z1:Int) (T.xs.length:Int)=(kb:Int):=by rw[QO,mp]
 obtain⟨bx,ox,A1,c1,B1,c2,eX,aI,a0,a1,a2,oJ,GC⟩:=sP.out.fx.row ka ov;obtain⟨bx',ox',A3,c3,B3,c4,UG,TG,b0,b1,b2,sr,sx⟩:=sP.out.fx.row kb ou;subst eX
 cases UG
 have E8:=Le ov;have EX:=Le ou;have lK:=(M'.out.upR lP.out.fx Ha.out) bx ox Z rfl ka ov A1 _ c1 a1;have tC:=(M'.out.upR lP.out.fx Ha.out) bx ox Z rfl kb ou A3 _ c3 b1;obtain⟨x,hx⟩:=Kh (T.xs[ka]);obtain⟨y,hy⟩:=Kh (T.xs[kb]);rw[hx] at a0 a1 a2 oJ GC E8 lK;rw[hy] at b0 b1 b2 sr sx EX tC;have Wv:=zH lK;have Wu:=zH tC;have sQ:=zH oJ;have Wa:=zH GC;have VJ:=zH sr;have V9:=zH sx;have sJ:=zH E8;have El:=zH EX;have Uv:(0:Int)<=(ka:Int):=by omega
 have Uu:(ka:Int)<(T.xs.length:Int):=by omega
 have Ut:(0:Int)<=(kb:Int):=by omega
 have Us:(kb:Int)<(T.xs.length:Int):=by omega
 have Ud:¬((T.xs.length:Int)=0):=by omega
 have Uc:¬T.xs.length=0:=eN;have sy:¬T.xs=[]:=fun e=>eN (by rw[e];rfl)
 have wa:IntKind.i64.wrap (ka:Int)=(ka:Int):=by rw[Lw];omega
 have wb:IntKind.i64.wrap (kb:Int)=(kb:Int):=by rw[Lw];omega
 have O2:IntKind.i64.wrap (z0:Int)=(z0:Int):=by rw[Lw];omega
 have O1:IntKind.i64.wrap (z1:Int)=(z1:Int):=by rw[Lw];omega
 have fl:w3.heap.size<W4.heap.size:=by have:=iZ.out;omega
 have x9:W4.cell? ⟨w3.heap.size,9,Z⟩=J (I (J ⟨bx,ox,Z⟩) T.xs.length kx):=s9
 have ia:Ap (∀W,Am W4.heap.size W4 W->W.cell? ⟨w3.heap.size,9,Z⟩=J (I (J ⟨bx,ox,Z⟩) T.xs.length kx)/\W.cell? ⟨bx,ox+ka*3,Z⟩=J (O U x.c)/\W.cell? ⟨bx,ox+ka*3+1,Z⟩=J (I A1 x.word.length c1)/\W.cell? ⟨bx,ox+ka*3+2,Z⟩=J (I B1 x.views.length c2)/\W.cell? ⟨bx,ox+kb*3,Z⟩=J (O U y.c)/\W.cell? ⟨bx,ox+kb*3+1,Z⟩=J (I A3 y.word.length c3)/\W.cell? ⟨bx,ox+kb*3+2,Z⟩=J (I B3 y.views.length c4)):=fun W hW=>
  ⟨(hW.cell (p:=⟨_,_,Z⟩) fl).trans x9,(hW.cell (p:=⟨_,_,Z⟩) aI).trans a0,(hW.cell (p:=⟨_,_,Z⟩) aI).trans a1,(hW.cell (p:=⟨_,_,Z⟩) aI).trans a2,(hW.cell (p:=⟨_,_,Z⟩) aI).trans b0,(hW.cell (p:=⟨_,_,Z⟩) aI).trans b1,(hW.cell (p:=⟨_,_,Z⟩) aI).trans b2⟩
 clear s9 lK tC oJ GC sr sx E8 EX hx hy FI mp ov ou eN
 go_cut [9,10] (fun s9 O8 wx=>TwoXs W4 #[O U x.c,I A1 x.word.length c1,I B1 x.views.length c2] #[O U y.c,I A3 y.word.length c3,I B3 y.views.length c4] s9 O8 wx)
 case first=>
  go_region_held3 (fun W=>W.cell? ⟨w3.heap.size,9,Z⟩=J (I (J ⟨bx,ox,Z⟩) T.xs.length kx)/\W.cell? ⟨bx,ox+ka*3,Z⟩=J (O U x.c)/\W.cell? ⟨bx,ox+ka*3+1,Z⟩=J (I A1 x.word.length c1)/\W.cell? ⟨bx,ox+ka*3+2,Z⟩=J (I B1 x.views.length c2)/\W.cell? ⟨bx,ox+kb*3,Z⟩=J (O U y.c)/\W.cell? ⟨bx,ox+kb*3+1,Z⟩=J (I A3 y.word.length c3)/\W.cell? ⟨bx,ox+kb*3+2,Z⟩=J (I B3 y.views.length c4))
   (first | exact⟨x9,a0,a1,a2,b0,b1,b2⟩ | exact ia.out _ (by first | exact(zw W4 _).drew | exact zw W4 _ | exact(xk W4 _ _).drew | exact xk W4 _ _))
   (fail)
  all_goals
   go_wp2_with fail
   go_meet
  . exact⟨_,_,rfl,rfl,(Zt W4 _ _ rfl).1,(Zt W4 _ _ rfl).2,by first | exact xk W4 _ _ | exact(xk W4 _ _).drew⟩
  exact⟨_,_,rfl,rfl,(Zt W4 _ _ rfl).2,(Zt W4 _ _ rfl).1,by first | exact xk W4 _ _ | exact(xk W4 _ _).drew⟩
 rename Ba=>W5
 obtain⟨g,h,rfl,rfl,G,H,iS⟩:=hcut;have HG:=zH G;have HH:=zH H;have HZ:=zH (Lc eB.out iS);have Di:=zH iS;have HP:=zH (La iS De.out);have cS:Ap (x.views.length=K+1):=(fA.out.views x sJ.out).1;have im:x.views.length<=10:=by have:=cS.out;omega
 have Ec:=fA.out.n1;have rt:=fA.out.views x sJ.out;have pk:=fA.out.views y El.out;obtain⟨bV,oV,eV,Mh,rV⟩:=Yf Wa.out rt.1 (fun l hl=>(rt.2 l hl).1) Ec;obtain⟨bY,oY,eY,Mg,rY⟩:=Yf V9.out pk.1 (fun l hl=>(pk.2 l hl).1) Ec;subst eV;subst eY;have N6:=zH rV;have N':=zH rY;have OO:=zH Mh;have ON:=zH Mg;have sI:=zH pk.1;have q2:=za HG.out 2 (u:=I (J ⟨bV,oV,Z⟩) x.views.length c2) rfl;clear rt pk rV rY Mh Mg G H iS ia x9 a0 a1 a2 b0 b1 b2 Ud Uc sy wa wb O2 O1 Uv Uu Ut Us fl lJ pq;go_wp2_with fail;clear q2
 go_loopw [63] (fun i wr=>∃k:Nat,k<=x.views.length/\i=O U (k:Int)/\Ap (Am W5.heap.size W5 wr)) (fun i _=>x.views.length-(Ao i).toNat)
 case atStart=>exact⟨0,by omega,rfl,Ln _ _⟩
 obtain⟨k,hk,rfl,dB⟩:=hrel
 by_cases cP:k<x.views.length
 . have ot:(k:Int)<(x.views.length:Int):=by omega
   have FE:IntKind.i64.wrap ((k:Int)+1)=((k+1:Nat):Int):=by rw[Lw];omega
   go_wp2_with fail
   go_loopw [68] (fun i O5=>∃j:Nat,j<=k+1/\i=O U (j:Int)/\Ap (Am W5.heap.size W5 O5)) (fun i _=>k+1-(Ao i).toNat)
   case atStart=>exact⟨0,by omega,rfl,dB⟩
   obtain⟨j,hj,rfl,bz⟩:=hrel
   by_cases bf:j<k+1
   . have Tl:(j:Int)<((k+1:Nat):Int):=by omega
     have rL:k<=K:=by have:=cS.out;omega
     have BG:j<=k:=by omega
     have T9:=fA.out.n5;have Ks:=(fA.out.word x sJ.out).1;have Kr:=(fA.out.word y El.out).1;have lK:=Wv.out;have tC:=Wu.out;have Gj:=zH (Lc Di.out bz.out);have Gw:=zH (Lc HZ.out bz.out);have CU:=zH (fun (X:Ba) (hX:Am wr.heap.size wr X)=>Ye N (pW.out x sJ.out j k) Ks rL W4.heap.size (c1-j) (cutA A1 c1 j) X ((sQ.out.keep (Lc Gj.out hX)).ptW (by omega) lK) (LE Gj.out.size hX.size) (NM.out X (Lc Gw.out hX)) (by have:=Gw.out.size;have:=hX.size;omega));have CT:=zH (fun (X:Ba) (hX:Am wr.heap.size wr X)=>Ye N (pW.out y El.out j k) Kr rL W4.heap.size (c3-j) (cutA A3 c3 j) X ((VJ.out.keep (Lc Gj.out hX)).ptW (by omega) tC) (LE Gj.out.size hX.size) (NM.out X (Lc Gw.out hX)) (by have:=Gw.out.size;have:=hX.size;omega));have C2:=zH (rm_gok fA.out sJ.out j k);have pZ:=zH (fun (q:Nat) (hq:q<N) e=>rm_same fA.out Hm.out fz.out sJ.out El.out BG rL hq e);obtain⟨fx,BP⟩:=Kh (ptF N x j k);obtain⟨fy,LG⟩:=Kh (ptF N y j k);rw[BP] at CU C2 pZ;rw[LG] at CT pZ;unfold gF at CU CT;have Tg:k<=c1:=by omega
     have Tf:k<=c3:=by omega
     have Te:(k:Int)<=(c1:Int):=by omega
     have Td:(k:Int)<=(c3:Int):=by omega
     obtain⟨PA,GA⟩:=Kh (cutA A1 c1 j);obtain⟨PB,Gz⟩:=Kh (cutA A3 c3 j);rw[GA] at CU;rw[Gz] at CT;have iM:(if c1=j then A1 else Option.map (fun x=>x.add (j*7)) A1)=PA:=GA;have hpb:(if c3=j then A3 else Option.map (fun x=>x.add (j*7)) A3)=PB:=Gz;clear GA Gz Ks Kr lK tC
     have eK:Ap (∀X,Am wr.heap.size wr X->X.cell? ⟨w3.heap.size,7,Z⟩=J (O U (N:Int))/\X.cell? ⟨w3.heap.size,8,Z⟩=J (I AV T.vs.length kv)/\X.cell? ⟨g,1,Z⟩=J (I A1 x.word.length c1)/\X.cell? ⟨h,1,Z⟩=J (I A3 y.word.length c3)):=fun X hX=>by
      have hz:=Lc bz.out hX;refine⟨?_,za (La hz HP.out) 8 rfl,za (La hz HG.out) 1 rfl,za (La hz HH.out) 1 rfl⟩;rw[<-fA.out.n];exact za (La hz HP.out) 7 rfl
     clear BP LG;go_upto_region 13 with fail
     refine kT (by kernel_rfl) (yQ w3.heap.size g A1 x.word.length c1 PA j k N fx) (JP wr N fx) (by kernel_rfl) 0 (JP.start (Ln wr.heap.size wr).drew) ?_ ?_
     . refine⟨?_,?_,?_,?_,?_,?_,?_,?_,?_,?_,?_,?_,?_,?_,?_,trivial⟩
       . intro l b W a hJ cc aq aj
         have e7:(a.tmps[7]?).getD undef=Aj (J ⟨w3.heap.size,0,Z⟩):=aj.oldD 7 rfl;refine zv rfl fun K hK=>?_
         go_simp;exact hK b _ _ rfl (fun _ _=>rfl) (hJ.idle (i:=0) (by decide) (by decide))
       . intro l b W a hJ cc aq aj
         have l0:=aq ⟨0,.data⟩ (by simp) rfl;have U6:=aj.newD 0 72 rfl l0 (by show 72<200;decide);simp only[yQ] at U6;refine zv rfl fun K hK=>?_
         go_simp;exact hK b _ _ rfl (fun _ _=>rfl) (hJ.idle (i:=1) (by decide) (by decide))
       . intro l b W a hJ cc aq aj
         have l1:=aq ⟨1,.data⟩ (by simp) rfl;have U5:=aj.newD 1 73 rfl l1 (by show 73<200;decide);simp only[yQ] at U5;obtain⟨y7,y8,yg,yh⟩:=eK.out W hJ.low;refine zv rfl fun K hK=>?_
         go_simp;exact hK b _ _ rfl (fun _ _=>rfl) (hJ.idle (i:=2) (by decide) (by decide))
       . intro l b W a hJ cc aq aj
         have e9:(a.tmps[9]?).getD undef=Aj (J ⟨g,0,Z⟩):=aj.oldD 9 rfl;refine zv rfl fun K hK=>?_
         go_simp;exact hK b _ _ rfl (fun _ _=>rfl) (hJ.idle (i:=3) (by decide) (by decide))
       . intro l b W a hJ cc aq aj
         have l3:=aq ⟨3,.data⟩ (by simp) rfl;have U3:=aj.newD 3 75 rfl l3 (by show 75<200;decide);simp only[yQ] at U3;obtain⟨y7,y8,yg,yh⟩:=eK.out W hJ.low;refine zv rfl fun K hK=>?_
         go_simp;exact hK b _ _ rfl (fun _ _=>rfl) (hJ.idle (i:=4) (by decide) (by decide))
       . intro l b W a hJ cc aq aj
         have U9:(a.tmps[12]?).getD undef=O U (j:Int):=aj.oldD 12 rfl;refine zv rfl fun K hK=>?_
         go_simp;exact hK b _ _ rfl (fun _ _=>rfl) (hJ.idle (i:=5) (by decide) (by decide))
       . intro l b W a hJ cc aq aj
         have U':(a.tmps[11]?).getD undef=O U (k:Int):=aj.oldD 11 rfl;refine zv rfl fun K hK=>?_
         go_simp;exact hK b _ _ rfl (fun _ _=>rfl) (hJ.idle (i:=6) (by decide) (by decide))
       . intro l b W a hJ cc aq aj
         have l4:=aq ⟨4,.data⟩ (by simp) rfl;have U2:=aj.newD 4 76 rfl l4 (by show 76<200;decide);simp only[yQ] at U2;have l5:=aq ⟨5,.data⟩ (by simp) rfl;have U1:=aj.newD 5 77 rfl l5 (by show 77<200;decide);simp only[yQ] at U1;have l6:=aq ⟨6,.data⟩ (by simp) rfl;have UZ:=aj.newD 6 78 rfl l6 (by show 78<200;decide);simp only[yQ] at UZ;refine zv rfl fun K hK=>?_
         go_simp;exact hK b _ _ rfl (fun _ _=>rfl) (hJ.idle (i:=7) (by decide) (by decide))
       . intro l b W a hJ cc aq aj
         have l2:=aq ⟨2,.data⟩ (by simp) rfl;have U4:=aj.newD 2 74 rfl l2 (by show 74<200;decide);simp only[yQ] at U4;have l7:=aq ⟨7,.data⟩ (by simp) rfl;have UY:=aj.newD 7 79 rfl l7 (by show 79<200;decide);simp only[yQ] at UY;refine zv rfl fun K hK=>?_
         go_simp;refine(CU.out W hJ.low).mono ?_;rintro e w' ⟨rfl,hb⟩;exact hK b _ _ rfl (fun _ _=>rfl) (hJ.call (i:=8) (by decide) (by decide) hb)
       . intro l b W a hJ cc aq aj
         have l8:=aq ⟨8,.data⟩ (by simp) rfl;have UX:=aj.newD 8 80 rfl l8 (by show 80<200;decide);simp only[yQ] at UX;refine zv rfl fun K hK=>?_
         go_simp;exact hK b _ _ rfl (fun _ _=>rfl) (hJ.idle (i:=9) (by decide) (by decide))
       . intro l b W a hJ cc aq aj
         have l9:=aq ⟨9,.data⟩ (by simp) rfl;have GP:=aj.newD 9 71 rfl l9 (by show 71<200;decide);simp only[yQ] at GP;refine zv rfl fun K hK=>?_
         go_simp;exact hK b _ _ rfl (fun _ _=>rfl) (hJ.idle (i:=10) (by decide) (by decide))
       . intro l b W a hJ cc aq aj
         have l9:=aq ⟨9,.data⟩ (by simp) rfl;have GP:=aj.newD 9 71 rfl l9 (by show 71<200;decide);simp only[yQ] at GP;refine zv rfl fun K hK=>?_
         go_simp;exact hK b _ _ rfl (fun _ _=>rfl) (hJ.idle (i:=11) (by decide) (by decide))
       . intro l b W a hJ cc aq aj
         refine zv rfl fun K hK=>?_
         go_simp;exact hK W.heap.size _ _ rfl (QH cc) (hJ.alloc cc (ze _ _) (zw _ _))
       . intro l b W a hJ cc aq aj
         have rn:=aq ⟨12,.data⟩ (by simp) rfl;have U8:=aj.newD 12 13 rfl rn (by show 13<200;decide);simp only[yQ] at U8;have ET:=aq ⟨10,.data⟩ (by simp) rfl;have UW:=aj.newD 10 81 rfl ET (by show 81<200;decide);simp only[yQ] at UW;have hz:=(hJ.blk rn).2.2.1 cc;unfold z6P at hz;obtain⟨r0,r1,r2,r3,r4,r5,_⟩:=Kg hz;have x0:=zb hz 0;have x1:=zb hz 1;have x2:=zb hz 2;have x3:=zb hz 3;have x4:=zb hz 4;have x5:=zb hz 5;refine zv rfl fun K hK=>?_
         go_simp;obtain⟨wS,lc,GN,UE,GM,UD⟩:=jI hz (O U (N:Int)) (O U (fx 0:Nat)) (O U (fx 1:Nat)) (O U (fx 2:Nat)) (O U (fx 3:Nat)) (O U (fx 4:Nat));rw[lc];exact hK b _ _ rfl (fun _ _=>rfl) (hJ.store rn GN GM)
       intro l b W a hJ cc aq aj;have ES:=aq ⟨11,.data⟩ (by simp) rfl;have UV:=aj.newD 11 82 rfl ES (by show 82<200;decide);simp only[yQ] at UV;refine zv rfl fun K hK=>?_
       go_simp;exact hK b _ _ rfl (fun _ _=>rfl) (hJ.idle (i:=14) (by decide) (by decide))
     intro Pz Uq v9 ai hJ;rw[jW (D:=[J 72,J 73,J 74,J 75,J 76,J 77,J 78,J 79,J 80,J 71,J 81,J 82,J 13,Z,J 14]) rfl];simp only[jp,gO,yQ];go_simp;have tc:=zH ((hJ.blk (ai 12 (by decide))).2.2.2 (ai 13 (by decide)));have pg:=zH hJ.low;clear hJ ai Pz;have Hi:Ap (∀X,Am v9.heap.size v9 X->Am wr.heap.size wr X):=fun X u=>Lc pg.out u
     have Oe:=zH (fun X (hX:Am v9.heap.size v9 X)=>CT.out X (Hi.out X hX));have mN:=zH (fun X (hX:Am v9.heap.size v9 X)=>eK.out X (Hi.out X hX));go_upto_region 14 with fail
     refine kT (by kernel_rfl) (yQ w3.heap.size h A3 y.word.length c3 PB j k N fy) (JP v9 N fy) (by kernel_rfl) 0 (JP.start (Ln v9.heap.size v9).drew) ?_ ?_
     . refine⟨?_,?_,?_,?_,?_,?_,?_,?_,?_,?_,?_,?_,?_,?_,?_,trivial⟩
       . intro l b W a hJ cc aq aj
         have e7:(a.tmps[7]?).getD undef=Aj (J ⟨w3.heap.size,0,Z⟩):=aj.oldD 7 rfl;refine zv rfl fun K hK=>?_
         go_simp;exact hK b _ _ rfl (fun _ _=>rfl) (hJ.idle (i:=0) (by decide) (by decide))
       . intro l b W a hJ cc aq aj
         have l0:=aq ⟨0,.data⟩ (by simp) rfl;have UU:=aj.newD 0 84 rfl l0 (by show 84<200;decide);simp only[yQ] at UU;refine zv rfl fun K hK=>?_
         go_simp;exact hK b _ _ rfl (fun _ _=>rfl) (hJ.idle (i:=1) (by decide) (by decide))
       . intro l b W a hJ cc aq aj
         have l1:=aq ⟨1,.data⟩ (by simp) rfl;have UT:=aj.newD 1 85 rfl l1 (by show 85<200;decide);simp only[yQ] at UT;obtain⟨y7,y8,yg,yh⟩:=mN.out W hJ.low;refine zv rfl fun K hK=>?_
         go_simp;exact hK b _ _ rfl (fun _ _=>rfl) (hJ.idle (i:=2) (by decide) (by decide))
       . intro l b W a hJ cc aq aj
         have Va:(a.tmps[10]?).getD undef=Aj (J ⟨h,0,Z⟩):=aj.oldD 10 rfl;refine zv rfl fun K hK=>?_
         go_simp;exact hK b _ _ rfl (fun _ _=>rfl) (hJ.idle (i:=3) (by decide) (by decide))
       . intro l b W a hJ cc aq aj
         have l3:=aq ⟨3,.data⟩ (by simp) rfl;have UR:=aj.newD 3 87 rfl l3 (by show 87<200;decide);simp only[yQ] at UR;obtain⟨y7,y8,yg,yh⟩:=mN.out W hJ.low;refine zv rfl fun K hK=>?_
         go_simp;exact hK b _ _ rfl (fun _ _=>rfl) (hJ.idle (i:=4) (by decide) (by decide))
       . intro l b W a hJ cc aq aj
         have U9:(a.tmps[12]?).getD undef=O U (j:Int):=aj.oldD 12 rfl;refine zv rfl fun K hK=>?_
         go_simp;exact hK b _ _ rfl (fun _ _=>rfl) (hJ.idle (i:=5) (by decide) (by decide))
       . intro l b W a hJ cc aq aj
         have U':(a.tmps[11]?).getD undef=O U (k:Int):=aj.oldD 11 rfl;refine zv rfl fun K hK=>?_
         go_simp;exact hK b _ _ rfl (fun _ _=>rfl) (hJ.idle (i:=6) (by decide) (by decide))
       . intro l b W a hJ cc aq aj
         have l4:=aq ⟨4,.data⟩ (by simp) rfl;have UQ:=aj.newD 4 88 rfl l4 (by show 88<200;decide);simp only[yQ] at UQ;have l5:=aq ⟨5,.data⟩ (by simp) rfl;have UP:=aj.newD 5 89 rfl l5 (by show 89<200;decide);simp only[yQ] at UP;have l6:=aq ⟨6,.data⟩ (by simp) rfl;have UO:=aj.newD 6 90 rfl l6 (by show 90<200;decide);simp only[yQ] at UO;refine zv rfl fun K hK=>?_
         go_simp;exact hK b _ _ rfl (fun _ _=>rfl) (hJ.idle (i:=7) (by decide) (by decide))
       . intro l b W a hJ cc aq aj
         have l2:=aq ⟨2,.data⟩ (by simp) rfl;have US:=aj.newD 2 86 rfl l2 (by show 86<200;decide);simp only[yQ] at US;have l7:=aq ⟨7,.data⟩ (by simp) rfl;have UN:=aj.newD 7 91 rfl l7 (by show 91<200;decide);simp only[yQ] at UN;refine zv rfl fun K hK=>?_
         go_simp;refine(Oe.out W hJ.low).mono ?_;rintro e w' ⟨rfl,hb⟩;exact hK b _ _ rfl (fun _ _=>rfl) (hJ.call (i:=8) (by decide) (by decide) hb)
       . intro l b W a hJ cc aq aj
         have l8:=aq ⟨8,.data⟩ (by simp) rfl;have UM:=aj.newD 8 92 rfl l8 (by show 92<200;decide);simp only[yQ] at UM;refine zv rfl fun K hK=>?_
         go_simp;exact hK b _ _ rfl (fun _ _=>rfl) (hJ.idle (i:=9) (by decide) (by decide))
       . intro l b W a hJ cc aq aj
         have l9:=aq ⟨9,.data⟩ (by simp) rfl;have GO:=aj.newD 9 83 rfl l9 (by show 83<200;decide);simp only[yQ] at GO;refine zv rfl fun K hK=>?_
         go_simp;exact hK b _ _ rfl (fun _ _=>rfl) (hJ.idle (i:=10) (by decide) (by decide))
       . intro l b W a hJ cc aq aj
         have l9:=aq ⟨9,.data⟩ (by simp) rfl;have GO:=aj.newD 9 83 rfl l9 (by show 83<200;decide);simp only[yQ] at GO;refine zv rfl fun K hK=>?_
         go_simp;exact hK b _ _ rfl (fun _ _=>rfl) (hJ.idle (i:=11) (by decide) (by decide))
       . intro l b W a hJ cc aq aj
         refine zv rfl fun K hK=>?_
         go_simp;exact hK W.heap.size _ _ rfl (QH cc) (hJ.alloc cc (ze _ _) (zw _ _))
       . intro l b W a hJ cc aq aj
         have rn:=aq ⟨12,.data⟩ (by simp) rfl;have U7:=aj.newD 12 15 rfl rn (by show 15<200;decide);simp only[yQ] at U7;have ET:=aq ⟨10,.data⟩ (by simp) rfl;have UL:=aj.newD 10 93 rfl ET (by show 93<200;decide);simp only[yQ] at UL;have hz:=(hJ.blk rn).2.2.1 cc;unfold z6P at hz;obtain⟨r0,r1,r2,r3,r4,r5,_⟩:=Kg hz;have x0:=zb hz 0;have x1:=zb hz 1;have x2:=zb hz 2;have x3:=zb hz 3;have x4:=zb hz 4;have x5:=zb hz 5;refine zv rfl fun K hK=>?_
         go_simp;obtain⟨wS,lc,GN,UE,GM,UD⟩:=jI hz (O U (N:Int)) (O U (fy 0:Nat)) (O U (fy 1:Nat)) (O U (fy 2:Nat)) (O U (fy 3:Nat)) (O U (fy 4:Nat));rw[lc];exact hK b _ _ rfl (fun _ _=>rfl) (hJ.store rn GN GM)
       intro l b W a hJ cc aq aj;have ES:=aq ⟨11,.data⟩ (by simp) rfl;have UK:=aj.newD 11 94 rfl ES (by show 94<200;decide);simp only[yQ] at UK;refine zv rfl fun K hK=>?_
       go_simp;exact hK b _ _ rfl (fun _ _=>rfl) (hJ.idle (i:=14) (by decide) (by decide))
     intro PM Ur u9 ai hJ;rw[jW (D:=[J 84,J 85,J 86,J 87,J 88,J 89,J 90,J 91,J 92,J 83,J 93,J 94,J 15,Z,J 16]) rfl];simp only[jp,gO,yQ];go_simp;have Dd:=zH ((hJ.blk (ai 12 (by decide))).2.2.2 (ai 13 (by decide)));have ph:=zH hJ.low;clear hJ ai PM;obtain⟨b1,o1,n1,aH,k1,k2⟩:=N6.out k (by omega);obtain⟨b2,o2,n2,ae,l1,l2⟩:=N'.out k (by omega);obtain⟨b3,o3,n3,ak,i1,i2⟩:=N6.out j (by omega);obtain⟨b4,o4,n4,bK,j1,j2⟩:=N'.out j (by omega);have Hj:Ap (∀X,Am u9.heap.size u9 X->Am wr.heap.size wr X):=fun X hX=>pg.out.trans ((Lc ph.out hX).mono pg.out.size)
     have CO:Ap (∀X,Am u9.heap.size u9 X->Am W5.heap.size W5 X):=fun X hX=>bz.out.trans ((Hj.out X hX).mono bz.out.size)
     have oS:Ap (∀X,Am u9.heap.size u9 X->Am W4.heap.size W4 X):=fun X hX=>Di.out.trans ((CO.out X hX).mono Di.out.size)
     have HUW:Ap (∀X,Am u9.heap.size u9 X->Am w.heap.size w X):=fun X hX=>HZ.out.trans ((CO.out X hX).mono HZ.out.size)
     have C9:Ap (∀X,Am u9.heap.size u9 X->X.heap[Uq]?=J (Ag (gF N fx) 45 (0,0))/\X.heap[Ur]?=J (Ag (gF N fy) 45 (0,0))):=fun X hX=>
      ⟨Lb hX (zd (La ph.out tc.out)) (La ph.out tc.out),La hX Dd.out⟩
     have Hx:Ap (∀X,Am u9.heap.size u9 X->X.cell? ⟨g,2,Z⟩=J (I (J ⟨bV,oV,Z⟩) x.views.length c2)/\X.cell? ⟨h,2,Z⟩=J (I (J ⟨bY,oY,Z⟩) y.views.length c4)/\X.cell? ⟨bV,oV+k,Z⟩=J (I (J ⟨b1,o1,Z⟩) N n1)/\X.cell? ⟨bY,oY+k,Z⟩=J (I (J ⟨b2,o2,Z⟩) N n2)/\X.cell? ⟨bV,oV+j,Z⟩=J (I (J ⟨b3,o3,Z⟩) N n3)/\X.cell? ⟨bY,oY+j,Z⟩=J (I (J ⟨b4,o4,Z⟩) N n4)):=fun X hX=>
      ⟨za (La (CO.out X hX) HG.out) 2 rfl,za (La (CO.out X hX) HH.out) 2 rfl,((oS.out X hX).cell (p:=⟨_,_,Z⟩) OO.out).trans k1,((oS.out X hX).cell (p:=⟨_,_,Z⟩) ON.out).trans l1,((oS.out X hX).cell (p:=⟨_,_,Z⟩) OO.out).trans i1,((oS.out X hX).cell (p:=⟨_,_,Z⟩) ON.out).trans j1⟩
     have co:Ap (∀X,Am u9.heap.size u9 X->∀q,q<N->X.cell? ⟨b1,o1+q,Z⟩=J (O U (xw x k q))/\X.cell? ⟨b2,o2+q,Z⟩=J (O U (xw y k q))/\X.cell? ⟨b3,o3+q,Z⟩=J (O U (xw x j q))/\X.cell? ⟨b4,o4+q,Z⟩=J (O U (xw y j q))):=fun X hX q hq=>
      ⟨((oS.out X hX).cell (p:=⟨_,_,Z⟩) aH).trans (k2 q hq),((oS.out X hX).cell (p:=⟨_,_,Z⟩) ae).trans (l2 q hq),((oS.out X hX).cell (p:=⟨_,_,Z⟩) ak).trans (i2 q hq),((oS.out X hX).cell (p:=⟨_,_,Z⟩) bK).trans (j2 q hq)⟩
     have rc:Ap (∀X,Am u9.heap.size u9 X->X.cell? ⟨w3.heap.size,7,Z⟩=J (O U (N:Int))/\X.cell? ⟨w3.heap.size,8,Z⟩=J (I AV T.vs.length kv)):=fun X hX=>⟨(eK.out X (Hj.out X hX)).1,(eK.out X (Hj.out X hX)).2.1⟩
     have oW:Ap (∀X,Am u9.heap.size u9 X->∀i:Int,0<=i->i<T.vs.length->An Al 9 #[Ai #[O U (N:Int),I AV T.vs.length kv],O U i] X (RetPast (zt (yE T.vs [i.toNat]),0) X)):=fun X hX i h0 h1=>by
      have hw:=fz.out;rw[fA.out.n] at hw;rw[<-rm_past hw (by have:=fA.out.lv;omega) h0 h1];exact Jn N AV kv T.vs i X ⟨(sP.out.up (oS.out X hX)).fv,C4.out,C5.out,by have:=fA.out.lv;omega⟩
     have Vl:Ap (∀q,q<N->0<=xw x k q/\xw x k q<T.vs.length):=fun q hq=>by
      obtain⟨l1,p1⟩:=fA.out.row sJ.out rL;unfold xw;rw[Lg,Lj (by omega)];exact p1 _ (Le _)
     have Nx:Ap (Am u9.heap.size u9 u9):=Ln _ _;obtain⟨m1,m2,m3,m4,m5,m6⟩:=Hx.out u9 Nx.out;have cW:(0:Int)<=(k:Int):=by omega
     have dm:(k:Int)<(y.views.length:Int):=by have:=sI.out;omega
     have DK:(0:Int)<=(j:Int):=by omega
     have hjx:(j:Int)<(x.views.length:Int):=by omega
     have FJ:(j:Int)<(y.views.length:Int):=by have:=sI.out;omega
     clear Oe mN k1 k2 l1 l2 i1 i2 j1 j2 aH ae ak bK Hi eK CU CT pg ph tc Dd;go_wp2_with fail;clear m1 m2 m3 m4 m5 m6
     go_loopw [107] (fun i O4=>∃q:Nat,q<=N/\i=O U (q:Int)/\Ap (Am u9.heap.size u9 O4)) (fun i _=>N-(Ao i).toNat)
     case atStart=>exact⟨0,by omega,rfl,Nx⟩
     obtain⟨q,hq,rfl,oE⟩:=hrel
     by_cases pr:q<N
     . have mZ:(0:Int)<=(q:Int):=by omega
       have KL:(q:Int)<(N:Int):=by omega
       have Bj:(q:Int)<5:=by omega
       obtain⟨m1,m2,m3,m4,m5,m6⟩:=Hx.out wr oE.out;obtain⟨z1,z2,z3,z4⟩:=co.out wr oE.out q pr;have di:=pZ.out q pr;have Du:=Vl.out q pr;obtain⟨vx,rt⟩:=Kh (xw x k q);obtain⟨vy,pk⟩:=Kh (xw y k q);rw[rt] at z1 di Du;rw[pk] at z2 di
       by_cases bj:vx=vy
       . subst bj
         have oT:=zH (di rfl);have M8:=zH Du;have mn:=C2.out q (by omega);obtain⟨x2,x3⟩:=C9.out wr oE.out;have x4:=za x2 (1+q) (Zc _ _ (by omega:q<5));have x5:=za x3 (1+q) (Zc _ _ (by omega:q<5));obtain⟨mm,dU⟩:=Kh (fx q);have Br:fy q=mm:=by rw[<-dU];exact oT.out.1.symm
         rw[dU] at x4 oT mn;rw[Br] at x5 oT;clear di Du rt pk x2 x3 Br z3 z4;go_upto_region 21 with fail
         go_quiet (fail);have i8:=zH dU;have Ie:=zH mn;clear dU mn;obtain⟨y7,y8⟩:=rc.out wr oE.out;go_wp2_with fail;refine(oW.out _ (zF oE.out _) vx M8.out.1 M8.out.2).mono ?_;rintro e w7 ⟨v,rfl,ho,fZ⟩;have T8:(zt (yE T.vs [vx.toNat])).length<=2100:=LE (wg T.vs [vx.toNat]) fA.out.lv;obtain⟨P,hP⟩:=Kh (zt (yE T.vs [vx.toNat]));rw[hP] at T8;rw[hP] at oT;dsimp only at ho;rw[hP] at ho;have G7:Ap (Am u9.heap.size u9 w7):=(zF oE.out _).trans (fZ.mono (zF oE.out _).size);obtain⟨A5,c5,rfl,tH,DE,pR⟩:=ho.form;have pd:=zH pR;have eT:=@run_makeMap Al;dsimp only;clear y7 y8 ho fZ hP pR tH DE m1 m2 m3 m4 m5 m6 z1 z2 x4 x5;go_wp2_with fail;obtain⟨W0,bg,po,fG,bh⟩:=mapI w7;rw[bg];have i5:=zH po;have dQ:=zH bh;clear bg po fG bh eT
         go_loopw [143] (fun i IG=>∃(t:Nat) (S:List Int),t<=P.length/\i=O U (t:Int)/\Ap (SetAt (O U) IG w7.heap.size S)/\Ap (∀z,z∈S↔z∈P.take t)/\Ap (Am w7.heap.size w7 IG)) (fun i _=>P.length-(Ao i).toNat)
         case atStart=>exact⟨0,[],by omega,rfl,i5,(fun z=>by simp),dQ⟩
         obtain⟨t,S,ht,rfl,fb,hS,iT⟩:=hrel
         by_cases fC:t<P.length
         . have nR:(0:Int)<=(t:Int):=by omega
           have Sn:(t:Int)<(P.length:Int):=by omega
           obtain⟨b5,o5,rfl,bJ,p5⟩:=pd.out.at_ t fC;have p5:=(iT.out.cell (p:=⟨b5,o5+t,Z⟩) bJ).trans p5;have dr:=zH (JV fC hS.out);obtain⟨zz,Kl⟩:=Kh (P[t]);rw[Kl] at p5 dr;clear Kl bJ;go_wp2_with (at_mapUpdate;refine qP _ rfl _ _ _ _ _ rfl jT PT w7.heap.size S fb.out zz rfl rfl rfl ?_;intro w5 fF mt)
           go_roundw
           case rel=>exact⟨t+1,zz::S,by omega,by go_num,fF,dr,iT.out.grown mt iT.out.size (fun k e=>by cases e;exact Lh _)⟩
           simp[Ao];omega
         obtain rfl:t=P.length:=by omega
         have Sn:¬(P.length:Int)<(P.length:Int):=by omega
         have HM:Ap (∀z,z∈P->z∈S):=fun z hz=>(hS.out z).2 (by rw[LC];exact hz)
         have G8:Ap (Am u9.heap.size u9 wr):=Lc G7.out iT.out;obtain⟨y7,y8⟩:=rc.out wr G8.out;go_wp2_with fail;clear y7 y8
         go_loopw [153] (fun i IF=>∃r:Nat,r<=N/\i=O U (r:Int)/\Ap (SetAt (O U) IF w7.heap.size S)/\Ap (Am u9.heap.size u9 IF)) (fun i _=>N-(Ao i).toNat)
         case atStart=>exact⟨0,by omega,rfl,fb,G8⟩
         obtain⟨r,hr,rfl,cr,dB⟩:=hrel
         by_cases KH:r<N
         . have lJ:(0:Int)<=(r:Int):=by omega
           have SE:(r:Int)<(N:Int):=by omega
           have hmo:min r 64=r:=by omega
           have tu:(0:Int)<=(mm:Int):=by omega
           obtain⟨m1,m2,m3,m4,m5,m6⟩:=Hx.out wr dB.out;obtain⟨z1,z2,z3,z4⟩:=co.out wr dB.out r KH;have x4:=za (C9.out wr dB.out).1 (1+q) (Zc _ _ (by omega:q<5));rw[i8.out] at x4;have aH:=rm_bit Ie.out (by omega:r<5);have di:=oT.out.2 r KH;obtain⟨bt,B6⟩:=Kh (mm.testBit r);rw[B6] at aH di;clear B6
           cases bt with
           | false=>
            clear di z1 z2;go_upto_region 35 with fail
            go_quiet (fail);go_wp2_with fail
            go_roundw
            case rel=>exact⟨r+1,by omega,by go_num,cr,zF dB.out _⟩
            case measure=>simp[Ao];omega
           | true=>
            obtain⟨e1,e2⟩:=di rfl;rw[<-e1] at z4;obtain⟨vz,AN⟩:=Kh (xw x j r);rw[AN] at z3 z4 e2;have cy:=fun n=>SetAt.look (P:=Al) (t:=52) (show SetAt (O U) (wr.drewN n) w7.heap.size S from cr.out.same rfl) jT PT Xg vz
            rw[Lo (HM.out _ e2)] at cy;clear di e1 e2 AN z1 z2;go_upto_region 35 with fail
            go_quiet (fail);go_wp2_with fail
            go_roundw
            case rel=>exact⟨r+1,by omega,by go_num,cr,zF dB.out _⟩
            case measure=>simp[Ao];omega
         obtain rfl:r=N:=by omega
         have SE:¬(r:Int)<(r:Int):=by omega
         go_wp2_with fail
         go_roundw
         case rel=>exact⟨q+1,by omega,by go_num,dB⟩
         simp[Ao];omega
       have e0:(vx != vy)=Ar:=by simpa using bj
       clear di Du rt pk;go_wp2_with fail
       go_roundw
       case rel=>exact⟨q+1,by omega,by go_num,oE⟩
       simp[Ao];omega
     obtain rfl:q=N:=by omega
     have SI:¬(q:Int)<(q:Int):=by omega
     have Ip:=zH (CO.out wr oE.out);go_wp2_with fail
     go_roundw
     case rel=>exact⟨j+1,by omega,by go_num,Ip⟩
     simp[Ao];omega
   obtain rfl:j=k+1:=by omega
   have Tl:¬((k+1:Nat):Int)<((k+1:Nat):Int):=by omega
   go_wp2_with fail
   go_roundw
   case rel=>exact⟨k+1,by omega,by go_num,bz⟩
   simp[Ao];omega
 obtain rfl:k=x.views.length:=by omega
 have mP:=zH (Lc HZ.out dB.out);go_wp2_with fail;go_ret;exact⟨rfl,mP.out⟩
end
end Go.Proofs.YtkledihebeidlaaGreatDoor
