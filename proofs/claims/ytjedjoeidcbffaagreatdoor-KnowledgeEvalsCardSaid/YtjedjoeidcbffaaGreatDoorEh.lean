/- Merged. -/
import Derived.Orders
import Derived.Test.YtjedjoeidcbffaaGreatDoorEg
import Derived.Deep.Cut
import Derived.Deep.CutBlock
open Go.Proofs.Tryz
open Go.Value renaming int->O,slice->I,bool->Aj,agg->Ak,pointer->Al
open Go.IntKind renaming i64->U
open Option renaming none->Z,some->J
open Go.Obj renaming cells->Ai
open Go.Ending renaming returned->Am
open Go.Proofs.Tryz renaming prog->Aq,func147->Pj,ntmps147->Pc
open Go.RowKit renaming Below->Ar,intOf->Au,Hid->Aw
open Go renaming Calls->As,Value->Ax
open Bool renaming true->AA,false->AC
open List renaming filter_cons->RJ
namespace Go.Proofs.YtjedjoeidcbffaaGreatDoor
abbrev PT:=@List.length_eq_zero_iff
abbrev SD:=@Array.getD_eq_getD_getElem?
set_option maxRecDepth 100000
set_option maxHeartbeats 4000000
section
open Go.RowKit
def upd(l:Nat->Bool)(i:Nat):Nat->Bool:=fun j=>j==i||l j
theorem ql(l:Nat->Bool)(i:Nat):upd l i i=AA:=by simp[upd]
theorem zC{l:Nat->Bool}{i j:Nat}(h:j≠i):upd l i j=l j:=by simp[upd,h]
def yS(ops:Array Oper)(j:Nat):Option Tmp:=(ops[j]?).bind (·.dst)
def yR(ops:Array Oper)(l:Nat->Bool)(val:Nat->Ax)(L:List Nat)(a:Act):Act:=L.foldl (fun a j=>if l j then a.put (yS ops j) (val j) else a) a
theorem Act.put_put_comm(a:Act){x y:Option Tmp}(v u:Ax)(h:∀d,x=J d->y≠J d):(a.put x v).put y u=(a.put y u).put x v:=Act.put_comm a v u h
theorem uV{ops:Array Oper}{l:Nat->Bool}{val:Nat->Ax}{x:Option Tmp}(v:Ax) :
  ∀(L:List Nat) (a:Act),(∀j∈L,∀d,x=J d->yS ops j≠J d)->yR ops l val L (a.put x v)=(yR ops l val L a).put x v
 | [],_,_=>rfl
 | j::L,a,h=>by
  have hj:∀d,x=J d->yS ops j≠J d:=h j (by simp);have hL:∀k∈L,∀d,x=J d->yS ops k≠J d:=fun k hk=>h k (by simp[hk])
  show yR ops l val L (if l j then (a.put x v).put (yS ops j) (val j) else a.put x v)=(yR ops l val L (if l j then a.put (yS ops j) (val j) else a)).put x v
  by_cases hl:l j=AA
  . rw[Li hl,Li hl,Act.put_put_comm a v (val j) hj]
    exact uV v L _ hL
  . rw[Lg hl,Lg hl]
    exact uV v L _ hL
theorem kP{ops:Array Oper}{l l':Nat->Bool}{val val':Nat->Ax} :
  ∀(L:List Nat) (a:Act),(∀j∈L,l' j=l j/\(l j=AA->val' j=val j))->yR ops l' val' L a=yR ops l val L a
 | [],_,_=>rfl
 | j::L,a,h=>by
  have hj:=h j (by simp);show yR ops l' val' L (if l' j then a.put (yS ops j) (val' j) else a)=yR ops l val L (if l j then a.put (yS ops j) (val j) else a);rw[hj.1]
  by_cases hl:l j=AA
  . rw[Li hl,Li hl,hj.2 hl]
    exact kP L _ (fun k hk=>h k (by simp[hk]))
  . rw[Lg hl,Lg hl]
    exact kP L _ (fun k hk=>h k (by simp[hk]))
theorem vN{ops:Array Oper}{l:Nat->Bool}{val val':Nat->Ax}{i:Nat} :
  ∀(L:List Nat) (a:Act),L.Nodup->i∈L->l i=AC->(∀j∈L,j≠i->∀d,yS ops i=J d->yS ops j≠J d)->(∀j,l j=AA->val' j=val j) ->
   yR ops (upd l i) val' L a=(yR ops l val L a).put (yS ops i) (val' i)
 | [],_,_,h,_,_,_=>by cases h
 | j::L,a,hn,hi,eS,hd,hv=>by
  obtain⟨hj,EG⟩:=PQ.1 hn
  by_cases e:j=i
  . subst e
    show yR ops (upd l j) val' L (if upd l j j then a.put (yS ops j) (val' j) else a)=(yR ops l val L (if l j then a.put (yS ops j) (val j) else a)).put (yS ops j) (val' j);rw[ql,Li rfl,eS];rw[kP (l:=l) (l':=upd l j) (val:=val) (val':=val') L (a.put (yS ops j) (val' j)) (fun k hk=>⟨zC (by rintro rfl;exact hj hk),hv k⟩)];rw[Lg (by simp)];exact uV _ L a (fun k hk=>hd k (by simp[hk]) (fun e=>hj (e▸hk)))
  · have fR : i ∈ L := by
     rcases LL.1 hi with h | h
     . exact absurd h.symm e
     . exact h
    show yR ops (upd l i) val' L (if upd l i j then a.put (yS ops j) (val' j) else a)=(yR ops l val L (if l j then a.put (yS ops j) (val j) else a)).put (yS ops i) (val' i);rw[zC e]
    by_cases hl:l j=AA
    . rw[Li hl,Li hl,hv j hl]
      exact vN L _ EG fR eS (fun k hk=>hd k (by simp[hk])) hv
    . rw[Lg hl,Lg hl]
      exact vN L _ EG fR eS (fun k hk=>hd k (by simp[hk])) hv
theorem put_size(a:Act)(x:Option Tmp)(v:Ax):(a.put x v).tmps.size=a.tmps.size:=by cases x<;>simp[Act.put]
theorem put_get_ne(a:Act){x:Option Tmp}(v:Ax){k:Nat}(h:x≠J k):(a.put x v).tmps[k]?=a.tmps[k]?:=by
 cases x with
 | none=>rfl
 | some d=>exact L7 (fun e=>h (by rw[e]))
theorem put_get(a:Act)(v:Ax){k:Nat}(h:k<a.tmps.size):(a.put (J k) v).tmps[k]?=J v:=by simp[Act.put,h]
theorem uW{ops:Array Oper}{l:Nat->Bool}{val:Nat->Ax}{k:Nat}:∀(L:List Nat) (a:Act),(∀j∈L,yS ops j≠J k)->(yR ops l val L a).tmps[k]?=a.tmps[k]?
 | [],_,_=>rfl
 | j::L,a,h=>by
  show(yR ops l val L (if l j then a.put (yS ops j) (val j) else a)).tmps[k]?=a.tmps[k]?;rw[uW L _ (fun i hi=>h i (by simp[hi]))]
  split
  . exact put_get_ne _ _ (h j (by simp))
  . rfl
theorem Xm{ops:Array Oper}{l:Nat->Bool}{val:Nat->Ax}{k i:Nat}(hl:l i=AA)(hd:yS ops i=J k) :
  ∀(L:List Nat) (a:Act),L.Nodup->i∈L->(∀j∈L,j≠i->yS ops j≠J k)->k<a.tmps.size->(yR ops l val L a).tmps[k]?=J (val i)
 | [],_,_,h,_,_=>by cases h
 | j::L,a,hn,hi,h,hk=>by
  obtain⟨hj,EG⟩:=PQ.1 hn;show(yR ops l val L (if l j then a.put (yS ops j) (val j) else a)).tmps[k]?=J (val i)
  by_cases e:j=i
  . subst e
    rw[hl,Li rfl,uW L _ (fun q hq=>h q (by simp[hq]) (fun e=>hj (e▸hq))),hd];exact put_get a _ hk
  · have fR : i ∈ L := by
     rcases LL.1 hi with h' | h'
     . exact absurd h'.symm e
     . exact h'
    refine Xm hl hd L _ EG fR (fun q hq=>h q (by simp[hq])) ?_
    split
    . rw[put_size];exact hk
    . exact hk
structure Agr(ops:Array Oper)(a0:Act)(l:Nat->Bool)(val:Nat->Ax)(a:Act):Prop where
 new:∀(i k:Nat),yS ops i=J k->l i=AA->k<a0.tmps.size->a.eval (.tmp k)=val i
 old:∀(k:Nat),(List.range ops.size).all (fun j=>yS ops j != J k)=AA->a.eval (.tmp k)=a0.eval (.tmp k)
theorem eval_tmp(a:Act)(k:Nat):a.eval (.tmp k)=(a.tmps[k]?).getD undef:=by simp[Act.eval]
theorem Agr.newD{ops:Array Oper}{a0:Act}{l:Nat->Bool}{val:Nat->Ax}{a:Act}(h:Agr ops a0 l val a)(i k:Nat)(hd:yS ops i=J k)(hl:l i=AA)(hk:k<a0.tmps.size):(a.tmps[k]?).getD undef=val i:=(eval_tmp a k).symm.trans (h.new i k hd hl hk)
theorem Agr.oldD{ops:Array Oper}{a0:Act}{l:Nat->Bool}{val:Nat->Ax}{a:Act}(h:Agr ops a0 l val a)(k:Nat)(hd:(List.range ops.size).all (fun j=>yS ops j != J k)=AA):(a.tmps[k]?).getD undef=a0.eval (.tmp k):=(eval_tmp a k).symm.trans (h.old k hd)
section
variable {P:Program} {G:Type}
def StepAt(P:Program)(ops:Array Oper)(Q:Exit->Act->Ba->Prop)(a0:Act)(val:G->Nat->Ax)(Ah:(Nat->Bool)->G->Ba->Prop)(i:Nat)(o:Oper):Prop:=
 ∀(l:Nat->Bool) (g:G) (w:Ba) (a:Act),Ah l g w->l i=AC->(∀e∈o.after.toList,Region.binds .any e=AA->l e.on=AA)->Agr ops a0 l (val g) a ->
  if Region.wanted o (yielded ops a.tmps) then o.wp P a w (fun a' w'=>∃g' v,a'=a.put o.dst v/\val g' i=v/\(∀j,l j=AA->val g' j=val g j)/\Ah (upd l i) g' w') Q
  else ∃g',val g' i=undef/\(∀j,l j=AA->val g' j=val g j)/\Ah (upd l i) g' w
def StepsFrom(P:Program)(ops:Array Oper)(Q:Exit->Act->Ba->Prop)(a0:Act)(val:G->Nat->Ax)(Ah:(Nat->Bool)->G->Ba->Prop):Nat->List Oper->Prop
 | _,[]=>True
 | i,o::rest=>StepAt P ops Q a0 val Ah i o/\StepsFrom P ops Q a0 val Ah (i+1) rest
theorem StepsFrom.at_{ops:Array Oper}{Q:Exit->Act->Ba->Prop}{a0:Act}{val:G->Nat->Ax}{Ah:(Nat->Bool)->G->Ba->Prop} :
  ∀(n:Nat) (os:List Oper),StepsFrom P ops Q a0 val Ah n os->∀i o,os[i]?=J o->StepAt P ops Q a0 val Ah (n+i) o
 | _,[],_,i,o,h=>by simp at h
 | n,o'::os,h,0,o,ho=>by
  simp at ho;subst ho;exact h.1
 | n,o'::os,h,i+1,o,ho=>by
  have:=StepsFrom.at_ (n+1) os h.2 i o (by simpa using ho);rwa[show n+(i+1)=n+1+i from by omega]
def dagB(ops:Array Oper):Bool:=
 (List.range ops.size).all fun i=>match ops[i]? with
  | some o=>o.after.toList.all (fun e=>!Region.binds .any e||decide (e.on<i))&&(List.range ops.size).all (fun j=>j==i||o.dst.isNone||yS ops j != o.dst)
  | none=>AA
theorem dag_edge{ops:Array Oper}(h:dagB ops=AA){i:Nat}{o:Oper}(ho:ops[i]?=J o):∀e∈o.after.toList,Region.binds .any e=AA->e.on<i:=by
 intro e he hb;have hi:i<ops.size:=(Lu.1 ho).1;have:=LT.1 h i (by simpa using hi);simp only[ho,Bool.and_eq_true] at this;have:=LT.1 this.1 e he;simpa[hb] using this
theorem dag_dst{ops:Array Oper}(h:dagB ops=AA){i j d:Nat}(MO:j≠i)(hj:j<ops.size)(hd:yS ops i=J d):yS ops j≠J d:=by
 unfold yS at hd
 cases ho:ops[i]? with
 | none=>simp[ho] at hd
 | some o=>
  simp[ho] at hd;have hi:i<ops.size:=(Lu.1 ho).1;have h1:=LT.1 h i (by simpa using hi);simp only[ho,Bool.and_eq_true] at h1;have h2:=LT.1 h1.2 j (by simpa using hj);simpa[MO,hd] using h2
def YO(l:Nat->Bool)(n:Nat):Nat:=((List.range n).filter fun j=>!l j).length
theorem uA{α:Type}{p q:α->Bool}(h:∀x,q x=AA->p x=AA):∀(L:List α) (x:α),x∈L->p x=AA->q x=AC->(L.filter q).length<(L.filter p).length
 | [],_,hx,_,_=>by cases hx
 | y::L,x,hx,hp,hq=>by
  have eU:∀L:List α,(L.filter q).length<=(L.filter p).length:=by
   intro L
   induction L with
   | nil=>simp
   | cons z L ih=>
    rw[RJ,RJ]
    by_cases hz:q z=AA
    . rw[Li hz,Li (h z hz)];simpa using ih
    . rw[Lg hz]
      split
      . simp only[List.length_cons];omega
      . exact ih
  rw[RJ,RJ];rcases LL.1 hx with rfl | hx
  . rw[hp,hq]
    have:=eU L;simp;omega
  . have ih:=uA h L x hx hp hq
    by_cases hz:q y=AA
    . rw[Li hz,Li (h y hz)];simpa using ih
    . rw[Lg hz]
      split
      . simp only[List.length_cons];omega
      . exact ih
theorem openN_upd{l:Nat->Bool}{n i:Nat}(hi:i<n)(hl:l i=AC):YO (upd l i) n<YO l n:=by
 unfold YO;refine uA (fun x hx=>?_) _ i (by simpa using hi) (by simp[hl]) (by simp[upd]);simp[upd] at hx ⊢;exact hx.2
theorem openN_zero{l:Nat->Bool}{n:Nat}(h:YO l n=0){i:Nat}(hi:i<n):l i=AA:=by
 unfold YO at h;have:=PT.1 h;rw[List.filter_eq_nil_iff] at this;simpa using this i (by simpa using hi)
theorem wpAny_dag{ops:Array Oper}{Q:Exit->Act->Ba->Prop}{a0:Act}{val:G->Nat->Ax}{Ah:(Nat->Bool)->G->Ba->Prop}(hd:dagB ops=AA)
  (hs:StepsFrom P ops Q a0 val Ah 0 ops.toList)
  (oT:∀(l:Nat->Bool) (g:G) (w:Ba),(∀i,i<ops.size->l i=AA)->Ah l g w->Q .normal (yR ops (fun _=>AA) (val g) (List.range ops.size) a0) w) :
  ∀(fuel:Nat) (af:Array Bool) (l:Nat->Bool) (g:G) (w:Ba),YO l ops.size<=fuel->af.size=ops.size->(∀i,i<ops.size->af.getD i AA=l i)->Ah l g w ->
   wpAny P .any ops Q fuel af (yR ops l (val g) (List.range ops.size) a0) w:=by
 have fin:∀(af:Array Bool) (l:Nat->Bool) (g:G) (w:Ba),af.size=ops.size->(∀i,i<ops.size->af.getD i AA=l i)->Ah l g w->(∀i,i<ops.size->l i=AA) ->
   Region.ready .any ops af=[]/\Q .normal (yR ops l (val g) (List.range ops.size) a0) w:=by
  intro af l g w aX hl hJ aO;refine⟨?_,?_⟩
  . refine Su.2 fun i hi=>?_
    obtain⟨h0,o,ho,_⟩:=Rl.1 hi;have aa:i<ops.size:=(Lu.1 ho).1;rw[hl i aa,aO i aa] at h0
    cases h0
  . have:=oT l g w aO hJ
    rwa[kP (l:=l) (val:=val g) _ _ (fun j hj=>⟨(aO j (by simpa using hj)).symm,fun _=>rfl⟩)] at this
 intro fuel
 induction fuel with
 | zero=>
  intro af l g w hf aX hl hJ;exact fin af l g w aX hl hJ (fun i hi=>openN_zero (by omega) hi)
 | succ fuel ih=>
  intro af l g w hf aX hl hJ;refine⟨fun hr=>?_,fun i hi=>?_⟩
  . refine(fin af l g w aX hl hJ fun i hi=>?_).2
    -- the least that is not in l would be ready
    refine Nat.strongRecOn (motive:=fun i=>i<ops.size->l i=AA) i (fun i IH hi=>?_) hi
    cases eS:l i with
    | true=>rfl
    | false=>
     have:i∈Region.ready .any ops af:=by
      refine Rl.2 ⟨by rw[hl i hi,eS],ops[i],by simp[hi],fun e he hb=>?_⟩;have aa:=dag_edge hd (o:=ops[i]) (i:=i) (by simp[hi]) e (by simpa using he) hb;have h1:=IH e.on aa (by omega);rw[<-hl e.on (by omega)] at h1;have h2:e.on<af.size:=by omega
      simpa[Array.getD,h2] using h1
     rw[hr] at this
     cases this
  . obtain⟨h0,o,ho,aO⟩:=Rl.1 hi
    have aa:i<ops.size:=(Lu.1 ho).1;have eS:l i=AC:=by rw[<-hl i aa];exact h0
    have fh:=StepsFrom.at_ 0 ops.toList hs i o (by simpa using ho);rw[LO] at fh
    have aZ:Agr ops a0 l (val g) (yR ops l (val g) (List.range ops.size) a0):=by
     refine⟨fun j k hj hlj hk=>?_,fun k hk=>?_⟩
     · have hjs : j < ops.size := by
        unfold yS at hj;rcases Sm j ops.size with h | h
        . exact h
        . simp[Array.getElem?_eq_none h] at hj
       have:=Xm (val:=val g) hlj hj (List.range ops.size) a0 List.nodup_range (by simpa using hjs) (fun q hq VQ=>dag_dst hd VQ (by simpa using hq) hj) hk;simp[Act.eval,Array.getD_eq_getD_getElem?,this]
     . have:=uW (ops:=ops) (l:=l) (val:=val g) (k:=k) (List.range ops.size) a0 (fun j hj=>by have:=LT.1 hk j hj;simpa using this)
       simp only[Act.eval,Array.getD_eq_getD_getElem?,this]
    have Dw:=fh l g w _ hJ eS (fun e he hb=>by
     have h1:=aO e (by simpa using he) hb;have cB:=dag_edge hd ho e he hb;rw[<-hl e.on (by omega)];have h2:e.on<af.size:=by omega
     simpa[Array.getD,h2] using h1) aZ
    have hdst:yS ops i=o.dst:=by simp[yS,ho]
    have go:∀(g':G) (w':Ba) (v:Ax),val g' i=v->(∀j,l j=AA->val g' j=val g j)->Ah (upd l i) g' w' ->
      wpAny P .any ops Q fuel (af.setIfInBounds i AA) ((yR ops l (val g) (List.range ops.size) a0).put o.dst v) w':=by
     intro g' w' v hv fZ Tw
     have e:=vN (ops:=ops) (l:=l) (val:=val g) (val':=val g') (i:=i) (List.range ops.size) a0 List.nodup_range (by simpa using aa) eS
      (fun j hj pz d hd'=>dag_dst hd pz (by simpa using hj) hd') fZ
     rw[hv,hdst] at e;rw[<-e];refine ih (af.setIfInBounds i AA) (upd l i) g' w' ?_ (by simpa using aX) (fun j hj=>?_) Tw
     . have:=openN_upd aa eS;omega
     . by_cases pz:j=i
       . subst pz
         rw[ql];have:j<af.size:=by omega
         simp[Array.getD,this]
       . rw[zC pz,<-hl j hj]
         exact getD_set_ne AA (fun e=>pz e.symm)
    unfold wpOp;simp only[ho]
    split
    . rename_i hw
      rw[Li hw] at Dw;refine .inl (Sl (fun a' w' h=>?_) Dw);obtain⟨g',v,rfl,hv,fZ,Tw⟩:=h;exact go g' w' v hv fZ Tw
    . rename_i hw
      rw[Lg hw] at Dw;obtain⟨g',hv,fZ,Tw⟩:=Dw;exact go g' w undef hv fZ Tw
theorem XC{ops:Array Oper}{Q:Exit->Act->Ba->Prop}{a0:Act}{w0:Ba}{id:Nat}(hm:P.follows .mixedOrders=AA)(val:G->Nat->Ax)(Ah:(Nat->Bool)->G->Ba->Prop)
  (hd:dagB ops=AA) (g0:G) (h0:Ah (fun _=>AC) g0 w0.drew) (hs:StepsFrom P ops Q a0 val Ah 0 ops.toList)
  (oT:∀(l:Nat->Bool) (g:G) (w:Ba),(∀i,i<ops.size->l i=AA)->Ah l g w->Q .normal (yR ops (fun _=>AA) (val g) (List.range ops.size) a0) w) :
  (Code.region id ops AA).wp P Q a0 w0:=by
 refine wp_region_any hm ?_
 have:=wpAny_dag hd hs oT ops.size (Array.replicate ops.size AC) (fun _=>AC) g0 w0.drew (by unfold YO;exact Lz (RM _ _) (by simp)) (by simp)
  (fun i hi=>by simp[Array.getD,hi]) h0
 have e:yR ops (fun _=>AC) (val g0) (List.range ops.size) a0=a0:=by
  generalize List.range ops.size=L
  induction L with
  | nil=>rfl
  | cons j L ih=>exact ih
 rw[e] at this;exact this
end
def Qi:List (Option Tmp)->(Nat->Ax)->Nat->Act->Act
 | [],_,_,a=>a
 | d::D,v,i,a=>Qi D v (i+1) (a.put d (v i))
theorem putsL_nil(v:Nat->Ax)(i:Nat)(a:Act):Qi [] v i a=a:=rfl
theorem YH(d:Option Tmp)(D:List (Option Tmp))(v:Nat->Ax)(i:Nat)(a:Act):Qi (d::D) v i a=Qi D v (i+1) (a.put d (v i)):=rfl
theorem ZI(ops:Array Oper)(val:Nat->Ax):∀(n i:Nat) (a:Act),i+n=ops.size->yR ops (fun _=>AA) val (List.range' i n) a=Qi ((ops.toList.drop i).map (·.dst)) val i a
 | 0,i,a,h=>by
  have:ops.toList.drop i=[]:=List.drop_eq_nil_of_le (by simp;omega);rw[this];rfl
 | n+1,i,a,h=>by
  have hi:i<ops.toList.length:=by simp;omega
  rw[LB hi,L5,YH,List.range'_succ];have e:yS ops i=ops.toList[i].dst:=by simp[yS,show i<ops.size by omega]
  rw[<-e];exact ZI ops val n (i+1) _ (by omega)
theorem JJ{ops:Array Oper}{val:Nat->Ax}{D:List (Option Tmp)}(hD:ops.toList.map (·.dst)=D)(a:Act):yR ops (fun _=>AA) val (List.range ops.size) a=Qi D val 0 a:=by
 rw[List.range_eq_range',ZI ops val ops.size 0 a (by omega),Nc,hD]
end
section
open Go.RowKit Go.Shelf
attribute [local go_sem] Oper.semAt_some
def XS(k bw:Nat):Ax:=.func (.func k) #[Al (J ⟨bw,0,Z⟩)] #[]
def grF(c:Nat):Ax:=.func (.func 59) #[] #[Al (J ⟨c,0,Z⟩)]
def knF(b:Nat):Ax:=.func (.func 60) #[] #[Al (J ⟨b,0,Z⟩)]
def opQ(x2 x7 x12 x17:Bool)(b0 c1 c2 c3:Nat):Int->Option Ax:=fun g=>if g=10 then (if x2 then J (knF b0) else Z) else if g=11 then (if x7 then J (grF c1) else Z) else if g=12 then (if x12 then J (grF c2) else Z) else if g=13 then (if x17 then J (grF c3) else Z) else Z
def GrB(w:Ba)(c k bw:Nat):Prop:=w.heap[c]?=J (Ai #[XS k bw] 101 (0,0))
theorem GrB.keep{w w':Ba}{c k bw:Nat}(h:GrB w c k bw)(hb:Ar w.heap.size w w'):GrB w' c k bw:=La hb h
theorem GrB.put{w w':Ba}{c k bw mb m:Nat}{F:Int->Option Ax}(h:GrB w c k bw)(hm:MapOf (O U) w mb m F)(hg:w.grownBy w' (J mb)):GrB w' c k bw:=by
 refine(hg.block _ (zj h) (fun e=>?_)).trans h
 cases e
 obtain⟨es,bG,hb,_⟩:=hm;unfold GrB at h;rw[h] at hb;cases hb
structure GOp where
 mb:Nat
 c1:Nat
 c2:Nat
 c3:Nat
def ji(b0 bw:Nat)(g:GOp):Nat->Ax
 | 0=>.map (J g.mb)
 | 1=>knF b0
 | 3=>.func (.func 58) #[] #[]
 | 4=>Al (J ⟨bw,0,Z⟩)
 | 5=>XS 42 bw
 | 6=>grF g.c1
 | 8=>.func (.func 58) #[] #[]
 | 9=>Al (J ⟨bw,0,Z⟩)
 | 10=>XS 43 bw
 | 11=>grF g.c2
 | 13=>.func (.func 58) #[] #[]
 | 14=>Al (J ⟨bw,0,Z⟩)
 | 15=>XS 61 bw
 | 16=>grF g.c3
 | 18=>.map (J g.mb)
 | 19=>.map (J g.mb)
 | _=>undef
theorem valO_mb{l:Nat->Bool}{b0 bw:Nat}{g:GOp}(x:Nat)(hl:l 0=AC)(h18:l 18=AA->l 0=AA)(h19:l 19=AA->l 0=AA):∀j,l j=AA->ji b0 bw { g with mb:=x } j=ji b0 bw g j
 | 0,hj=>absurd hj (by rw[hl];decide)
 | 1,_=>rfl
 | 2,_=>rfl
 | 3,_=>rfl
 | 4,_=>rfl
 | 5,_=>rfl
 | 6,_=>rfl
 | 7,_=>rfl
 | 8,_=>rfl
 | 9,_=>rfl
 | 10,_=>rfl
 | 11,_=>rfl
 | 12,_=>rfl
 | 13,_=>rfl
 | 14,_=>rfl
 | 15,_=>rfl
 | 16,_=>rfl
 | 17,_=>rfl
 | 18,hj=>absurd (h18 hj) (by rw[hl];decide)
 | 19,hj=>absurd (h19 hj) (by rw[hl];decide)
 | _+20,_=>rfl
theorem valO_c1{l:Nat->Bool}{b0 bw:Nat}{g:GOp}(x:Nat)(hl:l 6=AC):∀j,l j=AA->ji b0 bw { g with c1:=x } j=ji b0 bw g j
 | 0,_=>rfl
 | 1,_=>rfl
 | 2,_=>rfl
 | 3,_=>rfl
 | 4,_=>rfl
 | 5,_=>rfl
 | 6,hj=>absurd hj (by rw[hl];decide)
 | 7,_=>rfl
 | 8,_=>rfl
 | 9,_=>rfl
 | 10,_=>rfl
 | 11,_=>rfl
 | 12,_=>rfl
 | 13,_=>rfl
 | 14,_=>rfl
 | 15,_=>rfl
 | 16,_=>rfl
 | 17,_=>rfl
 | 18,_=>rfl
 | 19,_=>rfl
 | _+20,_=>rfl
theorem valO_c2{l:Nat->Bool}{b0 bw:Nat}{g:GOp}(x:Nat)(hl:l 11=AC):∀j,l j=AA->ji b0 bw { g with c2:=x } j=ji b0 bw g j
 | 0,_=>rfl
 | 1,_=>rfl
 | 2,_=>rfl
 | 3,_=>rfl
 | 4,_=>rfl
 | 5,_=>rfl
 | 6,_=>rfl
 | 7,_=>rfl
 | 8,_=>rfl
 | 9,_=>rfl
 | 10,_=>rfl
 | 11,hj=>absurd hj (by rw[hl];decide)
 | 12,_=>rfl
 | 13,_=>rfl
 | 14,_=>rfl
 | 15,_=>rfl
 | 16,_=>rfl
 | 17,_=>rfl
 | 18,_=>rfl
 | 19,_=>rfl
 | _+20,_=>rfl
theorem valO_c3{l:Nat->Bool}{b0 bw:Nat}{g:GOp}(x:Nat)(hl:l 16=AC):∀j,l j=AA->ji b0 bw { g with c3:=x } j=ji b0 bw g j
 | 0,_=>rfl
 | 1,_=>rfl
 | 2,_=>rfl
 | 3,_=>rfl
 | 4,_=>rfl
 | 5,_=>rfl
 | 6,_=>rfl
 | 7,_=>rfl
 | 8,_=>rfl
 | 9,_=>rfl
 | 10,_=>rfl
 | 11,_=>rfl
 | 12,_=>rfl
 | 13,_=>rfl
 | 14,_=>rfl
 | 15,_=>rfl
 | 16,hj=>absurd hj (by rw[hl];decide)
 | 17,_=>rfl
 | 18,_=>rfl
 | 19,_=>rfl
 | _+20,_=>rfl
structure JOp(W:Ba)(b0 bw:Nat)(l:Nat->Bool)(g:GOp)(w:Ba):Prop where
 low:Ar W.heap.size W w
 map:l 0=AA->W.heap.size<=g.mb/\∃m,MapOf (O U) w g.mb m (opQ (l 2) (l 7) (l 12) (l 17) b0 g.c1 g.c2 g.c3)
 q1:l 6=AA->GrB w g.c1 42 bw
 q2:l 11=AA->GrB w g.c2 43 bw
 q3:l 16=AA->GrB w g.c3 61 bw
 d2:l 2=AA->l 0=AA
 d7:l 7=AA->l 0=AA/\l 6=AA
 d12:l 12=AA->l 0=AA/\l 11=AA
 d17:l 17=AA->l 0=AA/\l 16=AA
 d18:l 18=AA->l 0=AA
 d19:l 19=AA->l 0=AA
section
variable {W:Ba} {b0 bw:Nat} {l:Nat->Bool} {g:GOp} {w:Ba}
theorem bf{x y:Bool}(h:x=AA->y=AA)(hy:y=AC):x=AC:=by cases x with | false=>rfl | true=>rw[h rfl] at hy;cases hy
theorem JOp.below(h:JOp W b0 bw l g w){w':Ba}(hb:Ar w.heap.size w w'):JOp W b0 bw l g w':=
 ⟨Lc h.low hb,fun e=>⟨(h.map e).1,by obtain⟨m,hm⟩:=(h.map e).2;exact⟨m,hm.same (hb.block _ hm.lt)⟩⟩,fun e=>(h.q1 e).keep hb,fun e=>(h.q2 e).keep hb,fun e=>(h.q3 e).keep hb,h.d2,h.d7,h.d12,h.d17,h.d18,h.d19⟩
theorem JOp.idle(h:JOp W b0 bw l g w){i:Nat}(hi:i≠0/\i≠2/\i≠6/\i≠7/\i≠11/\i≠12/\i≠16/\i≠17)(h1:i=18\/i=19->l 0=AA):JOp W b0 bw (upd l i) g w:=by
 obtain⟨i0,i2,i6,i7,i11,i12,i16,i17⟩:=hi;have e0:upd l i 0=l 0:=zC (fun e=>i0 e.symm);have e2:upd l i 2=l 2:=zC (fun e=>i2 e.symm);have e6:upd l i 6=l 6:=zC (fun e=>i6 e.symm);have e7:upd l i 7=l 7:=zC (fun e=>i7 e.symm);have fL:upd l i 11=l 11:=zC (fun e=>i11 e.symm);have im:upd l i 12=l 12:=zC (fun e=>i12 e.symm);have lT:upd l i 16=l 16:=zC (fun e=>i16 e.symm);have lB:upd l i 17=l 17:=zC (fun e=>i17 e.symm);refine⟨h.low,?_,?_,?_,?_,?_,?_,?_,?_,?_,?_⟩
 . rw[e0,e2,e7,im,lB];exact h.map
 . rw[e6];exact h.q1
 . rw[fL];exact h.q2
 . rw[lT];exact h.q3
 . rw[e2,e0];exact h.d2
 . rw[e7,e0,e6];exact h.d7
 . rw[im,e0,fL];exact h.d12
 . rw[lB,e0,lT];exact h.d17
 . rw[e0]
   intro e
   by_cases h9:i=18
   . exact h1 (.inl h9)
   rw[zC (fun x=>h9 x.symm)] at e;exact h.d18 e
 rw[e0];intro e
 by_cases h9:i=19
 . exact h1 (.inr h9)
 rw[zC (fun x=>h9 x.symm)] at e;exact h.d19 e
theorem JOp.made(h:JOp W b0 bw l g w)(hl:l 0=AC):JOp W b0 bw (upd l 0) { g with mb:=w.heap.size } (w.alloc (.map #[] 0)):=by
 have h':=h.below (ye w (.map #[] 0));have e2:upd l 0 2=l 2:=zC (by decide);have e6:upd l 0 6=l 6:=zC (by decide);have e7:upd l 0 7=l 7:=zC (by decide);have fL:upd l 0 11=l 11:=zC (by decide);have im:upd l 0 12=l 12:=zC (by decide);have lT:upd l 0 16=l 16:=zC (by decide);have lB:upd l 0 17=l 17:=zC (by decide);have pG:upd l 0 18=l 18:=zC (by decide);have rX:upd l 0 19=l 19:=zC (by decide);have u:upd l 0 0=AA:=ql _ _;have f2:=bf h.d2 hl;have f7:=bf (fun e=>(h.d7 e).1) hl;have f12:=bf (fun e=>(h.d12 e).1) hl;have f17:=bf (fun e=>(h.d17 e).1) hl;refine⟨h'.low,fun _=>⟨h.low.size,0,?_⟩,?_,?_,?_,?_,?_,?_,?_,?_,?_⟩
 . rw[e2,e7,im,lB,f2,f7,f12,f17]
   have e:opQ AC AC AC AC b0 g.c1 g.c2 g.c3=fun _=>Z:=by funext k;simp[opQ]
   show MapOf (O U) (w.alloc (.map #[] 0)) w.heap.size 0 (opQ AC AC AC AC b0 g.c1 g.c2 g.c3);rw[e];exact MapOf.made w
 . rw[e6];exact h'.q1
 . rw[fL];exact h'.q2
 . rw[lT];exact h'.q3
 . intro _;exact u
 . rw[e7,f7];intro e;cases e
 . rw[im,f12];intro e;cases e
 . rw[lB,f17];intro e;cases e
 . intro _;exact u
 intro _;exact u
theorem JOp.call1(h0:JOp W b0 bw l g w)(hl:l 6=AC){w':Ba}(hb:Ar w.heap.size w w'){x:Nat}(hq:GrB w' x 42 bw):JOp W b0 bw (upd l 6) { g with c1:=x } w':=by
 have h:=h0.below hb;have e0:upd l 6 0=l 0:=zC (by decide);have e2:upd l 6 2=l 2:=zC (by decide);have e7:upd l 6 7=l 7:=zC (by decide);have fL:upd l 6 11=l 11:=zC (by decide);have im:upd l 6 12=l 12:=zC (by decide);have lT:upd l 6 16=l 16:=zC (by decide);have lB:upd l 6 17=l 17:=zC (by decide);have pG:upd l 6 18=l 18:=zC (by decide);have rX:upd l 6 19=l 19:=zC (by decide);have u:upd l 6 6=AA:=ql _ _;have fd:=bf (fun e=>(h.d7 e).2) hl;refine⟨h.low,?_,?_,?_,?_,?_,?_,?_,?_,?_,?_⟩
 . rw[e0,e2,e7,im,lB,fd]
   intro e;obtain⟨h1,m,hm⟩:=h.map e;rw[fd] at hm;have ee:opQ (l 2) AC (l 12) (l 17) b0 g.c1 g.c2 g.c3=opQ (l 2) AC (l 12) (l 17) b0 x g.c2 g.c3:=by funext k;simp[opQ]
   rw[ee] at hm;exact⟨h1,m,hm⟩
 . intro _;exact hq
 . rw[fL];exact h.q2
 . rw[lT];exact h.q3
 . rw[e2,e0];exact h.d2
 . rw[e7,fd];intro e;cases e
 . rw[im,e0,fL];exact h.d12
 . rw[lB,e0,lT];exact h.d17
 . rw[pG,e0];exact h.d18
 rw[rX,e0];exact h.d19
theorem JOp.call2(h0:JOp W b0 bw l g w)(hl:l 11=AC){w':Ba}(hb:Ar w.heap.size w w'){x:Nat}(hq:GrB w' x 43 bw):JOp W b0 bw (upd l 11) { g with c2:=x } w':=by
 have h:=h0.below hb;have e0:upd l 11 0=l 0:=zC (by decide);have e2:upd l 11 2=l 2:=zC (by decide);have e6:upd l 11 6=l 6:=zC (by decide);have e7:upd l 11 7=l 7:=zC (by decide);have im:upd l 11 12=l 12:=zC (by decide);have lT:upd l 11 16=l 16:=zC (by decide);have lB:upd l 11 17=l 17:=zC (by decide);have pG:upd l 11 18=l 18:=zC (by decide);have rX:upd l 11 19=l 19:=zC (by decide);have u:upd l 11 11=AA:=ql _ _;have fd:=bf (fun e=>(h.d12 e).2) hl;refine⟨h.low,?_,?_,?_,?_,?_,?_,?_,?_,?_,?_⟩
 . rw[e0,e2,e7,im,lB,fd]
   intro e;obtain⟨h1,m,hm⟩:=h.map e;rw[fd] at hm;have ee:opQ (l 2) (l 7) AC (l 17) b0 g.c1 g.c2 g.c3=opQ (l 2) (l 7) AC (l 17) b0 g.c1 x g.c3:=by funext k;simp[opQ]
   rw[ee] at hm;exact⟨h1,m,hm⟩
 . rw[e6];exact h.q1
 . intro _;exact hq
 . rw[lT];exact h.q3
 . rw[e2,e0];exact h.d2
 . rw[e7,e0,e6];exact h.d7
 . rw[im,fd];intro e;cases e
 . rw[lB,e0,lT];exact h.d17
 . rw[pG,e0];exact h.d18
 rw[rX,e0];exact h.d19
theorem JOp.call3(h0:JOp W b0 bw l g w)(hl:l 16=AC){w':Ba}(hb:Ar w.heap.size w w'){x:Nat}(hq:GrB w' x 61 bw):JOp W b0 bw (upd l 16) { g with c3:=x } w':=by
 have h:=h0.below hb;have e0:upd l 16 0=l 0:=zC (by decide);have e2:upd l 16 2=l 2:=zC (by decide);have e6:upd l 16 6=l 6:=zC (by decide);have e7:upd l 16 7=l 7:=zC (by decide);have fL:upd l 16 11=l 11:=zC (by decide);have im:upd l 16 12=l 12:=zC (by decide);have lB:upd l 16 17=l 17:=zC (by decide);have pG:upd l 16 18=l 18:=zC (by decide);have rX:upd l 16 19=l 19:=zC (by decide);have u:upd l 16 16=AA:=ql _ _;have fd:=bf (fun e=>(h.d17 e).2) hl;refine⟨h.low,?_,?_,?_,?_,?_,?_,?_,?_,?_,?_⟩
 . rw[e0,e2,e7,im,lB,fd]
   intro e;obtain⟨h1,m,hm⟩:=h.map e;rw[fd] at hm;have ee:opQ (l 2) (l 7) (l 12) AC b0 g.c1 g.c2 g.c3=opQ (l 2) (l 7) (l 12) AC b0 g.c1 g.c2 x:=by funext k;simp[opQ]
   rw[ee] at hm;exact⟨h1,m,hm⟩
 . rw[e6];exact h.q1
 . rw[fL];exact h.q2
 . intro _;exact hq
 . rw[e2,e0];exact h.d2
 . rw[e7,e0,e6];exact h.d7
 . rw[im,e0,fL];exact h.d12
 . rw[lB,fd];intro e;cases e
 . rw[pG,e0];exact h.d18
 rw[rX,e0];exact h.d19
theorem JOp.put2(h:JOp W b0 bw l g w)(l0:l 0=AA){w':Ba}{m m':Nat}{F:Int->Option Ax}(hm:MapOf (O U) w g.mb m F)(hg:w.grownBy w' (J g.mb))(sy:MapOf (O U) w' g.mb m' (xH (opQ (l 2) (l 7) (l 12) (l 17) b0 g.c1 g.c2 g.c3) 10 (knF b0))):JOp W b0 bw (upd l 2) g w':=by
 have e0:upd l 2 0=l 0:=zC (by decide);have e6:upd l 2 6=l 6:=zC (by decide);have e7:upd l 2 7=l 7:=zC (by decide);have fL:upd l 2 11=l 11:=zC (by decide);have im:upd l 2 12=l 12:=zC (by decide);have lT:upd l 2 16=l 16:=zC (by decide);have lB:upd l 2 17=l 17:=zC (by decide);have pG:upd l 2 18=l 18:=zC (by decide);have rX:upd l 2 19=l 19:=zC (by decide);have u:upd l 2 2=AA:=ql _ _;refine⟨h.low.grown hg h.low.size (fun k e=>by cases e;exact(h.map l0).1),fun _=>⟨(h.map l0).1,m',?_⟩,?_,?_,?_,?_,?_,?_,?_,?_,?_⟩
 . rw[u,e7,im,lB]
   have ee:xH (opQ (l 2) (l 7) (l 12) (l 17) b0 g.c1 g.c2 g.c3) 10 (knF b0)=opQ AA (l 7) (l 12) (l 17) b0 g.c1 g.c2 g.c3:=by
    funext k
    unfold xH opQ
    by_cases hk:k=10
    . subst hk;simp
    simp[hk]
   rw[ee] at sy;exact sy
 . rw[e6];exact fun e=>(h.q1 e).put hm hg
 . rw[fL];exact fun e=>(h.q2 e).put hm hg
 . rw[lT];exact fun e=>(h.q3 e).put hm hg
 . rw[e0];intro _;exact l0
 . rw[e7,e0,e6];exact h.d7
 . rw[im,e0,fL];exact h.d12
 . rw[lB,e0,lT];exact h.d17
 . rw[pG,e0];exact h.d18
 rw[rX,e0];exact h.d19
theorem JOp.put7(h:JOp W b0 bw l g w)(l0:l 0=AA)(h6:l 6=AA){w':Ba}{m m':Nat}{F:Int->Option Ax}(hm:MapOf (O U) w g.mb m F)(hg:w.grownBy w' (J g.mb))(sy:MapOf (O U) w' g.mb m' (xH (opQ (l 2) (l 7) (l 12) (l 17) b0 g.c1 g.c2 g.c3) 11 (grF g.c1))):JOp W b0 bw (upd l 7) g w':=by
 have e0:upd l 7 0=l 0:=zC (by decide);have e2:upd l 7 2=l 2:=zC (by decide);have e6:upd l 7 6=l 6:=zC (by decide);have fL:upd l 7 11=l 11:=zC (by decide);have im:upd l 7 12=l 12:=zC (by decide);have lT:upd l 7 16=l 16:=zC (by decide);have lB:upd l 7 17=l 17:=zC (by decide);have pG:upd l 7 18=l 18:=zC (by decide);have rX:upd l 7 19=l 19:=zC (by decide);have u:upd l 7 7=AA:=ql _ _;refine⟨h.low.grown hg h.low.size (fun k e=>by cases e;exact(h.map l0).1),fun _=>⟨(h.map l0).1,m',?_⟩,?_,?_,?_,?_,?_,?_,?_,?_,?_⟩
 . rw[e2,u,im,lB]
   have ee:xH (opQ (l 2) (l 7) (l 12) (l 17) b0 g.c1 g.c2 g.c3) 11 (grF g.c1)=opQ (l 2) AA (l 12) (l 17) b0 g.c1 g.c2 g.c3:=by
    funext k
    unfold xH opQ
    by_cases hk:k=11
    . subst hk;simp
    simp[hk]
   rw[ee] at sy;exact sy
 . rw[e6];exact fun e=>(h.q1 e).put hm hg
 . rw[fL];exact fun e=>(h.q2 e).put hm hg
 . rw[lT];exact fun e=>(h.q3 e).put hm hg
 . rw[e2,e0];exact h.d2
 . rw[e0,e6];intro _;exact⟨l0,h6⟩
 . rw[im,e0,fL];exact h.d12
 . rw[lB,e0,lT];exact h.d17
 . rw[pG,e0];exact h.d18
 rw[rX,e0];exact h.d19
theorem JOp.put12(h:JOp W b0 bw l g w)(l0:l 0=AA)(h6:l 11=AA){w':Ba}{m m':Nat}{F:Int->Option Ax}(hm:MapOf (O U) w g.mb m F)(hg:w.grownBy w' (J g.mb))(sy:MapOf (O U) w' g.mb m' (xH (opQ (l 2) (l 7) (l 12) (l 17) b0 g.c1 g.c2 g.c3) 12 (grF g.c2))):JOp W b0 bw (upd l 12) g w':=by
 have e0:upd l 12 0=l 0:=zC (by decide);have e2:upd l 12 2=l 2:=zC (by decide);have e6:upd l 12 6=l 6:=zC (by decide);have e7:upd l 12 7=l 7:=zC (by decide);have fL:upd l 12 11=l 11:=zC (by decide);have lT:upd l 12 16=l 16:=zC (by decide);have lB:upd l 12 17=l 17:=zC (by decide);have pG:upd l 12 18=l 18:=zC (by decide);have rX:upd l 12 19=l 19:=zC (by decide);have u:upd l 12 12=AA:=ql _ _;refine⟨h.low.grown hg h.low.size (fun k e=>by cases e;exact(h.map l0).1),fun _=>⟨(h.map l0).1,m',?_⟩,?_,?_,?_,?_,?_,?_,?_,?_,?_⟩
 . rw[e2,e7,u,lB]
   have ee:xH (opQ (l 2) (l 7) (l 12) (l 17) b0 g.c1 g.c2 g.c3) 12 (grF g.c2)=opQ (l 2) (l 7) AA (l 17) b0 g.c1 g.c2 g.c3:=by
    funext k
    unfold xH opQ
    by_cases hk:k=12
    . subst hk;simp
    simp[hk]
   rw[ee] at sy;exact sy
 . rw[e6];exact fun e=>(h.q1 e).put hm hg
 . rw[fL];exact fun e=>(h.q2 e).put hm hg
 . rw[lT];exact fun e=>(h.q3 e).put hm hg
 . rw[e2,e0];exact h.d2
 . rw[e7,e0,e6];exact h.d7
 . rw[e0,fL];intro _;exact⟨l0,h6⟩
 . rw[lB,e0,lT];exact h.d17
 . rw[pG,e0];exact h.d18
 rw[rX,e0];exact h.d19
theorem JOp.put17(h:JOp W b0 bw l g w)(l0:l 0=AA)(h6:l 16=AA){w':Ba}{m m':Nat}{F:Int->Option Ax}(hm:MapOf (O U) w g.mb m F)(hg:w.grownBy w' (J g.mb))(sy:MapOf (O U) w' g.mb m' (xH (opQ (l 2) (l 7) (l 12) (l 17) b0 g.c1 g.c2 g.c3) 13 (grF g.c3))):JOp W b0 bw (upd l 17) g w':=by
 have e0:upd l 17 0=l 0:=zC (by decide);have e2:upd l 17 2=l 2:=zC (by decide);have e6:upd l 17 6=l 6:=zC (by decide);have e7:upd l 17 7=l 7:=zC (by decide);have fL:upd l 17 11=l 11:=zC (by decide);have im:upd l 17 12=l 12:=zC (by decide);have lT:upd l 17 16=l 16:=zC (by decide);have pG:upd l 17 18=l 18:=zC (by decide);have rX:upd l 17 19=l 19:=zC (by decide);have u:upd l 17 17=AA:=ql _ _;refine⟨h.low.grown hg h.low.size (fun k e=>by cases e;exact(h.map l0).1),fun _=>⟨(h.map l0).1,m',?_⟩,?_,?_,?_,?_,?_,?_,?_,?_,?_⟩
 . rw[e2,e7,im,u]
   have ee:xH (opQ (l 2) (l 7) (l 12) (l 17) b0 g.c1 g.c2 g.c3) 13 (grF g.c3)=opQ (l 2) (l 7) (l 12) AA b0 g.c1 g.c2 g.c3:=by
    funext k
    unfold xH opQ
    by_cases hk:k=13
    . subst hk;simp
    simp[hk]
   rw[ee] at sy;exact sy
 . rw[e6];exact fun e=>(h.q1 e).put hm hg
 . rw[fL];exact fun e=>(h.q2 e).put hm hg
 . rw[lT];exact fun e=>(h.q3 e).put hm hg
 . rw[e2,e0];exact h.d2
 . rw[e7,e0,e6];exact h.d7
 . rw[im,e0,fL];exact h.d12
 . rw[e0,lT];intro _;exact⟨l0,h6⟩
 . rw[pG,e0];exact h.d18
 rw[rX,e0];exact h.d19
theorem JOp.start(g:GOp):JOp W b0 bw (fun _=>AC) g W.drew:=
 ⟨(Ll _ W).drew,fun h=>by simp at h,fun h=>by simp at h,fun h=>by simp at h,fun h=>by simp at h,fun h=>by simp at h,fun h=>by simp at h,fun h=>by simp at h,fun h=>by simp at h,fun h=>by simp at h,fun h=>by simp at h⟩
end
theorem yX{P:Program}{G:Type}{ops:Array Oper}{Q:Exit->Act->Ba->Prop}{val:G->Nat->Ax}{Ah:(Nat->Bool)->G->Ba->Prop}{i:Nat}{o:Oper}{l:Nat->Bool}{g:G}{w:Ba}{a:Act}{E:Prop}(lr:o.guard=Z)
  (h:∀K:Act->Ba->Prop,(∀(g':G) (v:Ax) (w':Ba),val g' i=v->(∀j,l j=AA->val g' j=val g j)->Ah (upd l i) g' w'->K (a.put o.dst v) w')->o.wp P a w K Q) :
  if Region.wanted o (yielded ops a.tmps) then o.wp P a w (fun a' w'=>∃g' v,a'=a.put o.dst v/\val g' i=v/\(∀j,l j=AA->val g' j=val g j)/\Ah (upd l i) g' w') Q else E:=by
 have hw:Region.wanted o (yielded ops a.tmps)=AA:=by simp[Region.wanted,lr]
 rw[Li hw];exact h _ fun g' v w' h1 h2 h3=>⟨g',v,rfl,h1,h2,h3⟩
theorem vt(k bw:Nat)(w:Ba) :
  As Aq 58 #[.func (.func k) #[Al (J ⟨bw,0,Z⟩)] #[]] w fun e w'=>e=Am (grF w.heap.size)/\GrB w' w.heap.size k bw/\Ar w.heap.size w w':=by
 obtain⟨w1,ab,d0,aK,hB⟩:=zk w #[.func (.func k) #[Al (J ⟨bw,0,Z⟩)] #[]] 101;have ai:=zH ab;have D0:=zH d0;have HB:=zH hB;clear ab d0 hB;go_enter func58,ntmps58;go_wp2_with fail;rw[ai.out];go_wp2_with fail;go_ret;exact⟨rfl,D0.out,HB.out⟩
def opG(b0 c1 c2 c3:Nat):Int->Option Ax:=opQ AA AA AA AA b0 c1 c2 c3
structure OpsAt(w:Ba)(bw b0 c1 c2 c3:Nat):Prop where
 b0:w.heap[b0]?=J (Ai #[Al (J ⟨bw,0,Z⟩)] 72 (0,0))
 c1:GrB w c1 42 bw
 c2:GrB w c2 43 bw
 c3:GrB w c3 61 bw
theorem kops_any(bw:Nat)(w:Ba) :
  As Aq 29 #[Al (J ⟨bw,0,Z⟩)] w fun e w'=>∃mb m c1 c2 c3,e=Am (.map (J mb))/\w.heap.size<=mb/\MapOf (O U) w' mb m (opG w.heap.size c1 c2 c3)/\OpsAt w' bw w.heap.size c1 c2 c3/\Ar w.heap.size w w':=by
 obtain⟨w1,ab,d0,aK,hB⟩:=zk w #[Al (J ⟨bw,0,Z⟩)] 72;have hc1:=zh d0 0 rfl;have DI:=zj d0;have ht:Aq.underlying 76=J (.map 3 121):=underlying76;have ai:=zH ab;have D0:=zH d0;have HB:=zH hB;clear ab d0 hB;go_enter func29,ntmps29;go_upto_region 1 with fail
 rw[ai.out];go_upto_region 2 with fail
 refine XC (by kernel_rfl) (ji w.heap.size bw) (JOp w1 w.heap.size bw) (by kernel_rfl) ⟨0,0,0,0⟩ (JOp.start _) ?_ ?_
 . refine⟨?_,?_,?_,?_,?_,?_,?_,?_,?_,?_,?_,?_,?_,?_,?_,?_,?_,?_,?_,?_,trivial⟩
   . intro l g W a hJ eS bX aZ
     refine yX rfl fun K hK=>?_
     have lm:=@run_makeMap Aq 76 W;go_simp;exact hK { g with mb:=W.heap.size } _ _ rfl (valO_mb _ eS hJ.d18 hJ.d19) (hJ.made eS)
   . intro l g W a hJ eS bX aZ
     have e1:(a.tmps[1]?).getD undef=Al (J ⟨w.heap.size,0,Z⟩):=aZ.oldD 1 rfl;refine yX rfl fun K hK=>?_
     go_simp;exact hK g _ _ rfl (fun _ _=>rfl) (hJ.idle (i:=1) (by decide) (fun e=>by simp at e))
   . intro l g W a hJ eS bX aZ
     have l0:=bX ⟨0,.data⟩ (by simp) rfl;have l1:=bX ⟨1,.data⟩ (by simp) rfl;have e4:=aZ.newD 0 4 rfl l0 (by show 4<19;decide);have e5:=aZ.newD 1 5 rfl l1 (by show 5<19;decide);simp only[ji] at e4 e5;refine yX rfl fun K hK=>?_
     obtain⟨m,hm⟩:=(hJ.map l0).2;obtain⟨w',u,m',g'⟩:=hm.put yL ht 10 (knF w.heap.size);go_simp;exact hK g _ _ rfl (fun _ _=>rfl) (hJ.put2 l0 hm g' m')
   . intro l g W a hJ eS bX aZ
     have e3:(a.tmps[3]?).getD undef=.func (.func 58) #[] #[]:=aZ.oldD 3 rfl;refine yX rfl fun K hK=>?_
     go_simp;exact hK g _ _ rfl (fun _ _=>rfl) (hJ.idle (i:=3) (by decide) (fun e=>by simp at e))
   . intro l g W a hJ eS bX aZ
     have e1:(a.tmps[1]?).getD undef=Al (J ⟨w.heap.size,0,Z⟩):=aZ.oldD 1 rfl;refine yX rfl fun K hK=>?_
     have c1:=(hJ.low.cell (p:=⟨w.heap.size,0,Z⟩) DI).trans hc1;go_simp;exact hK g _ _ rfl (fun _ _=>rfl) (hJ.idle (i:=4) (by decide) (fun e=>by simp at e))
   . intro l g W a hJ eS bX aZ
     have l4:=bX ⟨4,.data⟩ (by simp) rfl;have e7:=aZ.newD 4 7 rfl l4 (by show 7<19;decide);simp only[ji] at e7;refine yX rfl fun K hK=>?_
     go_simp;exact hK g _ _ rfl (fun _ _=>rfl) (hJ.idle (i:=5) (by decide) (fun e=>by simp at e))
   . intro l g W a hJ eS bX aZ
     have l3:=bX ⟨3,.data⟩ (by simp) rfl;have l5:=bX ⟨5,.data⟩ (by simp) rfl;have e6:=aZ.newD 3 6 rfl l3 (by show 6<19;decide);have e8:=aZ.newD 5 8 rfl l5 (by show 8<19;decide);simp only[ji] at e6 e8;refine yX rfl fun K hK=>?_
     unfold XS at *;go_simp;refine(vt 42 bw _).mono ?_;rintro e w' ⟨rfl,hq,hb⟩;exact hK { g with c1:=W.heap.size } _ _ rfl (valO_c1 _ eS) (hJ.call1 eS hb hq)
   . intro l g W a hJ eS bX aZ
     have l0:=bX ⟨0,.data⟩ (by simp) rfl;have l6:=bX ⟨6,.data⟩ (by simp) rfl;have e4:=aZ.newD 0 4 rfl l0 (by show 4<19;decide);have e9:=aZ.newD 6 9 rfl l6 (by show 9<19;decide);simp only[ji] at e4 e9;refine yX rfl fun K hK=>?_
     obtain⟨m,hm⟩:=(hJ.map l0).2;obtain⟨w',u,m',g'⟩:=hm.put yL ht 11 (grF g.c1);go_simp;exact hK g _ _ rfl (fun _ _=>rfl) (hJ.put7 l0 l6 hm g' m')
   . intro l g W a hJ eS bX aZ
     have e3:(a.tmps[3]?).getD undef=.func (.func 58) #[] #[]:=aZ.oldD 3 rfl;refine yX rfl fun K hK=>?_
     go_simp;exact hK g _ _ rfl (fun _ _=>rfl) (hJ.idle (i:=8) (by decide) (fun e=>by simp at e))
   . intro l g W a hJ eS bX aZ
     have e1:(a.tmps[1]?).getD undef=Al (J ⟨w.heap.size,0,Z⟩):=aZ.oldD 1 rfl;refine yX rfl fun K hK=>?_
     have c1:=(hJ.low.cell (p:=⟨w.heap.size,0,Z⟩) DI).trans hc1;go_simp;exact hK g _ _ rfl (fun _ _=>rfl) (hJ.idle (i:=9) (by decide) (fun e=>by simp at e))
   . intro l g W a hJ eS bX aZ
     have l9:=bX ⟨9,.data⟩ (by simp) rfl;have fL:=aZ.newD 9 11 rfl l9 (by show 11<19;decide);simp only[ji] at fL;refine yX rfl fun K hK=>?_
     go_simp;exact hK g _ _ rfl (fun _ _=>rfl) (hJ.idle (i:=10) (by decide) (fun e=>by simp at e))
   . intro l g W a hJ eS bX aZ
     have l8:=bX ⟨8,.data⟩ (by simp) rfl;have l10:=bX ⟨10,.data⟩ (by simp) rfl;have Bd:=aZ.newD 8 10 rfl l8 (by show 10<19;decide);have im:=aZ.newD 10 12 rfl l10 (by show 12<19;decide);simp only[ji] at Bd im;refine yX rfl fun K hK=>?_
     unfold XS at *;go_simp;refine(vt 43 bw _).mono ?_;rintro e w' ⟨rfl,hq,hb⟩;exact hK { g with c2:=W.heap.size } _ _ rfl (valO_c2 _ eS) (hJ.call2 eS hb hq)
   . intro l g W a hJ eS bX aZ
     have l0:=bX ⟨0,.data⟩ (by simp) rfl;have l11:=bX ⟨11,.data⟩ (by simp) rfl;have e4:=aZ.newD 0 4 rfl l0 (by show 4<19;decide);have Nb:=aZ.newD 11 13 rfl l11 (by show 13<19;decide);simp only[ji] at e4 Nb;refine yX rfl fun K hK=>?_
     obtain⟨m,hm⟩:=(hJ.map l0).2;obtain⟨w',u,m',g'⟩:=hm.put yL ht 12 (grF g.c2);go_simp;exact hK g _ _ rfl (fun _ _=>rfl) (hJ.put12 l0 l11 hm g' m')
   . intro l g W a hJ eS bX aZ
     have e3:(a.tmps[3]?).getD undef=.func (.func 58) #[] #[]:=aZ.oldD 3 rfl;refine yX rfl fun K hK=>?_
     go_simp;exact hK g _ _ rfl (fun _ _=>rfl) (hJ.idle (i:=13) (by decide) (fun e=>by simp at e))
   . intro l g W a hJ eS bX aZ
     have e1:(a.tmps[1]?).getD undef=Al (J ⟨w.heap.size,0,Z⟩):=aZ.oldD 1 rfl;refine yX rfl fun K hK=>?_
     have c1:=(hJ.low.cell (p:=⟨w.heap.size,0,Z⟩) DI).trans hc1;go_simp;exact hK g _ _ rfl (fun _ _=>rfl) (hJ.idle (i:=14) (by decide) (fun e=>by simp at e))
   . intro l g W a hJ eS bX aZ
     have l14:=bX ⟨14,.data⟩ (by simp) rfl;have e15:=aZ.newD 14 15 rfl l14 (by show 15<19;decide);simp only[ji] at e15;refine yX rfl fun K hK=>?_
     go_simp;exact hK g _ _ rfl (fun _ _=>rfl) (hJ.idle (i:=15) (by decide) (fun e=>by simp at e))
   . intro l g W a hJ eS bX aZ
     have l13:=bX ⟨13,.data⟩ (by simp) rfl;have l15:=bX ⟨15,.data⟩ (by simp) rfl;have e14:=aZ.newD 13 14 rfl l13 (by show 14<19;decide);have lT:=aZ.newD 15 16 rfl l15 (by show 16<19;decide);simp only[ji] at e14 lT;refine yX rfl fun K hK=>?_
     unfold XS at *;go_simp;refine(vt 61 bw _).mono ?_;rintro e w' ⟨rfl,hq,hb⟩;exact hK { g with c3:=W.heap.size } _ _ rfl (valO_c3 _ eS) (hJ.call3 eS hb hq)
   . intro l g W a hJ eS bX aZ
     have l0:=bX ⟨0,.data⟩ (by simp) rfl;have l16:=bX ⟨16,.data⟩ (by simp) rfl;have e4:=aZ.newD 0 4 rfl l0 (by show 4<19;decide);have lB:=aZ.newD 16 17 rfl l16 (by show 17<19;decide);simp only[ji] at e4 lB;refine yX rfl fun K hK=>?_
     obtain⟨m,hm⟩:=(hJ.map l0).2;obtain⟨w',u,m',g'⟩:=hm.put yL ht 13 (grF g.c3);go_simp;exact hK g _ _ rfl (fun _ _=>rfl) (hJ.put17 l0 l16 hm g' m')
   . intro l g W a hJ eS bX aZ
     have l0:=bX ⟨0,.data⟩ (by simp) rfl;have e4:=aZ.newD 0 4 rfl l0 (by show 4<19;decide);simp only[ji] at e4;refine yX rfl fun K hK=>?_
     go_simp;exact hK g _ _ rfl (fun _ _=>rfl) (hJ.idle (i:=18) (by decide) (fun _=>l0))
   intro l g W a hJ eS bX aZ;have l18:=bX ⟨18,.data⟩ (by simp) rfl;have pG:=aZ.newD 18 18 rfl l18 (by show 18<19;decide);simp only[ji] at pG;refine yX rfl fun K hK=>?_
   have l0:=hJ.d18 l18;go_simp;exact hK g _ _ rfl (fun _ _=>rfl) (hJ.idle (i:=19) (by decide) (fun _=>l0))
 intro l g W aO hJ;rw[JJ (D:=[J 4,J 5,Z,J 6,J 7,J 8,J 9,Z,J 10,J 11,J 12,J 13,Z,J 14,J 15,J 16,J 17,Z,J 18,J 2]) rfl];simp only[YH,putsL_nil,ji];obtain⟨oS,m,hm⟩:=hJ.map (aO 0 (by decide));rw[aO 2 (by decide),aO 7 (by decide),aO 12 (by decide),aO 17 (by decide)] at hm;have HM:=zH hm;have HO:Aw (OpsAt W bw w.heap.size g.c1 g.c2 g.c3):=⟨Lb hJ.low DI D0.out,hJ.q1 (aO 6 (by decide)),hJ.q2 (aO 11 (by decide)),hJ.q3 (aO 16 (by decide))⟩;have HL:=zH (Lc HB.out hJ.low);have tk:w.heap.size<=g.mb:=by have:=HB.out.size;omega
 go_simp;go_wp2_with fail;go_ret;exact⟨g.mb,m,g.c1,g.c2,g.c3,rfl,tk,HM.out,HO.out,HL.out⟩
end
section
open Go.RowKit Go.Shelf
attribute [local go_sem] Oper.semAt_some
theorem ZO(a b c:Int)(w:Ba):As Aq 91 #[O U a,O U b,O U c] w fun e w'=>e=Am (Aj (decide (b<=a/\a<=c)))/\w'=w:=by
 go_enter func91,ntmps91
 by_cases h1:b<=a
 . by_cases h2:a<=c
   . have e:decide (b<=a/\a<=c)=AA:=by simp[h1,h2]
     rw[e];go_wp2_with fail;go_ret;exact⟨rfl,rfl⟩
   have e:decide (b<=a/\a<=c)=AC:=by simp[h2]
   rw[e];go_wp2_with fail;go_ret;exact⟨rfl,rfl⟩
 have e:decide (b<=a/\a<=c)=AC:=by simp[h1]
 rw[e];go_wp2_with fail;go_ret;exact⟨rfl,rfl⟩
theorem sized2_any(n d:Nat)(w:Ba):As Aq 92 #[O U (n:Int),O U (d:Int)] w fun e w'=>e=Am (O U (jk (n,d)))/\w'=w:=by
 by_cases h1:128<n
 . have e:jk (n,d)=5:=Li h1
   have e1:(128:Int)<(n:Int):=by omega
   rw[e];go_enter func92,ntmps92;go_wp2_with fail;go_ret;exact⟨rfl,rfl⟩
 by_cases h2:24<d
 . have e:jk (n,d)=12:=by unfold jk;rw[Lg h1,Li h2]
   have e1:¬(128:Int)<(n:Int):=by omega
   have e2:(24:Int)<(d:Int):=by omega
   rw[e];go_enter func92,ntmps92;go_wp2_with fail;go_ret;exact⟨rfl,rfl⟩
 have e:jk (n,d)=0:=by unfold jk;rw[Lg h1,Lg h2]
 have e1:¬(128:Int)<(n:Int):=by omega
 have e2:¬(24:Int)<(d:Int):=by omega
 rw[e];go_enter func92,ntmps92;go_wp2_with fail;go_ret;exact⟨rfl,rfl⟩
theorem Xd(f:Fm)(R:Fm->Nat×Nat)(A:Bb)(c:Nat)(w:Ba)(hl:f.args.length<=1000000)(hb:(zX R f.args).1<=1000000/\(zX R f.args).2<=1000000)
  (bU:RecAt w A f.args fun cs x X=>As Aq 93 #[.agg cs] X fun e w'=>e=Am (.tuple #[O U ((R x).1:Int),O U ((R x).2:Int)])/\Ar X.heap.size X w') :
  As Aq 93 #[.agg (f.vs A c)] w fun e w'=>e=Am (.tuple #[O U ((zX R f.args).1:Int),O U (((zX R f.args).2+1:Nat):Int)])/\Ar w.heap.size w w':=by
 obtain⟨w1,ab,d0,aK,hB⟩:=zk w (f.vs A c) 41;have aB:=zH bU;have iC:=zH (fun k=>kR R f.args k);have ni:=zH (fun k (h:k<f.args.length)=>(by rw[Lr h,kS]:zX R (f.args.take (k+1))=((zX R (f.args.take k)).1+(R f.args[k]).1,max (zX R (f.args.take k)).2 (R f.args[k]).2)));have eH:Aw (zX R (f.args.take f.args.length)=zX R f.args):=by rw[Aw,LC]
 have iX:=zH hb;unfold Fm.vs at ab d0 aB ⊢;obtain⟨l,aU⟩:=Ki f.args;rw[aU] at ab d0 aB iC ni eH iX hl ⊢;obtain⟨T,hT⟩:=Ki (zX R l);rw[hT] at iC eH iX ⊢;obtain⟨n,hn⟩:=Ki l.length;have HN:=zH hn;rw[hn] at ab d0 eH hl ⊢;have ai:=zH ab;have HB:=zH hB;clear ab d0 hB bU hb aU hT hn;go_enter func93,ntmps93;go_wp2_with fail;rw[ai.out];go_wp2_with fail
 go_loopw [4,5,13] (fun a b i wr=>∃k:Nat,k<=n/\i=O U (k:Int)/\a=O U ((zX R (l.take k)).1:Int)/\b=O U ((zX R (l.take k)).2:Int)/\Aw (Ar w1.heap.size w1 wr)) (fun _ _ i _=>n-(Au i).toNat)
 case atStart=>exact⟨0,by omega,rfl,rfl,rfl,Ll _ _⟩
 obtain⟨k,hk,rfl,rfl,rfl,ay⟩:=hrel;obtain⟨a,ha⟩:=Ki ((zX R (l.take k)).1);obtain⟨b,hb⟩:=Ki ((zX R (l.take k)).2)
 have Wq:a<=1000000/\b<=1000000:=by
  have h1:=iC.out k;have h2:=iX.out;omega
 by_cases aa:k<n
 . have bY:k<l.length:=by have:=HN.out;omega
   have eo:=ni.out k bY;have iG:=iC.out (k+1);obtain⟨bb,o,A',c',eA,aY,ah,ak⟩:=aB.out k bY;subst eA;obtain⟨x,hx⟩:=Ki (l[k]);rw[hx] at ah ak eo;obtain⟨Rx,CS⟩:=Ki (R x);dsimp only at ak;rw[CS] at ak eo;rw[ha,hb] at eo;have tw:(zX R (l.take (k+1))).1=a+Rx.1:=by rw[eo]
   have ij:(zX R (l.take (k+1))).2=max b Rx.2:=by rw[eo]
   have az:=zH tw;have au:=zH ij
   have lY:a+Rx.1<=1000000/\max b Rx.2<=1000000:=by
    have h2:=iX.out;omega
   obtain⟨xh,xl⟩:=x;obtain⟨h0,h1,h2,h3,h4⟩:=xh;have hc:∀j v,#[O U h0,O U h1,O U h2,O U h3,O U h4,I A' xl.length c'][j]?=J v->wr.cell? ⟨bb,o+k*6+j,Z⟩=J v:=ah wr (HB.out.trans (ay.out.mono (by have:=HB.out.size;omega)));have z0:wr.cell? ⟨bb,o+k*6,Z⟩=J (O U h0):=hc 0 _ rfl;have z1:wr.cell? ⟨bb,o+k*6+1,Z⟩=J (O U h1):=hc 1 _ rfl;have z2:wr.cell? ⟨bb,o+k*6+2,Z⟩=J (O U h2):=hc 2 _ rfl;have z3:wr.cell? ⟨bb,o+k*6+3,Z⟩=J (O U h3):=hc 3 _ rfl;have z4:wr.cell? ⟨bb,o+k*6+4,Z⟩=J (O U h4):=hc 4 _ rfl;have z5:wr.cell? ⟨bb,o+k*6+5,Z⟩=J (I A' xl.length c'):=hc 5 _ rfl;have dh:(0:Int)<=(k:Int):=by omega
   have aW:(k:Int)<(n:Int):=by omega
   have HC:=zH ak;have sV:=zH ay.out;simp only[Fm.vs,Fm.args,Fm.h] at HC;go_upto_region 5 with fail
   obtain⟨W2,iU,d2,eQ,ag⟩:=zk wr #[O U h0,O U h1,O U h2,O U h3,O U h4,I A' xl.length c'] 41;rw[iU];have cA:=HB.out.size;have aw:=zH (Lc sV.out ag);have cI:=zH (HC.out W2 (HB.out.trans (aw.out.mono cA)));obtain⟨y0,y1,y2,y3,y4,y5,_⟩:=Kg d2;obtain⟨r1,r2⟩:=Rx;dsimp only at cI az au lY;go_wp2_with fail;refine cI.out.mono ?_;rintro e w3 ⟨rfl,aj⟩;have aJ:=zH (Lc aw.out aj);have ab:IntKind.i64.wrap ((a:Int)+(r1:Int))=((a+r1:Nat):Int):=by rw[Ls];omega
   go_wp2_with fail
   go_roundw
   case rel=>exact⟨k+1,by omega,by go_num,by first | (rw[az.out];done) | (rw[az.out];go_num),by first | (rw[au.out];done) | (rw[au.out];go_num),aJ⟩
   simp[Au];omega
 obtain rfl:k=n:=by omega
 have h1:Aw (a=T.1):=by rw[Aw,<-ha,eH.out]
 have h2:Aw (b=T.2):=by rw[Aw,<-hb,eH.out]
 have dR:=zH (HB.out.trans (ay.out.mono (by have:=HB.out.size;omega)));have ab:IntKind.i64.wrap ((b:Int)+1)=((b+1:Nat):Int):=by rw[Ls];omega
 go_wp2_with fail
 go_ret2
 refine⟨?_,dR.out⟩;show Am (.tuple #[O U ((zX R (l.take k)).1:Int),O U ((b:Int)+1)])=_;rw[<-h1.out,<-h2.out,ha];rfl
theorem QI:∀(d:Nat) (f:Fm) (A:Bb) (c:Nat) (w:Ba),FsAt w w.heap.size d A f.args->(yd d f).1<=1000000 ->
  As Aq 93 #[.agg (f.vs A c)] w fun e w'=>e=Am (.tuple #[O U ((yd d f).1:Int),O U ((yd d f).2:Int)])/\Ar w.heap.size w w'
 | 0,f,A,c,w,hA,hb=>by
  have h0:f.args=[]:=hA;exact Xd f (fun _=>(0,0)) A c w (by rw[h0];decide) (by rw[h0];decide) (RecAt.none hA)
 | d+1,f,A,c,w,hA,hb=>by
  have h1:(zX (yd d) f.args).1<=1000000:=hb;have h2:(zX (yd d) f.args).2+1<=(zX (yd d) f.args).1:=jz (d+1) f;have h3:=qf (yd d) (qm d) f.args;refine Xd f (yd d) A c w (by omega) (by omega) (RecAt.of hA fun x A' c' X hx hX=>QI d x A' c' X hX ?_);exact Lz (jy (yd d) hx) h1
def qL(op:Int):List Nat:=if op=1\/op=5 then [1,3] else if op=2 then [3] else if op=3 then [1,2] else if op=4\/op=10 then [1] else if op=6 then [3] else if op=11\/op=12\/op=13 then [4] else []
def fldM(n:Nat)(op:Int):List Int:=if op=1\/op=5 then [(n:Int)-1,7] else if op=2 then [7] else if op=3 then [(n:Int)-1,(n:Int)-1] else if op=4\/op=10 then [(n:Int)-1] else if op=6 then [6] else if op=11\/op=12\/op=13 then [(2:Int)^n-1] else []
def jh(os:List Nat)(ms:List Int)(b:Nat)(w:Ba)(e:Ending)(w':Ba):Prop:=
 ∃A1 A2,e=Am (.tuple #[I A1 os.length os.length,I A2 os.length os.length])/\Ar w.heap.size w w' /\
  ∀k (h:k<os.length),∃g1 g2,A1=J ⟨g1,0,Z⟩/\A2=J ⟨g2,0,Z⟩/\w.heap.size<=g1/\w.heap.size<=g2/\g1<w'.heap.size/\g2<w'.heap.size/\w'.cell? ⟨g1,k,Z⟩=J (Al (J ⟨b,os[k],Z⟩))/\w'.cell? ⟨g2,k,Z⟩=J (O U (ms.getD k 0))
theorem vV{w w':Ba}{b:Nat}{o1 o2:Nat}{m1 m2:Int}{t1 t2:TypeId}{g1 g2:Nat}(hb:Ar w.heap.size w w')(h1:w.heap.size<=g1)(h2:w.heap.size<=g2)
  (d1:w'.heap[g1]?=J (Ai #[Al (J ⟨b,o1,Z⟩),Al (J ⟨b,o2,Z⟩)] t1 (0,0))) (d2:w'.heap[g2]?=J (Ai #[O U m1,O U m2] t2 (0,0))) :
  jh [o1,o2] [m1,m2] b w (Am (.tuple #[I (J ⟨g1,0,Z⟩) 2 2,I (J ⟨g2,0,Z⟩) 2 2])) w':=by
 refine⟨_,_,rfl,hb,fun k hk=>⟨g1,g2,rfl,rfl,h1,h2,zj d1,zj d2,?_⟩⟩;have iH:k<2:=hk;obtain rfl | rfl:k=0\/k=1:=by omega
 . exact⟨zh d1 0 rfl,zh d2 0 rfl⟩
 exact⟨zh d1 1 rfl,zh d2 1 rfl⟩
theorem km{w w':Ba}{b:Nat}{o1:Nat}{m1:Int}{t1 t2:TypeId}{g1 g2:Nat}(hb:Ar w.heap.size w w')(h1:w.heap.size<=g1)(h2:w.heap.size<=g2)
  (d1:w'.heap[g1]?=J (Ai #[Al (J ⟨b,o1,Z⟩)] t1 (0,0))) (d2:w'.heap[g2]?=J (Ai #[O U m1] t2 (0,0))) :
  jh [o1] [m1] b w (Am (.tuple #[I (J ⟨g1,0,Z⟩) 1 1,I (J ⟨g2,0,Z⟩) 1 1])) w':=by
 refine⟨_,_,rfl,hb,fun k hk=>⟨g1,g2,rfl,rfl,h1,h2,zj d1,zj d2,?_⟩⟩;have iH:k<1:=hk;obtain rfl:k=0:=by omega
 exact⟨zh d1 0 rfl,zh d2 0 rfl⟩
theorem j8(n:Nat)(hn:n<=5)(w:Ba):As Aq 169 #[O U (n:Int)] w fun e w'=>e=Am (O U ((2:Int)^n-1))/\w'=w:=by
 obtain rfl | rfl | rfl | rfl | rfl | rfl:n=0\/n=1\/n=2\/n=3\/n=4\/n=5:=by omega
 all_goals
  go_enter func169,ntmps169;go_wp2;go_ret;exact⟨rfl,rfl⟩
theorem xB(w:Ba)(c1 c2:Array Ax)(t1 t2:TypeId):(((w.alloc (Ai c1 t1)).alloc (Ai c2 t2)).heap[w.heap.size]?=J (Ai c1 t1 (0,0)))/\(((w.alloc (Ai c1 t1)).alloc (Ai c2 t2)).heap[w.heap.size+1]?=J (Ai c2 t2 (0,0)))/\Ar w.heap.size w ((w.alloc (Ai c1 t1)).alloc (Ai c2 t2)):=by
 obtain⟨W,h,h1,h2,_,h3⟩:=yV w c1 c2 t1 t2;rw[h];exact⟨h1,h2,h3⟩
theorem fields_1(h:Fh)(A:Bb)(len c n:Nat)(hn:n<=5)(b:Nat)(w:Ba)(hb:w.heap[b]?=J (Ai #[O U h.op,O U h.p,O U h.o,O U h.v,O U h.g,I A len c] 41 (0,0)))(ho:h.op=1) :
  As Aq 147 #[Al (J ⟨b,0,Z⟩),O U (n:Int)] w (jh [1,3] [(n:Int)-1,7] b w):=by
 have p0:=zh hb 0 rfl;rw[ho] at p0;have ab:IntKind.i64.wrap ((n:Int)-1)=(n:Int)-1:=by rw[Ls];omega
 go_enter Pj,Pc;go_wp2_with fail
 go_region_held3 (fun _=>True) (exact trivial) (fail)
 all_goals
  go_wp2_with fail
  go_ret2
 all_goals
  first
  | (obtain ⟨H1, H2, H3⟩ := xB w #[Al (J ⟨b, 1, Z⟩), Al (J ⟨b, 3, Z⟩)] #[O U ((n : Int) - 1), O U (7)] 213 3
     exact vV H3.drew (by omega) (by omega) H1 H2)
  | (obtain ⟨H1, H2, H3⟩ := xB w #[O U ((n : Int) - 1), O U (7)] #[Al (J ⟨b, 1, Z⟩), Al (J ⟨b, 3, Z⟩)] 3 213
     exact vV H3.drew (by omega) (by omega) H2 H1)
theorem fields_5(h:Fh)(A:Bb)(len c n:Nat)(hn:n<=5)(b:Nat)(w:Ba)(hb:w.heap[b]?=J (Ai #[O U h.op,O U h.p,O U h.o,O U h.v,O U h.g,I A len c] 41 (0,0)))(ho:h.op=5) :
  As Aq 147 #[Al (J ⟨b,0,Z⟩),O U (n:Int)] w (jh [1,3] [(n:Int)-1,7] b w):=by
 have p0:=zh hb 0 rfl;rw[ho] at p0;have ab:IntKind.i64.wrap ((n:Int)-1)=(n:Int)-1:=by rw[Ls];omega
 go_enter Pj,Pc;go_wp2_with fail
 go_region_held3 (fun _=>True) (exact trivial) (fail)
 all_goals
  go_wp2_with fail
  go_ret2
 all_goals
  first
  | (obtain ⟨H1, H2, H3⟩ := xB w #[Al (J ⟨b, 1, Z⟩), Al (J ⟨b, 3, Z⟩)] #[O U ((n : Int) - 1), O U (7)] 213 3
     exact vV H3.drew (by omega) (by omega) H1 H2)
  | (obtain ⟨H1, H2, H3⟩ := xB w #[O U ((n : Int) - 1), O U (7)] #[Al (J ⟨b, 1, Z⟩), Al (J ⟨b, 3, Z⟩)] 3 213
     exact vV H3.drew (by omega) (by omega) H2 H1)
theorem fields_2(h:Fh)(A:Bb)(len c n:Nat)(_hn:n<=5)(b:Nat)(w:Ba)(hb:w.heap[b]?=J (Ai #[O U h.op,O U h.p,O U h.o,O U h.v,O U h.g,I A len c] 41 (0,0)))(ho:h.op=2) :
  As Aq 147 #[Al (J ⟨b,0,Z⟩),O U (n:Int)] w (jh [3] [7] b w):=by
 have p0:=zh hb 0 rfl;rw[ho] at p0;go_enter Pj,Pc;go_wp2_with fail
 go_ret2
 obtain⟨H1,H2,H3⟩:=xB w #[Al (J ⟨b,3,Z⟩)] #[O U (7)] 213 3;exact km H3 (by omega) (by omega) H1 H2
theorem fields_3(h:Fh)(A:Bb)(len c n:Nat)(hn:n<=5)(b:Nat)(w:Ba)(hb:w.heap[b]?=J (Ai #[O U h.op,O U h.p,O U h.o,O U h.v,O U h.g,I A len c] 41 (0,0)))(ho:h.op=3) :
  As Aq 147 #[Al (J ⟨b,0,Z⟩),O U (n:Int)] w (jh [1,2] [(n:Int)-1,(n:Int)-1] b w):=by
 have p0:=zh hb 0 rfl;rw[ho] at p0;have ab:IntKind.i64.wrap ((n:Int)-1)=(n:Int)-1:=by rw[Ls];omega
 go_enter Pj,Pc;go_wp2_with fail
 go_region_held3 (fun _=>True) (exact trivial) (fail)
 all_goals
  go_wp2_with fail
  go_ret2
 all_goals
  first
  | (obtain ⟨H1, H2, H3⟩ := xB w #[Al (J ⟨b, 1, Z⟩), Al (J ⟨b, 2, Z⟩)] #[O U ((n : Int) - 1), O U ((n : Int) - 1)] 213 3
     exact vV H3.drew (by omega) (by omega) H1 H2)
  | (obtain ⟨H1, H2, H3⟩ := xB w #[O U ((n : Int) - 1), O U ((n : Int) - 1)] #[Al (J ⟨b, 1, Z⟩), Al (J ⟨b, 2, Z⟩)] 3 213
     exact vV H3.drew (by omega) (by omega) H2 H1)
theorem fields_4(h:Fh)(A:Bb)(len c n:Nat)(hn:n<=5)(b:Nat)(w:Ba)(hb:w.heap[b]?=J (Ai #[O U h.op,O U h.p,O U h.o,O U h.v,O U h.g,I A len c] 41 (0,0)))(ho:h.op=4) :
  As Aq 147 #[Al (J ⟨b,0,Z⟩),O U (n:Int)] w (jh [1] [(n:Int)-1] b w):=by
 have p0:=zh hb 0 rfl;rw[ho] at p0;have ab:IntKind.i64.wrap ((n:Int)-1)=(n:Int)-1:=by rw[Ls];omega
 go_enter Pj,Pc;go_wp2_with fail
 go_ret2
 obtain⟨H1,H2,H3⟩:=xB w #[Al (J ⟨b,1,Z⟩)] #[O U ((n:Int)-1)] 213 3;exact km H3 (by omega) (by omega) H1 H2
theorem fields_10(h:Fh)(A:Bb)(len c n:Nat)(hn:n<=5)(b:Nat)(w:Ba)(hb:w.heap[b]?=J (Ai #[O U h.op,O U h.p,O U h.o,O U h.v,O U h.g,I A len c] 41 (0,0)))(ho:h.op=10) :
  As Aq 147 #[Al (J ⟨b,0,Z⟩),O U (n:Int)] w (jh [1] [(n:Int)-1] b w):=by
 have p0:=zh hb 0 rfl;rw[ho] at p0;have ab:IntKind.i64.wrap ((n:Int)-1)=(n:Int)-1:=by rw[Ls];omega
 go_enter Pj,Pc;go_wp2_with fail
 go_ret2
 obtain⟨H1,H2,H3⟩:=xB w #[Al (J ⟨b,1,Z⟩)] #[O U ((n:Int)-1)] 213 3;exact km H3 (by omega) (by omega) H1 H2
theorem fields_6(h:Fh)(A:Bb)(len c n:Nat)(_hn:n<=5)(b:Nat)(w:Ba)(hb:w.heap[b]?=J (Ai #[O U h.op,O U h.p,O U h.o,O U h.v,O U h.g,I A len c] 41 (0,0)))(ho:h.op=6) :
  As Aq 147 #[Al (J ⟨b,0,Z⟩),O U (n:Int)] w (jh [3] [6] b w):=by
 have p0:=zh hb 0 rfl;rw[ho] at p0;go_enter Pj,Pc;go_wp2_with fail
 go_ret2
 obtain⟨H1,H2,H3⟩:=xB w #[Al (J ⟨b,3,Z⟩)] #[O U (6)] 213 3;exact km H3 (by omega) (by omega) H1 H2
theorem fields_11(h:Fh)(A:Bb)(len c n:Nat)(hn:n<=5)(b:Nat)(w:Ba)(hb:w.heap[b]?=J (Ai #[O U h.op,O U h.p,O U h.o,O U h.v,O U h.g,I A len c] 41 (0,0)))(ho:h.op=11) :
  As Aq 147 #[Al (J ⟨b,0,Z⟩),O U (n:Int)] w (jh [4] [(2:Int)^n-1] b w):=by
 have p0:=zh hb 0 rfl;rw[ho] at p0;have HE:=zH (fun W=>j8 n hn W);go_enter Pj,Pc;go_wp2_with fail
 go_region_held3 (fun _=>True) (exact trivial) ((go_at_call 169;refine(HE.out _).mono ?_;rintro e w2 ⟨rfl,rfl⟩))
 all_goals
  go_wp2_with fail
  go_ret2
 all_goals
  first
  | (obtain ⟨H1, H2, H3⟩ := xB w #[Al (J ⟨b, 4, Z⟩)] #[O U ((2 : Int) ^ n - 1)] 213 3
     exact km H3.drew (by omega) (by omega) H1 H2)
  | (obtain ⟨H1, H2, H3⟩ := xB w #[O U ((2 : Int) ^ n - 1)] #[Al (J ⟨b, 4, Z⟩)] 3 213
     exact km H3.drew (by omega) (by omega) H2 H1)
theorem fields_12(h:Fh)(A:Bb)(len c n:Nat)(hn:n<=5)(b:Nat)(w:Ba)(hb:w.heap[b]?=J (Ai #[O U h.op,O U h.p,O U h.o,O U h.v,O U h.g,I A len c] 41 (0,0)))(ho:h.op=12) :
  As Aq 147 #[Al (J ⟨b,0,Z⟩),O U (n:Int)] w (jh [4] [(2:Int)^n-1] b w):=by
 have p0:=zh hb 0 rfl;rw[ho] at p0;have HE:=zH (fun W=>j8 n hn W);go_enter Pj,Pc;go_wp2_with fail
 go_region_held3 (fun _=>True) (exact trivial) ((go_at_call 169;refine(HE.out _).mono ?_;rintro e w2 ⟨rfl,rfl⟩))
 all_goals
  go_wp2_with fail
  go_ret2
 all_goals
  first
  | (obtain ⟨H1, H2, H3⟩ := xB w #[Al (J ⟨b, 4, Z⟩)] #[O U ((2 : Int) ^ n - 1)] 213 3
     exact km H3.drew (by omega) (by omega) H1 H2)
  | (obtain ⟨H1, H2, H3⟩ := xB w #[O U ((2 : Int) ^ n - 1)] #[Al (J ⟨b, 4, Z⟩)] 3 213
     exact km H3.drew (by omega) (by omega) H2 H1)
theorem fields_13(h:Fh)(A:Bb)(len c n:Nat)(hn:n<=5)(b:Nat)(w:Ba)(hb:w.heap[b]?=J (Ai #[O U h.op,O U h.p,O U h.o,O U h.v,O U h.g,I A len c] 41 (0,0)))(ho:h.op=13) :
  As Aq 147 #[Al (J ⟨b,0,Z⟩),O U (n:Int)] w (jh [4] [(2:Int)^n-1] b w):=by
 have p0:=zh hb 0 rfl;rw[ho] at p0;have HE:=zH (fun W=>j8 n hn W);go_enter Pj,Pc;go_wp2_with fail
 go_region_held3 (fun _=>True) (exact trivial) ((go_at_call 169;refine(HE.out _).mono ?_;rintro e w2 ⟨rfl,rfl⟩))
 all_goals
  go_wp2_with fail
  go_ret2
 all_goals
  first
  | (obtain ⟨H1, H2, H3⟩ := xB w #[Al (J ⟨b, 4, Z⟩)] #[O U ((2 : Int) ^ n - 1)] 213 3
     exact km H3.drew (by omega) (by omega) H1 H2)
  | (obtain ⟨H1, H2, H3⟩ := xB w #[O U ((2 : Int) ^ n - 1)] #[Al (J ⟨b, 4, Z⟩)] 3 213
     exact km H3.drew (by omega) (by omega) H2 H1)
theorem fields_no(h:Fh)(A:Bb)(len c n:Nat)(b:Nat)(w:Ba)(hb:w.heap[b]?=J (Ai #[O U h.op,O U h.p,O U h.o,O U h.v,O U h.g,I A len c] 41 (0,0)))(ho:¬(h.op=1\/h.op=5\/h.op=2\/h.op=3\/h.op=4\/h.op=10\/h.op=6\/h.op=11\/h.op=12\/h.op=13)) :
  As Aq 147 #[Al (J ⟨b,0,Z⟩),O U (n:Int)] w (jh [] [] b w):=by
 have p0:=zh hb 0 rfl;have n1:¬h.op=1:=by omega
 have n5:¬h.op=5:=by omega
 have n2:¬h.op=2:=by omega
 have n3:¬h.op=3:=by omega
 have n4:¬h.op=4:=by omega
 have n10:¬h.op=10:=by omega
 have n6:¬h.op=6:=by omega
 have n11:¬h.op=11:=by omega
 have n12:¬h.op=12:=by omega
 have n13:¬h.op=13:=by omega
 go_enter Pj,Pc;go_wp2_with fail
 go_ret2
 exact⟨Z,Z,rfl,Ll _ _,fun k hk=>absurd hk (by simp)⟩
theorem fields_any(h:Fh)(A:Bb)(len c n:Nat)(hn:n<=5)(b:Nat)(w:Ba)(hb:w.heap[b]?=J (Ai #[O U h.op,O U h.p,O U h.o,O U h.v,O U h.g,I A len c] 41 (0,0))) :
  As Aq 147 #[Al (J ⟨b,0,Z⟩),O U (n:Int)] w (jh (qL h.op) (fldM n h.op) b w):=by
 by_cases e1:h.op=1
 . have:=fields_1 h A len c n hn b w hb e1
   rw[e1];exact this
 by_cases e5:h.op=5
 . have:=fields_5 h A len c n hn b w hb e5
   rw[e5];exact this
 by_cases e2:h.op=2
 . have:=fields_2 h A len c n hn b w hb e2
   rw[e2];exact this
 by_cases e3:h.op=3
 . have:=fields_3 h A len c n hn b w hb e3
   rw[e3];exact this
 by_cases e4:h.op=4
 . have:=fields_4 h A len c n hn b w hb e4
   rw[e4];exact this
 by_cases Bd:h.op=10
 . have:=fields_10 h A len c n hn b w hb Bd
   rw[Bd];exact this
 by_cases e6:h.op=6
 . have:=fields_6 h A len c n hn b w hb e6
   rw[e6];exact this
 by_cases fL:h.op=11
 . have:=fields_11 h A len c n hn b w hb fL
   rw[fL];exact this
 by_cases im:h.op=12
 . have:=fields_12 h A len c n hn b w hb im
   rw[im];exact this
 by_cases Nb:h.op=13
 . have:=fields_13 h A len c n hn b w hb Nb
   rw[Nb];exact this
 have h1:qL h.op=[]:=by unfold qL;simp[e1,e5,e2,e3,e4,Bd,e6,fL,im,Nb]
 have h2:fldM n h.op=[]:=by unfold fldM;simp[e1,e5,e2,e3,e4,Bd,e6,fL,im,Nb]
 rw[h1,h2];exact fields_no h A len c n b w hb (by omega)
theorem XY{w w':Ba}{b B:Nat}(h:Wrote (fun z=>z=b) w w')(hb:B<=b)(hl:B<=w.heap.size):Ar B w w':=⟨h.os,h.tape,h.output,h.size,fun k hk=>h.block k (by omega) (by show ¬k=b;omega)⟩
def Fh.at(h:Fh)(a:Nat):Int:=if a=1 then h.p else if a=2 then h.o else if a=3 then h.v else h.g
def Fh.zero(h:Fh)(a:Nat):Fh:=if a=1 then { h with p:=0 } else if a=2 then { h with o:=0 } else if a=3 then { h with v:=0 } else { h with g:=0 }
def zF(h:Fh)(os:List Nat):Nat->Fh
 | 0=>h
 | k+1=>(zF h os k).zero (os.getD k 0)
def fcs(h:Fh)(A:Bb)(len c:Nat):Array Ax:=#[O U h.op,O U h.p,O U h.o,O U h.v,O U h.g,I A len c]
theorem fcs_cell{w:Ba}{b:Nat}{h:Fh}{A:Bb}{len c:Nat}(hb:w.heap[b]?=J (Ai (fcs h A len c) 41 (0,0))){a:Nat}(h1:1<=a)(h4:a<=4):w.cell? ⟨b,a,Z⟩=J (O U (h.at a)):=by
 obtain rfl | rfl | rfl | rfl:a=1\/a=2\/a=3\/a=4:=by omega
 . exact zh hb 1 rfl
 . exact zh hb 2 rfl
 . exact zh hb 3 rfl
 exact zh hb 4 rfl
theorem fcs_set(h:Fh)(A:Bb)(len c:Nat){a:Nat}(h1:1<=a)(h4:a<=4):(fcs h A len c).set! a (O U 0)=fcs (h.zero a) A len c:=by
 obtain rfl | rfl | rfl | rfl:a=1\/a=2\/a=3\/a=4:=by omega
 all_goals rfl
theorem fld_ok(op:Int):(qL op).length<=2/\(∀k (h:k<(qL op).length),1<=(qL op)[k]/\(qL op)[k]<=4):=by
 have key:∀l:List Nat,l∈[[1,3],[3],[1,2],[1],[4],[]]->l.length<=2/\∀k (h:k<l.length),1<=l[k]/\l[k]<=4:=by
  intro l hl;simp only[List.mem_cons,List.not_mem_nil,or_false] at hl
  have h2:(∀a∈l,1<=a/\a<=4)/\l.length<=2:=by
   rcases hl with rfl | rfl | rfl | rfl | rfl | rfl<;>decide
  exact⟨h2.2,fun k hk=>h2.1 _ (Ld hk)⟩
 refine key _ ?_;unfold qL
 repeat' split
 all_goals simp
theorem nod_prog{n:Nat}{h:Fh}{m:Nat}(h0:0<=h.op)(Na:h.op<=17)(hm:(m:Int)=arN h.op) :
  (∀k (hk:k<(qL h.op).length),((zF h (qL h.op) k).at (qL h.op)[k]<0\/(fldM n h.op).getD k 0<(zF h (qL h.op) k).at (qL h.op)[k])->xV n h m=2) /\
  ((∀k (hk:k<(qL h.op).length),0<=(zF h (qL h.op) k).at (qL h.op)[k]/\(zF h (qL h.op) k).at (qL h.op)[k]<=(fldM n h.op).getD k 0) ->
   xV n h m=if (zF h (qL h.op) (qL h.op).length).p≠0\/(zF h (qL h.op) (qL h.op).length).o≠0\/(zF h (qL h.op) (qL h.op).length).v≠0\/(zF h (qL h.op) (qL h.op).length).g≠0 then 3 else 0):=by
 obtain⟨op,p,o,v,g⟩:=h;dsimp only at h0 Na hm ⊢;have e1:¬(op<0\/17<op):=by omega
 have e2:¬((m:Int)≠arN op):=by simp[hm]
 unfold xV;dsimp only;rw[Lg e1,Lg e2];clear e1 e2 hm;have mT:=(fld_ok op).1;obtain rfl | rfl | rfl | rfl | rfl | rfl | rfl | rfl | rfl | rfl | rfl | rfl | rfl | rfl | rfl | rfl | rfl | rfl:op=0\/op=1\/op=2\/op=3\/op=4\/op=5\/op=6\/op=7\/op=8\/op=9\/op=10\/op=11\/op=12\/op=13\/op=14\/op=15\/op=16\/op=17:=by omega
 all_goals
  refine⟨fun k hk hh=>?_,fun hh=>?_⟩
  . have iH:k=0\/k=1:=by omega
    simp only[usP,usO,usV,usG,mxV];rcases iH with rfl | rfl
    all_goals
     simp[qL,fldM,zF,Fh.at,Fh.zero] at hk hh ⊢
     try omega
  . have h0:=hh 0
    have h1:=hh 1;simp only[usP,usO,usV,usG,mxV];clear hh;simp[qL,fldM,zF,Fh.at,Fh.zero] at h0 h1 ⊢
    try omega
theorem ZG(n:Nat)(_hn1:1<=n)(hn:n<=5)(f:Fm)(R:Fm->Int)(A:Bb)(c:Nat)(w:Ba)(hl:f.args.length<=1000000)
  (bU:RecAt w A f.args fun cs x X=>As Aq 94 #[.agg cs,O U (n:Int)] X fun e w'=>e=Am (O U (R x))/\Ar X.heap.size X w') :
  As Aq 94 #[.agg (f.vs A c),O U (n:Int)] w fun e w'=>e=Am (O U (ZU n R f))/\Ar w.heap.size w w':=by
 obtain⟨w1,ab,d0,aK,hB⟩:=zk w (f.vs A c) 41;have aB:=zH bU;have mG:=zH aK;clear aK;have Mj:=zH (fun a b c W=>ZO a b c W);obtain⟨⟨op,hp,ho,hv,hg⟩,l⟩:=f;obtain⟨E,hE⟩:=Ki (ZU n R (.mk ⟨op,hp,ho,hv,hg⟩ l));have HE:Aw (E=if xV n ⟨op,hp,ho,hv,hg⟩ l.length≠0 then xV n ⟨op,hp,ho,hv,hg⟩ l.length else ZW (l.map R)):=hE.symm;rw[hE];simp only[Fm.vs,Fm.args,Fm.h] at ab d0 aB hl HE ⊢;obtain⟨m,hm⟩:=Ki l.length;have HM:=zH hm;rw[hm] at ab d0 hl HE ⊢;have ai:=zH ab;have HB:=zH hB;have bK:=zH d0;obtain⟨p0,p1,p2,p3,p4,p5,_⟩:=Kg d0;clear ab d0 hB bU hm hE;go_enter func94,ntmps94;go_wp2_with fail;rw[ai.out];go_wp2_with fail;refine(Mj.out _ _ _ _).mono ?_;rintro e w2 ⟨rfl,bZ⟩;obtain rfl:=bZ
 by_cases cG:0<=op/\op<=17
 case neg=>
  have e0:decide (0<=op/\op<=17)=AC:=Lj cG
  have aH:Aw (E=1):=by
   have h1:xV n ⟨op,hp,ho,hv,hg⟩ m=1:=Li (by show op<0\/17<op;omega);rw[Aw,HE.out,h1];rfl
  clear HE aB cG;go_wp2_with fail;go_ret;rw[aH.out];exact⟨rfl,HB.out⟩
 have e0:decide (0<=op/\op<=17)=AA:=Lm cG
 go_upto_block 0 with fail
 go_cut [0,5] from 14 (fun s0 s5 wx=>s0=Ak #[O U op,O U hp,O U ho,O U hv,O U hg,I A m c]/\s5=O U (arN op)/\wx=w2)
 case first=>
  clear HE aB;obtain rfl | rfl | rfl | rfl | rfl | rfl | rfl | rfl | rfl | rfl | rfl | rfl | rfl | rfl | rfl | rfl | rfl | rfl:op=0\/op=1\/op=2\/op=3\/op=4\/op=5\/op=6\/op=7\/op=8\/op=9\/op=10\/op=11\/op=12\/op=13\/op=14\/op=15\/op=16\/op=17:=by omega
  all_goals
   go_wp2_with fail
   go_meet
   exact⟨rfl,rfl,rfl⟩
 obtain⟨rfl,rfl,rfl⟩:=hcut
 by_cases hm:(m:Int)=arN op
 case neg=>
  have aH:Aw (E=15):=by
   have h1:xV n ⟨op,hp,ho,hv,hg⟩ m=15:=by unfold xV;rw[Lg (by show ¬(op<0\/17<op);omega),Li hm]
   rw[Aw,HE.out,h1];rfl
  have e1:((m:Int) != arN op)=AA:=by simpa using hm
  clear HE aB cG;go_wp2_with fail;go_ret;rw[aH.out];exact⟨rfl,HB.out⟩
 have e1:((m:Int) != arN op)=AC:=by simpa using hm
 go_upto_region 20 with fail
 obtain⟨W2,iU,d2,eQ,ag⟩:=zk wc #[O U op,O U hp,O U ho,O U hv,O U hg,I A m c] 41;rw[iU];have hBs:=HB.out.size;have dS:=zH eQ;clear eQ;have aw:=zH (HB.out.trans (ag.mono hBs));have HF:=zH (fields_any ⟨op,hp,ho,hv,hg⟩ A m c n hn wc.heap.size W2 d2);obtain⟨pA,EM⟩:=fld_ok op;obtain⟨Tq,Tp⟩:=nod_prog (n:=n) (h:=⟨op,hp,ho,hv,hg⟩) (m:=m) cG.1 cG.2 hm;have bK:=zH (La ag bK.out);have nk:=zH d2;dsimp only at HF Tq Tp pA EM
 revert HF Tq Tp pA EM
 generalize qL op=os
 generalize fldM n op=ms
 intro HF pA EM Tq Tp;have Cn:=zH Tq;have Em:=zH Tp;have Md:=zH EM;unfold jh at HF;obtain⟨q,hq⟩:=Ki os.length;have HQ:=zH hq;rw[hq] at pA;simp only[hq] at HF;clear iU d2 ag Tq Tp EM p0 p1 p2 p3 p4 p5 e0 e1 hm;go_wp2_with fail;refine HF.out.mono ?_;rintro e W3 ⟨A1,A2,rfl,aj,ex⟩;have eK:=aj.size;have aJ:=zH (aw.out.trans (aj.mono (by have:=dS.out;omega)));have mL:=zH ex;have bK:=zH (La aj bK.out);have sY:Aw (W3.heap[wc.heap.size]?=J (Ai (fcs (zF ⟨op,hp,ho,hv,hg⟩ os 0) A m c) 41 (0,0))):=La aj nk.out;have ir:Aw (∀X,Wrote (fun z=>z=wc.heap.size) W3 X->X.heap[w.heap.size]?=J (Ai #[O U op,O U hp,O U ho,O U hv,O U hg,I A m c] 41 (0,0))):=fun X hX=>(hX.block _ (zj bK.out) (by have:=mG.out;omega)).trans bK.out
 clear aj ex HF nk bK;go_wp2_with fail
 go_loopw [45] (fun i wr=>∃k:Nat,k<=q/\i=O U (k:Int)/\Aw (∀j (hj:j<os.length),j<k->0<=(zF ⟨op,hp,ho,hv,hg⟩ os j).at os[j]/\(zF ⟨op,hp,ho,hv,hg⟩ os j).at os[j]<=ms.getD j 0)/\Aw (wr.heap[wc.heap.size]?=J (Ai (fcs (zF ⟨op,hp,ho,hv,hg⟩ os k) A m c) 41 (0,0)))/\Aw (Wrote (fun z=>z=wc.heap.size) W3 wr)) (fun i _=>q-(Au i).toNat)
 case atStart=>exact⟨0,by omega,rfl,fun j _ h=>absurd h (by omega),sY,Wrote.refl _ _⟩
 obtain⟨k,hk,rfl,ld,hZ,mD⟩:=hrel;clear sY
 by_cases Wb:k<q
 . have hko:k<os.length:=by have:=HQ.out;omega
   obtain⟨g1,g2,rfl,rfl,fD,ib,iR,mT,c1,c2⟩:=mL.out k (by have:=HQ.out;omega);obtain⟨fK,DT⟩:=Md.out k hko;have ij:=Cn.out k hko;obtain⟨a,ha⟩:=Ki (os[k]);have Ss:os.getD k 0=a:=by rw[zt hko];exact ha
   obtain⟨Ag,ER⟩:=Ki (zF ⟨op,hp,ho,hv,hg⟩ os k);have hZ1:zF ⟨op,hp,ho,hv,hg⟩ os (k+1)=Ag.zero a:=by rw[zF,ER,Ss]
   obtain⟨mx,Im⟩:=Ki (ms.getD k 0)
   have HGK:Aw (0<=Ag.at a/\Ag.at a<=mx->∀j (hj:j<os.length),j<k+1->0<=(zF ⟨op,hp,ho,hv,hg⟩ os j).at os[j]/\(zF ⟨op,hp,ho,hv,hg⟩ os j).at os[j]<=ms.getD j 0):=fun h j hj CO=>by
    by_cases e:j=k
    . subst e;rw[ER,ha,Im];exact h
    . exact ld.out j hj (by omega)
   simp only[ha,ER,Im] at ij c1 c2 fK DT;rw[ER] at hZ;have u1:=(LH (a:=⟨g1,k,Z⟩) (mD.out.block g1 iR (by show ¬g1=wc.heap.size;have:=dS.out;omega))).trans c1;have u2:=(LH (a:=⟨g2,k,Z⟩) (mD.out.block g2 mT (by show ¬g2=wc.heap.size;have:=dS.out;omega))).trans c2;have z0:=fcs_cell hZ.out fK DT;have zf:=zi hZ.out a;have zl:=zj hZ.out;have ck:=jU hZ.out a (O U 0);rw[fcs_set Ag A m c fK DT,<-hZ1] at ck;have dq:=zH ck.1;obtain⟨y,hy⟩:=Ki (Ag.at a);rw[hy] at z0;simp only[hy] at HGK ij;have au:=zH ij;have dh:(0:Int)<=(k:Int):=by omega
   have aW:(k:Int)<(q:Int):=by omega
   have MV:Aw (Wrote (fun z=>z=wc.heap.size) W3 (wr.setCell ⟨wc.heap.size,a,Z⟩ (O U 0)).drew):=(mD.out.trans (Wrote.of_grown (zV wr wc.heap.size a _) (fun z e _=>by cases e;rfl)) (fun _ _ h=>h)).trans (Wrote.of_below ((Ll _ _).drew)) (fun _ _ h=>h);have U2:Aw (∃bt:Bool,(bt=AA↔(0<=y/\y<=mx))/\∀W,As Aq 91 #[O U y,O U 0,O U mx] W fun e w'=>e=Am (Aj bt)/\w'=W):=⟨_,by simp,fun W=>Mj.out y 0 mx W⟩;obtain⟨bt,mW,tq⟩:=U2.out;have sh:=zH tq;have Mi:=zH mW;clear U2 tq mW;clear c1 c2 hZ ck ha Ss ER hZ1 Im ld hy ij;go_upto_region 24 with fail
   refine zw [(0,AA),(1,AA),(2,AA),(3,AA),(4,AA),(5,AA),(6,AA),(7,AC),(8,AA)] (fun X=>X=wr.drew) (by kernel_rfl) (by kernel_rfl) rfl ?_
   repeat
    apply zA rfl
    . rintro K' ac X rfl
      go_simp;exact ac
   refine zx rfl ?_;intro K' ac;go_simp;refine(sh.out _).mono ?_;rintro e w5 ⟨rfl,rfl⟩;refine ac _ _ rfl ?_;clear ac K'
   repeat
    apply zA rfl
    . rintro K' ac X rfl
      go_simp;exact ac
   refine zO ?_;clear sh
   cases bt with
   | false=>
    have aH:Aw (E=2):=by
     have h1:=au.out (by
      have:=Mi.out;simp at this
      omega)
     rw[Aw,HE.out,h1];rfl
    have dR:Aw (Ar w.heap.size w wr.drew):=(aJ.out.trans (XY mD.out (by omega) (by have:=aJ.out.size;omega))).drew;clear au HE aB Mi HGK dq MV mD;go_wp2_with fail;go_ret;rw[aH.out];exact⟨rfl,dR.out⟩
   | true=>
   have Er:=zH (HGK.out (Mi.out.1 rfl));have HST2:Aw ((wr.setCell ⟨wc.heap.size,a,Z⟩ (O U 0)).drew.heap[wc.heap.size]?=J (Ai (fcs (zF ⟨op,hp,ho,hv,hg⟩ os (k+1)) A m c) 41 (0,0))):=dq.out;clear au Mi HGK dq mD;go_wp2_with fail
   go_roundw
   case rel=>exact⟨k+1,by omega,by go_num,Er,HST2,MV⟩
   simp[Au];omega
 obtain rfl:q=k:=by omega
 have Tm:=Em.out fun j hj=>ld.out j hj (by have:=HQ.out;omega)
 rw[HQ.out] at Tm;obtain⟨⟨zo0,zp,zo,zv,zg⟩,ER⟩:∃Ag,zF ⟨op,hp,ho,hv,hg⟩ os q=Ag:=⟨_,rfl⟩;rw[ER] at Tm hZ;dsimp only at Tm;have z1:wr.cell? ⟨wc.heap.size,1,Z⟩=J (O U zp):=zh hZ.out 1 rfl;have z2:wr.cell? ⟨wc.heap.size,2,Z⟩=J (O U zo):=zh hZ.out 2 rfl;have z3:wr.cell? ⟨wc.heap.size,3,Z⟩=J (O U zv):=zh hZ.out 3 rfl;have z4:wr.cell? ⟨wc.heap.size,4,Z⟩=J (O U zg):=zh hZ.out 4 rfl;have pb:=zH Tm;have dR:Aw (Ar w.heap.size w wr):=aJ.out.trans (XY mD.out (by omega) (by have:=aJ.out.size;omega));have Hn:=zH (ir.out wr mD.out);clear Tm ER hZ ld Cn Em Md mL ir mD Wb hk
 by_cases Ij:zp≠0\/zo≠0\/zv≠0\/zg≠0
 case pos=>
  have aH:Aw (E=3):=by
   have h1:=pb.out;rw[Li Ij] at h1;rw[Aw,HE.out,h1];rfl
  clear HE aB pb
  by_cases i1:zp=0
  . by_cases i2:zo=0
    . by_cases i3:zv=0
      . have i4:¬zg=0:=by omega
        clear Ij;go_wp2_with fail;go_ret;rw[aH.out];exact⟨rfl,dR.out⟩
      clear Ij;go_wp2_with fail;go_ret;rw[aH.out];exact⟨rfl,dR.out⟩
    clear Ij;go_wp2_with fail;go_ret;rw[aH.out];exact⟨rfl,dR.out⟩
  clear Ij;go_wp2_with fail;go_ret;rw[aH.out];exact⟨rfl,dR.out⟩
 have US:Aw (E=ZW (l.map R)):=by
  have h1:=pb.out;rw[Lg Ij] at h1;rw[Aw,HE.out,h1];rfl
 obtain rfl:zp=0:=by omega
 obtain rfl:zo=0:=by omega
 obtain rfl:zv=0:=by omega
 obtain rfl:zg=0:=by omega
 have p5:=zh Hn.out 5 rfl;clear Ij HE pb Hn;go_wp2_with fail
 go_loopw [83] (fun i wx=>∃k:Nat,k<=m/\i=O U (k:Int)/\Aw (∀j (hj:j<l.length),j<k->R l[j]=0)/\Aw (Ar w.heap.size w wx)) (fun i _=>m-(Au i).toNat)
 case atStart=>exact⟨0,by omega,rfl,fun j _ h=>absurd h (by omega),dR⟩
 obtain⟨k,hk,rfl,nm,ay⟩:=hrel;clear z1 z2 z3 z4 p5 dR
 by_cases aa:k<m
 . have bY:k<l.length:=by have:=HM.out;omega
   obtain⟨bb,o,A',c',eA,aY,ah,ak⟩:=aB.out k bY;subst eA;obtain⟨x,hx⟩:=Ki (l[k]);have eo:Aw (R l[k]=R x):=by rw[Aw,hx]
   rw[hx] at ah ak;obtain⟨Rx,CS⟩:=Ki (R x);dsimp only at ak;simp only[CS] at ak eo;obtain⟨⟨h0,h1,h2,h3,h4⟩,xl⟩:=x;have hc:∀j v,#[O U h0,O U h1,O U h2,O U h3,O U h4,I A' xl.length c'][j]?=J v->wr.cell? ⟨bb,o+k*6+j,Z⟩=J v:=ah wr ay.out;have z0:wr.cell? ⟨bb,o+k*6,Z⟩=J (O U h0):=hc 0 _ rfl;have z1:wr.cell? ⟨bb,o+k*6+1,Z⟩=J (O U h1):=hc 1 _ rfl;have z2:wr.cell? ⟨bb,o+k*6+2,Z⟩=J (O U h2):=hc 2 _ rfl;have z3:wr.cell? ⟨bb,o+k*6+3,Z⟩=J (O U h3):=hc 3 _ rfl;have z4:wr.cell? ⟨bb,o+k*6+4,Z⟩=J (O U h4):=hc 4 _ rfl;have z5:wr.cell? ⟨bb,o+k*6+5,Z⟩=J (I A' xl.length c'):=hc 5 _ rfl;have dh:(0:Int)<=(k:Int):=by omega
   have aW:(k:Int)<(m:Int):=by omega
   have aQ:bb<wr.heap.size:=by have:=ay.out.size;omega
   have HC:=zH ak;simp only[Fm.vs,Fm.args,Fm.h] at HC;clear ah ak hx CS hc;go_upto_region 33 with fail
   obtain⟨W5,dM,d5,lL,aA⟩:=zk wr #[O U h0,O U h1,O U h2,O U h3,O U h4,I A' xl.length c'] 41;rw[dM];have cA:=ay.out.size;have cj:=zH (ay.out.trans (aA.mono cA));have cI:=zH (HC.out W5 cj.out);obtain⟨y0,y1,y2,y3,y4,y5,_⟩:=Kg d5;clear dM d5 aA z0 z1 z2 z3 z4 z5 HC lL;go_wp2_with fail;refine cI.out.mono ?_;rintro e w6 ⟨rfl,cX⟩;have fA:=zH (Lc cj.out cX);clear cX cI y0 y1 y2 y3 y4 y5
   by_cases hr:Rx=0
   · have dP : Aw (∀ j (hj : j < l.length), j < k + 1 → R l[j] = 0) := fun j hj CO => by
      by_cases e:j=k
      . subst e;rw[eo.out];exact hr
      . exact nm.out j hj (by omega)
     have er:(Rx != 0)=AC:=by simpa using hr
     subst hr;clear eo nm;go_wp2_with fail
     go_roundw
     case rel=>exact⟨k+1,by omega,by go_num,dP,fA⟩
     simp[Au];omega
   have aH : Aw (E = Rx) := by
    rw[Aw,US.out];refine(ffsE_at (l:=l.map R) (k:=k) (by simpa using bY) (fun j hj CO=>?_) ?_).trans ?_
    . rw[LS];exact nm.out j (by simpa using hj) CO
    . rw[LS,eo.out];exact hr
    rw[LS,eo.out]
   have er:(Rx != 0)=AA:=by simpa using hr
   clear eo nm US;go_wp2_with fail;go_ret;rw[aH.out];exact⟨rfl,fA.out⟩
 obtain rfl:m=k:=by omega
 have aH:Aw (E=0):=by
  rw[Aw,US.out];refine QL fun e he=>?_
  obtain⟨x,hx,rfl⟩:=LZ.1 he;obtain⟨j,hj,rfl⟩:=LI hx;exact nm.out j hj (by have:=HM.out;omega)
 clear US nm;go_wp2_with fail;go_ret;rw[aH.out];exact⟨rfl,ay.out⟩
theorem Xe(n:Nat)(cU:1<=n)(hn:n<=5):∀(d:Nat) (f:Fm) (A:Bb) (c:Nat) (w:Ba),FsAt w w.heap.size d A f.args->(yd d f).1<=1000000 ->
  As Aq 94 #[.agg (f.vs A c),O U (n:Int)] w fun e w'=>e=Am (O U (kK n d f))/\Ar w.heap.size w w'
 | 0,f,A,c,w,hA,_=>by
  have h0:f.args=[]:=hA;exact ZG n cU hn f (fun _=>0) A c w (by rw[h0];decide) (RecAt.none hA)
 | d+1,f,A,c,w,hA,hb=>by
  have h1:(zX (yd d) f.args).1<=1000000:=hb;have h3:=qf (yd d) (qm d) f.args;exact ZG n cU hn f (kK n d) A c w (by omega) (RecAt.of hA fun x A' c' X hx hX=>Xe n cU hn d x A' c' X hX (Lz (jy (yd d) hx) h1))
theorem checkF_any(n:Int)(d:Nat)(f:Fm)(A:Bb)(c:Nat)(w:Ba)(hA:FsAt w w.heap.size d A f.args)(hb:(yd d f).1<=1000000) :
  As Aq 52 #[.agg (f.vs A c),O U n] w fun e w'=>e=Am (O U (qH n d f))/\Ar w.heap.size w w':=by
 obtain⟨w1,ab,d0,aK,hB⟩:=zk w (f.vs A c) 41;have Mj:=zH (fun a b c W=>ZO a b c W);have iD:=zH (fun a b W=>sized2_any a b W);have HA:=zH hA;have Mc:=zH (fun (X:Ba) (hX:Ar w.heap.size w X)=>QI d f A c X ((hA.keep hX).more hX.size) hb);have Cw:=zH (fun (k:Nat) (h1:1<=k) (h5:k<=5) (X:Ba) (hX:Ar w.heap.size w X)=>Xe k h1 h5 d f A c X ((hA.keep hX).more hX.size) hb);have HE:Aw (qH n d f=if n<1\/5<n then 2 else if jk (yd d f)≠0 then jk (yd d f) else kK n.toNat d f):=rfl;obtain⟨E,hE⟩:=Ki (qH n d f);rw[hE] at HE ⊢;obtain⟨⟨z1,z2⟩,hz⟩:∃z,yd d f=z:=⟨_,rfl⟩;rw[hz] at Mc HE;unfold Fm.vs at ab d0 Mc Cw ⊢;have ai:=zH ab;have HB:=zH hB;have bK:=zH d0;clear ab d0 hB hE hA hb hz aK;have U2:Aw (∃bt:Bool,(bt=AA↔(1<=n/\n<=5))/\∀W,As Aq 91 #[O U n,O U 1,O U 5] W fun e w'=>e=Am (Aj bt)/\w'=W):=⟨_,by simp,fun W=>Mj.out n 1 5 W⟩;obtain⟨bt,mW,tq⟩:=U2.out;have sh:=zH tq;have Mi:=zH mW;clear U2 tq mW;go_enter func52,ntmps52;go_wp2_with fail;rw[ai.out];go_wp2_with fail;refine(sh.out _).mono ?_;rintro e w2 ⟨rfl,bZ⟩;obtain rfl:=bZ
 cases bt with
 | false=>
  have aH:Aw (E=2):=by
   have:=Mi.out;simp at this;rw[Aw,HE.out,Li (by omega)]
  go_wp2_with fail;go_ret;rw[aH.out];exact⟨rfl,HB.out⟩
 | true=>
 have hn:=Mi.out.1 rfl;obtain⟨k,rfl⟩:=Lp (show 0<=n by omega);have au:=zH (HE.out.trans (Lg (by omega)));rw[Lo] at au;have HFN2:=zH (Cw.out k (by omega) (by omega));have HC:=zH (Mc.out w2 HB.out);obtain⟨p0,p1,p2,p3,p4,p5,_⟩:=Kg bK.out;go_wp2_with fail;refine HC.out.mono ?_;rintro e w3 ⟨rfl,aj⟩;have aJ:=zH (Lc HB.out aj);have sY:=zH (La aj bK.out);have cI:=zH (iD.out z1 z2 w3);obtain⟨r,hr⟩:=Ki (jk (z1,z2));rw[hr] at cI au;go_wp2_with fail;refine cI.out.mono ?_;rintro e w4 ⟨rfl,fN⟩;obtain rfl:=fN
 by_cases h0:r=0
 . subst h0
   have HC:=zH (HFN2.out w4 aJ.out);have aN:Aw (E=kK k d f):=au.out.trans (Lg (by simp));obtain⟨p0,p1,p2,p3,p4,p5,_⟩:=Kg sY.out;go_wp2_with fail;refine HC.out.mono ?_;rintro e w5 ⟨rfl,aA⟩;have cj:=zH (Lc aJ.out aA);go_wp2_with fail;go_ret;rw[aN.out];exact⟨rfl,cj.out⟩
 have aN:Aw (E=r):=au.out.trans (Li h0);have e0:(r != 0)=AA:=by simpa using h0
 go_wp2_with fail;go_ret;rw[aN.out];exact⟨rfl,aJ.out⟩
theorem Xj(n:Int)(d:Nat)(f:Fm)(A:Bb)(c:Nat)(w:Ba)(hA:FsAt w w.heap.size d A f.args)(hb:(yd d f).1<=1000000) :
  As Aq 25 #[.agg (f.vs A c),O U n] w fun e w'=>e=Am (O U (qH n d f))/\Ar w.heap.size w w':=by
 obtain⟨w1,ab,d0,aK,hB⟩:=zk w (f.vs A c) 41;have HC:=zH (checkF_any n d f A c w1 ((hA.keep hB).more hB.size) hb);unfold Fm.vs at ab d0 HC ⊢;have ai:=zH ab;have HB:=zH hB;clear ab d0 hB hA hb aK;go_enter func25,ntmps25;go_wp2_with fail;rw[ai.out];go_wp2_with fail;refine HC.out.mono ?_;rintro e w2 ⟨rfl,ag⟩;have aw:=zH (Lc HB.out ag);go_wp2_with fail;go_ret;exact⟨rfl,aw.out⟩
end
section
open Go.RowKit Go.Shelf
attribute [local go_sem] Oper.semAt_some
structure AtW(s:Sy)(A SV AV AX:Bb)(kc ks kv kx:Nat)(h:Fh)(AF:Bb)(lf cf:Nat)(out:List Int)(AR:Bb)(cr bS bF bR bH bV bI gH:Nat)(W:Ba):Prop where
 xs:XAt W W.heap.size AX s.xs
 cs:CAt W W.heap.size A s.p.t.cases
 ro:IAt W W.heap.size AR out
 hS:W.heap[bS]?=J (Ai (s.vs_ A kc SV ks AV kv AX kx) 35 (0,0))
 hF:W.heap[bF]?=J (Ai (fcs h AF lf cf) 41 (0,0))
 hR:W.heap[bR]?=J (Ai #[I AR out.length cr] 38 (0,0))
 hH:W.heap[bH]?=J (Ai #[I (J ⟨gH,0,Z⟩) s.vs.length s.vs.length] 36 (0,0))
 hG:RowAt W gH (qK s.vs s.vs.length)
 hV:W.heap[bV]?=J (Ai #[.func (.func 100) #[] #[Al (J ⟨bS,0,Z⟩),Al (J ⟨bF,0,Z⟩)]] 165 (0,0))
 hI:W.heap[bI]?=J (Ai #[.func (.func 101) #[] #[Al (J ⟨bS,0,Z⟩)]] 167 (0,0))
section
variable {s:Sy} {A SV AV AX:Bb} {kc ks kv kx:Nat} {h:Fh} {AF:Bb} {lf cf:Nat} {out:List Int} {AR:Bb} {cr bS bF bR bH bV bI gH:Nat} {W W':Ba}
theorem AtW.keep(H:AtW s A SV AV AX kc ks kv kx h AF lf cf out AR cr bS bF bR bH bV bI gH W)(hb:Ar W.heap.size W W'):AtW s A SV AV AX kc ks kv kx h AF lf cf out AR cr bS bF bR bH bV bI gH W':=
 have k:∀ {b:Nat} {o:Obj},W.heap[b]?=J o->W'.heap[b]?=J o:=fun e=>(hb.block _ (Lu.1 e).1).trans e
 ⟨(H.xs.keep hb).more hb.size,(H.cs.keep hb).more hb.size,(H.ro.keep hb).more hb.size,k H.hS,k H.hF,k H.hR,k H.hH,k H.hG,k H.hV,k H.hI⟩
end
theorem atv_any(s:Sy)(K N:Nat)(hF:Fine s K N)(h:Fh)(e k q:Nat)(he:e<s.xs.length)(hk:k<=K)(hq:q<N)(nQ:h.p=(q:Int))(A SV AV AX AF AR:Bb)(kc ks kv kx lf cf:Nat)(out:List Int)(cr bS bF bR bH bV bI gH:Nat)(w:Ba)
  (hW:AtW s A SV AV AX kc ks kv kx h AF lf cf out AR cr bS bF bR bH bV bI gH w) :
  As Aq 100 #[Ak #[O U (e:Int),O U (k:Int)],Al (J ⟨bS,0,Z⟩),Al (J ⟨bF,0,Z⟩)] w fun r w'=>r=Am (O U (xw s.xs[e] k q))/\Ar w.heap.size w w':=by
 have hX:=hW.xs;have hb:=hW.hS;have hp:=hW.hF;unfold fcs at hp;rw[nQ] at hp;obtain⟨w1,ab,d0,aK,hB⟩:=zk w #[O U (e:Int),O U (k:Int)] 164;have mw:=Ld he;obtain⟨dI,aR⟩:=hF.views _ mw;obtain⟨bx,ox,A1,c1,A2,c2,eX,bk,x0,x1,x2,ii,sN⟩:=(hX.keep hB).row e he;subst eX;obtain⟨x,hx⟩:∃x,x=s.xs[e]:=⟨_,rfl⟩;rw[<-hx] at dI aR x2 sN ⊢;obtain⟨bl,ol,A3,c3,eL,aL,y1,hI⟩:=sN.at_ k (by omega);subst eL;obtain⟨hl,nM⟩:=aR _ (Ld (by omega:k<x.views.length));have rI:∀row,x.views[k]'(by omega)=row->xw x k q=row.getD q 0:=fun row hr=>by unfold xw;rw[zt (by omega:k<x.views.length),hr]
 obtain⟨row,pk⟩:=Ki (x.views[k]'(by omega));rw[rI row pk];rw[pk] at y1 hI hl;obtain⟨b4,o4,e4,aG,z4⟩:=hI.at_ q (by omega);subst e4;have fZ:row[q]'(by omega)=row.getD q 0:=by rw[Lk,Ln (by omega)];rfl
 rw[fZ] at z4;obtain⟨u,hu⟩:=Ki (row.getD q 0);rw[hu] at z4 ⊢;obtain⟨nv,oQ⟩:=Ki x.views.length;rw[oQ] at x2 dI;obtain⟨nr,Ik⟩:=Ki row.length;rw[Ik] at y1 hl;have ai:=zH ab;have HB:=zH hB;obtain⟨g0,g1,_⟩:=Ka d0;have p0:w1.cell? ⟨bF,1,Z⟩=J (O U (q:Int)):=zh (La hB hp) 1 rfl;have p9:w1.cell? ⟨bS,9,Z⟩=J (I (J ⟨bx,ox,Z⟩) s.xs.length kx):=zh (La hB hb) 9 rfl;have h1:(0:Int)<=(e:Int):=by omega
 have h2:(e:Int)<(s.xs.length:Int):=by omega
 have h3:(0:Int)<=(k:Int):=by omega
 have h4:(k:Int)<(nv:Int):=by omega
 have h5:(0:Int)<=(q:Int):=by omega
 have h6:(q:Int)<(nr:Int):=by omega
 clear ab d0 hB hX hb hp hF fZ hu oQ Ik hx ii sN hI nM aR mw rI pk x0 x1 hl dI nQ;go_enter func100,ntmps100;go_wp2_with fail;rw[ai.out];go_quiet (fail);go_wp2_with fail;go_ret;exact⟨rfl,zP HB.out _⟩
theorem ati_any(s:Sy)(h:Fh)(e k c:Nat)(he:e<s.xs.length)(hc:s.xs[e].c=(c:Int))(aP:c<s.p.t.cases.length)(A SV AV AX AF AR:Bb)(kc ks kv kx lf cf:Nat)(out:List Int)(cr bS bF bR bH bV bI gH:Nat)(w:Ba)
  (hW:AtW s A SV AV AX kc ks kv kx h AF lf cf out AR cr bS bF bR bH bV bI gH w) :
  As Aq 101 #[Ak #[O U (e:Int),O U (k:Int)],Al (J ⟨bS,0,Z⟩)] w fun r w'=>∃A' c',r=Am (.slice A' (yt s.p c).length c')/\IAt w' w.heap.size A' (yt s.p c)/\Ar w.heap.size w w':=by
 have hX:=hW.xs;have hC:=hW.cs;have hb:=hW.hS;obtain⟨w1,ab,d0,aK,hB⟩:=zk w #[O U (e:Int),O U (k:Int)] 164;obtain⟨bx,ox,A1,c1,A2,c2,eX,bk,x0,x1,x2,ii,sN⟩:=(hX.keep hB).row e he;subst eX;rw[hc] at x0;obtain⟨bc,oc,A3,c3,A4,c4,A5,c5,eC,hbc,y0,y1,y2,hI,_,_⟩:=(hC.keep hB).row c aP;subst eC;have dm:yt s.p c=s.p.t.cases[c].inp:=by unfold yt;rw[Lk,Ln aP];rfl
 rw[<-dm] at y0 hI;obtain⟨L,hL⟩:=Ki (yt s.p c);rw[hL] at y0 hI ⊢;obtain⟨nl,eN⟩:=Ki L.length;rw[eN] at y0 ⊢;have HI:=zH hI;have ai:=zH ab;have HB:=zH hB;have g0:=zh d0 0 rfl;have p3:w1.cell? ⟨bS,3,Z⟩=J (I (J ⟨bc,oc,Z⟩) s.p.t.cases.length kc):=zh (La hB hb) 3 rfl;have p9:w1.cell? ⟨bS,9,Z⟩=J (I (J ⟨bx,ox,Z⟩) s.xs.length kx):=zh (La hB hb) 9 rfl;have h1:(0:Int)<=(e:Int):=by omega
 have h2:(e:Int)<(s.xs.length:Int):=by omega
 have h3:(0:Int)<=(c:Int):=by omega
 have h4:(c:Int)<(s.p.t.cases.length:Int):=by omega
 clear ab d0 hB hX hC hb hc ii sN hI dm hL eN x1 x2 y1 y2;go_enter func101,ntmps101;go_wp2_with fail;rw[ai.out];go_quiet (fail);go_wp2_with fail;go_ret;exact⟨_,_,rfl,IAt.keep HI.out (zP (Ll w.heap.size w1) _),zP HB.out _⟩
end
section
open Go.RowKit Go.Shelf
attribute [local go_sem] Oper.semAt_some
theorem at0_any(s:Sy)(h:Fh)(e k:Nat)(_he:e<s.xs.length)(cG:h.op=0)(A SV AV AX AF AR:Bb)(kc ks kv kx lf cf:Nat)(out:List Int)(cr bS bF bR bH bV bI gH:Nat)(w:Ba)
  (_hW:AtW s A SV AV AX kc ks kv kx h AF lf cf out AR cr bS bF bR bH bV bI gH w) :
  As Aq 102 #[Ak #[O U (e:Int),O U (k:Int)]] w fun r w'=>r=Am (Aj (xN s out h (e,k)))/\Ar w.heap.size w w':=by
 obtain⟨w1,ab,d0,aK,hB⟩:=zk w #[O U (e:Int),O U (k:Int)] 164;have hE:xN s out h (e,k)=AA:=by unfold xN;rw[Li cG]
 rw[hE];have ai:=zH ab;have HB:=zH hB;clear ab d0 hB _hW hE cG _he aK;go_enter func102,ntmps102;go_wp2_with fail;rw[ai.out];go_wp2_with fail;go_ret;exact⟨rfl,HB.out⟩
theorem at1_any(s:Sy)(h:Fh)(e k:Nat)(he:e<s.xs.length)(c q:Nat)(hc:s.xs[e].c=(c:Int))(aP:c<s.p.t.cases.length)(hq:q<(yt s.p c).length)(nQ:h.p=(q:Int))(cG:h.op=1)(A SV AV AX AF AR:Bb)(kc ks kv kx lf cf:Nat)(out:List Int)(cr bS bF bR bH bV bI gH:Nat)(w:Ba)
  (hW:AtW s A SV AV AX kc ks kv kx h AF lf cf out AR cr bS bF bR bH bV bI gH w) :
  As Aq 103 #[Ak #[O U (e:Int),O U (k:Int)],Al (J ⟨bI,0,Z⟩),Al (J ⟨bF,0,Z⟩)] w fun r w'=>r=Am (Aj (xN s out h (e,k)))/\Ar w.heap.size w w':=by
 obtain⟨w1,ab,d0,aK,hB⟩:=zk w #[O U (e:Int),O U (k:Int)] 164
 have hE:xN s out h (e,k)=decide ((yt s.p c).getD q 0=h.v):=by
  unfold xN;rw[Lg (by rw[cG];decide),Li cG];dsimp only;rw[zt he,hc,nQ,Lo,Lo]
 rw[hE];have HC:=zH (ati_any s h e k c he hc aP A SV AV AX AF AR kc ks kv kx lf cf out cr bS bF bR bH bV bI gH w1.drew (hW.keep hB.drew));have hF:=hW.hF;unfold fcs at hF;rw[nQ] at hF;obtain⟨vv,tj⟩:=Ki h.v;rw[tj] at hF ⊢;obtain⟨L,hL⟩:=Ki (yt s.p c);rw[hL] at HC hq ⊢;obtain⟨y,hy⟩:=Ki (L.getD q 0);have HY:Aw (L[q]=y):=by rw[Aw,<-hy,zt hq]
 rw[hy];have DZ:=hW.hI;have lF:=zj hF;have lI:=zj DZ
 have eG:Aw (∀X,Ar w1.heap.size w1 X->X.heap[bF]?=J (Ai #[O U h.op,O U (q:Int),O U h.o,O U vv,O U h.g,I AF lf cf] 41 (0,0))/\X.heap[bI]?=J (Ai #[.func (.func 101) #[] #[Al (J ⟨bS,0,Z⟩)]] 167 (0,0))/\X.heap[w.heap.size]?=J (Ai #[O U (e:Int),O U (k:Int)] 164 (0,0))):=
  fun X hX=>⟨Lb hX (by omega) (Lb hB lF hF),Lb hX (by omega) (Lb hB lI DZ),Lb hX (by omega) d0⟩
 have ai:=zH ab;have HB:=zH hB;have mG:=zH aK;obtain⟨n,hn⟩:=Ki L.length;have HN:=zH hn;have VP:q<n:=by omega
 rw[hn] at HC;have h5:(0:Int)<=(q:Int):=by omega
 have h6:(q:Int)<(n:Int):=by omega
 clear ab d0 hB hW hF DZ hE hL tj cG nQ hc aP he aK hy hn;go_enter func103,ntmps103;go_wp2_with fail;rw[ai.out];refine zw [(0,AA),(1,AA),(3,AA),(4,AA),(7,AA),(8,AA),(2,AC),(5,AC),(6,AC),(9,AC),(10,AC)] (fun X=>X.heap[bF]?=J (Ai #[O U h.op,O U (q:Int),O U h.o,O U vv,O U h.g,I AF lf cf] 41 (0,0))/\X.heap[bI]?=J (Ai #[.func (.func 101) #[] #[Al (J ⟨bS,0,Z⟩)]] 167 (0,0))/\X.heap[w.heap.size]?=J (Ai #[O U (e:Int),O U (k:Int)] 164 (0,0))) (by kernel_rfl) (by kernel_rfl) (eG.out _ (Ll _ _).drew) ?_
 repeat
  apply zA rfl
  . rintro K' ac X ⟨u1,u2,u3⟩
    have q1:=zh u1 1 rfl;have q3:=zh u1 3 rfl;have i0:=zh u2 0 rfl;obtain⟨g0,g1,_⟩:=Ka u3;clear u1 u2 u3;go_simp;exact ac
 refine zx rfl ?_;intro K' ac;go_simp;refine HC.out.mono ?_;rintro r w5 ⟨A',c',rfl,D',aA⟩;have aA:Ar w1.heap.size w1 w5:=(Ll _ w1).drew.trans (aA.mono (Le _));have cj:=zH (Lc HB.out aA);have fX:=zH (eG.out w5 aA);obtain⟨b4,o4,rfl,aG,z4⟩:=D'.at_ q (by rw[HN.out];exact VP);rw[HY.out] at z4;have HZ4:=zH z4;refine ac _ _ fX.out ?_;have z4:=HZ4.out;refine zx rfl ?_;intro K' ac;go_simp;refine ac _ _ fX.out ?_;refine zx rfl ?_;intro K' ac;go_simp;refine ac _ _ fX.out ?_;refine zx rfl ?_;intro K' ac;go_simp;refine ac _ _ fX.out ?_;refine zx rfl ?_;intro K' ac;go_simp;refine ac _ _ fX.out ?_;refine zO ?_;go_wp2_with fail;go_ret;exact⟨zn (by first | rfl | simp),cj.out⟩
theorem at2_any(s:Sy)(h:Fh)(e k:Nat)(he:e<s.xs.length)(c:Nat)(hc:s.xs[e].c=(c:Int))(aP:c<s.p.t.cases.length)(Wz:(yt s.p c).length<=5)(cG:h.op=2)(A SV AV AX AF AR:Bb)(kc ks kv kx lf cf:Nat)(out:List Int)(cr bS bF bR bH bV bI gH:Nat)(w:Ba)
  (hW:AtW s A SV AV AX kc ks kv kx h AF lf cf out AR cr bS bF bR bH bV bI gH w) :
  As Aq 104 #[Ak #[O U (e:Int),O U (k:Int)],Al (J ⟨bI,0,Z⟩),Al (J ⟨bF,0,Z⟩)] w fun r w'=>r=Am (Aj (xN s out h (e,k)))/\Ar w.heap.size w w':=by
 obtain⟨w1,ab,d0,aK,hB⟩:=zk w #[O U (e:Int),O U (k:Int)] 164
 have hE:xN s out h (e,k)=decide (h.v∈yt s.p c):=by
  unfold xN;rw[Lg (by rw[cG];decide),Lg (by rw[cG];decide),Li cG];dsimp only;rw[zt he,hc,Lo]
 rw[hE];have HC:=zH (ati_any s h e k c he hc aP A SV AV AX AF AR kc ks kv kx lf cf out cr bS bF bR bH bV bI gH w1 (hW.keep hB));have hF:=hW.hF;unfold fcs at hF;obtain⟨vv,tj⟩:=Ki h.v;rw[tj] at hF ⊢;obtain⟨L,hL⟩:=Ki (yt s.p c);rw[hL] at HC Wz ⊢;have DZ:=hW.hI;have lF:=zj hF;have lI:=zj DZ;have eG:Aw (∀X,Ar w1.heap.size w1 X->X.cell? ⟨bF,3,Z⟩=J (O U vv)):=fun X hX=>zh (Lb hX (by omega) (Lb hB lF hF)) 3 rfl
 have i0:=zh (Lb hB lI DZ) 0 rfl;obtain⟨g0,g1,_⟩:=Ka d0;have ai:=zH ab;have HB:=zH hB;obtain⟨n,hn⟩:=Ki L.length;have HN:=zH hn;rw[hn] at HC Wz;clear ab d0 hB hW hF DZ hE hL tj cG hc aP he aK hn;go_enter func104,ntmps104;go_upto_region 1 with fail
 rw[ai.out];go_wp2_with fail;refine HC.out.mono ?_;rintro r w5 ⟨A',c',rfl,D',aA⟩;have aA:Ar w1.heap.size w1 w5:=aA;have cj:=zH (Lc HB.out aA);have p3:=eG.out w5 aA;have se:=zH D';go_wp2_with fail
 go_loop [11] (fun i=>∃m:Nat,m<=n/\i=O U (m:Int)/\Aw (∀j (h:j<L.length),j<m->¬L[j]=vv)) (fun i=>n-(Au i).toNat)
 case atStart=>exact⟨0,by omega,rfl,fun j _ h=>absurd h (by omega)⟩
 obtain⟨m,hm,rfl,eM⟩:=hrel
 by_cases aa:m<n
 . have fa:m<L.length:=by have:=HN.out;omega
   obtain⟨b,off,rfl,aL,z0⟩:=se.out.at_ m fa;obtain⟨x,hx⟩:=Ki (L[m]);have HX:=zH hx;rw[hx] at z0;have dh:(0:Int)<=(m:Int):=by omega
   have aW:(m:Int)<(n:Int):=by omega
   by_cases hxv:x=vv
   . subst hxv
     have dm:Aw (decide (x∈L)=AA):=Lm (by rw[<-HX.out];exact Ld fa);go_wp2_with fail;go_ret;exact⟨zn dm.out.symm,cj.out⟩
   have oR : Aw (∀ j (h : j < L.length), j < m + 1 -> ¬ L[j] = vv) := fun j h h2 => by
    by_cases e:j=m
    . subst e;rw[HX.out];exact hxv
    . exact eM.out j h (by omega)
   go_wp2_with fail
   go_round
   case rel=>exact⟨m+1,by omega,by go_num,oR⟩
   simp[Au];omega
 obtain rfl:n=m:=by omega
 have hni:Aw (decide (vv∈L)=AC):=Lj fun h=>by
  obtain⟨j,hj,e⟩:=LI h;exact eM.out j hj (by have:=HN.out;omega) e
 go_wp2_with fail;go_ret;exact⟨zn hni.out.symm,cj.out⟩
theorem at3_any(s:Sy)(h:Fh)(e k:Nat)(he:e<s.xs.length)(K N q o' S u:Nat)(CX:Fine s K N)(hk:k<=K)(hq:q<N)(nQ:h.p=(q:Int))(ho:h.o=(o':Int))(lN:o'<5)(hu:xw s.xs[e] k q=(u:Int))(so:u<s.vs.length)(hS:(qK s.vs s.vs.length).getD u 0=(S:Int))(hS32:S<32)(cG:h.op=3)(A SV AV AX AF AR:Bb)(kc ks kv kx lf cf:Nat)(out:List Int)(cr bS bF bR bH bV bI gH:Nat)(w:Ba)
  (hW:AtW s A SV AV AX kc ks kv kx h AF lf cf out AR cr bS bF bR bH bV bI gH w) :
  As Aq 105 #[Ak #[O U (e:Int),O U (k:Int)],Al (J ⟨bH,0,Z⟩),Al (J ⟨bV,0,Z⟩),Al (J ⟨bF,0,Z⟩)] w fun r w'=>r=Am (Aj (xN s out h (e,k)))/\Ar w.heap.size w w':=by
 obtain⟨w1,ab,d0,aK,hB⟩:=zk w #[O U (e:Int),O U (k:Int)] 164
 have hE:xN s out h (e,k)=S.testBit o':=by
  unfold xN;rw[Lg (by rw[cG];decide),Lg (by rw[cG];decide),Lg (by rw[cG];decide),Li cG];dsimp only;rw[zt he,nQ,Lo,hu,Lo,hS,Lo,ho,Lo]
 rw[hE];have hC:=atv_any s K N CX h e k q he hk hq nQ A SV AV AX AF AR kc ks kv kx lf cf out cr bS bF bR bH bV bI gH w1.drew (hW.keep hB.drew);rw[hu] at hC;have HC:=zH hC;have hF:=hW.hF;unfold fcs at hF;rw[ho] at hF;have WC:=hW.hH;have ES:=hW.hV;have hGw:=hW.hG;have z0:=hGw.cell u (by rw[jH];exact so);have e0:(qK s.vs s.vs.length)[u]'(by rw[jH];exact so)=(S:Int):=by rw[<-hS,zt (by rw[jH];exact so)]
 rw[e0] at z0;obtain⟨n,hn⟩:=Ki s.vs.length;rw[hn] at WC so;have lF:=zj hF;have lH:=zj WC;have lV:=zj ES;have lG:=hGw.lt
 have eG:Aw (∀X,Ar w1.heap.size w1 X->X.heap[bF]?=J (Ai #[O U h.op,O U h.p,O U (o':Int),O U h.v,O U h.g,I AF lf cf] 41 (0,0))/\X.heap[bH]?=J (Ai #[I (J ⟨gH,0,Z⟩) n n] 36 (0,0))/\X.heap[bV]?=J (Ai #[.func (.func 100) #[] #[Al (J ⟨bS,0,Z⟩),Al (J ⟨bF,0,Z⟩)]] 165 (0,0))/\X.heap[w.heap.size]?=J (Ai #[O U (e:Int),O U (k:Int)] 164 (0,0))):=
  fun X hX=>⟨Lb hX (by omega) (Lb hB lF hF),Lb hX (by omega) (Lb hB lH WC),Lb hX (by omega) (Lb hB lV ES),Lb hX (by omega) d0⟩
 have lD:Aw (∀X,Ar w1.heap.size w1 X->X.cell? ⟨gH,u,Z⟩=J (O U (S:Int))):=fun X hX=>(hX.cell (p:=⟨gH,u,Z⟩) (by show gH<w1.heap.size;omega)).trans ((hB.cell (p:=⟨gH,u,Z⟩) lG).trans z0)
 have ai:=zH ab;have HB:=zH hB;have aq:=gY hS32 lN;have h5:(0:Int)<=(u:Int):=by omega
 have h6:(u:Int)<(n:Int):=by omega
 have hG00:(0:Int)<=(S:Int):=by omega
 have EI:min o' 64=o':=by omega
 obtain⟨bt,mW⟩:=Ki (S.testBit o');rw[mW] at aq ⊢;clear ab d0 hB hW hF WC ES hGw hE cG nQ ho he aK hu hS z0 e0 CX hC hk hq mW hn;go_enter func105,ntmps105;go_wp2_with fail;rw[ai.out];refine zw [(0,AA),(1,AA),(2,AA),(6,AA),(7,AA),(3,AC),(4,AC),(5,AC),(8,AC),(9,AC),(10,AC),(11,AC)] (fun X=>X.heap[bF]?=J (Ai #[O U h.op,O U h.p,O U (o':Int),O U h.v,O U h.g,I AF lf cf] 41 (0,0))/\X.heap[bH]?=J (Ai #[I (J ⟨gH,0,Z⟩) n n] 36 (0,0))/\X.heap[bV]?=J (Ai #[.func (.func 100) #[] #[Al (J ⟨bS,0,Z⟩),Al (J ⟨bF,0,Z⟩)]] 165 (0,0))/\X.heap[w.heap.size]?=J (Ai #[O U (e:Int),O U (k:Int)] 164 (0,0))) (by kernel_rfl) (by kernel_rfl) (eG.out _ (Ll _ _).drew) ?_
 repeat
  apply zA rfl
  . rintro K' ac X ⟨u1,u2,u3,u4⟩
    have q2:=zh u1 2 rfl;have j0:=zh u2 0 rfl;have i0:=zh u3 0 rfl;obtain⟨g0,g1,_⟩:=Ka u4;clear u1 u2 u3 u4;go_simp;exact ac
 refine zx rfl ?_;intro K' ac;go_simp;refine HC.out.mono ?_;rintro r w5 ⟨rfl,aA⟩;have aA:Ar w1.heap.size w1 w5:=(Ll _ w1).drew.trans (aA.mono (Le _));have cj:=zH (Lc HB.out aA);have fX:=zH (eG.out w5 aA);have z4:=lD.out w5 aA;refine ac _ _ fX.out ?_;refine zx rfl ?_;intro K' ac;go_simp;refine ac _ _ fX.out ?_;refine zx rfl ?_;intro K' ac;go_simp;refine ac _ _ fX.out ?_;refine zx rfl ?_;intro K' ac;go_simp;refine ac _ _ fX.out ?_;refine zx rfl ?_;intro K' ac;go_simp;refine ac _ _ fX.out ?_;refine zx rfl ?_;intro K' ac;go_simp;refine ac _ _ fX.out ?_;refine zx rfl ?_;intro K' ac;go_simp;refine ac _ _ fX.out ?_;refine zO ?_;go_wp2_with fail;go_ret;exact⟨rfl,cj.out⟩
theorem at4_any(s:Sy)(h:Fh)(e k:Nat)(he:e<s.xs.length)(K N q:Nat)(CX:Fine s K N)(hk:k<=K)(Ie:q<5)(nQ:h.p=(q:Int))(pA:∀r∈s.xs[e].word,∃F:Nat,r.f=(F:Int)/\F<32)(cG:h.op=4)(A SV AV AX AF AR:Bb)(kc ks kv kx lf cf:Nat)(out:List Int)(cr bS bF bR bH bV bI gH:Nat)(w:Ba)
  (hW:AtW s A SV AV AX kc ks kv kx h AF lf cf out AR cr bS bF bR bH bV bI gH w) :
  As Aq 106 #[Ak #[O U (e:Int),O U (k:Int)],Al (J ⟨bS,0,Z⟩),Al (J ⟨bF,0,Z⟩)] w fun r w'=>r=Am (Aj (xN s out h (e,k)))/\Ar w.heap.size w w':=by
 obtain⟨w1,ab,d0,aK,hB⟩:=zk w #[O U (e:Int),O U (k:Int)] 164
 have hE:xN s out h (e,k)=(decide (0<k)&&((s.xs[e].word.getD (k-1) default).f).toNat.testBit q):=by
  unfold xN;rw[Lg (by rw[cG];decide),Lg (by rw[cG];decide),Lg (by rw[cG];decide),Lg (by rw[cG];decide),Li cG];dsimp only;rw[zt he,nQ,Lo]
 rw[hE];have hF:=hW.hF;unfold fcs at hF;rw[nQ] at hF;have hSw:=hW.hS;have lF:=zj hF;have lS:=zj hSw;have hF1:=Lb hB lF hF;have AP:=Lb hB lS hSw;obtain⟨g0,g1,_⟩:=Ka d0;have q1:=zh hF1 1 rfl;obtain⟨bx,ox,A1,c1,A2,c2,eX,bk,x0,x1,x2,ii,hLw⟩:=(hW.xs.keep hB).row e he;subst eX;have p9:w1.cell? ⟨bS,9,Z⟩=J (I (J ⟨bx,ox,Z⟩) s.xs.length kx):=zh AP 9 rfl;have h1:(0:Int)<=(e:Int):=by omega
 have h2:(e:Int)<(s.xs.length:Int):=by omega
 obtain⟨x,hx⟩:∃x,x=s.xs[e]:=⟨_,rfl⟩;have pR:=(CX.word _ (Ld he)).1;rw[<-hx] at pA pR x1 ii ⊢;have ai:=zH ab;have HB:=zH hB;have hs1':=aK;clear ab d0 hB hW hF hF1 hSw AP hE cG nQ x0 x2 hx hLw
 by_cases Pr:0<k
 case neg=>
  have ij:(decide (0<k)&&((x.word.getD (k-1) default).f).toNat.testBit q)=AC:=by rw[Lj Pr];rfl
  rw[ij];have aW:decide ((k:Int)>0)=AC:=Lj (by omega);obtain⟨ki,Is⟩:∃ki:Int,(k:Int)=ki:=⟨_,rfl⟩;rw[Is] at aW ai g1 ⊢;clear pA ii x1 ij Pr Is;go_enter func106,ntmps106;go_wp2_with fail;rw[ai.out];refine zw [(0,AA),(1,AA),(2,AA),(3,AA),(4,AA),(5,AA),(6,AA),(7,AA),(8,AA),(9,AA),(10,AA),(11,AA),(12,AA),(13,AA),(14,AA),(15,AA),(16,AA),(17,AA),(18,AA),(19,AA),(20,AA),(21,AA),(22,AA),(23,AA)] (fun X=>X=w1.drew) (by kernel_rfl) (by kernel_rfl) rfl ?_
  repeat
   apply zA rfl
   . rintro K' ac X rfl
     go_simp;exact ac
  refine zO ?_;go_wp2_with fail;go_ret;exact⟨rfl,HB.out.drew⟩
 obtain⟨k,rfl⟩:∃j,k=j+1:=⟨k-1,by omega⟩;obtain⟨bw,ow,eW,aQ,y0,y1,y2,y3,y4,y5,y6⟩:=ii.row k (by omega);subst eW;have ie:x.word.getD k default=x.word[k]'(by omega):=zt (by omega) default;obtain⟨F,I8,I9⟩:=pA _ (Ld (by omega:k<x.word.length));rw[I8] at y6
 have ij:(decide (0<k+1)&&((x.word.getD (k+1-1) default).f).toNat.testBit q)=F.testBit q:=by
  rw[NT,ie,I8,Lo];simp
 rw[ij];have aq:=gY I9 Ie;obtain⟨bt,mW⟩:=Ki (F.testBit q);rw[mW] at aq ⊢;obtain⟨nw,mS⟩:=Ki x.word.length;rw[mS] at x1 pR;have dh:decide (((k+1:Nat):Int)>0)=AA:=Lm (by omega);have Ew:IntKind.i64.wrap (((k+1:Nat):Int)-1)=(k:Int):=by have:=CX.k6;rw[Ls];omega
 have h3:(0:Int)<=(k:Int):=by omega
 have h4:(k:Int)<(nw:Int):=by omega
 have hoi0:(0:Int)<=(q:Int):=by omega
 have hG00:(0:Int)<=(F:Int):=by omega
 have EI:min q 64=q:=by omega
 obtain⟨k1,aW⟩:∃k1:Int,((k+1:Nat):Int)=k1:=⟨_,rfl⟩;rw[aW] at dh Ew g1 ai ⊢;clear pA ii ie I8 ij mW mS y0 y1 y2 y3 y4 y5 CX pR he aW hk;go_enter func106,ntmps106;go_wp2_with fail;rw[ai.out];refine zw [(0,AA),(1,AA),(2,AA),(3,AA),(4,AA),(5,AA),(6,AA),(7,AA),(8,AA),(9,AA),(10,AA),(11,AA),(12,AA),(13,AA),(14,AA),(15,AA),(16,AA),(17,AA),(18,AA),(19,AA),(20,AA),(21,AA),(22,AA),(23,AA)] (fun X=>X=w1.drew) (by kernel_rfl) (by kernel_rfl) rfl ?_
 repeat
  apply zA rfl
  . rintro K' ac X rfl
    go_simp;exact ac
 refine zO ?_;go_wp2_with fail;go_ret;exact⟨rfl,HB.out.drew⟩
theorem at5_any(s:Sy)(h:Fh)(e k:Nat)(he:e<s.xs.length)(K N q u:Nat)(CX:Fine s K N)(hk:k<=K)(hq:q<N)(nQ:h.p=(q:Int))(hu:xw s.xs[e] k q=(u:Int))(so:u<s.vs.length)(cG:h.op=5)(A SV AV AX AF AR:Bb)(kc ks kv kx lf cf:Nat)(out:List Int)(cr bS bF bR bH bV bI gH:Nat)(w:Ba)
  (hW:AtW s A SV AV AX kc ks kv kx h AF lf cf out AR cr bS bF bR bH bV bI gH w) (l7:0<out.length->out.length=s.vs.length) :
  As Aq 107 #[Ak #[O U (e:Int),O U (k:Int)],Al (J ⟨bR,0,Z⟩),Al (J ⟨bV,0,Z⟩),Al (J ⟨bF,0,Z⟩)] w fun r w'=>r=Am (Aj (xN s out h (e,k)))/\Ar w.heap.size w w':=by
 obtain⟨w1,ab,d0,aK,hB⟩:=zk w #[O U (e:Int),O U (k:Int)] 164
 have hE:xN s out h (e,k)=(decide (0<out.length)&&decide (out.getD u 0=h.v)):=by
  unfold xN;rw[Lg (by rw[cG];decide),Lg (by rw[cG];decide),Lg (by rw[cG];decide),Lg (by rw[cG];decide),Lg (by rw[cG];decide),Li cG];dsimp only;rw[zt he,nQ,Lo,hu,Lo]
 rw[hE];have hC:=atv_any s K N CX h e k q he hk hq nQ A SV AV AX AF AR kc ks kv kx lf cf out cr bS bF bR bH bV bI gH w1.drew (hW.keep hB.drew);rw[hu] at hC;have HC:=zH hC;have hF:=hW.hF;unfold fcs at hF;obtain⟨vv,tj⟩:=Ki h.v;rw[tj] at hF ⊢;have ii:=hW.hR;have ES:=hW.hV;have lF:=zj hF;have lR:=zj ii;have lV:=zj ES;have Dz:=hW.ro;have ai:=zH ab
 by_cases h0:out.length=0
 . have hE0:(decide (0<out.length)&&decide (out.getD u 0=vv))=AC:=by rw[h0];simp
   rw[hE0];have r0:=zh (Lb hB lR ii) 0 rfl;rw[show(#[I AR out.length cr]:Array Ax)[0]=I AR 0 cr by rw[h0];rfl] at r0;have HB:=zH hB;clear ab d0 hB hW hF ii ES hE cG nQ he aK hu CX hC hk hq tj Dz HC hE0 l7 h0;go_enter func107,ntmps107;go_wp2_with fail;rw[ai.out];go_quiet (fail);go_wp2_with fail;go_ret;exact⟨rfl,zP HB.out _⟩
 have O4:=l7 (by omega);obtain⟨b0,o0,eR,ig,z0⟩:=Dz.at_ u (by omega);subst eR;obtain⟨y,hy⟩:=Ki (out[u]'(by omega));rw[hy] at z0;have tw:(decide (0<out.length)&&decide (out.getD u 0=vv))=decide (y=vv):=by rw[Lm (by omega:0<out.length),Nt,zt (by omega:u<out.length),hy]
 rw[tw];obtain⟨n,hn⟩:=Ki out.length;rw[hn] at ii h0 O4
 have eG:Aw (∀X,Ar w1.heap.size w1 X->X.heap[bF]?=J (Ai #[O U h.op,O U h.p,O U h.o,O U vv,O U h.g,I AF lf cf] 41 (0,0))/\X.heap[bR]?=J (Ai #[I (J ⟨b0,o0,Z⟩) n cr] 38 (0,0))/\X.heap[bV]?=J (Ai #[.func (.func 100) #[] #[Al (J ⟨bS,0,Z⟩),Al (J ⟨bF,0,Z⟩)]] 165 (0,0))/\X.heap[w.heap.size]?=J (Ai #[O U (e:Int),O U (k:Int)] 164 (0,0))):=
  fun X hX=>⟨Lb hX (by omega) (Lb hB lF hF),Lb hX (by omega) (Lb hB lR ii),Lb hX (by omega) (Lb hB lV ES),Lb hX (by omega) d0⟩
 have lD:Aw (∀X,Ar w1.heap.size w1 X->X.cell? ⟨b0,o0+u,Z⟩=J (O U y)):=fun X hX=>(hX.cell (p:=⟨b0,o0+u,Z⟩) (by show b0<w1.heap.size;omega)).trans ((hB.cell (p:=⟨b0,o0+u,Z⟩) ig).trans z0)
 have HB:=zH hB;have h5:(0:Int)<=(u:Int):=by omega
 have h6:(u:Int)<(n:Int):=by omega
 have cU:decide ((n:Int)>0)=AA:=Lm (by omega);have EF:(0:Int)<(n:Int):=by omega
 have hn3:0<n:=by omega
 clear ab d0 hB hW hF ii ES hE cG nQ he aK hu CX hC hk hq tj Dz tw l7 O4 hy hn z0;go_enter func107,ntmps107;go_wp2_with fail;rw[ai.out];refine zw [(0,AA),(1,AA),(2,AA),(3,AA),(4,AA),(5,AA),(6,AA),(7,AA),(8,AA),(12,AA),(13,AA),(9,AC),(10,AC),(11,AC),(14,AC),(15,AC),(16,AC)] (fun X=>X.heap[bF]?=J (Ai #[O U h.op,O U h.p,O U h.o,O U vv,O U h.g,I AF lf cf] 41 (0,0))/\X.heap[bR]?=J (Ai #[I (J ⟨b0,o0,Z⟩) n cr] 38 (0,0))/\X.heap[bV]?=J (Ai #[.func (.func 100) #[] #[Al (J ⟨bS,0,Z⟩),Al (J ⟨bF,0,Z⟩)]] 165 (0,0))/\X.heap[w.heap.size]?=J (Ai #[O U (e:Int),O U (k:Int)] 164 (0,0))) (by kernel_rfl) (by kernel_rfl) (eG.out _ (Ll _ _).drew) ?_
 repeat
  apply zA rfl
  . rintro K' ac X ⟨u1,u2,u3,u4⟩
    have q3:=zh u1 3 rfl;have j0:=zh u2 0 rfl;have i0:=zh u3 0 rfl;obtain⟨g0,g1,_⟩:=Ka u4;clear u1 u2 u3 u4;go_simp;exact ac
 refine zx rfl ?_;intro K' ac;go_simp;refine HC.out.mono ?_;rintro r w5 ⟨rfl,aA⟩;have aA:Ar w1.heap.size w1 w5:=(Ll _ w1).drew.trans (aA.mono (Le _));have cj:=zH (Lc HB.out aA);have fX:=zH (eG.out w5 aA);have z4:=lD.out w5 aA;refine ac _ _ fX.out ?_;refine zx rfl ?_;intro K' ac;go_simp;refine ac _ _ fX.out ?_;refine zx rfl ?_;intro K' ac;go_simp;refine ac _ _ fX.out ?_;refine zx rfl ?_;intro K' ac;go_simp;refine ac _ _ fX.out ?_;refine zx rfl ?_;intro K' ac;go_simp;refine ac _ _ fX.out ?_;refine zx rfl ?_;intro K' ac;go_simp;refine ac _ _ fX.out ?_;refine zO ?_;go_wp2_with fail;go_ret;exact⟨zn (by first | rfl | simp),cj.out⟩
theorem at6_any(s:Sy)(h:Fh)(e k:Nat)(_he:e<s.xs.length)(cG:h.op=6)(A SV AV AX AF AR:Bb)(kc ks kv kx lf cf:Nat)(out:List Int)(cr bS bF bR bH bV bI gH:Nat)(w:Ba)
  (hW:AtW s A SV AV AX kc ks kv kx h AF lf cf out AR cr bS bF bR bH bV bI gH w) :
  As Aq 108 #[Ak #[O U (e:Int),O U (k:Int)],Al (J ⟨bF,0,Z⟩)] w fun r w'=>r=Am (Aj (xN s out h (e,k)))/\Ar w.heap.size w w':=by
 obtain⟨w1,ab,d0,aK,hB⟩:=zk w #[O U (e:Int),O U (k:Int)] 164
 have hE:xN s out h (e,k)=decide ((k:Int)=h.v):=by
  unfold xN;rw[Lg (by rw[cG];decide),Lg (by rw[cG];decide),Lg (by rw[cG];decide),Lg (by rw[cG];decide),Lg (by rw[cG];decide),Lg (by rw[cG];decide)]
 rw[hE];have hF:=hW.hF;unfold fcs at hF;obtain⟨vv,tj⟩:=Ki h.v;rw[tj] at hF ⊢;have lF:=zj hF;have q3:=zh (Lb hB lF hF) 3 rfl;have g1:=zh d0 1 rfl;have ai:=zH ab;have HB:=zH hB;clear ab d0 hB hW hF hE cG tj _he;go_enter func108,ntmps108;go_upto_region 1 with fail
 rw[ai.out];go_wp2_with fail;go_ret;exact⟨zn (by first | rfl | simp),HB.out⟩
end
section
open Go.RowKit Go.Shelf
def atG(bS bF bR bH bV bI:Nat):Int->Option Ax:=
 xH (xH (xH (xH (xH (xH (xH (fun _=>Z) 0 (.func (.func 102) #[] #[])) 1 (.func (.func 103) #[] #[Al (J ⟨bI,0,Z⟩),Al (J ⟨bF,0,Z⟩)]))
  2 (.func (.func 104) #[] #[Al (J ⟨bI,0,Z⟩),Al (J ⟨bF,0,Z⟩)])) 3 (.func (.func 105) #[] #[Al (J ⟨bH,0,Z⟩),Al (J ⟨bV,0,Z⟩),Al (J ⟨bF,0,Z⟩)]))
  4 (.func (.func 106) #[] #[Al (J ⟨bS,0,Z⟩),Al (J ⟨bF,0,Z⟩)])) 5 (.func (.func 107) #[] #[Al (J ⟨bR,0,Z⟩),Al (J ⟨bV,0,Z⟩),Al (J ⟨bF,0,Z⟩)]))
  6 (.func (.func 108) #[] #[Al (J ⟨bF,0,Z⟩)])
theorem QN{r:Rd}{N:Nat}(h:yD r=0)(hn:r.n=(N:Int))(h5:N<=5):∃F:Nat,r.f=(F:Int)/\F<32:=by
 unfold yD at h
 split at h
 . rename_i bj;exact absurd h bj
 unfold xC at h
 split at h
 . cases h
 split at h
 . cases h
 rename_i h2;obtain⟨F,hF⟩:=Lp (show 0<=r.f by omega);refine⟨F,hF,?_⟩;have h4:((2^r.n.toNat:Nat):Int)=(2:Int)^r.n.toNat:=by push_cast;rfl
 have h3:r.f<((2^r.n.toNat:Nat):Int):=by first | omega | (rw[h4];omega)
 rw[hF,hn,Lo] at h3;have:=L6 (n:=2) (by omega) h5;omega
theorem atom_fn{s:Sy}{K N:Nat}(hF:Fine s K N)(hS:Sees s K N)(hl:LowV s.vs)(iG:∀c∈s.p.t.cases,c.inp.length=N){out:List Int}(l7:0<out.length->out.length=s.vs.length){h:Fh}(ok:AtmOk N h)
  (A SV AV AX AF AR:Bb) (kc ks kv kx lf cf cr bS bF bR bH bV bI gH:Nat) :
  ∃kf kb,atG bS bF bR bH bV bI h.op=J (.func (.func kf) #[] kb)/\Enters Aq kf/\∀x∈zu (K+1) 0 s.xs.length,∀W,AtW s A SV AV AX kc ks kv kx h AF lf cf out AR cr bS bF bR bH bV bI gH W ->
   As Aq kf (#[Ak #[O U x.1,O U x.2]]++kb) W fun r w'=>r=Am (Aj (xN s out h x))/\Ar W.heap.size W w':=by
 have h0:=ok.op0;have h6:=ok.op6;have fl:=hF.n5
 have hx:∀x∈zu (K+1) 0 s.xs.length,∃he:x.1<s.xs.length,x.2<=K/\∃c:Nat,s.xs[x.1].c=(c:Int)/\c<s.p.t.cases.length/\(yt s.p c).length=N:=fun x hx=>by
  obtain⟨_,h1,h2⟩:=qC _ _ x hx;have he:x.1<s.xs.length:=by omega
  obtain⟨c,hc,aP,_⟩:=hS.cs _ (Ld he);refine⟨he,by omega,c,hc,aP,?_⟩;unfold yt;rw[Lk,Ln aP];exact iG _ (Ld aP)
 rcases(by omega:h.op=0\/h.op=1\/h.op=2\/h.op=3\/h.op=4\/h.op=5\/h.op=6) with e | e | e | e | e | e | e
 . refine⟨_,_,by rw[e];exact rfl,Pg func102 (by kernel_rfl) rfl,fun x mw W hW=>?_⟩
   obtain⟨he,hk,c,hc,aP,mC⟩:=hx x mw;exact at0_any s h x.1 x.2 he e A SV AV AX AF AR kc ks kv kx lf cf out cr bS bF bR bH bV bI gH W hW
 . refine⟨_,_,by rw[e];exact rfl,Pg func103 (by kernel_rfl) rfl,fun x mw W hW=>?_⟩
   obtain⟨he,hk,c,hc,aP,mC⟩:=hx x mw;obtain⟨fj,pm⟩:=ok.p (.inl e);obtain⟨q,hq⟩:=Lp fj;exact at1_any s h x.1 x.2 he c q hc aP (by omega) hq e A SV AV AX AF AR kc ks kv kx lf cf out cr bS bF bR bH bV bI gH W hW
 . refine⟨_,_,by rw[e];exact rfl,Pg func104 (by kernel_rfl) rfl,fun x mw W hW=>?_⟩
   obtain⟨he,hk,c,hc,aP,mC⟩:=hx x mw;exact at2_any s h x.1 x.2 he c hc aP (by omega) e A SV AV AX AF AR kc ks kv kx lf cf out cr bS bF bR bH bV bI gH W hW
 . refine⟨_,_,by rw[e];exact rfl,Pg func105 (by kernel_rfl) rfl,fun x mw W hW=>?_⟩
   obtain⟨he,hk,c,hc,aP,mC⟩:=hx x mw;obtain⟨fj,pm⟩:=ok.p (.inr (.inl e));obtain⟨q,hq⟩:=Lp fj;obtain⟨VX,VU⟩:=ok.o e;obtain⟨o,ho⟩:=Lp VX;have Do:=Ld he;obtain⟨S,e1,e2,_⟩:=hrd_view hF hS hl Do x.2 hk q (by omega);obtain⟨v,hv,_⟩:=hS.pr Do hk (show q<N by omega);have aa:=hv.lt;obtain⟨u,hu⟩:=Lp aa.1;rw[hu,Lo] at e1;exact at3_any s h x.1 x.2 he K N q o S u hF hk (by omega) hq ho (by omega) hu (by omega) e1 e2 e A SV AV AX AF AR kc ks kv kx lf cf out cr bS bF bR bH bV bI gH W hW
 . refine⟨_,_,by rw[e];exact rfl,Pg func106 (by kernel_rfl) rfl,fun x mw W hW=>?_⟩
   obtain⟨he,hk,c,hc,aP,mC⟩:=hx x mw;obtain⟨fj,pm⟩:=ok.p (.inr (.inr (.inl e)));obtain⟨q,hq⟩:=Lp fj
   exact at4_any s h x.1 x.2 he K N q hF hk (by omega) hq (fun r hr=>by
    obtain⟨lk,ef⟩:=(hF.word _ (Ld he)).2 r hr
    exact QN lk ef fl) e A SV AV AX AF AR kc ks kv kx lf cf out cr bS bF bR bH bV bI gH W hW
 . refine⟨_,_,by rw[e];exact rfl,Pg func107 (by kernel_rfl) rfl,fun x mw W hW=>?_⟩
   obtain⟨he,hk,c,hc,aP,mC⟩:=hx x mw;obtain⟨fj,pm⟩:=ok.p (.inr (.inr (.inr e)));obtain⟨q,hq⟩:=Lp fj;have Do:=Ld he;obtain⟨v,hv,_⟩:=hS.pr Do hk (show q<N by omega);have aa:=hv.lt;obtain⟨u,hu⟩:=Lp aa.1;exact at5_any s h x.1 x.2 he K N q u hF hk (by omega) hq hu (by omega) e A SV AV AX AF AR kc ks kv kx lf cf out cr bS bF bR bH bV bI gH W hW l7
 refine⟨_,_,by rw[e];exact rfl,Pg func108 (by kernel_rfl) rfl,fun x mw W hW=>?_⟩;obtain⟨he,hk,c,hc,aP,mC⟩:=hx x mw;exact at6_any s h x.1 x.2 he e A SV AV AX AF AR kc ks kv kx lf cf out cr bS bF bR bH bV bI gH W hW
end
section
open Go.RowKit Go.Shelf
theorem Zu{K:Kd}{w:Ba}{base:Nat}{v:Ax}{n:Nat}{cs:List Ax}(h:OwnR K w base v n cs):∀r,v.ownBlock=J r->∀o,w.heap[r]?=J o->o.isCells=AA:=by
 intro r hr o ho;rcases h.2 with ⟨rfl,_⟩ | ⟨g,cap,cur,rfl,_,hg,_⟩
 . cases hr
 have e:g=r:=by injection hr
 subst e;rw[hg] at ho
 cases ho
 rfl
structure AtIn(b:Nat)(bs:List Bool)(w0 W:Ba):Prop where
 wrote:Wrote (fun z=>z=b) w0 W
 box:∃P c,W.heap[b]?=J (Ai #[I P bs.length c] 46 (0,0))/\OwnR kBl W w0.heap.size (I P bs.length c) bs.length (bs.map .bool)
section
variable {b:Nat} {bs:List Bool} {w0 W W':Ba}
theorem AtIn.turn{row:Option Nat}(h:AtIn b bs w0 W)(hb:b<w0.heap.size)(hg:W.grownBy W' row)(hr:∀r,row=J r->w0.heap.size<=r/\∃o:Obj,W.heap[r]?=J o/\o.isCells=AC):AtIn b bs w0 W':=by
 obtain⟨P,c,hx,ho⟩:=h.box;have aX:=h.wrote.size;refine⟨h.wrote.trans (Wrote.of_grown (R:=fun k=>w0.heap.size<=k) hg (fun k e hk=>(hr k e).1)) (fun k h1 h2=>by omega),P,c,(hg.block b (by omega) (fun e=>by have:=(hr b e.symm).1;omega)).trans hx,ho.kept hg ?_⟩;rcases e:(I P bs.length c).ownBlock with _ | g
 . exact .inl rfl
 refine .inr fun e2=>?_
 obtain⟨o,h1,h2⟩:=(hr g e2.symm).2;have:=Zu ho g e o h1;rw[this] at h2;cases h2
theorem AtIn.call(h:AtIn b bs w0 W)(hb:b<w0.heap.size)(hw:Ar W.heap.size W W'):AtIn b bs w0 W':=by
 obtain⟨P,c,hx,ho⟩:=h.box;have aX:=h.wrote.size;exact⟨h.wrote.trans (Wrote.of_below hw) (fun _ _ h=>h),P,c,(hw.block b (by omega)).trans hx,ho.below hw (Le _)⟩
theorem AtIn.push{P P2:Bb}{c c2:Nat}{v:Bool}{W1:Ba}(h:AtIn b bs w0 W)(hb:b<w0.heap.size)(hx:W.heap[b]?=J (Ai #[I P bs.length c] 46 (0,0)))(ho:OwnR kBl W w0.heap.size (I P bs.length c) bs.length (bs.map .bool))
  (mR:OwnR kBl W1 w0.heap.size (I P2 (bs.length+1) c2) (bs.length+1) (bs.map .bool++[Aj v])) (hg:W.grownBy W1 (I P bs.length c).ownBlock) :
  AtIn b (bs++[v]) w0 (W1.setCell ⟨b,0,Z⟩ (I P2 (bs.length+1) c2)):=by
 have aX:=h.wrote.size;have lc:=ho.lt;have aq:=(hg.block b (by omega) (fun e=>by have:=(lc b e.symm).1;omega)).trans hx;obtain⟨x1,x2,x3⟩:=kI aq (I P2 (bs.length+1) c2);have a1:Wrote (fun k=>w0.heap.size<=k) W W1:=Wrote.of_grown hg (fun k e hk=>(lc k e).1);have a2:Wrote (fun k=>k=b) W1 (W1.setCell ⟨b,0,Z⟩ (I P2 (bs.length+1) c2)):=Wrote.of_grown (zV W1 _ 0 _) (fun k e hk=>by cases e;rfl);refine⟨(h.wrote.trans a1 (fun k h1 h2=>by omega)).trans a2 (fun _ _ h=>h),P2,c2,by rw[Lw];exact x1,?_⟩;rw[Lw,LM];refine OwnR.kept (row:=J b) mR (zV W1 b 0 _) ?_;rcases e:(I P2 (bs.length+1) c2).ownBlock with _ | g
 . exact .inl rfl
 exact .inr fun e2 => by
  have:=(mR.lt g e).1
  cases e2
  omega
theorem AtIn.keeps{P:Bb}{c bi:Nat}{W1:Ba}(h:AtIn b bs w0 W)(hb:b<w0.heap.size)(hi:bi<w0.heap.size)(bj:bi≠b)(hx:W.heap[b]?=J (Ai #[I P bs.length c] 46 (0,0)))(ho:OwnR kBl W w0.heap.size (I P bs.length c) bs.length (bs.map .bool))
  (hg:W.grownBy W1 (I P bs.length c).ownBlock) (v:Ax):KeepsFrom w0.heap.size W (W1.setCell ⟨b,0,Z⟩ v)/\KeepB (fun k=>k=bi) W (W1.setCell ⟨b,0,Z⟩ v):=by
 have lc:=ho.lt;have aX:=h.wrote.size;have aK:=hg.size;have aq:=(hg.block b (by omega) (fun e=>by have:=(lc _ e.symm).1;omega)).trans hx;obtain⟨x1,x2,x3⟩:=kI aq v;refine⟨⟨by simp[World.setCell];omega,fun k o hk aW mR=>?_⟩,⟨by simp[World.setCell];omega,fun k hk hl=>?_⟩⟩
 . refine(x3 k (by omega)).trans ((hg.block k (zj aW) (fun e=>?_)).trans aW)
   have:=Zu ho k e.symm o aW;rw[this] at mR;cases mR
 subst hk;exact(x3 _ (by omega)).trans (hg.block _ (by omega) (fun e=>by have:=(lc _ e.symm).1;omega))
end
end
section
open Go.RowKit Go.Shelf
attribute [local go_sem] Oper.semAt_some
theorem blk_lt'{w:Ba}{b:Nat}{o:Obj}(h:w.heap[b]?=J o):b<w.heap.size:=(Lu.1 h).1
def RetBN(xs:List Bool)(n:Int)(w:Ba)(e:Ending)(w':Ba):Prop:=∃A c,e=Am (.tuple #[I A xs.length c,O U n])/\OwnR kBl w' w.heap.size (I A xs.length c) xs.length (xs.map .bool)/\Ar w.heap.size w w'
theorem atomN_any(s:Sy)(hs:LowS s)(hf:xz s.p)(out:List Int)(d:Nat)(f:Fm)(aX:(yd d f).1<=1000000)(A SV AV AX AF AR:Bb)(kc ks kv kx cf cr:Nat)(w:Ba)(hS:SyAt w w.heap.size A SV AV AX s)(hO:IAt w w.heap.size AR out)(hA:FsAt w w.heap.size d AF f.args) :
  As Aq 57 #[.agg (s.vs_ A kc SV ks AV kv AX kx),Ak #[I AR out.length cr],.agg (f.vs AF cf)] w (RetBN (atmE s out d f).1 (atmE s out d f).2 w):=by
 obtain⟨wa,dU,da,fG,ik⟩:=zk w (s.vs_ A kc SV ks AV kv AX kx) 35;obtain⟨wb,en,db,fi,fb⟩:=zk wa #[I AR out.length cr] 38;obtain⟨w1,ab,dc,ns,eF⟩:=zk wb (f.vs AF cf) 41;have hB:Ar w.heap.size w w1:=(ik.trans (fb.mono (by omega))).trans (eF.mono (by omega));have da:w1.heap[w.heap.size]?=J (Ai (s.vs_ A kc SV ks AV kv AX kx) 35 (0,0)):=Lb eF (by omega) (Lb fb (by omega) da);have db:w1.heap[w.heap.size+1]?=J (Ai #[I AR out.length cr] 38 (0,0)):=by rw[<-fG];exact Lb eF (by omega) db
 have dc:w1.heap[w.heap.size+1+1]?=J (Ai (f.vs AF cf) 41 (0,0)):=by rw[<-fG,<-fi];exact dc
 have cO:w1.heap.size=w.heap.size+3:=by omega
 have HV:=zH (wh s hs hf A SV AV AX kc ks kv kx w1 (hS.up hB));have HE:Aw (atmE s out d f=if yh s≠0 then ([],yh s) else if 0<out.length/\out.length≠s.vs.length then ([],15) else if qH s.n d f≠0 then ([],qH s.n d f) else if 0<f.args.length then ([],11) else (qP s out f.h,0)):=rfl;have nD:=zH (fun h=>yJ hf h);have mH:=zH (fun (N:Nat) (hn:s.n=(N:Int)) (h:qH s.n d f=0) (ha:f.args.length=0)=>atm_ok hn h ha);have nH:=zH (fun (X:Ba) (hX:Ar w1.heap.size w1 X)=>Xj s.n d f AF cf X ((hA.keep (Lc hB hX)).more (Lc hB hX).size) aX);have ip:Aw (∀X,Ar w1.heap.size w1 X->SyAt X X.heap.size A SV AV AX s):=fun X hX=>(hS.up hB).up hX
 have Cj:Aw (∀X,Ar w1.heap.size w1 X->IAt X X.heap.size AR out):=fun X hX=>(hO.keep (Lc hB hX)).more (Lc hB hX).size
 have sX:Aw (∀c,yh s=0->c∈s.p.t.cases->(c.inp.length:Int)=s.p.t.n):=fun c h hc=>by
  obtain⟨ig,_⟩:=yJ hf h
  have fj:zY s.p=0:=by
   by_cases h0:zY s.p=0
   . exact h0
   . unfold yh at h
     rw[xy h0] at h;simp[h0] at h
  exact wi (yf fj).1 c hc
 have Oa:=zH (fun (h:yh s=0)=>(by
  have h1:=(yJ hf h).1
  rw[h1];exact QW _:LowV s.vs))
 have sR:=zH (fun (K N:Nat) (hF:Fine s K N) (h:yh s=0)=>(by
  have h1:=(yJ hf h).1;have h2:=hF;rw[h1] at h2 ⊢
  exact Xv h2:Sees s K N))
 have mJ:=zH (fun (K:Nat) (h:s.p.k=(K:Int))=>(by unfold qP;rw[h];rfl:qP s out f.h=(zu (K+1) 0 s.xs.length).map (xN s out f.h)));obtain⟨E,hE⟩:=Ki (atmE s out d f);rw[hE] at HE ⊢;obtain⟨r,hr⟩:=Ki (yh s);rw[hr] at HV HE nD Oa sR sX;unfold Sy.vs_ at dU da HV ⊢;unfold Fm.vs at ab dc nH ⊢;have ai:Aw (((w.alloc (Ai #[O U s.p.t.n,O U s.p.t.ins,O U s.p.t.outs,I A s.p.t.cases.length kc,O U s.p.a.n,I SV s.p.a.sts.length ks,O U s.p.k,O U s.n,I AV s.vs.length kv,I AX s.xs.length kx] 35)).alloc (Ai #[I AR out.length cr] 38)).alloc (Ai #[O U f.h.op,O U f.h.p,O U f.h.o,O U f.h.v,O U f.h.g,I AF f.args.length cf] 41)=w1):=by rw[Aw,dU,en,ab]
 have HB:=zH hB
 have aV:Aw (∀X,Ar w1.heap.size w1 X->X.heap[w.heap.size]?=J (Ai #[O U s.p.t.n,O U s.p.t.ins,O U s.p.t.outs,I A s.p.t.cases.length kc,O U s.p.a.n,I SV s.p.a.sts.length ks,O U s.p.k,O U s.n,I AV s.vs.length kv,I AX s.xs.length kx] 35 (0,0))/\X.heap[w.heap.size+1]?=J (Ai #[I AR out.length cr] 38 (0,0))/\X.heap[w.heap.size+1+1]?=J (Ai #[O U f.h.op,O U f.h.p,O U f.h.o,O U f.h.v,O U f.h.g,I AF f.args.length cf] 41 (0,0))):=
  fun X hX=>⟨Lb hX (by omega) da,Lb hX (by omega) db,Lb hX (by omega) dc⟩
 have WP:=zH cO;have G1:Aw (Ar w1.heap.size w1 w1):=Ll _ _;clear dU en ab da db dc fG fi ns ik fb eF hB cO hS hO hA aX hE hs;obtain⟨D0,D1,D2⟩:=aV.out _ G1.out;obtain⟨p0,p1,p2,p3,p4,p5,p6,p7,p8,p9⟩:=zN (D0);clear D0 D1 D2;refine xm func57 rfl ?_;simp only[ntmps57,List.size_toArray,List.length_cons,List.length_nil,Nat.reduceAdd,Nat.reduceSub,Array.replicate_succ,Array.replicate_zero,List.push_toArray,List.append_toArray,List.nil_append,List.cons_append];go_wp2_with fail;rw[ai.out];go_wp2_with fail;refine HV.out.mono ?_;rintro e w2 ⟨rfl,ag⟩;have G2:=zH (Lc G1.out ag)
 by_cases h0:r=0
 case neg=>
  have hR:Aw (E=([],r)):=HE.out.trans (Li h0);have e0:(r != 0)=AA:=by simpa using h0
  have bQ:=zH (Lc HB.out G2.out);clear HE nD mH nH ip Cj sX Oa sR mJ aV;go_wp2_with fail;refine xP (Marks.nil w.heap.size _) (v:=.tuple #[I Z 0 0,O U r]) (fun W=>by kernel_rfl) ?_;intro X hX;rw[hR.out];exact⟨Z,0,rfl,OwnR.nil _ _ _,bQ.out.trans hX.below⟩
 subst h0;have au:=zH (HE.out.trans (Lg (by simp)));obtain⟨fi,K,N,hF⟩:=nD.out rfl;clear fi;have NC:=zH (sR.out K N hF rfl);have rC:=zH (Oa.out rfl);have iC:Aw (∀c∈s.p.t.cases,c.inp.length=N):=fun c hc=>by have h1:=sX.out c rfl hc;have:=hF.pn;omega
 have sW:=zH hF;have rA:=zH (mH.out N hF.n);have sT:=zH (mJ.out K hF.k);have hlv:=hF.lv;clear HE nD Oa sR sX mH mJ hF hr;obtain⟨D0,D1,D2⟩:=aV.out _ G2.out;have p8:=zh D0 8 rfl;have r0:=zh D1 0 rfl;clear D0 D1 D2;go_upto_region 4 with fail
 by_cases dG:0<out.length/\out.length≠s.vs.length
 case pos=>
  have hR:Aw (E=([],15)):=au.out.trans (Li dG);have e0:((out.length:Int) != 0)=AA:=by simp;intro h;rw[h] at dG;simp at dG
  have e1:((out.length:Int) != (s.vs.length:Int))=AA:=by simp;omega
  have e2:¬out=[]:=by rintro rfl;simp at dG
  have e3:¬(out.length:Int)=0:=by omega
  have e4:¬(out.length:Int)=(s.vs.length:Int):=by omega
  have e5:¬out.length=s.vs.length:=by omega
  have bQ:=zH (Lc HB.out G2.out);clear au nH ip Cj iC sW rA sT NC rC aV dG;go_wp2_with fail;refine xP (Marks.nil w.heap.size _) (v:=.tuple #[I Z 0 0,O U 15]) (fun W=>by kernel_rfl) ?_;intro X hX;rw[hR.out];exact⟨Z,0,rfl,OwnR.nil _ _ _,bQ.out.trans hX.below⟩
 have aN:=zH (au.out.trans (Lg dG));have oZ:Aw (0<out.length->out.length=s.vs.length):=fun h=>Decidable.byContradiction fun e=>dG ⟨h,e⟩
 go_cut [1,34] from 16 (fun s1 s34 wx=>s1=Ak #[I AR out.length cr]/\s34=Aj AC/\wx=w2)
 case first=>
  have ag:out.length=0\/out.length=s.vs.length:=by omega
  by_cases h1:out.length=0
  . have e0:((out.length:Int) != 0)=AC:=by simp[h1]
    clear dG ag h1 oZ nH ip Cj iC sW rA sT NC rC aV aN hlv;go_wp2_with fail
    go_meet
    exact⟨rfl,rfl,rfl⟩
  have e0:((out.length:Int) != 0)=AA:=by simp;intro h;rw[h] at h1;simp at h1
  have e1:((out.length:Int) != (s.vs.length:Int))=AC:=by simp;omega
  clear dG ag h1 oZ nH ip Cj iC sW rA sT NC rC aV aN hlv;go_wp2_with fail
  go_meet
  exact⟨rfl,rfl,rfl⟩
 case rest=>
 obtain⟨rfl,rfl,rfl⟩:=hcut;clear p8 r0 dG;have HC:=zH (nH.out _ G2.out);obtain⟨q,hq⟩:=Ki (qH s.n d f);rw[hq] at HC aN rA;obtain⟨D0,D1,D2⟩:=aV.out _ G2.out;have p7:=zh D0 7 rfl;obtain⟨q0,q1,q2,q3,q4,q5,_⟩:=Kg (D2);clear D0 D1 D2 nH hq;go_wp2_with fail;refine HC.out.mono ?_;rintro e w3 ⟨rfl,aj⟩;have G3:=zH (Lc G2.out aj)
 by_cases h0:q=0
 case neg=>
  have hR:Aw (E=([],q)):=aN.out.trans (Li h0);have bQ:=zH (Lc HB.out G3.out);go_wp2_with fail;refine xP (Marks.nil w.heap.size _) (v:=.tuple #[I Z 0 0,O U q]) (fun W=>by kernel_rfl) ?_;intro X hX;rw[hR.out];exact⟨Z,0,rfl,OwnR.nil _ _ _,bQ.out.trans hX.below⟩
 subst h0;have du:=zH (aN.out.trans (Lg (by simp)));obtain⟨D0,D1,D2⟩:=aV.out _ G3.out;have q5:=zh D2 5 rfl;clear D0 D1 D2 aN
 by_cases sA:0<f.args.length
 case pos=>
  have hR:Aw (E=([],11)):=du.out.trans (Li sA);have e0:((f.args.length:Int)>0)=True:=eq_true (by omega);have e1:(0:Int)<(f.args.length:Int):=by omega
  have bQ:=zH (Lc HB.out G3.out);clear du ip Cj iC sW rA sT NC rC aV oZ;go_wp2_with fail;refine xP (Marks.nil w.heap.size _) (v:=.tuple #[I Z 0 0,O U 11]) (fun W=>by kernel_rfl) ?_;intro X hX;rw[hR.out];exact⟨Z,0,rfl,OwnR.nil _ _ _,bQ.out.trans hX.below⟩
 have hR:Aw (E=(qP s out f.h,0)):=du.out.trans (Lg sA);have HAO:=zH (rA.out rfl (by omega));have e1:¬(0:Int)<(f.args.length:Int):=by omega
 have HPH:=zH (pheard_any s sW.out.lv (fun v hv=>by
  obtain⟨⟨pq,h1,h2⟩,_⟩:=sW.out.vs v hv;refine⟨⟨pq,h1,by have:=sW.out.n5;omega⟩,fun j hj=>?_⟩;obtain⟨i,hi,rfl⟩:=LI hv;have:=rC.out i hi j hj
  omega) A SV AV AX kc ks kv kx w3 (ip.out _ G3.out).fv)
 unfold Sy.vs_ at HPH;obtain⟨D0,D1,D2⟩:=aV.out _ G3.out;obtain⟨p0,p1,p2,p3,p4,p5,p6,p7,p8,p9⟩:=zN (D0);clear D0 D1 D2 du rA;go_wp2_with fail;refine HPH.out.mono ?_;rintro e w4 ⟨gH,rfl,hgH,hRH,aG⟩;have G4:=zH (Lc G3.out aG);have tK:w1.heap.size<=w4.heap.size:=G4.out.size;have V9:=hRH.lt;clear aG HPH p0 p1 p2 p3 p4 p5 p6 p7 p8 p9;go_upto_region 12 with fail
 obtain⟨w5,MB,d5,lL,aA⟩:=zk w4 #[I (J ⟨gH,0,Z⟩) s.vs.length s.vs.length] 36;rw[MB];go_upto_region 13 with fail
 obtain⟨w6,MA,d6,lY,cX⟩:=zk w5 #[.func (.func 100) #[] #[Al (J ⟨w.heap.size,0,Z⟩),Al (J ⟨w.heap.size+1+1,0,Z⟩)]] 165;rw[MA];go_upto_region 14 with fail
 obtain⟨w7,hw7,d7,nt,fT⟩:=zk w6 #[.func (.func 101) #[] #[Al (J ⟨w.heap.size,0,Z⟩)]] 167;rw[hw7];have ht:Aq.underlying 169=J (.map 3 168):=underlying169;have O6:=@run_makeMap Aq 169 w7;obtain⟨bH,hbH⟩:=Ki w4.heap.size;have e5:w5.heap.size=bH+1:=by omega
 have e6:w6.heap.size=bH+1+1:=by omega
 have e7:w7.heap.size=bH+1+1+1:=by omega
 have m0:MapOf (O U) (w7.alloc (.map #[] 0)) (bH+1+1+1) 0 (fun _=>Z):=by rw[<-e7];exact MapOf.made w7
 obtain⟨v1,u1,m1,g1⟩:=m0.put yL ht 0 (.func (.func 102) #[] #[]);obtain⟨v2,u2,m2,g2⟩:=m1.put yL ht 1 (.func (.func 103) #[] #[Al (J ⟨bH+1+1,0,Z⟩),Al (J ⟨w.heap.size+1+1,0,Z⟩)]);obtain⟨v3,u3,m3,g3⟩:=m2.put yL ht 2 (.func (.func 104) #[] #[Al (J ⟨bH+1+1,0,Z⟩),Al (J ⟨w.heap.size+1+1,0,Z⟩)]);obtain⟨v4,u4,m4,g4⟩:=m3.put yL ht 3 (.func (.func 105) #[] #[Al (J ⟨bH,0,Z⟩),Al (J ⟨bH+1,0,Z⟩),Al (J ⟨w.heap.size+1+1,0,Z⟩)]);obtain⟨v5,u5,m5,g5⟩:=m4.put yL ht 4 (.func (.func 106) #[] #[Al (J ⟨w.heap.size,0,Z⟩),Al (J ⟨w.heap.size+1+1,0,Z⟩)]);obtain⟨v6,u6,m6,g6⟩:=m5.put yL ht 5 (.func (.func 107) #[] #[Al (J ⟨w.heap.size+1,0,Z⟩),Al (J ⟨bH+1,0,Z⟩),Al (J ⟨w.heap.size+1+1,0,Z⟩)]);obtain⟨v7,u7,m7,g7⟩:=m6.put yL ht 6 (.func (.func 108) #[] #[Al (J ⟨w.heap.size+1+1,0,Z⟩)])
 have Hl:Aw (Wrote (fun z=>z=bH+1+1+1) (w7.alloc (.map #[] 0)) v7):=by
  have t1:=Wrote.of_grown (R:=fun z=>z=bH+1+1+1) g1 (fun k e _=>by cases e;rfl);have t2:=t1.trans (Wrote.of_grown (R:=fun z=>z=bH+1+1+1) g2 (fun k e _=>by cases e;rfl)) (fun _ _ h=>h);have t3:=t2.trans (Wrote.of_grown (R:=fun z=>z=bH+1+1+1) g3 (fun k e _=>by cases e;rfl)) (fun _ _ h=>h);have t4:=t3.trans (Wrote.of_grown (R:=fun z=>z=bH+1+1+1) g4 (fun k e _=>by cases e;rfl)) (fun _ _ h=>h);have t5:=t4.trans (Wrote.of_grown (R:=fun z=>z=bH+1+1+1) g5 (fun k e _=>by cases e;rfl)) (fun _ _ h=>h);have t6:=t5.trans (Wrote.of_grown (R:=fun z=>z=bH+1+1+1) g6 (fun k e _=>by cases e;rfl)) (fun _ _ h=>h);exact t6.trans (Wrote.of_grown (R:=fun z=>z=bH+1+1+1) g7 (fun k e _=>by cases e;rfl)) (fun _ _ h=>h)
 have HM7:Aw (MapOf (O U) v7 (bH+1+1+1) 7 (atG w.heap.size (w.heap.size+1+1) (w.heap.size+1) bH (bH+1) (bH+1+1))):=m7;clear m0 m1 m2 m3 m4 m5 m6 m7 g1 g2 g3 g4 g5 g6 g7;have Hn:=zH d5;have tF:=zH d6;have HD7:=zH d7;have HRH:=zH hRH;have HS:=zH (And.intro lL (And.intro lY nt));have cJ:=zH (And.intro aA (And.intro cX fT));have ot:=zH (And.intro hbH (And.intro e5 (And.intro e6 e7)));have tK:=zH tK;have V9:=zH V9;clear d5 d6 d7 hRH lL lY nt aA cX fT MB MA hw7;simp only[hbH];rw[e7] at O6;clear hbH e5 e6 e7;go_upto_region 15 with fail
 obtain⟨w8,hw8,d8,CJ,dQ⟩:=zk v7 #[.map (J (bH+1+1+1))] 169;rw[hw8];obtain⟨WJ,dL⟩:=Ki v7.heap.size;simp only[dL];have HS8:=zH CJ;clear CJ O6 u1 u2 u3 u4 u5 u6 u7 hw8;go_upto_region 16 with fail
 obtain⟨w9,OA,d9,tO,dJ⟩:=zk w8 #[I Z 0 0] 46;rw[OA];obtain⟨oH,dC⟩:=Ki w8.heap.size;simp only[dC];have hz7:w7.heap.size+1<=v7.heap.size:=by have:=Hl.out.size;simpa using this
 obtain⟨e4,e5,e6,e7⟩:=ot.out;obtain⟨k5,k6,k7⟩:=cJ.out;have B7:Ar w7.heap.size w7 v7:=⟨Hl.out.os,Hl.out.tape,Hl.out.output,by omega,fun k hk=>(Hl.out.block k (by simp;omega) (by show ¬k=bH+1+1+1;omega)).trans ((ye w7 _).block k hk)⟩;have B8:Ar w7.heap.size w7 w8:=B7.trans (dQ.mono (by omega));have B68:Ar w6.heap.size w6 w8:=k7.trans (B8.mono (by omega));have B58:Ar w5.heap.size w5 w8:=k6.trans (B68.mono (by omega));have B48:Ar w4.heap.size w4 w8:=k5.trans (B58.mono (by omega));have Ev:=tK.out;have Pk:=V9.out;have G8:=zH (G4.out.trans (B48.mono Ev));have hs8':=HS8.out
 have Oh:Aw (AtW s A SV AV AX kc ks kv kx f.h AF f.args.length cf out AR cr w.heap.size (w.heap.size+1+1) (w.heap.size+1) bH (bH+1) (bH+1+1) gH w8):=by
  obtain⟨x1,x2,x3⟩:=aV.out _ G8.out;refine⟨(ip.out _ G8.out).fx,(ip.out _ G8.out).fc,Cj.out _ G8.out,x1,x3,x2,?_,?_,?_,?_⟩
  . have:=Hn.out;rw[e4] at this;exact Lb B58 (by omega) this
  . exact(B48.block gH Pk).trans HRH.out
  . have:=tF.out;rw[e5] at this;exact Lb B68 (by omega) this
  have:=HD7.out;rw[e6] at this;exact Lb B8 (by omega) this
 obtain⟨iu,Dp,TH,oO,bn⟩:=zk w9 #[O U s.p.t.n,O U s.p.t.ins,O U s.p.t.outs,I A s.p.t.cases.length kc,O U s.p.a.n,I SV s.p.a.sts.length ks,O U s.p.k,O U s.n,I AV s.vs.length kv,I AX s.xs.length kx] 35;have Dn:oH+2=iu.heap.size:=by omega
 have fg:Aw (∀X,Wrote (fun z=>z=oH) iu X->AtW s A SV AV AX kc ks kv kx f.h AF f.args.length cf out AR cr w.heap.size (w.heap.size+1+1) (w.heap.size+1) bH (bH+1) (bH+1+1) gH X):=fun X hX=>Oh.out.keep ⟨hX.os.trans (bn.os.trans dJ.os),hX.tape.trans (bn.tape.trans dJ.tape),hX.output.trans (bn.output.trans dJ.output),by have:=hX.size;omega,fun k hk=>(hX.block k (by omega) (by show ¬k=oH;omega)).trans ((bn.block k (by omega)).trans (dJ.block k (by omega)))⟩
 have HMP:Aw (∀X,Wrote (fun z=>z=oH) iu X->X.heap[WJ]?=J (Ai #[.map (J (bH+1+1+1))] 169 (0,0))/\X.heap[bH+1+1+1]?=v7.heap[bH+1+1+1]?/\X.heap[w.heap.size+1+1]?=J (Ai #[O U f.h.op,O U f.h.p,O U f.h.o,O U f.h.v,O U f.h.g,I AF f.args.length cf] 41 (0,0))):=fun X hX=>by
  have hk:∀k,k<oH->X.heap[k]?=w8.heap[k]?:=fun k hk=>(hX.block k (by omega) (by show ¬k=oH;omega)).trans ((bn.block k (by omega)).trans (dJ.block k (by omega)))
  refine⟨(hk WJ (by omega)).trans ?_,(hk _ (by omega)).trans (dQ.block _ (by omega)),?_⟩
  . rw[<-dL];exact d8
  . have h1:=WP.out
    exact(hk _ (by omega)).trans (aV.out _ G8.out).2.2
 have h0I:AtIn oH [] iu iu:=⟨Wrote.refl _ _,Z,0,by rw[<-dC];exact Lb bn (by omega) d9,OwnR.nil _ _ _⟩;have Cw:=zH (atom_fn sW.out NC.out rC.out iC.out oZ.out HAO.out A SV AV AX AF AR kc ks kv kx f.args.length cf cr w.heap.size (w.heap.size+1+1) (w.heap.size+1) bH (bH+1) (bH+1+1) gH);obtain⟨kf,kb,Iy,ek,ak⟩:=Cw.out;have mL:=zH ak;have HGO:=zH Iy;have sj:=zH (fun (X:Ba)=>JO s A SV AV AX kc ks kv kx X)
 have aS:(zu (K+1) 0 s.xs.length).length<=20000:=by
  rw[kM (K+1) _ (by omega)];exact Lz (LU sW.out.lx (show K+1<=101 by have:=sW.out.k6;omega)) (by decide)
 have lh:=zH (hU (s.vs_ A kc SV ks AV kv AX kx) K s.xs.length (by have:=sW.out.k6;omega) (by have:=sW.out.lx;omega) AX kx ⟨by unfold Sy.vs_;rw[<-sW.out.k];rfl,by unfold Sy.vs_;rfl⟩ w9.heap.size iu TH);obtain⟨L,hL⟩:=Ki (zu (K+1) 0 s.xs.length);rw[hL] at lh mL aS sT;unfold Sy.vs_ at sj
 have G10:Aw (Ar w.heap.size w iu):=by
  have g9:=G8.out.trans (dJ.mono (by have:=G8.out.size;omega));have fu:=g9.trans (bn.mono (by have:=g9.size;omega));exact Lc HB.out fu
 have pH:Aw (w.heap.size+3<=oH):=by have:=G8.out.size;have:=WP.out;rw[Aw];omega
 have HW10:=zH Dp;have H0I:=zH h0I;have Cf:=zH Dn;have WY:=zH tO;have D9:=zH ((dJ.block w.heap.size (by have:=G8.out.size;have:=WP.out;omega)).trans (aV.out _ G8.out).1);have rH:=zH dC;clear OA d9 tO dJ Dp TH oO bn Dn h0I Iy ak Cw hz7 e4 e5 e6 e7 k5 k6 k7 B7 B8 B68 B58 B48 Ev Pk hs8' Oh dL dC d8 dQ Hn tF HD7 HRH HS cJ ot Hl G4 G3 G2 G1 ip Cj iC oZ NC rC V9 tK hL;have tK:Aw True:=trivial;obtain⟨p0,p1,p2,p3,p4,p5,p6,p7,p8,p9⟩:=zN (D9.out);go_wp2_with fail;refine(sj.out _).mono ?_;rintro e wx ⟨rfl,hwx⟩;rw[HW10.out] at hwx;obtain rfl:=hwx;clear p0 p1 p2 p3 p4 p5 p6 p7 p8 p9;go_wp2_with fail
 refine jv rfl (Pg Sk (by kernel_rfl) rfl) lh.out (by rintro x rfl;have:=Cf.out;have:=WY.out;have:=rH.out;omega) (fun _=>rfl)
  (fun (pre:List { x:Nat×Nat // x∈L }) (X:Ba)=>AtIn oH (pre.map fun x=>xN s out f.h x.1) iu X)
  (fun _ _ _=>False)
  ?hI (fun _ _ _ _ _ h _ _=>h)
  H0I.out (fun x=>#[O U x.1,O U x.2]) 164 ?a1 ?assign ?body ?done ?stop (fun _ _ h=>h.wrote.size)
 case hI=>
  intro pre X X' row hX hg hr;exact hX.turn (by have:=Cf.out;omega) hg hr
 case assign=>
  intro l pre x X K' hI hK;obtain⟨g',mU⟩:∃g',g'=X.heap.size:=⟨_,rfl⟩;have HK:=zH (hK g' mU (hI.turn (by have:=Cf.out;omega) (row:=Z) ⟨rfl,rfl,rfl,by simp,fun k hk _=>N9 X _ k hk⟩ (fun r e=>by cases e)));have HG:=zH mU;clear hK mU hI;gi_wp2;rw[<-HG.out];exact HK.out
 case body=>
  intro l pre x g W3 hg lw hI aa;obtain⟨bs,cA⟩:∃bs,(pre.map fun x=>xN s out f.h x.1)=bs:=⟨_,rfl⟩;have aL:bs.length<=20000:=by rw[<-cA,LJ];omega
  have SR:Aw (((pre++[x]).map fun x=>xN s out f.h x.1)=bs++[xN s out f.h x.1]):=by rw[Aw,LM,cA];rfl
  rw[cA] at hI;obtain⟨P,c,bk,ho⟩:=hI.box;obtain⟨x1,x2,x3⟩:=HMP.out W3 hI.wrote;have HC:=zH (mL.out x.1 x.2 W3.drew ((fg.out W3 hI.wrote).keep (Ll _ W3).drew));obtain⟨bv,sJ⟩:=Ki (xN s out f.h x.1);rw[sJ] at SR HC;have hszI:=hI.wrote.size;have Dn:=Cf.out
  have eG:Aw (∀X,Ar W3.heap.size W3 X->X.heap[oH]?=J (Ai #[I P bs.length c] 46 (0,0))/\X.heap[WJ]?=J (Ai #[.map (J (bH+1+1+1))] 169 (0,0))/\X.heap[bH+1+1+1]?=v7.heap[bH+1+1+1]?/\X.heap[w.heap.size+1+1]?=J (Ai #[O U f.h.op,O U f.h.p,O U f.h.o,O U f.h.v,O U f.h.g,I AF f.args.length cf] 41 (0,0))/\X.heap[g]?=J (Ai #[O U x.1.1,O U x.1.2] 164 (0,0))):=fun X hX=>
   ⟨Lb hX (by omega) bk,La hX x1,Lb hX (by
    obtain⟨_,_,h1,_⟩:=HM7.out;rw[h1] at x2
    exact blk_lt' x2) x2,La hX x3,La hX lw⟩
  have mK:=zH hI;have fw:=zH ho;have G9:=zH bk;have hgW:=zj lw;clear hI ho bk x1 x2 x3 lw cA sJ;gi_wp2_with fail;refine qg [(0,AA),(1,AA),(2,AA),(3,AA),(5,AA),(4,AA),(6,AC),(7,AC),(8,AC),(9,AC)] (fun X=>X.heap[oH]?=J (Ai #[I P bs.length c] 46 (0,0))/\X.heap[WJ]?=J (Ai #[.map (J (bH+1+1+1))] 169 (0,0))/\X.heap[bH+1+1+1]?=v7.heap[bH+1+1+1]?/\X.heap[w.heap.size+1+1]?=J (Ai #[O U f.h.op,O U f.h.p,O U f.h.o,O U f.h.v,O U f.h.g,I AF f.args.length cf] 41 (0,0))/\X.heap[g]?=J (Ai #[O U x.1.1,O U x.1.2] 164 (0,0))) (by kernel_rfl) (by kernel_rfl) (by kernel_rfl) (by rintro⟨_,_,h⟩;exact h) (eG.out _ (Ll _ _).drew) ?_
  repeat
   apply zA rfl
   . rintro K' ac X ⟨u1,u2,u3,u4,u5⟩
     have dl:=(HM7.out.same u3).look yL ht (show(zeroValue 168).run Aq X=.ok .nilFunc X by kernel_rfl) f.h.op;rw[HGO.out] at dl;simp only[Option.getD_some] at dl;have y0:=zh u1 0 rfl;have y1:=zh u2 0 rfl;have y2:=zh u4 0 rfl;obtain⟨y3,y4,_⟩:=Ka u5;clear u1 u2 u3 u4 u5;go_simp;exact ac
  refine zx rfl ?_;intro K' ac;go_simp;rw[ek];refine Calls.mono HC.out ?_;rintro e W4 ⟨rfl,aG⟩;have aG:Ar W3.heap.size W3 W4:=(Ll _ W3).drew.trans aG;have dT:=zH aG;have Cv:=zH (mK.out.call (by omega) aG);have lg:Aw (OwnR kBl W4 iu.heap.size (I P bs.length c) bs.length (bs.map .bool)):=fw.out.below aG (Le _);refine ac _ _ (eG.out _ aG) ?_;clear ac K' aG HC;refine zx rfl ?_;intro K' ac;go_simp;obtain⟨W5,dM,d5,lL,aA⟩:=zk W4 #[Aj bv] 4;rw[dM];have se:=zH (Cv.out.call (by omega) aA);have lE:Aw (OwnR kBl W5 iu.heap.size (I P bs.length c) bs.length (bs.map .bool)):=lg.out.below aA (Le _);have cj:Aw (Ar W3.heap.size W3 W5):=Lc dT.out aA;have OJ:iu.heap.size<=W5.heap.size:=by have:=cj.out.size;omega
  refine ac _ _ (eG.out _ cj.out) ?_;clear ac K' dM Cv lg;refine xg rfl (by kernel_rfl) ?_;intro K' ac;rw[Li (by rfl)];refine jQ kBl_ok (.tmp 62) (.tmp 69) (by rfl) iu.heap.size (I P bs.length c) bs.length (bs.map .bool) (by rfl) lE.out W4.heap.size #[Aj bv] (by rfl) d5 rfl (by simp[Value.oneCell']) (by omega) OJ _ rfl ?_;intro g' aD W6 pV iI DR DG;have AH:=(eG.out _ cj.out).1;have oJ:Aw (AtIn oH (bs++[bv]) iu (W6.setCell ⟨oH,0,Z⟩ (I (J ⟨g',0,Z⟩) (bs.length+1) aD))):=se.out.push (by omega) AH lE.out pV iI;have pd:=zH (se.out.keeps (bi:=w9.heap.size) (by omega) (by have:=WY.out;have:=rH.out;omega) (by have:=WY.out;have:=rH.out;omega) AH lE.out iI (I (J ⟨g',0,Z⟩) (bs.length+1) aD));have cX:Ar iu.heap.size W5 W6:=(Ll _ _).grown iI OJ (fun k hk=>(lE.out.lt k hk).1);have hfz:=zi ((cX.block oH (by omega)).trans AH) 0;have oE:=zj ((cX.block oH (by omega)).trans AH);have Wm:=zh ((cX.block oH (by omega)).trans AH) 0 rfl;have sd:Aw (∀k,k<iu.heap.size->W6.heap[k]?=W5.heap[k]?):=fun k hk=>cX.block k hk
  refine ac (fun _=>True) _ _ trivial ?_;clear ac K';refine zx rfl ?_;intro K' ac;go_simp;refine ac _ _ trivial ?_;refine zO ?_;clear ac K';refine⟨?_,?_,?_⟩
  . refine KeepsFrom.trans ?_ pd.out.1
    exact⟨cj.out.size,fun k o hk aW _=>(cj.out.block k (blk_lt' aW)).trans aW⟩
  . refine KeepB.trans ?_ pd.out.2
    exact⟨cj.out.size,fun k hk hl=>cj.out.block k hl⟩
  show AtIn oH _ iu _;rw[SR.out];exact oJ.out
 case done=>
  intro D ys W hD nI hI mi;have sx:ys.map (fun x=>xN s out f.h x.1)=L.map (xN s out f.h):=by rw[show ys.map (fun x=>xN s out f.h x.1)=(ys.map (·.1)).map (xN s out f.h) by rw[P4];rfl,nI]
  rw[sx] at hI;obtain⟨P,c,bk,ho⟩:=hI.box;have q4:=zh bk 0 rfl;have HO:=zH ho;have HI9:=zH hI;have Di:=zH mi;clear hI ho bk mi nI sx;go_wp2_with fail;refine xP (B:=iu.heap.size) (w:=W) (show Marks iu.heap.size _ W from⟨[D],rfl,by simp,fun r hr=>by rw[L4] at hr;subst hr;exact⟨hD,Di.out⟩⟩) (v:=.tuple #[I P L.length c,O U 0]) (fun W=>by kernel_rfl) ?_;intro X hS;rw[hR.out,sT.out];have ri:Ar iu.heap.size W X:=hS.below;have Oz:=HI9.out.wrote;have Dn:=Cf.out;have tO:=WY.out;have dC:=rH.out;have hwz:=Oz.size;have IC:=G10.out.size;have cO:=WP.out;have en:=pH.out;refine⟨P,c,by rw[LJ],?_,G10.out.trans ⟨ri.os.trans Oz.os,ri.tape.trans Oz.tape,ri.output.trans Oz.output,by have:=ri.size;omega,fun k hk=>(ri.block k (by omega)).trans (Oz.block k (by omega) (by show ¬k=oH;omega))⟩⟩;have hO2:=hS.own HO.out;simp only[List.length_map] at hO2 ⊢;refine⟨hO2.1,?_⟩;rcases hO2.2 with h0 | ⟨gg,cap,cur,e1,hb,rest⟩
  . exact .inl h0
  exact .inr ⟨gg,cap,cur,e1,by omega,rest⟩
 intro D c pre W _ _ h;exact h.elim
theorem kshared_any(bw n N:Nat)(cls:Nat->List Int)(h1:1<=n)(hn:n<=100000)(hN:N<=5)(G:Nat)(hG:G<32)(B:Bb)(cb:Nat)(set:List Bool)(hb:set.length=n)(M:Nat)(M5:M<=n)(hM:yg n (evL n cls (zS G N)) set (M+1)=yg n (evL n cls (zS G N)) set M)(aa:∀m,m<M->yg n (evL n cls (zS G N)) set (m+1)≠yg n (evL n cls (zS G N)) set m)
  (w:Ba) (hK:KwAt w w.heap.size bw n N cls) (hB:BAt w w.heap.size B set) :
  As Aq 61 #[Al (J ⟨bw,0,Z⟩),O U (G:Int),I B n cb] w (RetB (yg n (evL n cls (zS G N)) set M) w):=by
 have HC:=zH (ZD bw n N cls h1 hn hN G hG B cb set hb M M5 hM aa w hK hB);unfold RetB;rw[qp];go_enter func61,ntmps61;go_wp2_with fail;refine HC.out.mono ?_;rintro e w2 ⟨g2,rfl,ib,ef,ag⟩;have dk:=zH ef;have aw:=zH ag;go_wp2_with fail;go_ret;exact⟨g2,rfl,ib,dk.out,aw.out⟩
theorem XK(h:Fh)(AF:Bb)(lf cf:Nat)(AB:Bb)(n kb bw c:Nat)(w:Ba)(Q:Ba->Ending->Ba->Prop)(hc:GrB w c 42 bw)(hr:∀X e w',Q X e w'->∃A' n' c',e=Am (I A' n' c'))
  (hq:∀X,Ar w.heap.size w X->As Aq 42 #[Al (J ⟨bw,0,Z⟩),O U h.g,I AB n kb] X (Q X)) :
  As Aq 59 #[Ak #[O U h.op,O U h.p,O U h.o,O U h.v,O U h.g,I AF lf cf],I AB n kb,Al (J ⟨c,0,Z⟩)] w fun e w'=>∃X,Ar w.heap.size w X/\Q X e w':=by
 obtain⟨w1,ab,d0,aK,hB⟩:=zk w #[O U h.op,O U h.p,O U h.o,O U h.v,O U h.g,I AF lf cf] 41;have HC:=zH (hq w1 hB);have HR:=zH hr;have q0:=zh (hc.keep hB) 0 rfl;have p4:=zh d0 4 rfl;unfold XS at q0;have ai:=zH ab;have HB:=zH hB;clear ab d0 hB hc hr hq;go_enter func59,ntmps59;go_upto_region 1 with fail
 rw[ai.out];go_wp2_with fail;refine HC.out.mono ?_;intro e w2 hQ;obtain⟨A',n',c',rfl⟩:=HR.out _ _ _ hQ;have HQ:=zH hQ;go_wp2_with fail;go_ret;exact⟨w1,HB.out,HQ.out⟩
theorem gL(h:Fh)(AF:Bb)(lf cf:Nat)(AB:Bb)(n kb bw c:Nat)(w:Ba)(Q:Ba->Ending->Ba->Prop)(hc:GrB w c 43 bw)(hr:∀X e w',Q X e w'->∃A' n' c',e=Am (I A' n' c'))
  (hq:∀X,Ar w.heap.size w X->As Aq 43 #[Al (J ⟨bw,0,Z⟩),O U h.g,I AB n kb] X (Q X)) :
  As Aq 59 #[Ak #[O U h.op,O U h.p,O U h.o,O U h.v,O U h.g,I AF lf cf],I AB n kb,Al (J ⟨c,0,Z⟩)] w fun e w'=>∃X,Ar w.heap.size w X/\Q X e w':=by
 obtain⟨w1,ab,d0,aK,hB⟩:=zk w #[O U h.op,O U h.p,O U h.o,O U h.v,O U h.g,I AF lf cf] 41;have HC:=zH (hq w1 hB);have HR:=zH hr;have q0:=zh (hc.keep hB) 0 rfl;have p4:=zh d0 4 rfl;unfold XS at q0;have ai:=zH ab;have HB:=zH hB;clear ab d0 hB hc hr hq;go_enter func59,ntmps59;go_upto_region 1 with fail
 rw[ai.out];go_wp2_with fail;refine HC.out.mono ?_;intro e w2 hQ;obtain⟨A',n',c',rfl⟩:=HR.out _ _ _ hQ;have HQ:=zH hQ;go_wp2_with fail;go_ret;exact⟨w1,HB.out,HQ.out⟩
theorem kgrp_shared(h:Fh)(AF:Bb)(lf cf:Nat)(AB:Bb)(n kb bw c:Nat)(w:Ba)(Q:Ba->Ending->Ba->Prop)(hc:GrB w c 61 bw)(hr:∀X e w',Q X e w'->∃A' n' c',e=Am (I A' n' c'))
  (hq:∀X,Ar w.heap.size w X->As Aq 61 #[Al (J ⟨bw,0,Z⟩),O U h.g,I AB n kb] X (Q X)) :
  As Aq 59 #[Ak #[O U h.op,O U h.p,O U h.o,O U h.v,O U h.g,I AF lf cf],I AB n kb,Al (J ⟨c,0,Z⟩)] w fun e w'=>∃X,Ar w.heap.size w X/\Q X e w':=by
 obtain⟨w1,ab,d0,aK,hB⟩:=zk w #[O U h.op,O U h.p,O U h.o,O U h.v,O U h.g,I AF lf cf] 41;have HC:=zH (hq w1 hB);have HR:=zH hr;have q0:=zh (hc.keep hB) 0 rfl;have p4:=zh d0 4 rfl;unfold XS at q0;have ai:=zH ab;have HB:=zH hB;clear ab d0 hB hc hr hq;go_enter func59,ntmps59;go_upto_region 1 with fail
 rw[ai.out];go_wp2_with fail;refine HC.out.mono ?_;intro e w2 hQ;obtain⟨A',n',c',rfl⟩:=HR.out _ _ _ hQ;have HQ:=zH hQ;go_wp2_with fail;go_ret;exact⟨w1,HB.out,HQ.out⟩
theorem kone_any(h:Fh)(AF:Bb)(lf cf:Nat)(AB:Bb)(n kb bw b0:Nat)(w:Ba)(Q:Ba->Ending->Ba->Prop)(hc:w.heap[b0]?=J (Ai #[Al (J ⟨bw,0,Z⟩)] 72 (0,0)))(hr:∀X e w',Q X e w'->∃A' n' c',e=Am (I A' n' c'))
  (hq:∀X,Ar w.heap.size w X->As Aq 40 #[Al (J ⟨bw,0,Z⟩),O U h.p,I AB n kb] X (Q X)) :
  As Aq 60 #[Ak #[O U h.op,O U h.p,O U h.o,O U h.v,O U h.g,I AF lf cf],I AB n kb,Al (J ⟨b0,0,Z⟩)] w fun e w'=>∃X,Ar w.heap.size w X/\Q X e w':=by
 obtain⟨w1,ab,d0,aK,hB⟩:=zk w #[O U h.op,O U h.p,O U h.o,O U h.v,O U h.g,I AF lf cf] 41;have HC:=zH (hq w1 hB);have HR:=zH hr;have q0:=zh (La hB hc) 0 rfl;have p1:=zh d0 1 rfl;have ai:=zH ab;have HB:=zH hB;clear ab d0 hB hc hr hq;go_enter func60,ntmps60;go_upto_region 1 with fail
 rw[ai.out];go_wp2_with fail;refine HC.out.mono ?_;intro e w2 hQ;obtain⟨A',n',c',rfl⟩:=HR.out _ _ _ hQ;have HQ:=zH hQ;go_wp2_with fail;go_ret;exact⟨w1,HB.out,HQ.out⟩
end
section
open Go.RowKit Go.Shelf
def orL(n:Nat)(a b:List Bool):List Bool:=(List.range n).map fun i=>a.getD i AC||b.getD i AC
theorem vZ(n:Nat)(a b:List Bool):(orL n a b).length=n:=by simp[orL]
theorem orL_at{n:Nat}{a b:List Bool}{i:Nat}(h:i<n):(orL n a b)[i]'(by rw[vZ];exact h)=(a.getD i AC||b.getD i AC):=by
 simp only[orL,List.getElem_map,List.getElem_range]
def uT(s:Sy)(h:Fh)(a b:List Bool):List Bool:=
 if h.op=10 then xQ (ptn s) (yB s h.p.toNat) a
 else if h.op=11 then evG s h.g a
 else if h.op=12 then xQ (ptn s) (kp s h.g) a
 else if h.op=13 then yg (ptn s) (evG s h.g) a (ptn s)
 else if h.op=7 then ja (ptn s) a
 else if h.op=8 then kj (ptn s) a b
 else orL (ptn s) a b
theorem vI(s:Sy)(h:Fh)(a b:List Bool):(uT s h a b).length=ptn s:=by
 unfold uT
 repeat' split
 . exact yO _ _ _
 . exact xR _ _ _ _
 . exact yO _ _ _
 . exact qp _
 . exact qa _ _
 . exact yP _ _ _
 exact vZ _ _ _
def vK(s:Sy)(out:List Int):Nat->Fm->List Bool
 | 0,f=>qP s out f.h
 | d+1,f=>if f.args.length=0 then qP s out f.h else uT s f.h (vK s out d (f.args.getD 0 default)) (vK s out d (f.args.getD 1 default))
theorem vJ(s:Sy)(out:List Int):∀d f,(vK s out d f).length=ptn s
 | 0,f=>vQ s out f.h
 | d+1,f=>by
  unfold vK
  split
  . exact vQ s out f.h
  . exact vI ..
def evOk(N:Nat):Nat->Fm->Prop
 | 0,f=>xV N f.h f.args.length=0/\f.args=[]
 | d+1,f=>xV N f.h f.args.length=0/\f.h.op<=13/\∀x∈f.args,evOk N d x
def wI(a b:List Bool)(k:Nat):List Bool:=a.take k++b.drop k
theorem Qt(a b:List Bool):wI a b 0=b:=by simp[wI]
theorem midB_all{a b:List Bool}(h:a.length=b.length){k:Nat}(hk:k=b.length):wI a b k=a:=by subst hk;simp[wI,<-h]
theorem wH{a b:List Bool}(h:a.length=b.length)(k:Nat):(wI a b k).length=b.length:=by simp[wI];omega
theorem midB_at{a b:List Bool}(h:a.length=b.length){k:Nat}(hk:k<b.length):(wI a b k)[k]'(by rw[wH h];exact hk)=b[k]:=by
 unfold wI;rw[N5 (by simp;omega)];simp[show min k a.length=k by omega]
theorem midB_get{a b:List Bool}(h:a.length=b.length){k:Nat}(hk:k<=b.length)(i:Nat):(wI a b k)[i]?=if i<k then a[i]? else b[i]?:=by
 unfold wI
 by_cases e:i<k
 . rw[Li e,LY (by simp;omega),NU,Li e]
 rw[Lg e,LW (by simp;omega),Rp]
 congr 1
 simp;omega
theorem midB_set{a b:List Bool}(h:a.length=b.length){k:Nat}(hk:k<b.length):(wI a b k).set k (a[k]'(by omega))=wI a b (k+1):=by
 refine Sp fun i=>?_
 rw[P6,midB_get h (by omega),midB_get h (by omega),wH h]
 by_cases e:k=i
 . subst e
   rw[Li rfl,Li hk,Li (by omega),Ln]
 rw[Lg e]
 by_cases e2:i<k
 . rw[Li e2,Li (by omega)]
 rw[Lg e2,Lg (by omega)]
def OwnB(w:Ba)(g cap:Nat)(bs:List Bool):Prop:=∃cur:Array Ax,w.heap[g]?=J (Ai cur 4 (0,0))/\cur.size=cap/\bs.length<=cap/\cap<=maxLen/\cur.toList.take bs.length=bs.map .bool
theorem OwnB.lt{w:Ba}{g cap:Nat}{bs:List Bool}(h:OwnB w g cap bs):g<w.heap.size:=by obtain⟨_,h1,_⟩:=h;exact zj h1
theorem OwnB.cell{w:Ba}{g cap:Nat}{bs:List Bool}(h:OwnB w g cap bs)(k:Nat)(hk:k<bs.length):w.cell? ⟨g,k,Z⟩=J (Aj bs[k]):=by
 obtain⟨cur,h1,h2,h3,_,h4⟩:=h;refine zh h1 k ?_;have e:(cur.toList.take bs.length)[k]?=(bs.map Aj)[k]?:=by rw[h4]
 rw[NU,Li hk,Ry,Ln hk] at e;simpa using e
theorem OwnB.froz{w:Ba}{g cap:Nat}{bs:List Bool}(h:OwnB w g cap bs)(k:Nat):w.frozen? ⟨g,k,Z⟩=AC:=by
 obtain⟨cur,h1,_⟩:=h;exact zi h1 k
theorem OwnB.set{w:Ba}{g cap:Nat}{bs:List Bool}(h:OwnB w g cap bs)(k:Nat)(x:Bool):OwnB (w.setCell ⟨g,k,Z⟩ (Aj x)) g cap (bs.set k x):=by
 obtain⟨cur,h1,h2,h3,h5,h4⟩:=h;refine⟨cur.setIfInBounds k (Aj x),?_,by simpa using h2,by simpa using h3,h5,?_⟩
 . rw[World.setCell,PG,Li rfl,h1];rfl
 rw[Ri,Array.toList_setIfInBounds,List.take_set,h4,So]
theorem OwnB.of{w:Ba}{base:Nat}{A:Bb}{n c:Nat}{bs:List Bool}(hl:bs.length=n)(h1:1<=n)(h:OwnR kBl w base (I A n c) n (bs.map .bool)):∃g,A=J ⟨g,0,Z⟩/\base<=g/\OwnB w g c bs:=by
 rcases h.2 with ⟨_,h0⟩ | ⟨g,cap,cur,e,hb,hg,eU,mV,aX,iG⟩
 . omega
 cases e
 exact⟨g,rfl,hb,cur,hg,by rw[aX];exact NW _,by omega,mV,by rw[hl,<-iG];show _=cur.toList.take (n*1);rw[NW]⟩
theorem BRow.ownB{w:Ba}{g n:Nat}{bs:List Bool}(h:BRow w g bs)(hl:bs.length=n)(hn:n<=100000):OwnB w g n bs:=
 ⟨xT bs,h,by simpa[xT] using hl,by omega,by unfold maxLen;omega,by rw[show(xT bs).toList=bs.map Aj by simp[xT]];exact Nd (by simp)⟩
theorem OwnB.at_{w:Ba}{g c B:Nat}{bs:List Bool}(h:OwnB w g c bs)(hB:g<B):BAt w B (J ⟨g,0,Z⟩) bs:=fun _=>⟨g,0,rfl,hB,fun i hi=>by rw[LO];exact h.cell i hi⟩
theorem OwnB.same{w w':Ba}{g c:Nat}{bs:List Bool}(h:OwnB w g c bs)(e:w'.heap[g]?=w.heap[g]?):OwnB w' g c bs:=by
 obtain⟨cur,h1,rest⟩:=h;exact⟨cur,e.trans h1,rest⟩
structure BoolK(g:Nat)(w w':Ba):Prop where
 cell:∀(p:Addr) (v:Ax),w.cell? p=J v->(∀b,v≠.bool b)->w'.cell? p=J v
 heap:∀z,z≠g->w'.heap[z]?=w.heap[z]?
 size:w'.heap.size=w.heap.size
 os:w'.os=w.os
 tape:w'.tape=w.tape
 output:w'.output=w.output
theorem BoolK.refl(g:Nat)(w:Ba):BoolK g w w:=⟨fun _ _ h _=>h,fun _ _=>rfl,rfl,rfl,rfl,rfl⟩
theorem BoolK.set{g k:Nat}{w w':Ba}{y:Bool}(h:BoolK g w w')(hc:w'.cell? ⟨g,k,Z⟩=J (Aj y))(x:Bool):BoolK g w (w'.setCell ⟨g,k,Z⟩ (Aj x)):=by
 refine⟨fun p v hp hv=>?_,fun z hz=>(Lh w' ⟨g,k,Z⟩ _ z hz).trans (h.heap z hz),by simpa[World.setCell] using h.size,h.os,h.tape,h.output⟩;have h1:=h.cell p v hp hv
 by_cases e:(⟨g,k,Z⟩:Addr)=p
 . subst e
   rw[hc] at h1;exact absurd (NR h1).symm (hv y)
 exact(World.cell?_setCell_other (h:=e) ..).trans h1
theorem BoolK.below{g B:Nat}{w w':Ba}(h:BoolK g w w')(hg:B<=g):Ar B w w':=⟨h.os,h.tape,h.output,by rw[h.size];exact Le _,fun k hk=>h.heap k (by omega)⟩
theorem BoolK.iat{g B:Nat}{w w':Ba}(h:BoolK g w w'){A:Bb}{xs:List Int}(hx:IAt w B A xs):IAt w' B A xs:=fun h0=>by
 obtain⟨b,off,e,aa,hc⟩:=hx h0;exact⟨b,off,e,aa,fun i hi=>h.cell _ _ (hc i hi) (fun b e=>by cases e)⟩
theorem KwAt.bools{g B bw n N:Nat}{cls:Nat->List Int}{w w':Ba}(hk:KwAt w B bw n N cls)(h:BoolK g w w'):KwAt w' B bw n N cls:=by
 obtain⟨b,off,cC,h1,h2,h3⟩:=hk.rows;refine⟨hk.lt,h.cell _ _ hk.size (fun b e=>by cases e),⟨b,off,cC,h.cell _ _ h1 (fun b e=>by cases e),h2,fun q hq=>?_⟩,hk.len⟩;obtain⟨A,c,h4,h5⟩:=h3 q hq;exact⟨A,c,h.cell _ _ h4 (fun b e=>by cases e),h.iat h5⟩
section
variable {s:Sy} {A SV AV AX:Bb} {kc ks kv kx B:Nat} {w w':Ba} {bw mb m:Nat} {F:Int->Option Ax}
theorem KwD.bools(h:KwD s A SV AV AX kc ks kv kx B w bw mb m F){g:Nat}(hb:BoolK g w w')(hg:B<=g)(h1:bw≠g)(h2:mb≠g):KwD s A SV AV AX kc ks kv kx B w' bw mb m F:=by
 obtain⟨AQ,cQ,bC⟩:=h.blk;have hz:=hb.size;refine⟨by rw[hz];exact h.kw.bools hb,⟨AQ,cQ,(hb.heap _ h1).trans bC⟩,h.map.same (hb.heap _ h2),fun q v hv=>?_,h.sys.keep (hb.below hg),by rw[hz];exact h.lowB,h.low⟩;obtain⟨A',c',e,hI⟩:=h.vals q v hv;exact⟨A',c',e,by rw[hz];exact hb.iat hI⟩
end
structure EvC(s:Sy)(out:List Int)(AR A SV AV AX:Bb)(kc ks kv kx B bw mb mo b0 c1 c2 c3:Nat)(w:Ba):Prop where
 kw:∃m F,KwD s A SV AV AX kc ks kv kx B w bw mb m F
 ops:∃m,MapOf (O U) w mo m (opG b0 c1 c2 c3)
 at_:OpsAt w bw b0 c1 c2 c3
 ne:mo≠mb
 out:IAt w B AR out
section
variable {s:Sy} {out:List Int} {AR A SV AV AX:Bb} {kc ks kv kx B bw mb mo b0 c1 c2 c3:Nat} {w w':Ba}
theorem OpsAt.keep(h:OpsAt w bw b0 c1 c2 c3)(hk:∀z,¬z=mb->z<w.heap.size->w'.heap[z]?=w.heap[z]?)(hm:∃m F,MapOf (O U) w mb m F):OpsAt w' bw b0 c1 c2 c3:=by
 obtain⟨m,F,es,bG,oS,_⟩:=hm;have ne:∀z (cs:Array Ax) t,w.heap[z]?=J (Ai cs t (0,0))->¬z=mb:=fun z cs t hz e=>by rw[e,oS] at hz;cases hz
 exact⟨(hk _ (ne _ _ _ h.b0) (zj h.b0)).trans h.b0,(hk _ (ne _ _ _ h.c1) (zj h.c1)).trans h.c1,(hk _ (ne _ _ _ h.c2) (zj h.c2)).trans h.c2,(hk _ (ne _ _ _ h.c3) (zj h.c3)).trans h.c3⟩
theorem EvC.wrote(h:EvC s out AR A SV AV AX kc ks kv kx B bw mb mo b0 c1 c2 c3 w)(hw:Wrote (fun z=>z=mb) w w')(hk:∃m F,KwD s A SV AV AX kc ks kv kx B w' bw mb m F):EvC s out AR A SV AV AX kc ks kv kx B bw mb mo b0 c1 c2 c3 w':=by
 obtain⟨m,F,hK⟩:=h.kw;obtain⟨m',hM⟩:=h.ops;exact⟨hk,⟨m',hM.same (hw.block _ hM.lt h.ne)⟩,h.at_.keep (fun z hz hl=>hw.block z hl hz) ⟨m,F,hK.map⟩,h.ne,h.out.keep (hw.below hK.lowB (fun k hk e=>by have:=hK.low;omega))⟩
theorem EvC.call(h:EvC s out AR A SV AV AX kc ks kv kx B bw mb mo b0 c1 c2 c3 w)(hb:Ar w.heap.size w w'):EvC s out AR A SV AV AX kc ks kv kx B bw mb mo b0 c1 c2 c3 w':=by
 obtain⟨m,F,hK⟩:=h.kw;exact h.wrote (Wrote.of_below hb) ⟨m,F,hK.call hb⟩
def RetEv(s:Sy)(out:List Int)(AR A SV AV AX:Bb)(kc ks kv kx B bw mb mo b0 c1 c2 c3:Nat)(R:List Bool)(w:Ba)(e:Ending)(w':Ba):Prop:=
 ∃g c,e=Am (.tuple #[I (J ⟨g,0,Z⟩) (ptn s) c,O U 0])/\w.heap.size<=g/\OwnB w' g c R/\EvC s out AR A SV AV AX kc ks kv kx B bw mb mo b0 c1 c2 c3 w'/\Wrote (fun z=>z=mb) w w'
end
end
section
open Go.RowKit
theorem ub{N:Nat}{h:Fh}{k:Nat}(he:xV N h k=0):0<=h.op/\(k:Int)=arN h.op/\(h.op=10->0<=h.p/\h.p<=(N:Int)-1)/\(h.op=11\/h.op=12\/h.op=13->0<=h.g/\h.g<=(2:Int)^N-1):=by
 unfold xV at he
 by_cases h1:h.op<0\/17<h.op
 . rw[Li h1] at he;cases he
 rw[Lg h1] at he
 by_cases h2:(k:Int)≠arN h.op
 . rw[Li h2] at he;cases he
 rw[Lg h2] at he
 split at he
 . cases he
 rename_i h3;refine⟨by omega,by simpa using h2,fun e=>?_,fun e=>?_⟩
 . have hu:usP h.op=AA:=by unfold usP;rw[Ng];omega
   exact NL fun hn=>h3 (.inl ⟨hu,hn⟩)
 have hu:usG h.op=AA:=by unfold usG;rw[Ng];omega
 exact NL fun hn=>h3 (.inr (.inr (.inr ⟨hu,hn⟩)))
section
variable {n:Nat} {cls:Nat->List Int} {ps:List Nat}
theorem Ql{set:List Bool}{M:Nat}(hM:yg n (evL n cls ps) set (M+1)=yg n (evL n cls ps) set M):∀m,yg n (evL n cls ps) set (M+m)=yg n (evL n cls ps) set M
 | 0=>rfl
 | m+1=>by
  show yg n (evL n cls ps) set (M+m+1)=_;rw[yg,Ql hM m];exact hM
theorem now_up{set:List Bool}{M:Nat}(hM:yg n (evL n cls ps) set (M+1)=yg n (evL n cls ps) set M)(h:M<=n):yg n (evL n cls ps) set n=yg n (evL n cls ps) set M:=by
 have:=Ql hM (n-M);rwa[show M+(n-M)=n by omega] at this
end
theorem atm_fine{s:Sy}{K N:Nat}(hF:Fine s K N)(hv:yh s=0){out:List Int}(iQ:¬(0<out.length/\out.length≠s.vs.length)){f:Fm}(dr:xV N f.h f.args.length=0)(hk:f.args.length=0):atmE s out 0 f=(qP s out f.h,0):=by
 have hn:=hF.n;have h1:=hF.n1;have h5:=hF.n5;have ha:f.args=[]:=PT.1 hk;have hN:s.n.toNat=N:=by omega
 have hE:qH s.n 0 f=0:=by
  unfold qH;rw[Lg (by omega)];have h2:jk (yd 0 f)=0:=by unfold yd;rw[ha];rfl
  rw[Lg (by rw[h2];simp),hN];unfold kK ZU;rw[Lg (by rw[dr];simp),ha]
  rfl
 unfold atmE;rw[Lg (by rw[hv];simp),Lg iQ,Lg (by rw[hE];simp),Lg (by omega)]
theorem ffs_all:∀ {l:List Int},ZW l=0->∀x∈l,x=0
 | [],_,x,hx=>by cases hx
 | e::l,h,x,hx=>by
  unfold ZW at h
  by_cases he:e≠0
  . rw[Li he] at h;exact absurd h he
  . rw[Lg he] at h
    rcases LL.1 hx with rfl | hx
    . simpa using he
    . exact ffs_all h x hx
theorem Qm{N:Nat}{R:Fm->Int}{f:Fm}(h:ZU N R f=0):xV N f.h f.args.length=0/\∀x∈f.args,R x=0:=by
 unfold ZU at h
 by_cases he:xV N f.h f.args.length≠0
 . rw[Li he] at h;exact absurd h he
 rw[Lg he] at h;exact⟨by simpa using he,fun x hx=>ffs_all h _ (LZ.2 ⟨x,hx,rfl⟩)⟩
theorem nod_leaf{N:Nat}{h:Fh}(he:xV N h 0=0):h.op<=13:=by
 obtain⟨h0,h1,_⟩:=ub he;unfold arN at h1
 by_cases e:h.op=8\/h.op=9\/h.op=17
 . rw[Li e] at h1;simp at h1
 rw[Lg e] at h1
 by_cases e2:h.op<=6
 . omega
 rw[Lg e2] at h1;simp at h1
end
end Go.Proofs.YtjedjoeidcbffaaGreatDoor
