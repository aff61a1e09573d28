/- Merged. -/
import Derived.Test.YtkledihebeidlaaGreatDoorWf
open Go.Proofs.Tryz
open Go.Value renaming int->O,slice->I,bool->Ai,agg->Aj,pointer->Ak
open Go.IntKind renaming i64->U
open Option renaming none->Z,some->J
open Go.Obj renaming cells->Ah
open Go.Ending renaming returned->Am
open Go.Proofs.Tryz renaming prog->An,func66->RJ,ntmps66->Rv,func134->Rx,ntmps134->Rp,func106->Ry
open Go.RowKit renaming Below->Ao,intOf->Aq,Hid->As
open Go renaming Calls->Ap,Value->Au
open Bool renaming true->Av,false->Ax
open List renaming take_succ_cons->Pg,exists_mem_of_ne_nil->RQ
open Prod renaming ext_iff->Po
namespace Go.Proofs.YtkledihebeidlaaGreatDoor
set_option maxRecDepth 100000
set_option maxHeartbeats 4000000
section
open Go.RowKit
theorem vM(v:Vw)(k:Nat)(hk:k<5)(w:Ba):(Instr.index 43 (Aj #[O U v.h0,O U v.h1,O U v.h2,O U v.h3,O U v.h4]) (O U (k:Int))).run An w=.ok (O U (v.h k)) w:=by
 obtain rfl | rfl | rfl | rfl | rfl:k=0\/k=1\/k=2\/k=3\/k=4:=by omega
 all_goals kernel_rfl
theorem begE_out{n:Int}{v:Vw}(h:v.p<0\/n<=v.p\/v.r<0\/6<v.r\/(v.r=0/\(v.i<0\/8<=v.i))):yZ n v=2:=by
 unfold yZ;rw[Ln (by simpa[xn] using h)]
theorem begE_form{n:Int}{v:Vw}(h:xn n v=Ax)(h2:0<v.r/\v.i≠0):yZ n v=3:=by
 unfold yZ;rw[Lj (by simp[h]),Ln h2]
theorem Y5{n:Int}{v:Vw}(h:xn n v=Ax){k:Nat}(hk:k<5)(h2:qY n v k=Av):yZ n v=3:=by
 unfold yZ;rw[Lj (by simp[h])]
 split
 . rfl
 rw[Ln (Ns.2 ⟨k,by simpa using hk,h2⟩)]
theorem Zw{n:Int}{v:Vw}(h:xn n v=Ax)(h2:¬(0<v.r/\v.i≠0))(h3:∀j,j<5->qY n v j=Ax):yZ n v=0:=by
 unfold yZ
 rw[Lj (by simp[h]),Lj h2,Lj (by
  rw[Ns];rintro⟨j,hj,hb⟩;rw[h3 j (by simpa using hj)] at hb
  cases hb)]
theorem gM(n:Int)(v:Vw)(w:Ba)(h1:v.p<0\/n<=v.p\/v.r<0\/6<v.r\/(v.r=0/\(v.i<0\/8<=v.i))) :
  Ap An 134 #[O U n,.agg v.cells] w fun e w'=>e=Am (O U (yZ n v))/\Ao w.heap.size w w':=by
 have H:As (yZ n v=2):=begE_out h1;have HB:=zw w;unfold Vw.cells;go_enter Rx,Rp;go_wp2
 all_goals (try (exfalso;omega))
 all_goals
  go_ret;exact⟨zc H.out.symm,HB _⟩
theorem gB(n:Int)(v:Vw)(w:Ba)(oW:0<=v.p)(CS:v.p<n)(_hr1:v.r<=6)(hr:v.r=0)(sT:0<=v.i)(IF:v.i<8) :
  Ap An 134 #[O U n,.agg v.cells] w fun e w'=>e=Am (O U (yZ n v))/\Ao w.heap.size w w':=by
 have fd:As (xn n v=Ax):=by show xn n v=Ax;simp[xn];omega
 have HB:=zw w;have fG:(v.r==0)=Av:=by simp[hr]
 have AT:v.r<=0:=by omega
 have U':0<=v.r:=by omega
 have HR:=zH hr;clear hr;unfold Vw.cells;go_enter Rx,Rp;go_wp2
 go_loop [49] (fun i=>∃k:Nat,k<=5/\i=O U k/\As (∀j:Nat,j<k->qY n v j=Ax)) (fun i=>5-(Aq i).toNat)
 case atStart=>exact⟨0,by omega,rfl,fun j hj=>by omega⟩
 obtain⟨k,hk,rfl,aj⟩:=hrel
 by_cases ac:k<5
 . have Bl:=vM v k ac
   have aN:As (qY n v k=decide (v.h k≠-1/\(v.r=0\/n<=(k:Int)))):=rfl
   by_cases hm:v.h k=-1
   . have Ic:(v.h k != -1)=Ax:=by simp[hm]
     have HM:=zH hm;clear hm;go_wp2
     go_round
     case rel=>
      refine⟨k+1,by omega,by go_num,fun j hj=>?_⟩
      by_cases e:j=k
      . subst e;rw[aN.out];simp[HM.out]
      exact aj.out j (by omega)
     simp[Aq];omega
   have Ic:(v.h k != -1)=Av:=by simpa using hm
   have HM:=zH hm;clear hm;go_wp2;go_ret;exact⟨zc (Y5 fd.out ac (by rw[aN.out];simp;exact⟨HM.out,Or.inl HR.out⟩)).symm,HB _⟩
 obtain rfl:k=5:=by omega
 go_wp2;go_ret;exact⟨zc (Zw fd.out (by have:=HR.out;omega) aj.out).symm,HB _⟩
theorem uG(n:Int)(v:Vw)(w:Ba)(oW:0<=v.p)(CS:v.p<n)(sz:v.r<=6)(hr:0<v.r)(hi:v.i=0) :
  Ap An 134 #[O U n,.agg v.cells] w fun e w'=>e=Am (O U (yZ n v))/\Ao w.heap.size w w':=by
 have fd:As (xn n v=Ax):=by show xn n v=Ax;simp[xn];omega
 have HB:=zw w;have fG:(v.r==0)=Ax:=by simp;omega
 have dq:(v.i != 0)=Ax:=by simp[hi]
 have HI:=zH hi;clear hi;unfold Vw.cells;go_enter Rx,Rp;go_wp2
 go_loop [49] (fun i=>∃k:Nat,k<=5/\i=O U k/\As (∀j:Nat,j<k->qY n v j=Ax)) (fun i=>5-(Aq i).toNat)
 case atStart=>exact⟨0,by omega,rfl,fun j hj=>by omega⟩
 obtain⟨k,hk,rfl,aj⟩:=hrel
 by_cases ac:k<5
 . have Bl:=vM v k ac
   have aN:As (qY n v k=decide (v.h k≠-1/\(v.r=0\/n<=(k:Int)))):=rfl
   by_cases hm:v.h k=-1
   . have Ic:(v.h k != -1)=Ax:=by simp[hm]
     have HM:=zH hm;clear hm;go_wp2
     go_round
     case rel=>
      refine⟨k+1,by omega,by go_num,fun j hj=>?_⟩
      by_cases e:j=k
      . subst e;rw[aN.out];simp[HM.out]
      exact aj.out j (by omega)
     simp[Aq];omega
   have Ic:(v.h k != -1)=Av:=by simpa using hm
   have HM:=zH hm;clear hm
   by_cases hq:n<=(k:Int)
   . go_wp2
     go_ret;exact⟨zc (Y5 fd.out ac (by rw[aN.out];simp;exact⟨HM.out,by omega⟩)).symm,HB _⟩
   go_wp2
   go_round
   case rel=>
    refine⟨k+1,by omega,by go_num,fun j hj=>?_⟩
    by_cases e:j=k
    . subst e;rw[aN.out];simp;intro _;omega
    exact aj.out j (by omega)
   simp[Aq];omega
 obtain rfl:k=5:=by omega
 go_wp2;go_ret;exact⟨zc (Zw fd.out (by rw[HI.out];simp) aj.out).symm,HB _⟩
theorem gC(n:Int)(v:Vw)(w:Ba)(oW:0<=v.p)(CS:v.p<n)(sz:v.r<=6)(hr:0<v.r)(hi:v.i≠0) :
  Ap An 134 #[O U n,.agg v.cells] w fun e w'=>e=Am (O U (yZ n v))/\Ao w.heap.size w w':=by
 have fd:xn n v=Ax:=by simp[xn];omega
 have H:As (yZ n v=3):=begE_form fd ⟨hr,hi⟩;have HB:=zw w;have fG:(v.r==0)=Ax:=by simp;omega
 have dq:(v.i != 0)=Av:=by simpa using hi
 clear fd hi;unfold Vw.cells;go_enter Rx,Rp;go_wp2;go_ret;exact⟨zc H.out.symm,HB _⟩
theorem gO(n:Int)(v:Vw)(w:Ba) :
  Ap An 134 #[O U n,.agg v.cells] w fun e w'=>e=Am (O U (yZ n v))/\Ao w.heap.size w w':=by
 by_cases h1:v.p<0\/n<=v.p\/v.r<0\/6<v.r\/(v.r=0/\(v.i<0\/8<=v.i))
 . exact gM n v w h1
 by_cases hr:v.r=0
 . exact gB n v w (by omega) (by omega) (by omega) hr (by omega) (by omega)
 by_cases hi:v.i=0
 . exact uG n v w (by omega) (by omega) (by omega) (by omega) hi
 exact gC n v w (by omega) (by omega) (by omega) (by omega) hi
theorem clone_int(A:Bb)(cap:Nat)(xs:List Int)(w:Ba)(hA:IAt w w.heap.size A xs)(hl:xs.length<=1000000) :
  Ap An 66 #[I A xs.length cap] w (Jh xs w):=by
 have HT:=zH hA;clear hA;have q:∀(w:Ba) (a:Bb) (n c n' c':Nat),(binOp .eql 49 (I a n c) (I Z n' c')).run An w=.ok (Ai a.isNone) w:=fun w a n c n' c'=>NQ w _ _ a n c n' c' Nt
 obtain⟨i0,hi,cH,bS,cp⟩:=PD wR
 cases A with
 | none=>
  have ly:xs=[]:=by
   rcases L9 xs.length with h | h
   . exact LC h
   . obtain⟨b,off,e,_⟩:=HT.out h;cases e
  go_enter RJ,Rv;go_wp2;go_ret;exact⟨_,rfl,by rw[ly];exact Own.nil _ _,Lp _ _⟩
 | some ad=>
  go_enter RJ,Rv;go_wp2_with (at_builtin;refine NS _ rfl _ _ 49 rfl w.heap.size 3 i0 _ 1 8 Nt hi cH bS cp rfl (by decide) _ _ _ rfl (N2 w #[] 0 (Lh _) (Nu _) rfl) ad xs.length cap (xs.map (O U)) rfl ?qc1 ?qc2 ?qc3 ?qc4 ?qc5 ?qc6 ?_)
  case qc1=>simp
  case qc2=>
   intro j u hj;obtain⟨x,hx,rfl⟩:∃x,xs[j]?=J x/\O U x=u:=by simpa using hj
   obtain⟨bg,rfl⟩:=Lo.1 hx;obtain⟨b,off,e,ac,hc⟩:=HT.out (by omega)
   cases e
   rw[N5];exact NV _ (hc j bg)
  case qc3=>intro u hu;obtain⟨x,_,rfl⟩:=LA.1 hu;rfl
  case qc4=>unfold maxLen;omega
  case qc5=>omega
  case qc6=>simp
  intro v' w1 an aJ ic;go_wp2;go_ret;refine⟨v',rfl,by unfold Own;simpa using an,?_⟩;exact((Lp _ w).alloc (Lh _) _).grown aJ (by simp) (by intro k hk;simp[Value.ownBlock] at hk;omega)
end
section
open Go.RowKit Go.Shelf
attribute [local go_sem] Oper.semAt_some
theorem kS(v:Vw)(w:Ba):Ap An 67 #[.agg v.cells] w fun e w'=>
  e=Am (.func (.func 106) #[] #[Ak (J ⟨w.heap.size,0,Z⟩)])/\w.alloc (Ah v.cells 100)=w':=by
 unfold Vw.cells;go_enter func67,ntmps67;go_wp2;go_ret;exact⟨rfl,rfl⟩
theorem YH(v:Vw)(k:Nat)(hk:k<5)(w:Ba):(Instr.index 43 (Aj #[O U v.h0,O U v.h1,O U v.h2,O U v.h3,O U v.h4]) (O U (k:Int))).run An w=.ok (O U (v.h k)) w:=by
 obtain rfl | rfl | rfl | rfl | rfl:k=0\/k=1\/k=2\/k=3\/k=4:=by omega
 all_goals kernel_rfl
theorem kr(v:Vw)(bx:Nat)(w:Ba)(hb:w.heap[bx]?=J (Ah v.cells 100)) :
  Iter An 106 #[Ak (J ⟨bx,0,Z⟩)] (fun x:Int×Int=>#[O U x.1,O U x.2]) (·=bx) (yn v) w:=fun n hn l Ag Jx W hW hJ SM hY h0=>by
 have aM:bx<w.heap.size:=(Li.1 hb).1;have de:W.heap[bx]?=J (Ah v.cells 100):=(hW.block bx aM).trans hb
 have cells:∀X:Ba,X.heap[bx]?=J (Ah v.cells 100)->∀k u,v.cells[k]?=J u->X.cell? ⟨bx,k,Z⟩=J u:=fun X hX k u hk=>by
  rw[cell_of_row X bx k _ _ _ hX];exact hk
 have row:∀X:Ba,X.heap[bx]?=J (Ah v.cells 100)->X.cell? ⟨bx,1,Z⟩=J (O U v.r):=fun X hX=>cells X hX 1 _ rfl
 have c3:W.cell? ⟨bx,3,Z⟩=J (O U v.h0):=cells W de 3 _ rfl;have c4:W.cell? ⟨bx,4,Z⟩=J (O U v.h1):=cells W de 4 _ rfl;have c5:W.cell? ⟨bx,5,Z⟩=J (O U v.h2):=cells W de 5 _ rfl;have c6:W.cell? ⟨bx,6,Z⟩=J (O U v.h3):=cells W de 6 _ rfl;have c7:W.cell? ⟨bx,7,Z⟩=J (O U v.h4):=cells W de 7 _ rfl;have be:=zH row;have HY:=zH hY;clear cells row hY;refine callsIn_of_wp Ry rfl trivial ?_ rfl;simp only[ntmps106,List.size_toArray,List.length_cons,List.length_nil,Nat.reduceAdd,Nat.reduceSub,Array.replicate_succ,Array.replicate_zero,List.push_toArray,List.append_toArray,List.nil_append,List.cons_append];gi_wp2
 gi_loopw [7] (fun p wr=>∃k:Nat,k<=5/\p=O U k/\∃pre:List { x:Int×Int // x∈yn v },pre.map (·.1)=yf v k/\Ag pre wr/\wr.heap[bx]?=J (Ah v.cells 100)) (fun p _=>5-(Aq p).toNat)
 case atStart=>exact⟨0,by omega,rfl,[],by simp[yf],h0,de⟩
 case round=>
  obtain⟨k,hk,rfl,pre,hp,iE,ii⟩:=hrel;clear c3 c4 c5 c6 c7 h0 de hW hb
  by_cases ac:k<5
  . have Bl:=YH v k ac
    have d1:=be.out wr ii
    by_cases hc:0<v.r/\0<=v.h k
    . obtain⟨hc1,hc2⟩:=hc
      have hm:((k:Int),v.h k)∈yn v:=qj.2 ⟨hc1,k,ac,rfl,hc2⟩;have sj:=uo hc1 hc2
      have aO:pre.length<(yn v).length:=by
       have h1:pre.length=(yf v k).length:=by rw[<-hp,LG]
       have h2:=(wS (v:=v) (k:=k+1) (m:=5) (by omega)).length_le;rw[sj] at h2;simp at h2;show _<(yf v 5).length;omega
      obtain⟨fn,tmps,assign,body,hy,hR⟩:=HY.out pre ⟨((k:Int),v.h k),hm⟩ wr iE aO;dsimp only at hy;have Hy:=zH sj;have Hp:=zH hp;have HR:=zH hR;clear sj hp hR;gi_wp2_with fail;refine HR.out.mono ?_;rintro e W3 (⟨rfl,DR,eo⟩ | ⟨rfl,ns⟩)
      . have ap:W3.heap[bx]?=J (Ah v.cells 100):=(eo.same bx rfl (Li.1 ii).1).trans ii
        gi_wp2_with fail
        go_roundw
        case rel=>exact⟨k+1,by omega,by go_num,_,by rw[Hy.out,LI,Hp.out];rfl,DR,ap⟩
        case measure=>simp[Aq];omega
      . gi_wp2_with fail
        refine Na (Rr rfl _ _ _) rfl ?_;exact⟨⟨_,rfl⟩,.inr ⟨_,by rw[LI,Hp.out];show _++[((k:Int),v.h k)] <+: _;rw[<-Hy.out];exact wS (by omega),ns⟩⟩
    . have fm:=qV hc
      have Hn:=zH fm;have Hp:=zH hp;clear fm hp
      by_cases hr:0<v.r
      . have hq:¬0<=v.h k:=fun h=>hc ⟨hr,h⟩
        clear hc;gi_wp2_with fail;refine⟨fun _ h=>trivial,?_⟩;gi_wp2_with fail
        go_roundw
        case rel=>exact⟨k+1,by omega,by go_num,pre,by rw[Hn.out,Hp.out],iE,ii⟩
        case measure=>simp[Aq];omega
      . clear hc
        gi_wp2_with fail;refine⟨fun _ h=>trivial,?_⟩;gi_wp2_with fail
        go_roundw
        case rel=>exact⟨k+1,by omega,by go_num,pre,by rw[Hn.out,Hp.out],iE,ii⟩
        case measure=>simp[Aq];omega
  . obtain rfl:k=5:=by omega
    have Hp:=zH hp;clear hp;gi_wp2_with fail
    go_end0
    exact⟨⟨_,rfl⟩,.inl ⟨pre,Hp.out,iE⟩⟩
end
section
open Go.RowKit
def jZ(x:Int×Int):Au:=Aj #[O U x.1,O U x.2]
theorem pl_inj(a b:Int×Int)(h:jZ a=jZ b):a=b:=by
 injection h with h
 obtain⟨a0,a1⟩:=a;obtain⟨b0,b1⟩:=b;simpa using h
open Classical in
theorem gY:KeyOk An 214 jZ where
 inj:=pl_inj
 check:=fun w em v=>by
  have hu:An.underlying 214=J (.struct (An.fieldsOf 214)):=by kernel_rfl
  have hf : (An.fieldsOf 214).toList.map (fun f => (f.name, f.type, f.offset)) = [("proc", 3, 0), ("round", 3, 1)] := by kernel_rfl
  have p0:=fun x0 x1=>zL #[x0,x1] 0 x0 rfl w
  have p1:=fun x0 x1=>zL #[x0,x1] 1 x1 rfl w
  unfold Instr.checkKey jZ;simp only[Sem.run_bind,run_underlying hu,Result.andThen_ok];rw[<-Array.forIn_toList]
  generalize (An.fieldsOf 214).toList=fs at hf
  obtain⟨f0,f1,rfl⟩:∃f0 f1,fs=[f0,f1]:=by
   have hl:fs.length=2:=by simpa using congrArg List.length hf
   rcases fs with _ | ⟨f0,_ | ⟨f1,_ | ⟨f2,r⟩⟩⟩<;>simp at hl
   exact⟨_,_,rfl⟩
  clear hu;simp only[List.map_cons,List.map_nil,List.cons.injEq,Prod.mk.injEq,and_true] at hf;obtain⟨⟨n0,t0,o0⟩,⟨n1,t1,o1⟩⟩:=hf;simp only[List.forIn_cons,List.forIn_nil,n0,n1,t0,t1,o0,o1,p0,p1,Sem.run_bind,Result.andThen_ok,vI,ne_eq,String.reduceEq,not_false_eq_true,if_true,Sem.run_pure]
 equal:=fun w a b=>by
  have hu:An.underlying 214=J (.struct (An.fieldsOf 214)):=by kernel_rfl
  have hi:An.underlying 3=J (.int U):=LB;have hf : (An.fieldsOf 214).toList.map (fun f => (f.name, f.type, f.offset)) = [("proc", 3, 0), ("round", 3, 1)] := by kernel_rfl
  have p0:=fun x0 x1=>zL #[x0,x1] 0 x0 rfl w
  have p1:=fun x0 x1=>zL #[x0,x1] 1 x1 rfl w
  unfold Op.equal Op.maxDepth jZ;rw[Pi w 9999 214 _ _ hu (by kernel_rfl)]
  generalize (An.fieldsOf 214).toList=fs at hf
  obtain⟨f0,f1,rfl⟩:∃f0 f1,fs=[f0,f1]:=by
   have hl:fs.length=2:=by simpa using congrArg List.length hf
   rcases fs with _ | ⟨f0,_ | ⟨f1,_ | ⟨f2,r⟩⟩⟩<;>simp at hl
   exact⟨_,_,rfl⟩
  clear hu;simp only[List.map_cons,List.map_nil,List.cons.injEq,Prod.mk.injEq,and_true] at hf;obtain⟨⟨n0,t0,o0⟩,⟨n1,t1,o1⟩⟩:=hf
  have hd:(@decide (Aj #[O U a.1,O U a.2]=Aj #[O U b.1,O U b.2]) (propDecidable _))=(a.1==b.1&&a.2==b.2):=by
   rw[Nr];simp
  rw[hd]
  cases h0:(a.1==b.1)<;>cases h1:(a.2==b.2) <;>
   simp only[Op.eqFields,n0,n1,t0,t1,o0,o1,p0,p1,Sem.run_bind,Result.andThen_ok,run_equalIn_int w _ 3 _ _ _ _ hi,h0,h1,ne_eq,not_false_eq_true,if_true,Bool.not_false,Bool.not_true,Bool.false_eq_true,if_false,Sem.run_pure,Bool.true_and,Bool.false_and,String.reduceEq]
 now:=fun d hd=>.inr fun a b=>by
  have hu:An.underlying 214=J (.struct (An.fieldsOf 214)):=by kernel_rfl
  rw[hu] at hd
  cases hd
  simp[Instr.sameNow]
 stays:=fun a=>by simp[Instr.sameBits,jZ]
 kind := ⟨_, by have hu : An.underlying 214 = J (.struct (An.fieldsOf 214)) := by kernel_rfl
                exact hu⟩
end
section
open Go.RowKit
structure DfsInv(vs:List Vw)(fs au bW:List Nat):Prop where
 from_:∀c,c∈fs->c∈au\/c∈bW
 kids_:∀x,x∈au->∀c,c∈zS (zv vs x)->c∈au\/c∈bW
 good:∀x,x∈au\/x∈bW->x<vs.length/\∃c,c∈fs/\kd vs c x=Av
 nodup:au.Nodup
 len:bW.length<=5*au.length+fs.length
theorem xS(v:Vw):(zS v).length<=5:=by
 unfold zS yn yf;rw[LG]
 split
 . exact Lx (PV _ _) (by simp)
 simp
theorem wI:∀(n:Nat) (l:List Nat),l.Nodup->(∀x,x∈l->x<n)->l.length<=n
 | 0,l,_,h=>by
  cases l with
  | nil=>simp
  | cons a l=>have:=h a (by simp);omega
 | n+1,l,hd,h=>by
  have h1:(l.erase n).length<=n:=wI n (l.erase n) (hd.erase n) fun x hx=>by
   have h2:=h x (List.mem_of_mem_erase hx);have h3:x≠n:=fun e=>by subst e;exact(List.Nodup.not_mem_erase hd) hx
   omega
  have:=List.le_length_erase (l:=l) (a:=n);omega
theorem DfsInv.start{vs:List Vw}{fs:List Nat}(h:∀c,c∈fs->c<vs.length):DfsInv vs fs [] fs:=
 ⟨fun c hc=>.inr hc,fun x hx=>absurd hx (by simp),fun x hx=>⟨h x (by simpa using hx),x,by simpa using hx,wC vs x⟩,List.nodup_nil,by simp⟩
theorem DfsInv.skip{vs:List Vw}{fs au bW:List Nat}{i:Nat}(h:DfsInv vs fs au (bW++[i]))(hi:i∈au):DfsInv vs fs au bW where
 from_:=fun c hc=>by
  rcases h.from_ c hc with h1 | h1
  . exact .inl h1
  . rcases LS.1 h1 with h2 | h2
    . exact .inr h2
    . obtain rfl:c=i:=by simpa using h2
      exact .inl hi
 kids_:=fun x hx c hc=>by
  rcases h.kids_ x hx c hc with h1 | h1
  . exact .inl h1
  . rcases LS.1 h1 with h2 | h2
    . exact .inr h2
    . obtain rfl:c=i:=by simpa using h2
      exact .inl hi
 good:=fun x hx=>h.good x (by rcases hx with h1 | h1<;>simp[h1])
 nodup:=h.nodup
 len:=by have:=h.len;simp at this;omega
theorem DfsInv.push{vs:List Vw}(ha:uJ vs){fs au bW:List Nat}{i:Nat}(hf:∀c,c∈fs->c<vs.length)(h:DfsInv vs fs au (bW++[i]))(hi:i∉au):DfsInv vs fs (i::au) (bW++zS (zv vs i)) where
 from_:=fun c hc=>by
  rcases h.from_ c hc with h1 | h1
  . exact .inl (by simp[h1])
  . rcases LS.1 h1 with h2 | h2
    . exact .inr (by simp[h2])
    . obtain rfl:c=i:=by simpa using h2
      exact .inl (by simp)
 kids_:=fun x hx c hc=>by
  rcases LT.1 hx with rfl | hx
  . exact .inr (by simp[hc])
  . rcases h.kids_ x hx c hc with h1 | h1
    . exact .inl (by simp[h1])
    . rcases LS.1 h1 with h2 | h2
      . exact .inr (by simp[h2])
      . obtain rfl:c=i:=by simpa using h2
        exact .inl (by simp)
 good:=fun x hx=>by
  have Rm:=h.good i (by simp);rcases hx with h1 | h1
  . rcases LT.1 h1 with rfl | h1
    . exact Rm
    . exact h.good x (.inl h1)
  . rcases LS.1 h1 with h1 | h1
    . exact h.good x (.inr (by simp[h1]))
    . obtain⟨hl,c,hc,hr⟩:=Rm
      exact⟨by have:=ha i hl x h1;omega,c,hc,Xx ha (hf c hc) hr h1⟩
 nodup:=PB.2 ⟨hi,h.nodup⟩
 len:=by have:=h.len;have:=xS (zv vs i);simp at *;omega
theorem DfsInv.small{vs:List Vw}{fs au bW:List Nat}(h:DfsInv vs fs au bW):au.length<=vs.length/\bW.length<=5*vs.length+fs.length:=by
 have h1:=wI vs.length au h.nodup fun x hx=>(h.good x (.inl hx)).1
 have:=h.len;omega
theorem DfsInv.room{vs:List Vw}{fs au bW:List Nat}{i:Nat}(h:DfsInv vs fs au (bW++[i]))(hi:i∉au):au.length<vs.length:=by
 have:=wI vs.length (i::au) (PB.2 ⟨hi,h.nodup⟩) fun x hx=>by
  rcases LT.1 hx with rfl | hx
  . exact(h.good _ (by simp)).1
  . exact(h.good x (.inl hx)).1
 simp at this;omega
theorem DfsInv.done{vs:List Vw}(ha:uJ vs){fs au:List Nat}(hf:∀c,c∈fs->c<vs.length)(h:DfsInv vs fs au [])(x:Nat)(_hx:x<vs.length):decide (x∈au)=fs.any fun c=>kd vs c x:=by
 rw[Nr];simp only[decide_eq_true_eq,List.any_eq_true];constructor
 . intro hs
   obtain⟨_,c,hc,hr⟩:=h.good x (.inl hs);exact⟨c,hc,hr⟩
 rintro⟨c,hc,hr⟩;have bq:c∈au:=by simpa using h.from_ c hc
 exact jX ha (S:=fun y=>y∈au) (fun y _ hy k hk=>by simpa using h.kids_ y hy k hk) (hf c hc) bq hr
def xH(au:List Nat)(k:Nat):List Int:=zF ((List.range k).filter fun x=>decide (x∈au))
theorem Xm{au:List Nat}{k:Nat}(h:k∈au):xH au (k+1)=xH au k++[(k:Int)]:=by simp[xH,zF,List.range_succ,List.filter_append,h]
theorem Jz{au:List Nat}{k:Nat}(h:k∉au):xH au (k+1)=xH au k:=by simp[xH,zF,List.range_succ,List.filter_append,h]
theorem gG(au:List Nat)(k:Nat):(xH au k).length<=k:=by
 unfold xH;rw[zI];exact Lx (Ps _ _) (by simp)
theorem DfsInv.result{vs:List Vw}(ha:uJ vs){fs au:List Nat}(hf:∀c,c∈fs->c<vs.length)(h:DfsInv vs fs au []):xH au vs.length=zF (qt vs fs):=by
 unfold xH qt
 congr 1
 exact List.filter_congr fun x hx=>h.done ha hf x (by simpa using hx)
structure Non(B:Nat)(w W:Ba):Prop where
 below:Ao B w W
 same:∀(k:Nat) (o:Obj),w.heap[k]?=J o->o.isCells=Ax->W.heap[k]?=J o
theorem Non.refl(B:Nat)(w:Ba):Non B w w:=⟨Lp _ _,fun _ _ h _=>h⟩
theorem Non.trans{B:Nat}{w W X:Ba}(h:Non B w W)(k:Non B W X):Non B w X:=⟨h.below.trans k.below,fun i o hi ho=>k.same i o (h.same i o hi ho) ho⟩
theorem Non.of_grown{B:Nat}{w W:Ba}{row:Option Nat}(hg:w.grownBy W row)(hB:B<=w.heap.size)(hr:∀r,row=J r->B<=r/\∀o,w.heap[r]?=J o->o.isCells=Av):Non B w W:=
 ⟨(Lp B w).grown hg hB fun k hk=>(hr k hk).1,fun k o hk ho=>(hg.block k (Li.1 hk).1 (fun e=>by have:=(hr k e.symm).2 o hk;rw[ho] at this;cases this)).trans hk⟩
theorem Non.turn{B:Nat}{w W X:Ba}{row:Option Nat}(h:Non B w W)(hg:W.grownBy X row)(hB:B<=w.heap.size)(hr:∀r,row=J r->w.heap.size<=r):Non B w X:=
 ⟨h.below.grown hg (by have:=h.below.size;omega) (fun k hk=>by have:=hr k hk;omega),fun k o hk ho=>(hg.block k (Li.1 (h.same k o hk ho)).1 (fun e=>by have:=hr k e.symm;have:=(Li.1 hk).1;omega)).trans (h.same k o hk ho)⟩
theorem Non.marks{B B':Nat}{w W:Ba}{ds:List Deferred}(h:Marks B' ds w)(hn:Non B w W):Marks B' ds W:=by
 obtain⟨rs,rfl,hd,hk⟩:=h;exact⟨rs,rfl,hd,fun r hr=>⟨(hk r hr).1,hn.same r _ (hk r hr).2 rfl⟩⟩
end
section
open Go.RowKit Go.Shelf
theorem qH{w:Ba}{aa:Nat}{v:Au}{xs:List Int}(h:Own w aa v xs){k:Nat}{cs:Array Au}{t:TypeId}(hk:w.heap[k]?=J (Ah cs t (0,0)))(ht:t≠3):v.ownBlock≠J k:=by
 intro e;rcases h.2 with ⟨rfl,_⟩ | ⟨g,cap,cur,rfl,_,hg,_⟩
 . cases e
 simp only[Value.ownBlock,Option.some.injEq] at e;subst e;rw[hk] at hg
 cases hg
 exact ht rfl
theorem kQ{w:Ba}{aa:Nat}{v:Au}{xs:List Int}(h:Own w aa v xs):∀r,v.ownBlock=J r->aa<=r/\∀o,w.heap[r]?=J o->o.isCells=Av:=by
 intro r hr;refine⟨(h.lt r hr).1,fun o ho=>?_⟩;rcases h.2 with ⟨rfl,_⟩ | ⟨g,cap,cur,rfl,_,hg,_⟩
 . cases hr
 simp only[Value.ownBlock,Option.some.injEq] at hr;subst hr;rw[hg] at ho
 cases ho
 rfl
theorem SetAt.non{w W:Ba}{B b:Nat}{S:List Int}(h:SetAt (O U) w b S)(hn:Non B w W):SetAt (O U) W b S:=by
 obtain⟨m,h⟩:=h;obtain⟨es,cP,hb,r⟩:=id h;exact⟨m,h.same ((hn.same b _ hb rfl).trans hb.symm)⟩
theorem QJ{w:Ba}{g:Nat}{v:Au}{t:TypeId}(h:w.heap[g]?=J (Ah #[v] t (0,0)))(v':Au) :
  (w.setCell ⟨g,0,Z⟩ v').heap[g]?=J (Ah #[v'] t (0,0))/\(w.setCell ⟨g,0,Z⟩ v').heap.size=w.heap.size/\∀k,k≠g->(w.setCell ⟨g,0,Z⟩ v').heap[k]?=w.heap[k]?:=by
 have hg:=(Li.1 h).1;refine⟨?_,by simp[World.setCell],fun k hk=>Lf w ⟨g,0,Z⟩ v' k hk⟩;have Bp:=(Li.1 h).2;rw[World.setCell,N9,Ln rfl,h]
 rfl
theorem Zi{w:Ba}{g:Nat}{v:Au}{t:TypeId}(_h:w.heap[g]?=J (Ah #[v] t (0,0)))(v':Au):w.grownBy (w.setCell ⟨g,0,Z⟩ v') (J g):=
 ⟨rfl,rfl,rfl,by simp[World.setCell],fun k _ hk=>Lf w ⟨g,0,Z⟩ v' k (fun e=>hk (by rw[e]))⟩
theorem own_cut{w:Ba}{aa:Nat}{A:Bb}{n c:Nat}{xs:List Nat}{i:Nat}(h:Own w aa (I A (n+1) c) (zF (xs++[i]))):Own w aa (I A n c) (zF xs):=by
 obtain⟨h0,h⟩:=h
 have hn:xs.length=n:=by
  rcases h with ⟨e,_⟩ | ⟨g,cap,cur,e,_⟩
  . cases e
  simp only[Value.slice.injEq] at e;simp[zF] at e;omega
 subst hn;refine⟨by simp,?_⟩;rcases h with ⟨e,_⟩ | ⟨g,cap,cur,e,h1,h2,h3,h4,h5,h6⟩
 . cases e
 simp only[Value.slice.injEq] at e;obtain⟨rfl,_,rfl⟩:=e;refine .inr ⟨g,c,cur,by simp[zF],h1,h2,by simp[zF] at h3 ⊢;omega,h4,h5,?_⟩;have:=congrArg (List.take xs.length) h6;simp[zF,List.take_take] at this ⊢;rw[<-this]
theorem Marks.keep{B:Nat}{w W:Ba}{ds:List Deferred}(h:Marks B ds w)(hk:∀k:Nat,w.heap[k]?=J (Obj.deferred (J []))->W.heap[k]?=J (Obj.deferred (J []))):Marks B ds W:=by
 obtain⟨rs,rfl,hd,hr⟩:=h;exact⟨rs,rfl,hd,fun r h=>⟨(hr r h).1,hk r (hr r h).2⟩⟩
theorem kJ(w:Ba):(zeroValue 4).run An w=.ok (Ai Ax) w:=by kernel_rfl
structure BoxW(B g:Nat)(xs:List Int)(w2 W:Ba):Prop where
 box:∃P c,W.heap[g]?=J (Ah #[I P xs.length c] 49 (0,0))/\Own W B (I P xs.length c) xs
 non:Non B w2 W
 rest:∀(k:Nat) (cs:Array Au) (t:TypeId),w2.heap[k]?=J (Ah cs t (0,0))->t≠3->k≠g->W.heap[k]?=J (Ah cs t (0,0))
theorem BoxW.start{B g:Nat}{xs:List Int}{w2:Ba}{P:Bb}{c:Nat}(hb:w2.heap[g]?=J (Ah #[I P xs.length c] 49 (0,0)))(ho:Own w2 B (I P xs.length c) xs):BoxW B g xs w2 w2:=
 ⟨⟨P,c,hb,ho⟩,Non.refl _ _,fun _ _ _ h _ _=>h⟩
theorem BoxW.turn{B g:Nat}{xs:List Int}{w2 W W':Ba}{row:Option Nat}(h:BoxW B g xs w2 W)(hB:B<=w2.heap.size)(hg:W.grownBy W' row)(hr:∀r,row=J r->w2.heap.size<=r/\∃o:Obj,W.heap[r]?=J o/\o.isCells=Ax):BoxW B g xs w2 W':=by
 obtain⟨⟨P,c,hb,ho⟩,hn,rb⟩:=h;refine⟨⟨P,c,(LO hg (fun r e=>(hr r e).2) hb rfl).trans hb,ho.kept hg ?_⟩,hn.turn hg hB fun r e=>(hr r e).1,fun k cs t hk ht Da=>(LO hg (fun r e=>(hr r e).2) (rb k cs t hk ht Da) rfl).trans (rb k cs t hk ht Da)⟩
 by_cases e:(I P xs.length c).ownBlock=Z
 . exact .inl e
 obtain⟨r,e⟩:=Option.ne_none_iff_exists'.1 e;right;rw[e];intro e2;obtain⟨o,Fq,cI⟩:=(hr r e2.symm).2;have:=(kQ ho r e).2 o Fq;rw[this] at cI;cases cI
theorem BoxW.own{B g:Nat}(ln:List Int){β:Type}{xs:List β}(f:β->Int){w2:Ba}(hB:B<=w2.heap.size):OwnFrom w2.heap.size (fun (pre:List { x:β // x∈xs }) W=>BoxW B g (ln++pre.map fun x=>f x.1) w2 W):=
 fun _ _ _ _ h hg hr=>h.turn hB hg hr
theorem BoxW.push{B g:Nat}{xs:List Int}{w2 W w1:Ba}{P:Bb}{c:Nat}{v':Au}{u:Int}(h:BoxW B g xs w2 W)(hB:B<=g)(hb:W.heap[g]?=J (Ah #[I P xs.length c] 49 (0,0)))
  (ho:Own W B (I P xs.length c) xs) (Fq:Own w1 B v' (xs++[u])) (hg:W.grownBy w1 (I P xs.length c).ownBlock) (bx:Nat) (cs:Array Au) (CU:bx≠g) (aM:w2.heap[bx]?=J (Ah cs 100 (0,0))) :
  KeepsFrom w2.heap.size W (w1.setCell ⟨g,0,Z⟩ v')/\KeepB (·=bx) W (w1.setCell ⟨g,0,Z⟩ v')/\BoxW B g (xs++[u]) w2 (w1.setCell ⟨g,0,Z⟩ v'):=by
 have pw:B<=W.heap.size:=by have:=(Li.1 hb).1;omega
 have oL:w1.heap[g]?=J (Ah #[I P xs.length c] 49 (0,0)):=(hg.block g (Li.1 hb).1 (fun e=>qH ho hb (by decide) e.symm)).trans hb;obtain⟨x6,xs',xo⟩:=QJ oL v';have sX:=Zi oL v';have n1:Non B W w1:=Non.of_grown hg pw (kQ ho);have n2:Non B w1 (w1.setCell ⟨g,0,Z⟩ v'):=Non.of_grown sX (by have:=hg.size;omega) (fun r e=>by cases e;exact⟨hB,fun o ho=>by rw[oL] at ho;cases ho;rfl⟩);have n3:=n1.trans n2
 have rest:∀(k:Nat) (cs:Array Au) (t:TypeId),w2.heap[k]?=J (Ah cs t (0,0))->t≠3->k≠g->(w1.setCell ⟨g,0,Z⟩ v').heap[k]?=J (Ah cs t (0,0)):=fun k cs t hk ht Da=>by
  have h1:=h.rest k cs t hk ht Da;rw[xo k Da];exact(hg.block k (Li.1 h1).1 (fun e=>qH ho h1 ht e.symm)).trans h1
 refine⟨⟨n3.below.size,fun k o _ hk ho=>n3.same k o hk ho⟩,⟨n3.below.size,fun k e hl=>?_⟩,?_,h.non.trans n3,rest⟩
 . subst e
   have h1:=h.rest k cs _ aM (by decide) CU;rw[rest k cs _ aM (by decide) CU,h1]
 have cI:=Fq.kept sX (.inr (qH Fq oL (by decide)));obtain⟨A2,c2,rfl,h1,h2,_⟩:=cI.form;exact⟨A2,c2,x6,cI⟩
end
section
open Go.RowKit Go.Shelf
attribute [local go_sem] Oper.semAt_some
theorem tablemap(w:Ba)(c1:Array Au)(t1:TypeId):∃W0,(w.alloc (Ah c1 t1)).alloc (.map #[] 0)=W0/\W0.heap[w.heap.size]?=J (Ah c1 t1)/\SetAt (O U) W0 (w.heap.size+1) []/\W0.heap.size=w.heap.size+2/\Ao w.heap.size w W0:=
 ⟨_,rfl,zB (zh _ _) _,by have:=SetAt.made (O U) (w.alloc (Ah c1 t1));rwa[LZ] at this,by simp,(zw w _).trans ((Lp _ _).alloc (by simp) _)⟩
structure PastRel(w:Ba)(n:Int)(A:Bb)(cap:Nat)(vs:List Vw)(fs:List Nat)(g6:Nat)(m:Nat)(ds:List Deferred)(w':Ba)(au bW:List Nat)(P:Bb)(c:Nat):Prop where
 num:m=6*(vs.length-au.length)+bW.length
 box:w'.heap[g6]?=J (Ah #[I P bW.length c] 49 (0,0))
 own:Own w' w.heap.size (I P bW.length c) (zF bW)
 tab:w'.heap[w.heap.size]?=J (Ah #[O U n,I A vs.length cap] 33 (0,0))
 set_:SetAt (O U) w' (w.heap.size+1) (zF au)
 below:Ao w.heap.size w w'
 marks:Marks w.heap.size ds w'
 inv:DfsInv vs fs au bW
theorem past_any(n:Int)(A F:Bb)(cap pB:Nat)(vs:List Vw)(fs:List Nat)(w:Ba)(hT:TArg w A cap vs)(ha:uJ vs)(hF:IAt w w.heap.size F (zF fs))(FE:∀c,c∈fs->c<vs.length)(R5:fs.length<=100) :
  Ap An 28 #[Aj #[O U n,I A vs.length cap],I F fs.length pB] w (Jh (zF (qt vs fs)) w):=by
 have ie:=@run_makeMap An;refine yd func28 rfl ?_;simp only[ntmps28,List.size_toArray,List.length_cons,List.length_nil,Nat.reduceAdd,Nat.reduceSub,Array.replicate_succ,Array.replicate_zero,List.push_toArray,List.append_toArray,List.nil_append,List.cons_append];have HF:=zH hF;clear hF;go_wp2_with fail;obtain⟨W0,bH,b0,b1,bn,aX⟩:=tablemap w #[O U n,I A vs.length cap] 33;rw[bH];clear bH;have c0:=clone_int F pB (zF fs) W0 ((HF.out.keep aX).more (by omega)) (by rw[zI];omega);rw[zI] at c0;refine c0.mono ?_;rintro e W1 ⟨v0,rfl,an,hb⟩;have d0:=Lb hb (by omega) b0;have d1:SetAt (O U) W1 (w.heap.size+1) []:=b1.kept hb (by omega);have cM:=an.low (base':=w.heap.size) (by omega);have cF:Ao w.heap.size w W1:=aX.trans (hb.mono (by omega));have bI:=hb.size;obtain⟨A0,k0,rfl,td,lN,_⟩:=an.form;clear c0 an b0 b1 aX hb;go_wp2_with fail;obtain⟨g6,IL⟩:∃g6,g6=W1.heap.size:=⟨_,rfl⟩;have VM:w.heap.size+2<=g6:=by omega
 have e6:(W1.alloc (Ah #[.slice A0 (zF fs).length k0] 49)).heap[g6]?=J (Ah #[.slice A0 (zF fs).length k0] 49 (0,0)):=by rw[IL];exact zh _ _
 have fR:PastRel w n A cap vs fs g6 (6*vs.length+fs.length) [] (W1.alloc (Ah #[.slice A0 (zF fs).length k0] 49)) [] fs A0 k0:=by
  rw[zI] at e6 cM ⊢;exact⟨by simp,e6,cM.alloc _,zB d0 _,d1.same (NZ _ _ _ d1.lt),cF.trans ((Lp _ _).alloc (by have:=cF.size;omega) _),Marks.nil _ _,DfsInv.start FE⟩
 rw[<-IL];have HT:=zH hT;clear e6 hT d0 d1 cF cM;refine wp_loop_ghost (fun (m:Nat) (a':Act) (w':Ba)=>∃(ds:List Deferred) (u7 u9 OA Oz Oy Ox Cl Ck Cj Ci Ch Cg Ow Ov Ou Ot Oq Oo On Om Ol Ok Oj Oi Oh Og Of Oe Od Oc Cf Ce Ob Oa:Au),(∃au bW P c,PastRel w n A cap vs fs g6 m ds w' au bW P c)/\a'={ tmps:=#[Aj #[O U n,I A vs.length cap],I F fs.length pB,Ak (J ⟨w.heap.size,0,Z⟩),undef,I Z 0 0,.map (J (w.heap.size+1)),Ak (J ⟨g6,0,Z⟩),u7,undef,u9,undef,undef,.map (J (w.heap.size+1)),I F fs.length pB,OA,Oz,Oy,Ox,Cl,Ck,Cj,Ci,Ch,Cg,Ow,Ov,Ou,Ot,Oq,Oo,On,Om,Ol,Ok,Oj,Oi,Oh,Og,Of,Oe,Od,Oc,Cf,Ce,Ob,Oa,undef,undef,undef,undef,undef,undef,undef,undef,undef,undef,undef,undef,undef,undef,undef],defers:=ds }) (6*vs.length+fs.length) ?_ ?_
 . exact⟨[],_,_,_,_,_,_,_,_,_,_,_,_,_,_,_,_,_,_,_,_,_,_,_,_,_,_,_,_,_,_,_,_,_,_,⟨[],fs,A0,k0,fR⟩,rfl⟩
 clear fR IL;rintro m a' wr ⟨ds,u7,u9,OA,Oz,Oy,Ox,Cl,Ck,Cj,Ci,Ch,Cg,Ow,Ov,Ou,Ot,Oq,Oo,On,Om,Ol,Ok,Oj,Oi,Oh,Og,Of,Oe,Od,Oc,Cf,Ce,Ob,Oa,⟨au,bW,P,c,R⟩,rfl⟩;rcases List.eq_nil_or_concat bW with rfl | ⟨aS,i,rfl⟩
 . obtain⟨num,box,own,tab,set_,below,marks,inv⟩:=R
   simp only[List.length_nil] at box own num;have c6:=za box 0 rfl;have ct:=za tab 1 rfl;have BX:=zH box;have OW:=zH own;have TB:=zH tab;have BL:=zH below;have MK:=zH marks;have NU:=zH num;clear box own tab below marks num;go_wp2_with fail;have aO:=(inv.small).1;have dc:=HT.out.few
   go_loopw [10,49] (fun o i Cd=>∃k:Nat,k<=vs.length/\i=O U k/\Own Cd w.heap.size o (xH au k)/\Non w.heap.size wr Cd) (fun _ i _=>vs.length-(Aq i).toNat)
   case atStart => exact ⟨0, by omega, rfl, by have : xH au 0 = [] := by simp [xH, zF]
                                               rw[this];exact Own.nil _ _,Non.refl _ _⟩
   obtain⟨k,hk,rfl,an,sH⟩:=hrel;clear c6 ct;have HO:=zH an;have HN:=zH sH;have dm:=set_.non sH;have nR:=gG au k;clear an sH
   by_cases ac:k<vs.length
   . have cC:=dm.look (t:=52) ZT underlying52 kJ (k:Int)
     by_cases bZ:k∈au
     . have hy:=zH (Xm bZ)
       rw[Ll (kR.2 bZ)] at cC;clear bZ;go_wp2_with (at_builtin;go_must (refine kh rfl _ _ rfl w.heap.size u10 _ (k:Int) rfl HO.out rfl (by omega) (Lx BL.out.size HN.out.below.size) ?_);intro v' w1 bN eJ aC)
       go_roundw
       case rel=>exact⟨k+1,by omega,by go_num,by rw[hy.out];exact bN,HN.out.trans (Non.of_grown eJ (Lx BL.out.size HN.out.below.size) (kQ HO.out))⟩
       simp[Aq];omega
     have hy:=zH (Jz bZ);rw[Lm (fun h=>bZ (kR.1 h))] at cC;clear bZ;go_wp2_with fail
     go_roundw
     case rel=>exact⟨k+1,by omega,by go_num,by rw[hy.out];exact HO.out,HN.out⟩
     simp[Aq];omega
   obtain rfl:k=vs.length:=by omega
   have aR:=zH (inv.result ha FE);go_wp2_with fail;refine zX (HN.out.marks MK.out) (v:=u10) (fun W=>by kernel_rfl) ?_;intro W hS;refine⟨_,rfl,?_,(BL.out.trans HN.out.below).trans hS.below⟩;rw[<-aR.out];exact HO.out.shut hS
 simp only[List.concat_eq_append] at R;obtain⟨num,box,own,tab,set_,below,marks,inv⟩:=R;have Bm:=(inv.good i (by simp)).1;obtain⟨A',c',e,hc1,hc2,DS⟩:=own.form;simp only[Value.slice.injEq] at e;obtain⟨rfl,_,rfl⟩:=e;obtain⟨b,off,rfl,de,aP⟩:=DS.at_ aS.length (by simp[zF]);have ta:(zF (aS++[i]))[aS.length]'(by simp[zF])=(i:Int):=by simp[zF]
 rw[ta] at aP;clear ta DS;rw[zI] at hc1;simp only[List.length_append,List.length_cons,List.length_nil,Nat.zero_add] at box own num hc1;have iP:=inv.small;have dc:=HT.out.few;simp only[List.length_append,List.length_cons,List.length_nil,Nat.zero_add] at iP;unfold maxLen at hc2;have c6:=za box 0 rfl;have ct:=za tab 1 rfl;have f6:=zb box 0;have l6:=zd box;have BX:=zH box;have OW:=zH own;have TB:=zH tab;have BL:=zH below;have MK:=zH marks;have NU:=zH num;have HI:=zH inv;clear box own tab below marks num inv;obtain⟨X,hX⟩:∃X,X=wr.setCell ⟨g6,0,Z⟩ (I (J ⟨b,off,Z⟩) aS.length c):=⟨_,rfl⟩;obtain⟨x6,xs,xo⟩:=QJ BX.out (I (J ⟨b,off,Z⟩) aS.length c);rw[<-hX] at x6 xs xo;have eZ:=set_.same (w':=X) (xo _ (by omega));have cC:=eZ.look (t:=52) ZT underlying52 kJ (i:Int);have X6:=zH x6;have XS:=zH xs;have XO:=zH xo;have sX:wr.grownBy X (J g6):=by rw[hX];exact Zi BX.out _
 have oG:Own X w.heap.size (I (J ⟨b,off,Z⟩) aS.length c) (zF aS):=by
  have h1:=OW.out.kept sX (.inr (qH OW.out BX.out (by decide)));exact own_cut h1
 have E8:Ao w.heap.size w X:=BL.out.grown sX (by omega) (fun k hk=>by cases hk;omega);have E3:Marks w.heap.size ds X:=MK.out.keep fun k hk=>(XO.out k (fun e=>by subst e;rw[BX.out] at hk;cases hk)).trans hk
 have oF:=(XO.out _ (by omega)).trans TB.out;clear x6 xs xo set_ sX
 by_cases bZ:i∈au
 . rw[Ll (kR.2 bZ),hX] at cC
   have UY:=zH (HI.out.skip bZ);have HX:=zH hX;have XR:As (PastRel w n A cap vs fs g6 (6*(vs.length-au.length)+aS.length) ds X au aS (J ⟨b,off,Z⟩) c):=⟨rfl,X6.out,oG,oF,eZ,E8,E3,UY.out⟩;clear bZ hX eZ oG E8 E3 oF;go_wp2_with fail;exact⟨6*(vs.length-au.length)+aS.length,by have:=NU.out;omega,ds,_,_,_,_,_,_,_,_,_,_,_,_,_,_,_,_,_,_,_,_,_,_,_,_,_,_,_,_,_,_,_,_,_,_,⟨au,aS,_,c,by rw[<-HX.out];exact XR.out⟩,rfl⟩
 have OZ:=HI.out.room bZ;have Vb:=zH (HI.out.push ha FE bZ);rw[Lm (fun h=>bZ (kR.1 h)),hX] at cC;have XN:=zH oG;have XT:=zH oF;have XM:=zH E3;have XB:=zH E8;have XE:=zH eZ;have HX:=zH hX;clear bZ hX eZ oG E8 E3 oF
 go_wp2_with (at_mapUpdate; refine jr _ rfl _ _ _ _ _ rfl ZT underlying52 (w.heap.size + 1) (zF au) (by rw [← HX.out]; exact XE.out) (i : Int) rfl rfl rfl ?_; intro w1 ra eJ
              rw[<-HX.out] at eJ;have WZ:=za ((eJ.block w.heap.size (zd XT.out) (by simp)).trans XT.out) 1 rfl;obtain⟨b',fa,rfl,aC,r0,r1,r2,r3,r4,r5,r6,r7⟩:=(HT.out.rows.keep (XB.out.grown eJ (by have:=XB.out.size;omega) (fun k e=>by cases e;omega))).row i Bm;have rJ:=zH ra;have tG:=zH eJ
              clear ra eJ cC)
 have hh:=kS vs[i] w1;have aM:=zh w1 (Ah vs[i].cells 100)
 have W2:=zH (BoxW.start (B:=w.heap.size) (g:=g6) (xs:=zF aS) (w2:=w1.alloc (Ah vs[i].cells 100)) (P:=J ⟨b,off,Z⟩) (c:=c) (by
  rw[zI];exact zB ((tG.out.block g6 (zd X6.out) (by simp;omega)).trans X6.out) _) (by
  rw[zI];exact(XN.out.kept tG.out (by
   right;intro e;obtain⟨_,h⟩:=kQ XN.out _ e;obtain⟨m,es,ck,hm,_⟩:=XE.out;have:=h _ hm;cases this)).alloc _))
 have M2:As (Marks w.heap.size ds (w1.alloc (Ah vs[i].cells 100))):=XM.out.keep fun k hk=>by
  obtain⟨m,es,ck,hm,_⟩:=XE.out;exact zB ((tG.out.block k (Li.1 hk).1 (fun e=>by cases e;rw[hm] at hk;cases hk)).trans hk) _
 have B2:As (Ao w.heap.size w (w1.alloc (Ah vs[i].cells 100))):=(XB.out.grown tG.out (by have:=XB.out.size;omega) (fun k e=>by cases e;omega)).trans ((Lp _ _).alloc (by have:=XB.out.size;have:=tG.out.size;omega) _);have S2:As (SetAt (O U) (w1.alloc (Ah vs[i].cells 100)) (w.heap.size+1) (zF (i::au))):=rJ.out.same (NZ _ _ _ rJ.out.lt);have T2:=zH (zB ((tG.out.block w.heap.size (zd XT.out) (by simp)).trans XT.out) (Ah vs[i].cells 100));have cD:w1.heap.size<(w1.alloc (Ah vs[i].cells 100)).heap.size:=by simp
 have ee:=kr vs[i] w1.heap.size _ aM;have VL:g6<w1.heap.size:=LE (zd X6.out) tG.out.size;unfold Vw.cells at hh;refine hh.mono ?_;rintro e w2 ⟨rfl,cx⟩;have Cw:w1.alloc (Ah vs[i].cells 100)=w2:=cx;rw[Cw] at W2 M2 B2 S2 T2 cD ee aM;clear cx Cw;have aQ:w.heap.size<=w2.heap.size:=B2.out.size;have XX:=zH ee;have XY:=zH aM;clear hh ee aM r0 r1 r2 r3 r4 r5 r6 r7 WZ c6 f6 l6 ct aP;go_wp2_with fail
 refine kg rfl (PX Ry (by kernel_rfl) rfl) XX.out (by rintro k rfl;exact cD) (fun _=>rfl)
  (fun pre W=>BoxW w.heap.size g6 (zF aS++pre.map fun x=>x.1.2) w2 W) (fun _ _ _=>False) (BoxW.own (zF aS) (fun x:Int×Int=>x.2) aQ) (fun _ _ _ _ _ h _ _=>h)
  (by rw[ND,Nc];exact W2.out) ?a1 ?assign ?body ?done ?stop
 case assign=>
  intro l x W K hK;gi_wp2;exact hK
 case body=>
  intro l pre x W hI ac;have iR:(yn vs[i]).length<=5:=by have:=xS vs[i];simpa[zS] using this
  have ib:(zF aS++pre.map fun x=>x.1.2).length<=1000000:=by
   rw[Lq,zI,LG];omega
  have dE:zF aS++(pre++[x]).map (fun x=>x.1.2)=(zF aS++pre.map fun x=>x.1.2)++[x.1.2]:=by simp
  obtain⟨xs,mJ⟩:∃xs,zF aS++pre.map (fun x=>x.1.2)=xs:=⟨_,rfl⟩;rw[mJ] at hI ib;obtain⟨P2,c2,dd,cI⟩:=hI.box;have q6:=za dd 0 rfl;have MY:=zH hI;have HO:=zH cI;have aW:=zH dd;have HS:=zH dE;have Mj:=zH mJ;clear hI cI dd dE mJ
  gi_wp2_with (gi_at_builtin; go_must (refine jb rfl _ _ rfl w.heap.size (I P2 xs.length c2) _ x.1.2 rfl HO.out rfl (by omega) (by have := zd aW.out; omega) ?_); intro v' w3 bN rp ap
               have pA:=(rp.block g6 (zd aW.out) (fun e=>qH HO.out aW.out (by decide) e.symm)).trans aW.out;have q7:=za pA 0 rfl;have f7:=zb pA 0;have l7:=zd pA;obtain⟨A3,k3,rfl,FV,KR,_⟩:=bN.form;have pG:=zH bN;have EK:=zH rp
               clear pA bN rp ap)
  obtain⟨r1,r2,r3⟩:=MY.out.push (by omega) aW.out HO.out pG.out EK.out w1.heap.size _ (by omega) XY.out;simp only[List.length_append,List.length_cons,List.length_nil,Nat.zero_add] at r1 r2 r3;exact⟨r1,r2,by dsimp only;rw[HS.out,Mj.out];exact r3⟩
 case done=>
  intro D ys W hD fB hI ex;have hv:zv vs i=vs[i]:=qw Bm
  have hl:zF aS++ys.map (fun x=>x.1.2)=zF (aS++zS (zv vs i)):=by
   rw[hv,show zF (aS++zS vs[i])=zF aS++zF (zS vs[i]) from by simp[zF],gj]
   have h2:ys.map (fun x=>x.1.2)=(yn vs[i]).map (·.2):=by
    have:=congrArg (List.map (fun x:Int×Int=>x.2)) fB;rw[<-this,N3];rfl
   rw[h2]
  simp only[hl] at hI;obtain⟨P2,c2,dd,cI⟩:=hI.box;rw[zI] at dd cI;have dv:=xS (zv vs i);refine⟨6*(vs.length-(i::au).length)+(aS++zS (zv vs i)).length,by have:=NU.out;simp only[List.length_cons,List.length_append];omega,_,_,_,_,_,_,_,_,_,_,_,_,_,_,_,_,_,_,_,_,_,_,_,_,_,_,_,_,_,_,_,_,_,_,_,⟨i::au,aS++zS (zv vs i),P2,c2,⟨rfl,dd,cI,hI.rest _ _ _ T2.out (by decide) (by omega),S2.out.non hI.non,B2.out.trans hI.non.below,M2.out.cons (hI.non.same · _ · rfl) aQ hD ex,Vb.out⟩⟩,rfl⟩
 intro D c pre W _ _ h;exact h.elim
end
section
open Go.RowKit Go.Shelf
theorem gi{n:Int}{vs:List Vw}{v:Vw}(h:yZ n v≠0\/v.r=0):zR n vs v=yZ n v:=by unfold zR;rw[Ln h]
theorem qx{n:Int}{vs:List Vw}{v:Vw}(h1:yZ n v=0)(h2:v.r≠0)(h:yE (yh vs v) 5≠0):zR n vs v=yE (yh vs v) 5:=by
 unfold zR;rw[Lj (by simp[h1,h2]),Ln h]
theorem Qr{n:Int}{vs:List Vw}{v:Vw}(h1:yZ n v=0)(h2:v.r≠0)(h:yE (yh vs v) 5=0)(hg:v.h v.p.toNat=-1):zR n vs v=20:=by
 unfold zR;rw[Lj (by simp[h1,h2]),Lj (by simp[h]),Ln hg]
theorem YW{n:Int}{vs:List Vw}{v:Vw}(h1:yZ n v=0)(h2:v.r≠0)(h:yE (yh vs v) 5=0)(hg:v.h v.p.toNat≠-1):zR n vs v=if kH vs (qt vs (zS v))=Av then 0 else 22:=by
 unfold zR;rw[Lj (by simp[h1,h2]),Lj (by simp[h]),Lj hg]
theorem ZR{vs:List Vw}{v:Vw}(h:yE (yh vs v) 5=0):∀c,c∈zS v->c<vs.length:=fun c hc=>by
 obtain⟨_,q,hq,h0,rfl⟩:=qJ.1 hc;exact(wO (xJ.1 h q hq) (by omega)).2.1
def qa(vs:List Vw)(i:Nat):Int×Int:=((zv vs i).p,(zv vs i).r)
structure PlaceInv(vs:List Vw)(l:List Nat)(k:Nat)(S:List (Int×Int)):Prop where
 mem:∀p,p∈S↔∃j,j<k/\p=qa vs (l.getD j 0)
 apart:∀a b,b<a->a<k->ut vs (l.getD b 0) (l.getD a 0)=Ax
theorem PlaceInv.start(vs:List Vw)(l:List Nat):PlaceInv vs l 0 []:=⟨fun p=>by simp,fun a b _ h=>by omega⟩
theorem Zp{vs:List Vw}{a b:Nat}:ut vs a b=Av↔qa vs a=qa vs b:=by
 unfold ut qa;simp[Prod.ext_iff]
theorem PlaceInv.step{vs:List Vw}{l:List Nat}{k:Nat}{S:List (Int×Int)}(h:PlaceInv vs l k S)(hn:qa vs (l.getD k 0)∉S):PlaceInv vs l (k+1) (qa vs (l.getD k 0)::S) where
 mem:=fun p=>by
  simp only[List.mem_cons,h.mem];constructor
  . rintro(rfl | ⟨j,hj,rfl⟩)
    . exact⟨k,by omega,rfl⟩
    . exact⟨j,by omega,rfl⟩
  . rintro⟨j,hj,rfl⟩
    by_cases e:j=k
    . subst e;exact .inl rfl
    . exact .inr ⟨j,by omega,rfl⟩
 apart:=fun a b hb ha=>by
  by_cases e:a=k
  . subst e
    cases hc:ut vs (l.getD b 0) (l.getD a 0) with
    | false=>rfl
    | true=>exact absurd ((h.mem _).2 ⟨b,hb,(Zp.1 hc).symm⟩) hn
  . exact h.apart a b hb (by omega)
theorem PlaceInv.bad{vs:List Vw}{l:List Nat}{k:Nat}{S:List (Int×Int)}(h:PlaceInv vs l k S)(hk:k<l.length)(hn:qa vs (l.getD k 0)∈S):¬kH vs l=Av:=by
 intro hc;obtain⟨j,hj,e⟩:=(h.mem _).1 hn;have:=vH.1 hc k j hj hk;rw[Zp.2 e.symm] at this
 cases this
theorem PlaceInv.fine{vs:List Vw}{l:List Nat}{S:List (Int×Int)}(h:PlaceInv vs l l.length S):kH vs l=Av:=vH.2 fun a b hb ha=>h.apart a b hb ha
end
section
open Go.RowKit Go.Shelf
attribute [local go_sem] Oper.semAt_some
theorem ku{w w':Ba}(h:Ao w.heap.size w w'){row:Option Nat}:w.grownBy w' row:=⟨h.os,h.tape,h.output,h.size,fun k hk _=>h.block k hk⟩
theorem Qs(n:Nat)(A:Bb)(cap:Nat)(vs:List Vw)(v:Vw)(w:Ba)(hT:TArg w A cap vs)(hw:Wf (n:Int) vs) :
  Ap An 105 #[Aj #[O U n,I A vs.length cap],.agg v.cells] w fun e w'=>e=Am (O U (zR n vs v))/\Ao w.heap.size w w':=by
 have ie:=@run_makeMap An;have HT:=zH hT;have HW:=zH hw;have dc:=hT.few;have I4:=v.cells_h;have lU:=gO n v;clear hT hw;refine yd func105 rfl ?_;simp only[ntmps105,List.size_toArray,List.length_cons,List.length_nil,Nat.reduceAdd,Nat.reduceSub,Array.replicate_succ,Array.replicate_zero,List.push_toArray,List.append_toArray,List.nil_append,List.cons_append];unfold Vw.cells at I4 lU ⊢;have HCH:=zH I4;clear I4;go_wp2_with fail;obtain⟨W0,bH,b0,b1,bn,aX⟩:=Z7 w #[O U n,I A vs.length cap] v.cells 33 100;unfold Vw.cells at bH b1;rw[bH];clear bH;refine(lU W0).mono ?_;rintro e w1 ⟨rfl,hb⟩;have d0:=Lb hb (by omega) b0;have d1:=Lb hb (by omega) b1;have B1:As (Ao w.heap.size w w1):=aX.trans (hb.mono (by omega));have l1:w.heap.size+1<w1.heap.size:=by have:=hb.size;omega
 clear lU b0 b1 bn aX hb;have c0:=za d0 1 rfl;have c1:=za d1 1 rfl;have D0:=zH d0;have D1:=zH d1;clear d0 d1
 by_cases de:yZ n v=0
 . have e0:(yZ n v != 0)=Ax:=by simp[de]
   by_cases hr:v.r=0
   . have e1:(v.r==0)=Av:=by simp[hr]
     have hz:=zH (gi (n:=n) (vs:=vs) (v:=v) (.inr hr));clear de hr;go_wp2_with fail
     (try simp only[Exit.inBlock,Exit.then])
     refine zX (Marks.nil w.heap.size _) (v:=O U (yZ n v)) (fun W=>by kernel_rfl) ?_;intro W hS;exact⟨zc hz.out.symm,B1.out.trans (hS.below)⟩
   have e1:(v.r==0)=Ax:=by simp[hr]
   have bJ:=qX de;have HB:=zH de;have HR:=zH hr;clear de hr;have c3:=za D1.out 3 rfl;have c4:=za D1.out 4 rfl;have c5:=za D1.out 5 rfl;have c6:=za D1.out 6 rfl;have c7:=za D1.out 7 rfl;go_wp2_with fail
   go_loopw [29] (fun i wr=>∃k m:Nat,k<=5/\i=O U k/\wr=w1.drewN m/\As (yE (yh vs v) k=0)) (fun i _=>5-(Aq i).toNat)
   case atStart=>exact⟨0,0,by omega,rfl,rfl,rfl⟩
   obtain⟨k,m,hk,rfl,rfl,aj⟩:=hrel
   by_cases ac:k<5
   . have Bl:=vM v k ac
     by_cases hm:v.h k=-1
     . have e2:(v.h k==-1)=Av:=by simp[hm]
       have hz:As (yE (yh vs v) (k+1)=0):=by show yE (yh vs v) (k+1)=0;rw[kT aj.out];simp[yh,hm]
       clear hm;go_wp2_with fail
       go_roundw
       case rel=>exact⟨k+1,_,by omega,by go_num,rfl,hz⟩
       simp[Aq];omega
     have e2:(v.h k==-1)=Ax:=by simpa using hm
     by_cases hb:v.h k<0\/(vs.length:Int)<=v.h k
     · have hz : As (yE (yh vs v) 5 = 6) := by
        show yE (yh vs v) 5=6;have cF:yh vs v k=6:=by unfold yh;rw[Lj hm,Ln hb]
        rw[kA aj.out (by rw[cF];decide) ac,cF]
       clear hm;rcases hb with hb | hb
       . go_wp2_with fail
         (try simp only[Exit.inBlock,Exit.then])
         refine zX (Marks.nil w.heap.size _) (v:=O U 6) (fun W=>by kernel_rfl) ?_;intro W hS;exact⟨zc (by rw[qx HB.out HR.out (by rw[hz.out];decide),hz.out]),by first | exact(zx B1.out _).trans hS.below | exact(zx (zx B1.out _) _).trans hS.below⟩
       have aC:¬v.h k<0:=by omega
       go_wp2_with fail
       (try simp only[Exit.inBlock,Exit.then])
       refine zX (Marks.nil w.heap.size _) (v:=O U 6) (fun W=>by kernel_rfl) ?_;intro W hS;exact⟨zc (by rw[qx HB.out HR.out (by rw[hz.out];decide),hz.out]),by first | exact(zx B1.out _).trans hS.below | exact(zx (zx B1.out _) _).trans hS.below⟩
     obtain⟨j,hj⟩:=Lr (show 0<=v.h k by omega);have bg:j<vs.length:=by omega
     rw[hj] at Bl e2
     have cC:yh vs v k=if vs[j].p≠(k:Int)\/vs[j].r≠v.r-1 then 22 else 0:=by
      unfold yh;rw[Lj hm,Lj (by omega),hj,Lv,qw bg]
     obtain⟨b,off,rfl,aC,r0,r1,_⟩:=(HT.out.rows.keep B1.out).row j bg;have af:b<w1.heap.size:=by omega
     clear hb hm hj c3 c4 c5 c6 c7
     by_cases dN:vs[j].p=(k:Int)
     . by_cases ai:vs[j].r=v.r-1
       · have hz : As (yE (yh vs v) (k + 1) = 0) := by
          show yE (yh vs v) (k+1)=0;rw[kT aj.out,cC,Lj (by omega)]
         have e3:(vs[j].p != (k:Int))=Ax:=by simp[dN]
         have e4:(vs[j].r != v.r-1)=Ax:=by simp[ai]
         clear cC dN ai;go_wp2_with fail;go_quiet (fail);go_wp2_with fail
         go_roundw
         case rel=>exact⟨k+1,_,by omega,by go_num,rfl,hz⟩
         simp[Aq];omega
       have hz : As (yE (yh vs v) 5 = 22) := by
        show yE (yh vs v) 5=22;have cF:yh vs v k=22:=by rw[cC,Ln (.inr ai)]
        rw[kA aj.out (by rw[cF];decide) ac,cF]
       have e3:(vs[j].p != (k:Int))=Ax:=by simp[dN]
       have e4:(vs[j].r != v.r-1)=Av:=by simpa using ai
       clear cC dN ai;go_wp2_with fail;go_quiet (fail);go_wp2_with fail
       (try simp only[Exit.inBlock,Exit.then])
       refine zX (Marks.nil w.heap.size _) (v:=O U 22) (fun W=>by kernel_rfl) ?_;intro W hS;exact⟨zc (by rw[qx HB.out HR.out (by rw[hz.out];decide),hz.out]),by first | exact(zx B1.out _).trans hS.below | exact(zx (zx B1.out _) _).trans hS.below⟩
     have hz : As (yE (yh vs v) 5 = 22) := by
      show yE (yh vs v) 5=22;have cF:yh vs v k=22:=by rw[cC,Ln (.inl dN)]
      rw[kA aj.out (by rw[cF];decide) ac,cF]
     have e3:(vs[j].p != (k:Int))=Av:=by simpa using dN
     clear cC dN;go_wp2_with fail;go_quiet (fail);go_wp2_with fail
     (try simp only[Exit.inBlock,Exit.then])
     refine zX (Marks.nil w.heap.size _) (v:=O U 22) (fun W=>by kernel_rfl) ?_;intro W hS;exact⟨zc (by rw[qx HB.out HR.out (by rw[hz.out];decide),hz.out]),by first | exact(zx B1.out _).trans hS.below | exact(zx (zx B1.out _) _).trans hS.below⟩
   obtain rfl:k=5:=by omega
   obtain⟨wa,pX⟩:=Kh (w1.drewN m);have A0:As (wa.heap[w.heap.size]?=J (Ah #[O U n,I A vs.length cap] 33 (0,0))):=by rw[<-pX];exact D0.out
   have A1:As (wa.heap[w.heap.size+1]?=J (Ah v.cells 100 (0,0))):=by rw[<-pX];exact D1.out
   have AB:As (Ao w.heap.size w wa):=by rw[<-pX];exact zx B1.out m
   have la:w.heap.size+1<wa.heap.size:=by rw[<-pX];exact l1
   rw[pX];clear pX c0 c1 c3 c4 c5 c6 c7 D0 D1 B1 l1;obtain⟨q,lL⟩:=Lr bJ.1;have AZ:q<5:=by have:=bJ.2.1;have:=HW.out.2.1;omega
   have hq:=za A1.out (3+q) (v.cells_h q AZ);have c0:wa.cell? ⟨w.heap.size+1,0,Z⟩=J (O U (q:Int)):=by rw[<-lL];exact za A1.out 0 rfl
   have HQ:=zH lL;have O1:v.p.toNat=q:=by omega
   by_cases hg:v.h q=-1
   . have e2:(v.h q==-1)=Av:=by simp[hg]
     have hz:=zH (Qr HB.out HR.out aj.out (by rw[O1];exact hg));clear hg lL bJ;go_wp2_with fail
     (try simp only[Exit.inBlock,Exit.then])
     refine zX (Marks.nil w.heap.size _) (v:=O U 20) (fun W=>by kernel_rfl) ?_;intro W hS;exact⟨zc (hz.out.symm),AB.out.trans hS.below⟩
   have e2:(v.h q==-1)=Ax:=by simpa using hg
   have hz:=zH (YW HB.out HR.out aj.out (by rw[O1];exact hg));have cC:=aj.out;have hp:v.p=(q:Int):=lL;have dv:=zH (ZR aj.out);have hh:=kS v;have v0:wa.cell? ⟨w.heap.size+1,0,Z⟩=J (O U v.p):=za A1.out 0 rfl;have v1:=za A1.out 1 rfl;have v2:=za A1.out 2 rfl;have v3:=za A1.out 3 rfl;have v4:=za A1.out 4 rfl;have v5:=za A1.out 5 rfl;have v6:=za A1.out 6 rfl;have v7:=za A1.out 7 rfl;have VV:=zH (And.intro v0 (And.intro v1 (And.intro v2 (And.intro v3 (And.intro v4 (And.intro v5 (And.intro v6 v7)))))));clear v0 v1 v2 v3 v4 v5 v6 v7 hh hp cC;clear hg lL bJ;go_upto_region 16 with fail
   obtain⟨v0,v1,v2,v3,v4,v5,v6,v7⟩:=VV.out;clear hq c0 HCH;go_wp2_with fail;obtain⟨g8,RU⟩:∃g8,g8=wa.heap.size:=⟨_,rfl⟩;have hh:=kS v (wa.alloc (Ah #[I Z 0 0] 49));have o8:=zB (zh wa (Ah #[I Z 0 0] 49)) (Ah v.cells 100);have o9:=zh (wa.alloc (Ah #[I Z 0 0] 49)) (Ah v.cells 100);have oB:Ao w.heap.size w ((wa.alloc (Ah #[I Z 0 0] 49)).alloc (Ah v.cells 100)):=AB.out.trans ((xX wa _ _).mono AB.out.size);have o0:=zB (zB A0.out (Ah #[I Z 0 0] 49)) (Ah v.cells 100);simp only[World.size_alloc] at hh o9;rw[<-RU] at hh o8 o9 la ⊢;refine hh.mono ?_;rintro e wb ⟨rfl,lr⟩;rw[lr] at o8 o9 oB o0;have cD:g8+1<wb.heap.size:=zd o9;clear lr hh RU v0 v1 v2 v3 v4 v5 v6 v7 VV A0 A1 AB;have XX:=zH (kr v (g8+1) wb o9);have XY:=zH o9;have X0:=zH o0;have XB:=zH oB;have SU:w.heap.size<=wb.heap.size:=oB.size;have W2:=zH (BoxW.start (B:=w.heap.size) (g:=g8) (xs:=[]) (w2:=wb) o8 (Own.nil _ _));clear o8 o9 o0 oB;go_wp2_with fail
   refine kg rfl (PX Ry (by kernel_rfl) rfl) XX.out (by rintro k rfl;exact cD) (fun _=>rfl)
    (fun pre W=>BoxW w.heap.size g8 (([]:List Int)++pre.map fun x:{ x // x∈yn v }=>x.1.2) wb W) (fun _ _ _=>False) (BoxW.own [] (fun x:Int×Int=>x.2) SU) (fun _ _ _ _ _ h _ _=>h)
    W2.out ?a1 ?assign ?body ?done ?stop
   case assign=>
    intro l x W K hK;gi_wp2;exact hK
   case body=>
    intro l pre x W hI ac;have iR:(yn v).length<=5:=by have:=xS v;simpa[zS] using this
    have ib:(([]:List Int)++pre.map fun x:{ x // x∈yn v }=>x.1.2).length<=1000000:=by
     rw[Lq,LG];simp;omega
    have dE:([]:List Int)++(pre++[x]).map (fun x:{ x // x∈yn v }=>x.1.2)=(([]:List Int)++pre.map fun x:{ x // x∈yn v }=>x.1.2)++[x.1.2]:=by simp
    obtain⟨xs,mJ⟩:∃xs,([]:List Int)++pre.map (fun x:{ x // x∈yn v }=>x.1.2)=xs:=⟨_,rfl⟩;rw[mJ] at hI ib;obtain⟨P2,c2,dd,cI⟩:=hI.box;have q6:=za dd 0 rfl;have MY:=zH hI;have HO:=zH cI;have aW:=zH dd;have HS:=zH dE;have Mj:=zH mJ;clear hI cI dd dE mJ
    gi_wp2_with (gi_at_builtin; go_must (refine jb rfl _ _ rfl w.heap.size (I P2 xs.length c2) _ x.1.2 rfl HO.out rfl (by omega) (by have := zd aW.out; omega) ?_); intro v' w3 bN rp ap
                 have pA:=(rp.block g8 (zd aW.out) (fun e=>qH HO.out aW.out (by decide) e.symm)).trans aW.out;have q7:=za pA 0 rfl;have f7:=zb pA 0;have l7:=zd pA;obtain⟨A3,k3,rfl,FV,KR,_⟩:=bN.form;have pG:=zH bN;have EK:=zH rp
                 clear pA bN rp ap)
    obtain⟨r1,r2,r3⟩:=MY.out.push (by omega) aW.out HO.out pG.out EK.out (g8+1) _ (by omega) XY.out;simp only[List.length_append,List.length_cons,List.length_nil,Nat.zero_add] at r1 r2 r3;exact⟨r1,r2,by dsimp only;rw[HS.out,Mj.out];exact r3⟩
   case stop=>
    intro D c pre W _ _ h;exact h.elim
   intro D ys W hD fB hI ex
   have hl:([]:List Int)++ys.map (fun x:{ x // x∈yn v }=>x.1.2)=zF (zS v):=by
    rw[gj];have:=congrArg (List.map (fun x:Int×Int=>x.2)) fB;rw[<-this,N3];rfl
   simp only[hl] at hI;obtain⟨P2,c2,dd,cI⟩:=hI.box;obtain⟨A2',Lt,e,hc1,hc2,DS⟩:=cI.form;simp only[Value.slice.injEq] at e;obtain⟨rfl,_,rfl⟩:=e;rw[zI] at dd cI;have M1:=zH ((Marks.nil w.heap.size wb).cons (hI.non.same · _ · rfl) SU hD ex);have T1:=hI.rest _ _ _ X0.out (by decide) (by omega);have q8:=za dd 0 rfl;obtain⟨q0,q1,_⟩:=Ka T1;have B2:=zH (XB.out.trans hI.non.below);have UB:=zd T1;have UA:=zd dd;have TT:=zH T1;have IA:=zH DS;clear hI dd cI DS T1 W2;go_wp2_with fail;obtain⟨gm,rm⟩:∃gm,gm=W.heap.size:=⟨_,rfl⟩;have m0:=SetAt.made jZ W;have mB:Ao w.heap.size w (W.alloc (.map #[] 0)):=B2.out.trans ((Lp _ _).alloc B2.out.size _);have mT:=zB TT.out (.map #[] 0);have mI:=IA.out.up ((Lp _ W).alloc (Lh _) (.map #[] 0));have mM:Marks w.heap.size _ (W.alloc (.map #[] 0)):=M1.out.keep fun k hk=>zB hk _
   have bn:(W.alloc (.map #[] 0)).heap.size=gm+1:=by simp[rm]
   obtain⟨Wm,FM⟩:=Kh (W.alloc (.map #[] 0));rw[<-rm,FM] at m0;rw[FM] at mB mT mI mM bn;rw[<-rm] at UB UA ⊢;rw[FM];have rf:=past_any n A P2 cap c2 vs (zS v) Wm (HT.out.keep mB) HW.out.acyc mI dv.out (by have:=xS v;omega);refine rf.mono ?_;rintro e W3 ⟨v3,rfl,lM,ap⟩;obtain⟨P3,c3,rfl,Dm,VU,fW⟩:=lM.form;rw[zI] at Dm lM;have s3:=m0.kept ap (by omega);have T3:=zH (Lb ap (by omega) mT);have B3:=zH (mB.trans (ap.mono (by omega)));have M3:As (Marks w.heap.size [{ target:=Target.collected D,args:=#[] }] W3):=mM.keep fun k hk=>(ap.block k (Li.1 hk).1).trans hk
   have O3:=zH lM;have I3:=zH fW;have OC:gm+1<=W3.heap.size:=by have:=ap.size;omega
   have aL:(qt vs (zS v)).length<=vs.length:=by have:=past_len vs (zS v);rwa[zI] at this
   have cB:=zH (fun x (hx:x∈qt vs (zS v))=>(Zb.1 hx).1);obtain⟨ls,Ft⟩:=Kh (qt vs (zS v));rw[zI,Ft];rw[Ft] at Dm hz I3 O3 aL cB;have tN:=zH bn;clear Ft rf m0 mB mT mI mM ap lM fW FM rm bn q0 q1 q8;go_wp2_with fail
   go_loopw [87] (fun i wr=>∃(k:Nat) (S:List (Int×Int)),k<=ls.length/\i=O U k/\SetAt jZ wr gm S/\As (PlaceInv vs ls k S)/\W3.grownBy wr (J gm)) (fun i _=>ls.length-(Aq i).toNat)
   case atStart=>exact⟨0,[],by omega,rfl,s3,PlaceInv.start _ _,Pk _ _⟩
   obtain⟨k,S,hk,rfl,dm,iT,cS⟩:=hrel;have BW:As (Ao w.heap.size w wr):=B3.out.grown cS (by have:=B3.out.size;omega) (fun k e=>by cases e;omega)
   have MW:As (Marks w.heap.size [{ target:=Target.collected D,args:=#[] }] wr):=M3.out.keep fun k hk=>by
    obtain⟨_,es,ck,hm,_⟩:=s3;exact(cS.block k (Li.1 hk).1 (fun e=>by cases e;rw[hm] at hk;cases hk)).trans hk
   by_cases ac:k<ls.length
   . have hx:=cB.out ls[k] (Ld ac)
     obtain⟨x,dD⟩:=Kh (ls[k]);rw[dD] at hx;have aO:(zF ls).length=ls.length:=zI ls;obtain⟨b3,Uz,rfl,ap,J'⟩:=I3.out.at_ k (by omega);have Dh:gm+1<=b3:=by have:=(O3.out.lt b3 rfl).1;have:=tN.out;omega
     have Sb:(zF ls)[k]'(by omega)=(x:Int):=by simp[zF,dD]
     rw[Sb] at J';have r3:=(L7 (cS.block b3 ap (by simp;omega))).trans J';obtain⟨b,off,rfl,aI,c0,c1,_⟩:=(HT.out.rows.keep BW.out).row x hx;have t1:=za ((cS.block w.heap.size (zd T3.out) (by simp;omega)).trans T3.out) 1 rfl;have aM:b<wr.heap.size:=by have:=BW.out.size;omega
     have iX:w.heap.size<wr.heap.size:=by have:=cS.size;omega
     have mi:(0:Int)<=(x:Int):=by omega
     have bI:(x:Int)<(vs.length:Int):=by omega
     have l8:=zH dm;have ot:=zH cS;have S3:=zH s3;have dZ:ls.getD k 0=x:=by rw[Le,Lg ac];exact dD
     have BZ:=zH dZ;have HXK:=zH dD;have HV:=zH (qw hx);clear dm cS s3 dZ dD aO Sb J';go_upto_region 23 with fail
     go_cut [14] from 91 to 103 (fun Uw wx=>∃g:Nat,Uw=Ak (J ⟨g,0,Z⟩)/\wx.cell? ⟨g,0,Z⟩=J (O U vs[x].p)/\wx.cell? ⟨g,1,Z⟩=J (O U vs[x].r)/\Ao wr.heap.size wr wx)
     case first=>
      clear r3 HT HW HR HB M1 B2 TT IA T3 B3 M3 O3 I3 cB l8 ot S3 BZ HXK HV iT BW MW hz dv XX XY X0 XB aj HQ;have OB:wr.cell? ⟨w.heap.size,1,Z⟩=J (I (J ⟨b,off,Z⟩) vs.length cap):=t1;clear t1
      go_region_held3 (fun w'=>w'.cell? ⟨w.heap.size,1,Z⟩=J (I (J ⟨b,off,Z⟩) vs.length cap)/\w'.cell? ⟨b,off+x*8,Z⟩=J (O U vs[x].p)/\w'.cell? ⟨b,off+x*8+1,Z⟩=J (O U vs[x].r))
       (first | exact⟨OB,c0,c1⟩ | exact⟨(Px _ _ _ iX).trans OB,(Px _ _ _ aM).trans c0,(Px _ _ _ aM).trans c1⟩)
       (fail)
      all_goals
       go_wp2_with fail
       go_meet
      all_goals
       exact⟨wr.heap.size,rfl,by simp[go_sem],by simp[go_sem],(zw wr _).drew⟩
     obtain⟨g,rfl,x0,x1,pk⟩:=hcut;have eZ:=l8.out.kept pk l8.out.lt;have cC:=eZ.look (t:=212) gY underlying212 kJ (vs[x].p,vs[x].r);unfold jZ at cC;dsimp only at cC;have ib:qa vs (ls.getD k 0)=(vs[x].p,vs[x].r):=by rw[BZ.out];unfold qa;rw[HV.out]
     have BX:As (Ao w.heap.size w wc):=Lc BW.out pk;have MX:As (Marks w.heap.size [{ target:=Target.collected D,args:=#[] }] wc):=MW.out.keep fun k hk=>(pk.block k (Li.1 hk).1).trans hk
     have Nn:=zH pk
     by_cases bZ:(vs[x].p,vs[x].r)∈S
     · have hy : As (zR (n : Int) vs v = 22) := by
        show zR (n:Int) vs v=22;rw[hz.out,Lj (iT.out.bad ac (by rw[ib];exact bZ))]
       simp only[bZ,decide_true] at cC;clear bZ ib pk eZ c0 c1 t1 r3;go_wp2_with fail
       (try simp only[Exit.inBlock,Exit.then])
       refine zX MX.out (v:=O U 22) (fun W=>by kernel_rfl) ?_;intro W hS;exact⟨zc hy.out.symm,BX.out.trans hS.below⟩
     have fR : As (PlaceInv vs ls (k + 1) ((vs[x].p, vs[x].r) :: S)) := by
      have:=iT.out.step (by rw[ib];exact bZ);rw[ib] at this;exact this
     simp only[bZ,decide_false] at cC;have LL:=zH eZ;clear bZ ib pk eZ c0 c1 t1 r3;go_wp2_with (at_mapUpdate;refine jr _ rfl _ _ _ _ _ rfl gY underlying212 gm S LL.out (vs[x].p,vs[x].r) rfl rfl rfl ?_;intro w5 mV IM)
     go_roundw
     case rel=>exact⟨k+1,(vs[x].p,vs[x].r)::S,by omega,by go_num,mV,fR,ot.out.trans ((ku Nn.out).trans IM)⟩
     simp[Aq];omega
   obtain rfl:k=ls.length:=by omega
   have hy:As (zR (n:Int) vs v=0):=by show zR (n:Int) vs v=0;rw[hz.out,Ln iT.out.fine]
   have BW':=BW;go_wp2_with fail
   (try simp only[Exit.inBlock,Exit.then])
   refine zX MW.out (v:=O U 0) (fun W=>by kernel_rfl) ?_;intro W hS;exact⟨zc hy.out.symm,BW.out.trans hS.below⟩
 have e0:(yZ n v != 0)=Av:=by simpa using de
 have hz:=zH (gi (n:=n) (vs:=vs) (v:=v) (.inl de));clear de;go_wp2_with fail
 (try simp only[Exit.inBlock,Exit.then])
 refine zX (Marks.nil w.heap.size _) (v:=O U (yZ n v)) (fun W=>by kernel_rfl) ?_;intro W hS;exact⟨zc (hz.out.symm),B1.out.trans hS.below⟩
end
section
open Go.RowKit
theorem TArg.take{w:Ba}{A:Bb}{cap:Nat}{vs:List Vw}(h:TArg w A cap vs)(k:Nat):TArg w A cap (vs.take k):=
 ⟨h.rows.take k,by have:=h.lec;simp;omega,h.lem,by have:=h.few;simp;omega⟩
theorem Qq(n:Nat)(A:Bb)(cap:Nat)(vs:List Vw)(k:Nat)(hk:k<=vs.length)(v:Vw)(w:Ba)(hT:TArg w A cap vs)(hw:Wf (n:Int) (vs.take k)) :
  Ap An 105 #[Aj #[O U n,I A k cap],.agg v.cells] w fun e w'=>e=Am (O U (zR n (vs.take k) v))/\Ao w.heap.size w w':=by
 have:=Qs n A cap (vs.take k) v w (hT.take k) hw;rwa[Nd,Ra hk] at this
theorem mem_step{vs S:List Vw}{k:Nat}(ac:k<vs.length)(h:∀x,x∈S↔x∈vs.take k):∀x,x∈vs[k]::S↔x∈vs.take (k+1):=by
 intro x;rw[LT,h,List.take_add_one,Lg ac];simp only[Option.toList,List.mem_append,List.mem_singleton];exact or_comm
def vEnc(v:Vw):Au:=.agg v.cells
theorem gQ:KeyOk An 100 vEnc:=jO
theorem Js(w:Ba):∃W0,w.alloc (.map #[] 0)=W0/\SetAt vEnc W0 w.heap.size []/\W0.heap.size=w.heap.size+1/\Ao w.heap.size w W0:=
 ⟨_,rfl,SetAt.made vEnc w,by simp,(Lp _ _).alloc (Lh _) _⟩
theorem Xf(n:Int)(A:Bb)(cap:Nat)(vs:List Vw)(w:Ba)(hT:TArg w A cap vs) :
  Ap An 65 #[Aj #[O U n,I A vs.length cap]] w fun e w'=>e=Am (O U (ye n vs))/\Ao w.heap.size w w':=by
 have HT:=zH hT;have dc:=hT.few;have ie:=@run_makeMap An;have HB:=zw w;clear hT
 by_cases hn:n<1\/5<n
 . have hz:As (ye n vs=1):=by show ye n vs=1;unfold ye;rw[Ln hn]
   go_enter func65,ntmps65
   by_cases h1:n<1
   . clear hn
     go_wp2_with fail;go_ret;exact⟨zc hz.out.symm,HB _⟩
   have h5:5<n:=by omega
   clear hn;go_wp2_with fail;go_ret;exact⟨zc hz.out.symm,HB _⟩
 have h1:¬n<1:=by omega
 have h5:¬5<n:=by omega
 by_cases hm:8192<vs.length
 . have hz:As (ye n vs=5):=by show ye n vs=5;unfold ye;rw[Lj hn,Ln hm]
   clear hn;go_enter func65,ntmps65;go_wp2_with fail;go_ret;exact⟨zc hz.out.symm,HB _⟩
 have hz:As (ye n vs=yE (jV n vs) vs.length):=by show ye n vs=_;unfold ye;rw[Lj hn,Lj hm]
 obtain⟨N,rfl⟩:=Lr (show 0<=n by omega);have fU:1<=N:=by omega
 have na:N<=5:=by omega
 clear hn;go_enter func65,ntmps65;go_wp2_with fail;obtain⟨gm,rm⟩:∃gm,gm=w.heap.size+1:=⟨_,rfl⟩;obtain⟨W0,bH,m0,bn,aX⟩:=Js (w.alloc (Ah #[O U N,I A vs.length cap] 33));have b0:=(aX.block w.heap.size (by simp)).trans (zh w (Ah #[O U N,I A vs.length cap] 33));have B0:=zH ((HB (Ah #[O U N,I A vs.length cap] 33)).trans (aX.mono (by simp)));rw[bH];simp only[World.size_alloc] at m0 bn;rw[<-rm] at m0 bn ⊢;clear bH aX;have pf:w.heap.size<gm:=by omega
 have UW:gm<W0.heap.size:=by omega
 have HGM:=zH rm;clear rm bn HB
 go_loopw [25] (fun i wr=>∃(k:Nat) (S:List Vw),k<=vs.length/\i=O U k/\As (yE (jV N vs) k=0)/\SetAt vEnc wr gm S/\As (∀x,x∈S↔x∈vs.take k)/\W0.grownBy wr (J gm)) (fun i _=>vs.length-(Aq i).toNat)
 case atStart=>exact⟨0,[],by omega,rfl,rfl,m0,by show ∀x,x∈[]↔x∈vs.take 0;simp,Pk _ _⟩
 obtain⟨k,S,hk,rfl,aj,dm,hS,cS⟩:=hrel;have BW:As (Ao w.heap.size w wr):=B0.out.grown cS (by omega) (fun k e=>by cases e;omega);have d0:=(cS.block w.heap.size (by omega) (by simp;omega)).trans b0;obtain⟨t0,t1,_⟩:=Ka d0;have sU:w.heap.size<wr.heap.size:=by have:=cS.size;omega
 have ot:=zH cS;have D0:=zH d0;have l8:=zH dm;clear cS d0 dm
 by_cases ac:k<vs.length
 · have iM : Wf (N : Int) (vs.take k) := ⟨by omega, by omega, fun j hj => by
    simp at hj;rw[JC (by omega)]
    exact xJ.1 aj.out j (by omega)⟩
   have FP:=HT.out.keep BW.out;have Dk:k<=cap:=by have:=FP.lec;omega
   have cq:(0:Int)<=(k:Int):=by omega
   have cy:(k:Int)<=(cap:Int):=by omega
   have fJ:(k:Int)<(vs.length:Int):=by omega
   obtain⟨b,off,rfl,aC,c0,c1,c2,c3,c4,c5,c6,c7⟩:=FP.rows.row k ac;have HTr:=zH FP;have lf:=zH iM;clear FP iM;go_upto_region 9 with fail
   refine wp_one ?_;intro W1 e0 co aB;obtain⟨g,hg⟩:∃g,g=wr.heap.size:=⟨_,rfl⟩;rw[<-hg] at e0 ⊢;have eJ:g<W1.heap.size:=by omega
   have s0:=(aB.cell (p:=⟨w.heap.size,0,Z⟩) sU).trans t0;have s1:=(aB.cell (p:=⟨w.heap.size,1,Z⟩) sU).trans t1;have Df:w.heap.size<W1.heap.size:=by omega
   have Cm:=l8.out.kept aB l8.out.lt;have FR:=HTr.out.keep aB;have nC:As (∀X:Ba,Ao W1.heap.size W1 X->TArg X (J ⟨b,off,Z⟩) cap vs):=fun X hX=>FR.keep hX
   obtain⟨q0,q1,q2,q3,q4,q5,q6,q7,_⟩:=Ke e0;have Dw:As (Ao wr.heap.size wr W1):=aB;have MS:=zH Cm;have HSZ1:=zH co;have Gq:=zH hg;clear c0 c1 c2 c3 c4 c5 c6 c7 t0 t1 FR aB e0 sU aC Cm co hg
   go_region_held3 (fun w'=>w'.cell? ⟨w.heap.size,0,Z⟩=J (O U N)/\w'.cell? ⟨w.heap.size,1,Z⟩=J (I (J ⟨b,off,Z⟩) vs.length cap) /\
     w'.cell? ⟨g,0,Z⟩=J (O U vs[k].p)/\w'.cell? ⟨g,1,Z⟩=J (O U vs[k].r)/\w'.cell? ⟨g,2,Z⟩=J (O U vs[k].i) /\
     w'.cell? ⟨g,3,Z⟩=J (O U vs[k].h0)/\w'.cell? ⟨g,4,Z⟩=J (O U vs[k].h1)/\w'.cell? ⟨g,5,Z⟩=J (O U vs[k].h2) /\
     w'.cell? ⟨g,6,Z⟩=J (O U vs[k].h3)/\w'.cell? ⟨g,7,Z⟩=J (O U vs[k].h4))
    (first
     | exact⟨s0,s1,q0,q1,q2,q3,q4,q5,q6,q7⟩
     | exact keep10 (W0:=W1) (B:=W1.heap.size) (vK af) Df eJ ⟨s0,s1,q0,q1,q2,q3,q4,q5,q6,q7⟩)
    ((go_at_call 105;refine(Qq N _ cap vs k (Nat.le_of_lt ac) vs[k] _ (nC.out _ (Lp _ _).drew) lf.out).mono ?_;rintro e w2 ⟨rfl,af⟩))
   have be:jV N vs k=if zR N (vs.take k) vs[k]≠0 then zR N (vs.take k) vs[k] else if vs[k]∈vs.take k then 7 else 0:=by
    unfold jV;rw[qw ac]
   have io:=zH be;clear be;have aQ:Ao W1.heap.size W1 w2:=vK af;have x2:As (Ao w.heap.size w w2):=BW.out.trans (Dw.out.trans (aQ.mono (by have:=Gq.out;omega)) |>.mono BW.out.size);have G2:As (W0.grownBy w2 (J gm)):=ot.out.trans ((ku Dw.out).trans (ku aQ));have L8:=MS.out.kept aQ MS.out.lt;obtain⟨y0,y1,r0,r1,r2,r3,r4,r5,r6,r7⟩:=keep10 aQ Df eJ ⟨s0,s1,q0,q1,q2,q3,q4,q5,q6,q7⟩;have cC:=L8.look (t:=183) gQ underlying183 kJ vs[k];unfold vEnc Vw.cells at cC;have M2:=zH L8;clear af aQ s0 s1 q0 q1 q2 q3 q4 q5 q6 q7 L8
   by_cases hc:zR N (vs.take k) vs[k]=0
   . have e2:(zR N (vs.take k) vs[k] != 0)=Ax:=by simp[hc]
     have HC:=zH hc;clear hc
     by_cases bZ:vs[k]∈S
     · have oI : As (yE (jV N vs) vs.length = 7) := by
        have Fr:=(hS.out _).1 bZ;show _=_;rw[kA aj.out (by rw[io.out,Lj (by rw[HC.out];simp),Ln Fr];decide) ac,io.out,Lj (by rw[HC.out];simp),Ln Fr]
       simp only[bZ,decide_true] at cC;clear bZ;go_wp2_with fail;go_ret;exact⟨zc (by rw[hz.out,oI.out]),x2.out⟩
     have oI : As (yE (jV N vs) (k + 1) = 0) := by
      have Fr:=fun h=>bZ ((hS.out _).2 h)
      show _=_;rw[kT aj.out,io.out,Lj (by rw[HC.out];simp),Lj Fr]
     simp only[bZ,decide_false] at cC;clear bZ;go_wp2_with (at_mapUpdate;refine jr _ rfl _ _ _ _ _ rfl gQ underlying183 gm S M2.out vs[k] rfl rfl rfl ?_;intro w5 mV IM)
     go_roundw
     case rel=>exact⟨k+1,vs[k]::S,by omega,by go_num,oI,mV,mem_step ac hS.out,G2.out.trans IM⟩
     simp[Aq];omega
   have e2:(zR N (vs.take k) vs[k] != 0)=Av:=by simpa using hc
   have HC:=zH hc;clear hc;go_wp2_with fail;go_ret;exact⟨zc (by rw[hz.out,kA aj.out (by rw[io.out,Ln HC.out];exact HC.out) ac,io.out,Ln HC.out]),x2.out⟩
 obtain rfl:k=vs.length:=by omega
 go_wp2_with fail;go_ret;exact⟨zc (by rw[hz.out,aj.out]),BW.out⟩
def inB(vs:List Vw)(i:Int):Bool:=decide (0<=i/\i<(vs.length:Int))
def atE(n:Int)(vs:List Vw)(l:List Int):Int:=if ye n vs≠0 then ye n vs else if l.all (inB vs)=Av then 0 else 6
theorem atE_bad{n:Int}{vs:List Vw}{l:List Int}(h:ye n vs≠0):atE n vs l=ye n vs:=by unfold atE;rw[Ln h]
theorem Jc{n:Int}{vs:List Vw}{l:List Int}(h:ye n vs=0)(ha:l.all (inB vs)=Av):atE n vs l=0:=by unfold atE;rw[Lj (by simp[h]),Ln ha]
theorem Jb{n:Int}{vs:List Vw}{l:List Int}(h:ye n vs=0)(ha:l.all (inB vs)≠Av):atE n vs l=6:=by unfold atE;rw[Lj (by simp[h]),Lj ha]
theorem Jf{vs:List Vw}{l:List Int}{k:Nat}(hk:k<l.length)(h:inB vs l[k]=Ax):l.all (inB vs)≠Av:=fun ha=>by
 have:=LH.1 ha _ (Ld hk);rw[h] at this;cases this
theorem all_stepA{vs:List Vw}{l:List Int}{k:Nat}(hk:k<l.length)(ha:(l.take k).all (inB vs)=Av)(h:inB vs l[k]=Av):(l.take (k+1)).all (inB vs)=Av:=by
 rw[List.take_add_one,Lg hk,List.all_append,ha];simp[h]
theorem vat_any(n:Int)(A L:Bb)(cap GN:Nat)(vs:List Vw)(l:List Int)(w:Ba)(hT:TArg w A cap vs)(hL:IAt w w.heap.size L l)(hl:l.length<=1000) :
  Ap An 27 #[Aj #[O U n,I A vs.length cap],I L l.length GN] w fun e w'=>e=Am (O U (atE n vs l))/\Ao w.heap.size w w':=by
 have HT:=zH hT;have HL:=zH hL;have dc:=hT.few;clear hT hL;go_enter func27,ntmps27;go_wp2_with fail;obtain⟨W0,bH,b0,bn,aX⟩:=zt w #[O U n,I A vs.length cap] 33;rw[bH];clear bH;refine(Xf n A cap vs W0 (HT.out.keep aX)).mono ?_;rintro e w1 ⟨rfl,hb⟩;have d0:=Lb hb (by omega) b0;have B1:As (Ao w.heap.size w w1):=aX.trans (hb.mono (by omega));have l1:w.heap.size<w1.heap.size:=by have:=hb.size;omega
 have t1:=za d0 1 rfl;clear b0 bn aX hb d0
 by_cases hc:ye n vs=0
 . have e0:(ye n vs != 0)=Ax:=by simp[hc]
   have HC:=zH hc;clear hc;go_wp2_with fail
   go_loop [15] (fun i=>∃k:Nat,k<=l.length/\i=O U k/\As ((l.take k).all (inB vs)=Av)) (fun i=>l.length-(Aq i).toNat)
   case atStart=>exact⟨0,by omega,rfl,by show(l.take 0).all (inB vs)=Av;simp⟩
   obtain⟨k,hk,rfl,aj⟩:=hrel
   by_cases ac:k<l.length
   . obtain⟨b,off,rfl,aA,r0⟩:=HL.out.at_ k ac
     have r1:=(B1.out.cell (p:=⟨b,off+k,Z⟩) aA).trans r0;have af:b<w1.heap.size:=by omega
     obtain⟨i,hi⟩:=Kh (l[k]);rw[hi] at r1;clear r0
     by_cases h1:i<0
     . have hz:=zH (Jb HC.out (Jf ac (by unfold inB;rw[hi];simp;omega)))
       clear hi;go_wp2_with fail;go_ret;exact⟨zc hz.out.symm,B1.out⟩
     by_cases h2:(vs.length:Int)<=i
     . have hz:=zH (Jb HC.out (Jf ac (by unfold inB;rw[hi];simp;omega)))
       clear hi;go_wp2_with fail;go_ret;exact⟨zc hz.out.symm,B1.out⟩
     have hz:=zH (all_stepA ac aj.out (by unfold inB;rw[hi];simp;omega));clear hi;go_wp2_with fail
     go_round
     case rel=>exact⟨k+1,by omega,by go_num,hz⟩
     simp[Aq];omega
   obtain rfl:k=l.length:=by omega
   have hz:=zH (Jc HC.out (by have:=aj.out;rwa[LD] at this));go_wp2_with fail;go_ret;exact⟨zc hz.out.symm,B1.out⟩
 have e0:(ye n vs != 0)=Av:=by simpa using hc
 have hz:=zH (atE_bad (l:=l) hc);clear hc;go_wp2_with fail;go_ret;exact⟨zc hz.out.symm,B1.out⟩
theorem inB_iff{vs:List Vw}{i:Int}:inB vs i=Av↔0<=i/\i<(vs.length:Int):=by unfold inB;simp
theorem atE_ok{n:Int}{vs:List Vw}{l:List Int}(h:atE n vs l=0):Wf n vs/\vs.length<=8192/\∀i,i∈l->0<=i/\i<(vs.length:Int):=by
 unfold atE at h
 split at h
 . rename_i h1;exact absurd h h1
 rename_i h1
 split at h
 . rename_i h2
   have:=Wf.of_CheckE (by simpa using h1);exact⟨this.1,this.2,fun i hi=>inB_iff.1 (LH.1 h2 i hi)⟩
 cases h
theorem Wf.beg{n:Int}{vs:List Vw}(h:Wf n vs){i:Nat}(hi:i<vs.length):yZ n vs[i]=0:=by
 have:=(kU (ZD (h.2.2 i hi)).1).1;rwa[qw hi] at this
end
section
open Go.RowKit Go.Shelf
attribute [local go_sem] Oper.semAt_some
theorem BldAt.belowAll{B b:Nat}{l:List UInt8}{w w':Ba}(h:BldAt B b l w)(hb:Ao w.heap.size w w'):BldAt B b l w':=h.same fun k _ hk _=>(hb.block k (zd hk)).trans hk
theorem yU{b k:Nat}{w w':Ba}{cs:Array Au}{t:TypeId}(h:Kept b w w')(hk:w.heap[k]?=J (Ah cs t (0,0)))(hb:k≠b)(ht:t≠5):w'.heap[k]?=J (Ah cs t (0,0)):=
 h k _ hk (by simpa using hb) (fun c fz e=>by cases e;exact ht rfl)
theorem Kept.of_below{b:Nat}{w w':Ba}(h:Ao w.heap.size w w'):Kept b w w':=fun k _ hk _ _=>(h.block k (zd hk)).trans hk
theorem Kept.trans{b:Nat}{w w' pT:Ba}(h:Kept b w w')(h':Kept b w' pT):Kept b w pT:=Lib.OthersKept.trans h h'
theorem Kept.shut{b:Nat}{w w' W:Ba}(h:Kept b w w')(hs:Ao w.heap.size w' W):Kept b w W:=fun k o hk h1 h2=>(hs.block k (zd hk)).trans (h k o hk h1 h2)
theorem Kept.drewL{b:Nat}{w w':Ba}(h:Kept b w.drew w'):Kept b w w':=h
def RetWrite(B b:Nat)(l s:List UInt8)(w:Ba)(e:Ending)(w':Ba):Prop:=e=Am (.tuple #[])/\BldAt B b (l++s) w'/\Ao B w w'/\Kept b w w'
def vO(vs:List Vw)(i:Nat):Prop:=∀(mk:Nat) (_:gE vs mk) (n:Int) (A:Bb) (cap B b:Nat) (l:List UInt8) (w:Ba),TArg w A cap vs->VAt w B A vs->BldAt B b l w->B<=w.heap.size->l.length+yR mk (zv vs i).r.toNat<=65536 ->
 Ap An 39 #[Ak (J ⟨b,0,Z⟩),Aj #[O U n,I A vs.length cap],O U i] w (RetWrite B b l (zi vs i) w)
theorem YF(x:Int)(h0:0<=x)(h1:x<10)(w:Ba):Ap An 76 #[O U x] w fun e w'=>e=Am (.string ⟨#[dgt x]⟩)/\w'=w:=by
 obtain⟨k,rfl⟩:=Lr h0;refine(Tryz.strconv_Itoa_small k (by omega) w).mono ?_;rintro e w' ⟨rfl,rfl⟩;refine⟨?_,rfl⟩;rw[Lib.decDigits_one (by omega)]
 rfl
theorem wsz1{l:List UInt8}(a:UInt8)(h:l.length+3<=65536):l.length+(⟨#[a]⟩:ByteArray).size<=140737488355328:=by
 have h1:(⟨#[a]⟩:ByteArray).size=1:=rfl;omega
theorem wsz2{l:List UInt8}(a b c:UInt8)(h:l.length+3<=65536):(l++[a]).length+((⟨#[b]⟩:ByteArray)++⟨#[c]⟩).size<=140737488355328:=by
 have h1:((⟨#[b]⟩:ByteArray)++⟨#[c]⟩).size=2:=by rw[ByteArray.size_append];rfl
 rw[h1,Lq];simp only[List.length_cons,List.length_nil];omega
theorem wsz3{l:List UInt8}{m:Nat}(a:UInt8)(h:l.length+1+m<=65536):l.length+(⟨#[a]⟩:ByteArray).size<=140737488355328:=by
 have h1:(⟨#[a]⟩:ByteArray).size=1:=rfl;omega
theorem TArg.of_vat{w W:Ba}{A:Bb}{cap B:Nat}{vs:List Vw}(h:TArg w A cap vs)(hV:VAt w B A vs)(hb:Ao B w W)(hB:B<=w.heap.size):TArg W A cap vs:=
 ⟨(hV.keep hb).more (by have:=hb.size;omega),h.lec,h.lem,h.few⟩
theorem part_len{vs:List Vw}{l:List UInt8}{p:UInt8}{pre:List Nat}{r M m:Nat}(h:∀c,c∈pre->(zi vs c).length<=yR m r)(hp:pre.length<m)(hl:l.length+yR m (r+1)<=M)(s:UInt8) :
  (l++p::sep s (pre.map (zi vs))).length+1+yR m r<=M:=by
 have h1:=jw s (pre.map (zi vs)) (yR m r) (by
  intro x hx;obtain⟨c,hc,rfl⟩:=LA.1 hx
  exact h c hc)
 rw[LG] at h1;have h2:(pre.length+1)*(yR m r+1)<=m*(yR m r+1):=NJ _ hp;rw[Nat.succ_mul] at h2;simp only[yR] at hl;simp only[List.length_append,List.length_cons];omega
theorem write_of{m:Int}{vs:List Vw}(hw:Wf m vs){i:Nat}(hi:i<vs.length)(ih:∀c,c∈zS (zv vs i)->vO vs c):vO vs i:=by
 intro mk dF n A cap B b l w hT hV hB hBw aO;have rW:=zH dF;have HT:=zH hT;have HV:=zH hV;have HB:=zH hB;have dc:=hT.few;have Wa:=hB.lt;have aA:(Lib.byteCells l).length=l.length:=by simp[Lib.byteCells]
 have du:(Lib.byteCells l).length<=65536:=by omega
 have ce:=zH aA;have HW:=zH hw;have IH:=zH ih;clear hT hV hB aA hw ih;refine yd func39 rfl ?_;simp only[ntmps39,List.size_toArray,List.length_cons,List.length_nil,Nat.reduceAdd,Nat.reduceSub,Array.replicate_succ,Array.replicate_zero,List.push_toArray,List.append_toArray,List.nil_append,List.cons_append];go_wp2_with fail;obtain⟨W0,bH,b0,b1,bn,aX⟩:=Z7 w #[Ak (J ⟨b,0,Z⟩)] #[O U n,I A vs.length cap] 88 33;rw[bH];clear bH;have B0:As (BldAt B b l W0):=HB.out.belowAll aX;refine(Tryz.Builder_Len_f B b _ W0 B0.out).mono ?_;rintro e w1 ⟨rfl,rfl⟩;have t0:=za b0 0 rfl;have t1:w1.cell? ⟨w.heap.size+1,1,Z⟩=J (I A vs.length cap):=za b1 1 rfl;have K0:=zH b0;have K1:=zH b1;have BL:=zH aX;obtain⟨b',off,rfl,aC,c0,c1,c2,c3,c4,c5,c6,c7⟩:=(HT.out.keep aX).rows.row i hi;have sT:(0:Int)<=(i:Int):=by omega
 have IF:(i:Int)<(vs.length:Int):=by omega
 have Bx:=qX (HW.out.beg hi);have Ia:=HW.out.2.1;have CR:vs[i].p<10:=by omega
 have oW:0<=vs[i].p:=Bx.1;clear b0 b1 aX;go_upto_region 3 with fail
 refine wp_one ?_;intro W2 g0 ed aQ;have g1:W2.heap[w1.heap.size]?=J (Ah vs[i].cells 100 (0,0)):=g0;have q0:W2.cell? ⟨w1.heap.size,0,Z⟩=J (O U vs[i].p):=za g1 0 rfl;have s0:W2.cell? ⟨w.heap.size,0,Z⟩=J (Ak (J ⟨b,0,Z⟩)):=za (Lb aQ (by omega) K0.out) 0 rfl;have B2:As (BldAt B b l W2):=B0.out.belowAll aQ;have Tn:As (W2.heap[w.heap.size]?=J (Ah #[Ak (J ⟨b,0,Z⟩)] 88 (0,0))):=Lb aQ (by omega) K0.out;have Tm:As (W2.heap[w.heap.size+1]?=J (Ah #[O U n,I (J ⟨b',off,Z⟩) vs.length cap] 33 (0,0))):=Lb aQ (by omega) K1.out;have G1:=zH g1;have BW:As (Ao w.heap.size w W2):=BL.out.trans (aQ.mono (by omega));have OE:w.heap.size+3<=W2.heap.size:=by omega
 obtain⟨g,fK⟩:=Kh (w.heap.size+2);rw[bn,fK] at q0 G1;rw[fK];have HG:=zH fK;clear g0 g1 c0 c1 c2 c3 c4 c5 c6 c7 t0 t1 ed aQ fK K0 K1 BL B0 bn;refine wp_region_still_tail 4 (by kernel_rfl) (by kernel_rfl) ?_;simp only[List.take_succ_cons,List.take_zero,List.drop_succ_cons,List.drop_zero]
 still_step
 still_step
 still_step
 still_call (YF vs[i].p oW CR _)
 refine wpStill_nil ?_;have hlw:=vU rW.out.1 (zv vs i).r.toNat;have Fw:l.length+3<=65536:=by omega
 have FB:zv vs i=vs[i]:=qw hi;have oq:=zH FB;clear FB
 by_cases hr:vs[i].r=0
 . have e1:(vs[i].r==0)=Av:=by simp[hr]
   have hz:As (zi vs i=[dgt vs[i].p,58,dgt vs[i].i]):=by show _=_;rw[qR (by rw[oq.out];exact hr),oq.out]
   have Iz:=(Bx.2.2.2.2.1 hr).1;have Iy:vs[i].i<10:=by have:=(Bx.2.2.2.2.1 hr).2;omega
   clear hr Bx
   go_wp2_with (go_at_call 75; refine (qL B b l ⟨#[dgt vs[i].p]⟩ _ B2.out.drew (wsz1 _ Fw) (Nat.le_trans hBw BW.out.size)).mono ?_; rintro e w3 ⟨OC, rfl, ap, aZ, eo⟩; clear q0 s0
                have L1:=zH (yU eo.drewL G1.out (by have:=HG.out;omega) (by decide));have L2:=zH (yU eo.drewL Tn.out (by omega) (by decide));have L3:=zH (yU eo.drewL Tm.out (by omega) (by decide));have x0:w3.cell? ⟨g,1,Z⟩=J (O U vs[i].r):=za L1.out 1 rfl;have B3:=zH ap;have Cb:=zH (vK aZ);have L':=zH eo.drewL
                clear ap aZ eo)
   have s0:w3.cell? ⟨w.heap.size,0,Z⟩=J (Ak (J ⟨b,0,Z⟩)):=za L2.out 0 rfl;have q2:w3.cell? ⟨g,2,Z⟩=J (O U vs[i].i):=za L1.out 2 rfl;refine wp_region_still_tail 5 (by kernel_rfl) (by kernel_rfl) ?_;simp only[List.take_succ_cons,List.take_zero,List.drop_succ_cons,List.drop_zero]
   still_step
   still_step
   still_step
   still_call (YF vs[i].i Iz Iy _)
   still_step
   refine wpStill_nil ?_;go_wp2_with fail;refine(qL B b (l++[dgt vs[i].p]) _ _ B3.out.drew (wsz2 _ _ _ Fw) (Lx (Lx hBw BW.out.size) Cb.out.size)).mono ?_;rintro e w4 ⟨sz4,rfl,aU,cU,PZ⟩;have fP:=zH aU;have BB4:=zH cU;have HK4:=zH PZ;clear aU cU PZ;go_wp2_with fail;refine zX (Marks.nil w.heap.size _) (v:=.tuple #[]) (fun W=>by kernel_rfl) ?_;intro W hS;refine⟨rfl,?_,?_,?_⟩
   . have:=fP.out.same (w':=W) hS.same
     rw[hz.out];simpa using this
   . exact((BW.out.mono hBw).trans (Cb.out.trans (vK BB4.out))).trans (hS.below.mono hBw)
   exact((Kept.of_below BW.out).trans (L'.out.trans HK4.out.drewL)).shut hS.below
 have e1:(vs[i].r==0)=Ax:=by simp[hr]
 have fG:(zv vs i).r≠0:=by rw[oq.out];exact hr
 have hz:=zH (qr HW.out.acyc hi fG);have HR:=zH fG;have sz:0<vs[i].r:=by have:=Bx.2.2.1;omega
 clear hr Bx fG
 go_wp2_with (go_at_call 75; refine (qL B b l ⟨#[dgt vs[i].p]⟩ _ B2.out.drew (wsz1 _ Fw) (Nat.le_trans hBw BW.out.size)).mono ?_; rintro e w3 ⟨OC, rfl, ap, aZ, eo⟩; clear q0 s0
              have L1:=zH (yU eo.drewL G1.out (by have:=HG.out;omega) (by decide));have L2:=zH (yU eo.drewL Tn.out (by omega) (by decide));have L3:=zH (yU eo.drewL Tm.out (by omega) (by decide));have x0:w3.cell? ⟨g,1,Z⟩=J (O U vs[i].r):=za L1.out 1 rfl;have B3:=zH ap;have Cb:=zH (vK aZ);have L':=zH eo.drewL;have q0:w3.cell? ⟨g,0,Z⟩=J (O U vs[i].p):=za L1.out 0 rfl;have q2:w3.cell? ⟨g,2,Z⟩=J (O U vs[i].i):=za L1.out 2 rfl;have q3:w3.cell? ⟨g,3,Z⟩=J (O U vs[i].h0):=za L1.out 3 rfl;have q4:w3.cell? ⟨g,4,Z⟩=J (O U vs[i].h1):=za L1.out 4 rfl;have q5:w3.cell? ⟨g,5,Z⟩=J (O U vs[i].h2):=za L1.out 5 rfl;have q6:w3.cell? ⟨g,6,Z⟩=J (O U vs[i].h3):=za L1.out 6 rfl;have q7:w3.cell? ⟨g,7,Z⟩=J (O U vs[i].h4):=za L1.out 7 rfl;have rp:g<w3.heap.size:=zd L1.out
              clear ap aZ eo)
 obtain⟨W4,pt,s4,lJ,cU⟩:=zt w3 #[.string ⟨#[40]⟩] 9;rw[pt];obtain⟨gs,nU⟩:=Kh w3.heap.size;rw[nU] at s4 ⊢;have hh:=kS vs[i] W4;have aM:=zh W4 (Ah vs[i].cells 100);have ee:=kr vs[i] W4.heap.size _ aM;have lgs:gs<W4.heap.size:=by omega
 have UN:w.heap.size+3<=gs:=by have h1:=BW.out.size;have h2:=Cb.out.size;omega
 have EY:BldAt B b (l++[dgt vs[i].p]) W4:=B3.out.belowAll cU;have S5:=zB s4 (Ah vs[i].cells 100);have AA:=EY.alloc (Ah vs[i].cells 100);have A0:=zB (Lb cU (by omega) L2.out) (Ah vs[i].cells 100);have A1:=zB (Lb cU (by omega) L3.out) (Ah vs[i].cells 100);have B5:Ao B w (W4.alloc (Ah vs[i].cells 100)):=((BW.out.mono hBw).trans (Cb.out.trans (cU.mono (by have h1:=BW.out.size;have h2:=Cb.out.size;omega)))).trans ((zw W4 _).mono (by have h1:=BW.out.size;omega));have Ma:Kept b w (W4.alloc (Ah vs[i].cells 100)):=((Kept.of_below BW.out).trans (L'.out.trans (Kept.of_below cU))).trans (Kept.of_below (zw W4 _));have cD:W4.heap.size<(W4.alloc (Ah vs[i].cells 100)).heap.size:=by simp
 unfold Vw.cells at hh;clear q0 q2 q3 q4 q5 q6 q7 x0 pt cU s4;refine hh.mono ?_;rintro e w5 ⟨rfl,nP⟩;have Cv:W4.alloc (Ah vs[i].cells 100)=w5:=nP;rw[Cv] at aM ee S5 AA A0 A1 B5 Ma cD;clear nP Cv;have XX:=zH ee;have XS:=zH S5;have XB:=zH AA;have LN:=zH A0;have FZ:=zH A1;have XV:=zH aM;have XW:=zH B5;have XK:=zH Ma;have HGS:=zH nU;have mx:=zH lJ;clear ee S5 AA A0 A1 aM B5 Ma hh nU lJ EY;have dT:B<=w5.heap.size:=by have h1:=XW.out.size;omega
 go_wp2_with fail
 refine kg rfl (PX Ry (by kernel_rfl) rfl) XX.out (by rintro k rfl;exact cD) (fun _=>rfl)
  (fun pre W=>WrIn B b gs (l++dgt vs[i].p::sep 40 (pre.map fun x=>zi vs x.1.2.toNat)) (if pre=[] then 40 else 44) w5 W) (fun _ _ _=>False) (fun _ _ _ _ h hg hr=>h.turn dT hg hr) (fun _ _ _ _ _ h _ _=>h)
  ⟨XB.out,XS.out,Lp _ _,fun _ _ h _ _ _=>h⟩ ?a1 ?assign ?body ?done ?stop
 case assign=>
  intro l x W K hK;gi_wp2;exact hK
 case body=>
  intro l' pre x W hI ac;have iR:(yn vs[i]).length<=mk:=by have:=rW.out.2 i hi;rw[oq.out] at this;simpa[zS] using this
  obtain⟨nO,q,AZ,OM,UI⟩:=qj.1 x.2;have dD:x.1.2.toNat∈zS (zv vs i):=by rw[oq.out];exact LA.2 ⟨x.1,x.2,rfl⟩
  obtain⟨c,hc⟩:=Lr (show 0<=x.1.2 by rw[OM];exact UI);have sZ:x.1.2.toNat=c:=by omega
  rw[sZ] at dD;have Ip:=HW.out.kid hi dD;have bh:c<vs.length:=by omega
  obtain⟨r,AQ⟩:∃r,(zv vs i).r.toNat=r+1:=⟨(zv vs i).r.toNat-1,by have:=oq.out;rw[this];omega⟩;have O0:(zv vs c).r.toNat=r:=by have:=Ip.2;omega
  have dN:∀y,y∈pre.map (fun x=>x.1.2.toNat)->(zi vs y).length<=yR mk r:=by
   intro y hy;obtain⟨z,_,rfl⟩:=LA.1 hy;have UE:z.1.2.toNat∈zS (zv vs i):=by rw[oq.out];exact LA.2 ⟨z.1,z.2,rfl⟩
   have hz:=HW.out.kid hi UE;have:=ju HW.out rW.out z.1.2.toNat (by omega);rwa[show(zv vs z.1.2.toNat).r.toNat=r from by have:=hz.2;omega] at this
  have ie:pre.map (fun x=>zi vs x.1.2.toNat)=(pre.map fun x=>x.1.2.toNat).map (zi vs):=by rw[N3];rfl
  have te:=part_len (l:=l) (p:=dgt vs[i].p) dN (by rw[LG];omega) (by rw[<-AQ];exact aO) 40;have dE:(pre++[x]).map (fun x=>zi vs x.1.2.toNat)=pre.map (fun x=>zi vs x.1.2.toNat)++[zi vs c]:=by simp[sZ]
  rw[<-ie] at te;obtain⟨ws,mL⟩:∃ws,pre.map (fun x=>zi vs x.1.2.toNat)=ws:=⟨_,rfl⟩;have ic:(pre=[])↔(ws=[]):=by rw[<-mL,List.map_eq_nil_iff]
  obtain⟨sg,Hm⟩:∃sg:UInt8,(if pre=[] then 40 else 44)=sg:=⟨_,rfl⟩
  have CT:l++dgt vs[i].p::sep 40 (ws++[zi vs c])=((l++dgt vs[i].p::sep 40 ws)++[sg])++zi vs c:=by
   rw[Yb,<-Hm];simp only[ic];simp
  rw[mL,Hm] at hI;rw[mL] at te;have e0:=za (hI.rest _ _ LN.out (by omega) (by omega) (fun c fz e=>by cases e)) 0 rfl;have WY:W.cell? ⟨w.heap.size+1,0,Z⟩=J (O U n):=za (hI.rest _ _ FZ.out (by omega) (by omega) (fun c fz e=>by cases e)) 0 rfl;have e2:W.cell? ⟨w.heap.size+1,1,Z⟩=J (I (J ⟨b',off,Z⟩) vs.length cap):=za (hI.rest _ _ FZ.out (by omega) (by omega) (fun c fz e=>by cases e)) 1 rfl;have e3:W.cell? ⟨gs,0,Z⟩=J (.string ⟨#[sg]⟩):=za hI.sign 0 rfl;have pw:B<=W.heap.size:=by have:=hI.below.size;omega
  have HI:=zH hI;have HN:=zH CT;have HS:=zH dE;have Ei:=zH mL;have F7:=zH hc;have tP:=zH O0;have pW:(x.1.2:Int)=(c:Int):=hc;clear hI CT dE mL hc sZ Hm ic ie dN AQ OM O0;gi_wp2_with fail;refine⟨trivial,(RM l' ((Rs (n:=6)).2 (qL B b _ _ W HI.out.bld (wsz3 _ te) pw))).mono ?_⟩;rintro e W1 ⟨k1,rfl,i8,aB,cy⟩;have f0:=za (yU cy (HI.out.rest _ _ LN.out (by omega) (by omega) (fun c fz e=>by cases e)) (by omega) (by decide)) 0 rfl;have f1:W1.cell? ⟨w.heap.size+1,0,Z⟩=J (O U n):=za (yU cy (HI.out.rest _ _ FZ.out (by omega) (by omega) (fun c fz e=>by cases e)) (by omega) (by decide)) 0 rfl;have f2:W1.cell? ⟨w.heap.size+1,1,Z⟩=J (I (J ⟨b',off,Z⟩) vs.length cap):=za (yU cy (HI.out.rest _ _ FZ.out (by omega) (by omega) (fun c fz e=>by cases e)) (by omega) (by decide)) 1 rfl;have dC:=zH i8;have EV:=zH aB;have mA:=zH cy;have KQ:B<=W1.heap.size:=Lx pw aB.size;have Us:As (Ao B w W1):=XW.out.trans (HI.out.below.trans aB);clear e0 WY e2 e3 i8 aB cy;gi_wp2_with fail;refine⟨trivial,(RM l' ((Rs (n:=6)).2 (IH.out c dD mk rW.out n _ cap B b _ W1 (TArg.of_vat HT.out HV.out Us.out hBw) (HV.out.keep Us.out) dC.out KQ (by have h1:=tP.out;rw[h1,Lq];simp only[List.length_cons,List.length_nil];omega)))).mono ?_⟩;rintro e F0 ⟨rfl,af,aQ,fJ⟩
  have oP:F0.heap[gs]?=J (Ah #[.string ⟨#[sg]⟩] 9 (0,0)):=yU fJ (yU mA.out HI.out.sign (by omega) (by decide)) (by omega) (by decide);have g0:=za oP 0 rfl;have g1:=zb oP 0;have TE:=zH oP;have aW:=zH af;have EU:=zH aQ;have lj:=zH fJ;clear f0 f1 f2 oP af aQ fJ;gi_wp2_with fail;have Vx:Kept b W (F0.setCell ⟨gs,0,Z⟩ (.string ⟨#[44]⟩))->True:=fun _=>trivial
  have rest:∀(k:Nat) (o:Obj),W.heap[k]?=J o->k≠b->k≠gs->(∀c fz,o≠.cells c 5 fz)->(F0.setCell ⟨gs,0,Z⟩ (.string ⟨#[44]⟩)).heap[k]?=J o:=fun k o hk h1 h2 h3=>
   (Lf _ _ _ _ h2).trans (lj.out k o (mA.out k o hk (by simpa using h1) h3) (by simpa using h1) h3)
  have p':W.heap.size<=(F0.setCell ⟨gs,0,Z⟩ (.string ⟨#[44]⟩)).heap.size:=by have h1:=EV.out.size;have h2:=EU.out.size;simp;omega
  refine⟨⟨p',fun k o hk Vq bh=>rest k o Vq (by omega) (by omega) (fun c fz e=>by rw[e] at bh;cases bh)⟩,⟨p',fun k hk _=>?_⟩,?_⟩
  . subst hk
    have h1:=HI.out.rest _ _ XV.out (by omega) (by omega) (fun c fz e=>by cases e);rw[rest _ _ h1 (by omega) (by omega) (fun c fz e=>by cases e),h1]
  dsimp only;rw[HS.out,Ei.out,HN.out,Lj (by simp)];refine⟨aW.out.set TE.out (by decide) (by omega) 0 _,?_,(HI.out.below.trans (EV.out.trans EU.out)).setCell (by simp;omega) _,fun k o hk h1 h2 h3=>rest k o (HI.out.rest k o hk h1 h2 h3) h1 h2 h3⟩;simp[World.setCell,Array.getElem?_modify,TE.out]
 case done=>
  intro D ys W hD fB hI ex
  have cz:ys.map (fun x=>zi vs x.1.2.toNat)=(zS (zv vs i)).map (zi vs):=by
   have:=congrArg (List.map (fun x:Int×Int=>zi vs x.2.toNat)) fB;rw[N3] at this;rw[oq.out];unfold zS;rw[N3];exact this
  rw[cz] at hI;have cq:(zS (zv vs i))≠[]:=fun e=>by have:=HW.out.own_kid hi HR.out;rw[e] at this;cases this
  have e0:=za (hI.rest _ _ LN.out (by omega) (by omega) (fun c fz e=>by cases e)) 0 rfl;have pw:B<=W.heap.size:=by have:=hI.below.size;omega
  have ec:=ju HW.out rW.out i hi;rw[hz.out] at ec
  have pi:(l++dgt vs[i].p::sep 40 ((zS (zv vs i)).map (zi vs))).length+1+0<=65536:=by
   rw[oq.out] at ec aO ⊢;simp only[List.length_append,List.length_cons,List.length_nil] at ec ⊢;omega
  have dG:l++zi vs i=(l++dgt vs[i].p::sep 40 ((zS (zv vs i)).map (zi vs)))++[41]:=by
   rw[hz.out,oq.out];simp
  obtain⟨L,hL⟩:=Kh (l++dgt vs[i].p::sep 40 ((zS (zv vs i)).map (zi vs)));rw[hL] at hI pi dG;have HI:=zH hI;have fA:=zH dG;have HDK:=zH ex;clear cz hI cq ec dG hL ex fB;go_wp2_with fail;refine(qL B b L _ _ HI.out.bld (wsz3 _ pi) pw).mono ?_;rintro e W9 ⟨k9,rfl,po,SW,PH⟩;have Nx:=zH po;have Nm:=zH SW;have TW:=zH PH;clear e0 po SW PH;go_wp2_with fail;have KP:W9.heap[D]?=J (.deferred (J [])):=TW.out D _ HDK.out (by simp;omega) (fun c fz e=>by cases e);have dF:Marks w.heap.size [{ target:=.collected D,args:=#[] }] W9:=⟨[D],rfl,by simp,fun r hr=>by simp at hr;subst hr;exact⟨by omega,KP⟩⟩;refine end_marks dF (v:=.tuple #[]) (fun W=>by kernel_rfl) ?_;intro X hS;refine⟨rfl,?_,?_,?_⟩
  . rw[fA.out]
    exact Nx.out.same hS.same
  . exact(XW.out.trans (HI.out.below.trans Nm.out)).trans (hS.below.mono hBw)
  refine Kept.shut (w':=W9) ?_ hS.below;intro k o hk h1 h2;have pb:k≠b:=by simpa using h1
  have dv:=zd hk;exact TW.out k o (HI.out.rest k o (XK.out k o hk h1 h2) pb (by omega) h2) h1 h2
 intro D c pre W _ _ h;exact h.elim
end
section
open Go.RowKit
def Lows(vs:List Vw):Prop:=∀i,i<vs.length->¬(4<(zv vs i).r/\(zv vs i).r<=6)
theorem Lows.len{n:Int}{vs:List Vw}(hw:Wf n vs)(hl:Lows vs){i:Nat}(hi:i<vs.length):Xc (zv vs i).r.toNat<=2967:=by
 have hb:=qX (hw.begv hi);have:=hl i hi;have h4:(zv vs i).r.toNat<=4:=by omega
 exact Jn h4
def FitsV(n:Int)(vs:List Vw)(i:Int):Prop:=∀j:Nat,i=(j:Int)->j<vs.length->Wf n vs->∃m,gE vs m/\yR m (zv vs j).r.toNat<=65536
theorem Lows.fits{n:Int}{vs:List Vw}(hl:Lows vs)(i:Int):FitsV n vs i:=fun j _ hj hw=>⟨5,kids_le5 vs,by rw[uX];exact Lx (hl.len hw hj) (by decide)⟩
def ka(n:Int)(vs:List Vw)(i:Int):List UInt8×Int:=if atE n vs [i]≠0 then ([],atE n vs [i]) else (zi vs i.toNat,0)
def RetText(r:List UInt8×Int)(w:Ba)(e:Ending)(w':Ba):Prop:=e=Am (.tuple #[.string ⟨r.1.toArray⟩,O U r.2])/\Ao w.heap.size w w'
theorem Jr{n:Int}{vs:List Vw}{i:Int}(h:atE n vs [i]≠0):ka n vs i=([],atE n vs [i]):=by unfold ka;rw[Ln h]
theorem Jq{n:Int}{vs:List Vw}{i:Nat}(h:atE n vs [(i:Int)]=0):ka n vs i=(zi vs i,0):=by unfold ka;rw[Lj (by simp[h]),Lv]
theorem RetText.of{r:List UInt8×Int}{w w':Ba}{l:List UInt8}{s:ByteArray}{c:Int}(h:r=(l,c))(hs:s=⟨l.toArray⟩)(hb:Ao w.heap.size w w'):RetText r w (Am (.tuple #[.string s,O U c])) w':=by subst h;subst hs;exact⟨rfl,hb⟩
theorem Jl{n:Int}{vs:List Vw}(hw:Wf n vs):∀i,i<vs.length->vO vs i:=by
 intro i
 induction i using Nat.strongRecOn with
 | _ i ih=>
  intro hi
  exact write_of hw hi fun c hc=>by
   have:=hw.acyc i hi c hc;exact ih c this (by omega)
theorem jv(n:Int)(A:Bb)(cap:Nat)(vs:List Vw)(i:Int)(mm:FitsV n vs i)(w:Ba)(hT:TArg w A cap vs) :
  Ap An 13 #[Aj #[O U n,I A vs.length cap],O U i] w (RetText (ka n vs i) w):=by
 have HT:=zH hT;have dc:=hT.few;have HLO:=zH mm;clear hT mm;go_enter func13,ntmps13;go_wp2_with fail;obtain⟨W0,bH,b0,bn,aX⟩:=zt w #[O U n,I A vs.length cap] 33;rw[bH];clear bH;have hI:IAt (W0.alloc (Ah #[O U i] 3)) (W0.alloc (Ah #[O U i] 3)).heap.size (J ⟨w.heap.size+1,0,Z⟩) [i]:=by have:=IAt.box W0 i 3;rwa[bn] at this
 have aM:=zw W0 (Ah #[O U i] 3);refine(vat_any n A (J ⟨w.heap.size+1,0,Z⟩) cap 1 vs [i] (W0.alloc (Ah #[O U i] 3)) (HT.out.keep (aX.trans (aM.mono (by omega)))) hI (by simp)).mono ?_;rintro e w1 ⟨rfl,hb⟩;have d0:=Lb hb (by simp;omega) (Lb aM (by omega) b0);have B1:As (Ao w.heap.size w w1):=aX.trans ((aM.trans (hb.mono (by simp))).mono (by omega));have l1:w.heap.size<w1.heap.size:=by have:=hb.size;simp at this;omega
 clear hI aM;obtain⟨t0,t1,_⟩:=Ka d0;have HD:=zH d0;clear b0 bn aX hb d0
 by_cases hc:atE n vs [i]=0
 . have e0:(atE n vs [i] != 0)=Ax:=by simp[hc]
   obtain⟨iM,_,bZ⟩:=atE_ok hc;obtain⟨h0,h1⟩:=bZ i (by simp);obtain⟨j,rfl⟩:=Lr h0;have hj:j<vs.length:=by omega
   have hz:=zH (Jq hc);obtain⟨mk,dF,aO⟩:=HLO.out j rfl hj iM;have rW:=zH dF;clear dF;have HW:=zH iM;clear hc bZ iM;go_wp2_with fail;refine(Jl HW.out j hj mk rW.out n A cap w1.heap.size w1.heap.size [] _ (HT.out.keep (B1.out.trans ((zw w1 _).mono B1.out.size))) ((HT.out.rows.keep (B1.out.trans ((zw w1 _).mono B1.out.size))).more B1.out.size) (BldAt.fresh w1) (by simp) (by simp only[List.length_nil];omega)).mono ?_;rintro e w2 ⟨rfl,af,aQ,_⟩;have nt:As (Ao w.heap.size w w2):=(B1.out.trans ((zw w1 _).mono B1.out.size)).trans (aQ.mono B1.out.size);have ec:=ju HW.out rW.out j hj;rw[Nb] at af;have aA:(Lib.byteCells (zi vs j)).length<=65536:=by simp only[Lib.byteCells,List.length_map];omega
   have aW:=zH af;have OE:w1.heap.size<=w2.heap.size:=by have:=aQ.size;simp at this;omega
   clear af aQ t0 t1;go_wp2_with fail;refine(Tryz.Builder_Len_f w1.heap.size w1.heap.size _ w2 aW.out).mono ?_;rintro e w3 ⟨rfl,rfl⟩;go_wp2_with fail;refine(Tryz.Builder_String_any_k w1.heap.size w1.heap.size _ w3 aW.out OE).mono ?_;rintro e w4 ⟨rfl,_,cU,_⟩;have B4:As (Ao w.heap.size w w4):=nt.out.trans (cU.mono B1.out.size);clear cU;go_wp2_with fail
   go_ret2
   exact RetText.of hz.out rfl B4.out
 have e0:(atE n vs [i] != 0)=Av:=by simpa using hc
 have hz:=zH (Jr hc);clear hc;go_wp2_with fail
 go_ret2
 exact RetText.of hz.out rfl B1.out
theorem Jp(n:Int)(A:Bb)(cap:Nat)(vs:List Vw)(mm:Lows vs)(i:Int)(w:Ba)(hT:TArg w A cap vs) :
  Ap An 13 #[Aj #[O U n,I A vs.length cap],O U i] w (RetText (ka n vs i) w):=jv n A cap vs i (mm.fits i) w hT
end
section
def jH:Sy:=(zD gd).1
theorem ex_few:xa gd=Av:=by decide +kernel
theorem j9:xY gd:=(few_x ex_few).1
theorem ex_ok:(zD gd).2=0:=by decide +kernel
theorem ex_low:uI gd:=by
 refine⟨⟨by decide,fun c hc=>?_⟩,by decide,fun l hl=>?_⟩
 . have:c=exC1\/c=exC2:=by simpa[gd] using hc
   rcases this with rfl | rfl
   . refine⟨by decide,by decide,by decide,fun v hv=>?_,fun v hv=>?_⟩
     . have:v=[0,0]:=by simpa[exC1] using hv
       subst this;decide
     simp[exC1] at hv
   refine⟨by decide,by decide,by decide,fun v hv=>?_,fun v hv=>?_⟩
   . have:v=[0,0]:=by simpa[exC2] using hv
     subst this;decide
   simp[exC2] at hv
 have:l=[exMv 1,exMv 3]:=by simpa[gd] using hl
 subst this;decide
theorem uP:LowS jH:=qM ex_low j9
theorem Q1:jH.p=gd:=by decide +kernel
theorem uQ:jH.vs.length=8/\jH.xs.length=4/\jH.n=2:=by decide +kernel
theorem exs_ver:yX jH=0:=by decide +kernel
theorem YQ:xb jH 2=0/\xb jH 0=0:=by decide +kernel
theorem exs_have:havE jH 2=[0,2]:=by decide +kernel
theorem exs_relv:QP jH=[2,3,4,6,7]:=by decide +kernel
theorem exs_cont:clE jH 0=[2,4,7]:=by decide +kernel
theorem exs_text:ka jH.n jH.vs 3=([49,40,48,58,48,44,49,58,48,41],0):=by decide +kernel
theorem exs_lows:Lows jH.vs:=fun i hi=>by
 have h:(jH.vs.all fun v=>decide (¬(4<v.r/\v.r<=6)))=Av:=by decide +kernel
 have h1:=LK (LH.1 h _ (Ld hi));unfold zv;rw[Le,Lg hi];exact h1
def exW(k:Nat):List Int:=[[2,3],[4,3],[2,6],[7,6]].getD k []
theorem exs_x:∀k,k<4->∃h:k<jH.xs.length,jH.xs[k].views.length=2/\jH.xs[k].views.getD 1 []=exW k:=by decide +kernel
end
section
open Go.RowKit
attribute [local go_sem] Oper.semAt_some
def yL:List (List Int):=[[2,3],[4,3],[2,6],[7,6]]
theorem wants_at{W:Ba}{g b1 b2 b3 b4:Nat}(h:W.heap[g]?=J (Ah #[I (J ⟨b1,0,Z⟩) 2 2,I (J ⟨b2,0,Z⟩) 2 2,I (J ⟨b3,0,Z⟩) 2 2,I (J ⟨b4,0,Z⟩) 2 2] 49 (0,0)))
  (h1:W.heap[b1]?=J (Ah #[O U 2,O U 3] 3 (0,0))) (h2:W.heap[b2]?=J (Ah #[O U 4,O U 3] 3 (0,0))) (h3:W.heap[b3]?=J (Ah #[O U 2,O U 6] 3 (0,0))) (h4:W.heap[b4]?=J (Ah #[O U 7,O U 6] 3 (0,0))) :
  LAt W W.heap.size (J ⟨g,0,Z⟩) yL:=fun _=>⟨g,0,rfl,zd h,fun i hi=>by
 have h5:i<4:=by simpa[yL] using hi
 obtain rfl | rfl | rfl | rfl:i=0\/i=1\/i=2\/i=3:=by omega
 . exact⟨_,2,za h 0 rfl,xx (xs:=[2,3]) h1⟩
 . exact⟨_,2,za h 1 rfl,xx (xs:=[4,3]) h2⟩
 . exact⟨_,2,za h 2 rfl,xx (xs:=[2,6]) h3⟩
 . exact⟨_,2,za h 3 rfl,xx (xs:=[7,6]) h4⟩⟩
theorem vL(w:Ba):Ap An 11 #[] w fun e w'=>e=Am (Ai Av)/\Ao w.heap.size w w':=by
 go_enter func11,ntmps11;go_wp2_with fail;refine(YS w).mono ?_;rintro e w1 ⟨A,kc,SV,ks,rfl,hA,hS,aC⟩;have iu:=zH (Zt gd j9 A kc SV ks w1 hA hS);have dC:=zH aC;clear aC hA hS;obtain⟨P,hP⟩:=Kh gd;unfold Pb.vs at iu ⊢;have HR:As (zD gd=(jH,0)):=Prod.ext rfl ex_ok;rw[HR.out] at iu;rw[hP] at iu ⊢;clear hP HR;go_wp2_with fail;refine iu.out.mono ?_;rintro e w2 ⟨A2,dM,da,dL,AV,kv,AX,kx,rfl,iD,eF,fD,af⟩;have TQ:=zH uQ;have Ez:=zH uP;have Gj:=zH Q1;have EJ:=zH (fun (X:Ba) (h:SyAt X X.heap.size A2 da AV AX jH)=>Qc jH uP (by rw[Q1];exact j9) 2 A2 da AV AX dM dL kv kx X h);have Eo:=zH (fun (X:Ba) (h:SyAt X X.heap.size A2 da AV AX jH)=>ZE jH uP (by rw[Q1];exact j9) A2 da AV AX dM dL kv kx X h);have oD:=zH (fun (X:Ba) (h:SyAt X X.heap.size A2 da AV AX jH)=>ge jH uP (by rw[Q1];exact j9) 0 A2 da AV AX dM dL kv kx X h);have nC:=zH (fun (X:Ba) (h:VAt X X.heap.size AV jH.vs)=>Jp jH.n AV kv jH.vs exs_lows 3 X ⟨h,eF,fD,by rw[uQ.1];decide⟩);have pD:=zH exs_x;unfold RetText at nC;rw[exs_text] at nC;rw[exs_have,YQ.1] at EJ;rw[exs_relv,exs_ver] at Eo;rw[exs_cont,YQ.2] at oD;have h8:((jH.vs.length:Int) != 8)=Ax:=by rw[uQ.1];decide
 have h4:((jH.xs.length:Int) != 4)=Ax:=by rw[uQ.2.1];decide
 obtain⟨T,hT⟩:=Kh jH;rw[hT] at TQ Ez EJ Eo oD nC pD h8 h4 iD eF ⊢;clear hT Gj eF fD iu;obtain⟨W3,bP,b3,fE,aZ⟩:=zt w2 (T.vs_ A2 dM da dL AV kv AX kx) 36;have ez:=zH (iD.up aZ);have bL:=zH (dC.out.trans ((Lc af aZ).mono dC.out.size));have dX:=af.size;unfold Sy.vs_ at bP b3 EJ Eo oD ⊢;have dV:=zH bP;have me:=zH b3;clear af iD aZ bP;go_simp;rename_i eq;refine eq _ _ ?_;clear eq;refine LJ rfl fun K5 aV=>?_
 go_simp;refine aV _ _ ?_;clear aV K5;refine LJ rfl fun K5 aV=>?_
 go_simp;refine aV _ _ ?_;clear aV K5;refine LJ rfl fun K5 aV=>?_
 go_simp;refine aV _ _ ?_;clear aV K5;refine LJ rfl fun K5 aV=>?_
 go_simp;refine aV _ _ ?_;clear aV K5;refine LJ rfl fun K5 aV=>?_
 go_simp;rw[dV.out];refine aV _ _ ?_;clear aV K5 dV;have x8:W3.cell? ⟨w2.heap.size,8,Z⟩=J (I AV T.vs.length kv):=za b3 8 rfl;have x9:W3.cell? ⟨w2.heap.size,9,Z⟩=J (I AX T.xs.length kx):=za b3 9 rfl;clear b3;go_wp2_with fail;obtain⟨a1,dS,e1,z1,g1⟩:=zt W3 #[O U 2,O U 3] 3;obtain⟨a2,dI,e2,z2,g2⟩:=zt a1 #[O U 4,O U 3] 3;obtain⟨a3,DA,e3,z3,g3⟩:=zt a2 #[O U 2,O U 6] 3;obtain⟨a4,Dz,e4,z4,g4⟩:=zt a3 #[O U 7,O U 6] 3;obtain⟨a5,Dy,e5,z5,g5⟩:=zt a4 #[I (J ⟨w2.heap.size+1,0,Z⟩) 2 2,I (J ⟨w2.heap.size+1+1,0,Z⟩) 2 2,I (J ⟨w2.heap.size+1+1+1,0,Z⟩) 2 2,I (J ⟨w2.heap.size+1+1+1+1,0,Z⟩) 2 2] 49;rw[dS,dI,DA,Dz,Dy];rw[fE] at e1 z1;rw[z1] at e2 z2;rw[z2] at e3 z3;rw[z3] at e4 z4;rw[z4] at e5 z5;have f1:=Lb g5 (by omega) (Lb g4 (by omega) (Lb g3 (by omega) (Lb g2 (by omega) e1)));have f2:=Lb g5 (by omega) (Lb g4 (by omega) (Lb g3 (by omega) e2));have f3:=Lb g5 (by omega) (Lb g4 (by omega) e3);have f4:=Lb g5 (by omega) e4;have Tv:=zH (wants_at e5 f1 f2 f3 f4);have eT:=zH ((((g1.trans (g2.mono (by omega))).trans (g3.mono (by omega))).trans (g4.mono (by omega))).trans (g5.mono (by omega)));have BK:=zH (ez.out.up eT.out);have Gv:=zH (Lc bL.out eT.out)
 have d5:=Lb eT.out (by omega:w2.heap.size<W3.heap.size) me.out;have ER:=zH d5;clear dS e1 g1 dI e2 g2 DA e3 g3 Dz e4 g4 Dy e5 g5 f1 f2 f3 f4 x8 x9 eT ez bL me d5
 go_loopw [38] (fun i wr=>∃k m:Nat,k<=4/\i=O U (k:Int)/\wr=a5.drewN m) (fun i _=>4-(Aq i).toNat)
 case atStart=>exact⟨0,0,by omega,rfl,rfl⟩
 obtain⟨k,m,hk,rfl,rfl⟩:=hrel
 by_cases ac:k<4
 . have Vp:k<T.xs.length:=by rw[TQ.out.2.1];exact ac
   obtain⟨Ik,fD,eF⟩:=pD.out k ac;obtain⟨x,hx⟩:=Kh (T.xs[k]);have hkI:(k:Int)<(T.xs.length:Int):=by omega
   obtain⟨bx,ox,A1,c1,B2,c2,eX,aM,x0,x1,x2,nZ,tu⟩:=BK.out.fx.row k Vp;subst eX;rw[hx] at fD eF x0 x1 x2 nZ tu;obtain⟨bl,ol,C1,c3,eL,aA,y1,eN⟩:=tu.at_ 1 (by omega);subst eL;obtain⟨bw,ow,D1,c4,eW,cD,u1,mu⟩:=Tv.out.at_ k (by simpa[yL] using ac)
   cases eW
   have mO:x.views[1]'(by omega)=yL[k]'(by simpa[yL] using ac):=by
    rw[Le,Lg (by omega)] at eF
    have h5:exW k=yL[k]'(by simpa[yL] using ac):=by
     unfold exW yL;rw[Le,Lg (by simpa using ac)];rfl
    rw[<-h5];exact eF
   rw[fD] at x2;have x9:(a5.drewN m).cell? ⟨w2.heap.size,9,Z⟩=J (I (J ⟨bx,ox,Z⟩) T.xs.length kx):=za ER.out 9 rfl;have E9:(a5.drewN m).cell? ⟨bx,ox+k*3+2,Z⟩=J (I (J ⟨bl,ol,Z⟩) 2 c2):=x2;have Uu:(a5.drewN m).cell? ⟨bl,ol+1,Z⟩=J (.slice C1 (x.views[1]'(by omega)).length c3):=y1;have Uv:(a5.drewN m).cell? ⟨w2.heap.size+1+1+1+1+1,0+k,Z⟩=J (.slice D1 (yL[k]'(by simpa[yL] using ac)).length c4):=u1
   have dP:(x.views[1]'(by omega)).length=2:=by
    rw[mO];obtain rfl | rfl | rfl | rfl:k=0\/k=1\/k=2\/k=3:=by omega
    all_goals rfl
   have eH:(yL[k]'(by simpa[yL] using ac)).length=2:=by rw[<-mO];exact dP
   have HQ:=zH (fun p=>va C1 D1 c3 c4 _ _ (a5.drewN p) a5.heap.size (eN.keep (zx (Lp _ _) p)) (mu.keep (zx (Lp _ _) p)) (by omega) (by omega));have fr:decide (x.views[1]'(by omega)=yL[k]'(by simpa[yL] using ac))=Av:=Ll mO;rw[fr,dP,eH] at HQ;rw[dP] at Uu;rw[eH,LM] at Uv;have BF:(0:Int)<=(k:Int):=by omega
   have h4i:(k:Int)<4:=by omega
   clear x0 x1 x2 nZ tu y1 eN u1 mu mO eF fD fr dP eH hx Ik;go_wp2_with fail;refine(HQ.out m).mono ?_;rintro e w4 ⟨rfl,n,rfl⟩;go_wp2_with fail
   go_roundw
   case rel=>exact⟨k+1,m+n,by omega,by go_num,by first | rfl | rw[Pn]⟩
   simp[Aq];omega
 obtain rfl:k=4:=by omega
 clear ac;obtain⟨w5,nP⟩:=Kh (a5.drewN m);have KX:(a5.drewN m).heap[w2.heap.size]?=a5.heap[w2.heap.size]?:=rfl;rw[nP] at KX;have d5:=KX.trans ER.out;clear KX;have S5:As (SyAt w5 w5.heap.size A2 da AV AX T):=by rw[<-nP];exact BK.out.up (zx (Lp _ _) m)
 have C5:As (Ao w.heap.size w w5):=by rw[<-nP];exact zx Gv.out m
 rw[nP];have OI:w2.heap.size<w5.heap.size:=zd d5;have G5:=zH d5;clear nP ER BK Gv Tv;have x7:=za d5 7 rfl;have x8:=za d5 8 rfl;clear d5;go_wp2_with fail;refine(nC.out w5 S5.out.fv).mono ?_;rintro e w6 ⟨rfl,dp⟩;have d6:=Lb dp OI G5.out;have S6:=zH (S5.out.up dp);have C6:=zH (Lc C5.out dp);have G6:=zH d6;have GR:w2.heap.size<w6.heap.size:=zd d6;clear dp nC S5 C5 G5 x7 x8;obtain⟨x0,x1,x2,x3,x4,x5,x6,x7,x8,x9⟩:=yg d6;clear d6;go_wp2_with fail;refine(EJ.out w6 S6.out).mono ?_;rintro e w7 ⟨Al,cl,rfl,SO,eK⟩;have d7:=Lb eK GR G6.out;have S7:=zH (S6.out.up eK);have C7:=zH (Lc C6.out eK);have G7:=zH d7;have oI:w2.heap.size<w7.heap.size:=zd d7;have I7:=zH SO;clear eK SO EJ S6 C6 G6 x0 x1 x2 x3 x4 x5 x6 x7 x8 x9;obtain⟨x0,x1,x2,x3,x4,x5,x6,x7,x8,x9⟩:=yg d7;clear d7;go_wp2_with fail;refine(Eo.out w7 S7.out).mono ?_;rintro e w8 ⟨Ar,cr,rfl,SN,fw⟩;have d8:=Lb fw oI G7.out;have S8:=zH (S7.out.up fw);have C8:=zH (Lc C7.out fw);have I8:=zH ((I7.out.keep fw).more fw.size);have J8:=zH SN;clear fw SN Eo S7 C7 G7 I7 x0 x1 x2 x3 x4 x5 x6 x7 x8 x9;obtain⟨x0,x1,x2,x3,x4,x5,x6,x7,x8,x9⟩:=yg d8;clear d8;go_wp2_with fail;refine(oD.out w8 S8.out).mono ?_;rintro e w9 ⟨Ac,cc,rfl,SQ,po⟩;have C9:=zH (Lc C8.out po);have I9:=zH ((I8.out.keep po).more po.size);have J9:=zH ((J8.out.keep po).more po.size);have K9:=zH SQ
 clear po SQ oD S8 C8 I8 J8 x0 x1 x2 x3 x4 x5 x6 x7 x8 x9;go_wp2_with fail;obtain⟨b1,aC,e1,z1,g1⟩:=zt w9 #[O U 0,O U 2] 3;rw[aC];have ay:=zH (va Al (J ⟨w9.heap.size,0,Z⟩) cl 2 [0,2] [0,2] b1 b1.heap.size ((I9.out.keep g1).more g1.size) (xx (xs:=[0,2]) e1) (by decide) (by decide));refine ay.out.mono ?_;rintro e t1 ⟨rfl,n1,rfl⟩;obtain⟨v1,ah⟩:=Kh (b1.drewN n1);have Ca:=zH (zx g1 n1);rw[ah] at Ca ⊢;have Tp:=zH ((J9.out.keep Ca.out).more Ca.out.size);clear J9;have J9:=Tp;clear Tp;have Eb:=zH ((K9.out.keep Ca.out).more Ca.out.size);clear K9;have K9:=Eb;clear Eb;have Un:=zH (Lc C9.out Ca.out);clear C9;have C9:=Un;clear Un ay aC e1 z1 g1 ah I9;go_wp2_with fail;obtain⟨b2,af,e2,z2,g2⟩:=zt v1 #[O U 2,O U 3,O U 4,O U 6,O U 7] 3;rw[af];have al:=zH (va Ar (J ⟨v1.heap.size,0,Z⟩) cr 5 [2,3,4,6,7] [2,3,4,6,7] b2 b2.heap.size ((J9.out.keep g2).more g2.size) (xx (xs:=[2,3,4,6,7]) e2) (by decide) (by decide));refine al.out.mono ?_;rintro e t2 ⟨rfl,n2,rfl⟩;obtain⟨v2,cx⟩:=Kh (b2.drewN n2);have GE:=zH (zx g2 n2);rw[cx] at GE ⊢;have Eb:=zH ((K9.out.keep GE.out).more GE.out.size);clear K9;have K9:=Eb;clear Eb;have Um:=zH (Lc C9.out GE.out);clear C9;have C9:=Um;clear Um al af e2 z2 g2 cx J9;go_wp2_with fail;obtain⟨b3,ap,e3,z3,g3⟩:=zt v2 #[O U 2,O U 4,O U 7] 3;rw[ap]
 have aw:=zH (va Ac (J ⟨v2.heap.size,0,Z⟩) cc 3 [2,4,7] [2,4,7] b3 b3.heap.size ((K9.out.keep g3).more g3.size) (xx (xs:=[2,4,7]) e3) (by decide) (by decide));refine aw.out.mono ?_;rintro e t3 ⟨rfl,n3,rfl⟩;obtain⟨v3,AJ⟩:=Kh (b3.drewN n3);have Up:=zH (zx g3 n3);rw[AJ] at Up ⊢;have Ul:=zH (Lc C9.out Up.out);clear C9;have C9:=Ul;clear Ul aw ap e3 z3 g3 AJ K9;go_wp2_with fail;go_ret;exact⟨by first | rfl | (apply ze;decide),C9.out⟩
end
section
theorem YM{α:Type}{l:List α}{i:Nat}(h:i<l.length)(d:α):l.getD i d=l[i]:=by
 rw[Le,Lg h];rfl
theorem ug:∀ {a b c:List Int},zj a b=-1->zj b c=-1->zj a c=-1
 | [],[],_,h,_=>by cases h
 | [],_::_,[],_,h=>by cases h
 | [],_::_,_::_,_,_=>rfl
 | _::_,[],_,h,_=>by cases h
 | _::_,_::_,[],_,h=>by cases h
 | x::a,y::b,z::c,h1,h2=>by
  rw[zj] at h1 h2 ⊢
  split at h1
  . split at h2
    . rw[Ln (by omega)]
    . split at h2
      . cases h2
      . rw[Ln (by omega)]
  . split at h1
    . cases h1
    . split at h2
      . rw[Ln (by omega)]
      . split at h2
        . cases h2
        . rw[Lj (by omega),Lj (by omega)]
          exact ug h1 h2
theorem ui{a:Ad}:∀ {q:Option Mv} {l:List Mv},xg a q l=0->l.Pairwise (fun m k=>zj m.r.l k.r.l=-1)/\∀u,q=J u->∀m∈l,zj u.r.l m.r.l=-1
 | _,[],_=>⟨List.Pairwise.nil,fun _ _ m hm=>by cases hm⟩
 | q,m::l,h=>by
  rw[xg] at h
  split at h
  . rename_i h1;exact absurd h h1
  . rename_i h1
    have h2:yK a q m=0:=by simpa using h1
    obtain⟨g1,g2⟩:=ui h;have g3:=g2 m rfl;refine⟨List.pairwise_cons.2 ⟨g3,g1⟩,?_⟩;rintro u rfl k hk
    have h4:uH (J u) m=Ax:=by
     unfold yK at h2
     split at h2
     . rename_i h5;exact absurd h2 h5
     . split at h2
       . cases h2
       . split at h2
         . cases h2
         . rename_i h5;simpa using h5
    have h6:zj u.r.l m.r.l=-1:=by
     have h7:¬0<=zj u.r.l m.r.l:=by unfold uH at h4;simpa using h4
     rcases jl u.r.l m.r.l with h | h | h<;>omega
    rcases LT.1 hk with rfl | hk
    . exact h6
    . exact ug h6 (g3 k hk)
theorem jP{a:Ad}:∀ {l:List (List Mv)},zl a l=0->∀x∈l,x.Pairwise (fun m k=>m.r≠k.r)
 | [],_,x,hx=>by cases hx
 | y::l,h,x,hx=>by
  rw[zl] at h
  split at h
  . rename_i h1;exact absurd h h1
  . rename_i h1
    rcases LT.1 hx with rfl | hx
    . have h2:yS a x=0:=by simpa using h1
      unfold yS at h2
      split at h2
      . cases h2
      . unfold yJ at h2
        rw[LQ] at h2;exact(ui h2).1.imp fun {m k} dF e=>by rw[e,yC] at dF;cases dF
    . exact jP h x hx
theorem at_order{a:Ad}(h:zl a a.sts=0)(s:Int):(a.at_ s).Pairwise (fun m k=>m.r≠k.r):=by
 unfold Ad.at_;rw[Le]
 cases hc:a.sts[s.toNat]? with
 | none=>exact List.Pairwise.nil
 | some l=>exact jP h l (PA hc)
theorem vR{a:Ad}(h:zl a a.sts=0):∀(k:Nat) (s:Int),(zn a k s).Nodup
 | 0,_=>by simp[zn]
 | k+1,s=>by
  rw[zn];refine List.pairwise_flatMap.2 ⟨fun m _=>?_,(at_order h s).imp fun {m n} Vi x hx y hy e=>?_⟩
  . exact List.pairwise_map.2 ((vR h k m.to).imp fun {x y} AG e=>AG (List.cons.inj e).2)
  . obtain⟨x',_,rfl⟩:=LA.1 hx
    obtain⟨y',_,rfl⟩:=LA.1 hy;exact Vi (List.cons.inj e).1
theorem Yx{p:Pb}(h:zl p.a p.a.sts=0):(zk p).Nodup:=by
 unfold zk;refine List.pairwise_flatMap.2 ⟨fun i _=>?_,(List.nodup_range (n:=p.t.cases.length)).imp fun {i j} Bn x hx y hy e=>?_⟩
 . exact List.pairwise_map.2 ((vR h _ _).imp fun {x y} AG e=>AG (Po.1 e).2)
 obtain⟨x',_,rfl⟩:=LA.1 hx;obtain⟨y',_,rfl⟩:=LA.1 hy;exact Bn (Po.1 e).1
def isX(c:Int)(word:List Rd)(x:Exn):Bool:=decide (x.c=c)&&decide (x.word=word)
def jq(s:Sy)(c:Int)(word:List Rd):Nat:=s.xs.findIdx (isX c word)
theorem find_own{s:Sy}{K N:Nat}(h:Sees s K N)(hz:zl s.p.a s.p.a.sts=0){i:Nat}(hi:i<s.xs.length):jq s s.xs[i].c s.xs[i].word=i:=by
 unfold jq;have hn:=Yx (p:=s.p) hz;rw[<-h.prs] at hn;have hp:isX s.xs[i].c s.xs[i].word s.xs[i]=Av:=by unfold isX;simp
 rw[List.findIdx_eq hi];refine⟨hp,fun j hj=>?_⟩;have bg:j<s.xs.length:=by omega
 rw[PT];intro hx;unfold isX at hx;rw[L5,L6,L6] at hx
 have e:(s.xs.map fun x=>(x.c.toNat,x.word))[j]'(by simpa using bg)=(s.xs.map fun x=>(x.c.toNat,x.word))[i]'(by simpa using hi):=by
  simp[hx.1,hx.2]
 have:=hZ hn _ _ e;omega
end
section
theorem uU(a:Ad):∀(k:Nat) (s:Int) (w:List Rd),w∈zn a (k+1) s->w.take k∈zn a k s
 | 0,s,w,_=>by simp[zn]
 | k+1,s,w,h=>by
  rw[zn] at h;obtain⟨m,hm,hw⟩:=LR.1 h;obtain⟨w',db,rfl⟩:=LA.1 hw;rw[zn];refine LR.2 ⟨m,hm,?_⟩;rw[Pg];exact LA.2 ⟨_,uU a k m.to w' db,rfl⟩
theorem ub{a:Ad}:∀ {l:List (List Mv)},zl a l=0->∀x∈l,x≠[]/\∀m∈x,0<=m.to/\m.to<a.sts.length
 | [],_,x,hx=>by cases hx
 | y::l,h,x,hx=>by
  rw[zl] at h
  split at h
  . rename_i h1;exact absurd h h1
  . rename_i h1
    rcases LT.1 hx with rfl | hx
    . have h2:yS a x=0:=by simpa using h1
      unfold yS at h2
      split at h2
      . cases h2
      . rename_i h3
        refine⟨fun e=>h3 (by rw[e];rfl),fun m hm=>?_⟩;unfold yJ at h2;rw[LQ] at h2
        have key:∀ {q:Option Mv} {l:List Mv},xg a q l=0->∀m∈l,0<=m.to/\m.to<a.sts.length:=by
         intro q l
         induction l generalizing q with
         | nil=>intro _ m hm;cases hm
         | cons u l ih=>
          intro h m hm;rw[xg] at h
          split at h
          . rename_i h1;exact absurd h h1
          . rename_i h1
            rcases LT.1 hm with rfl | hm
            . have h4:yK a q m=0:=by simpa using h1
              unfold yK at h4
              split at h4
              . rename_i h5;exact absurd h4 h5
              . split at h4
                . cases h4
                . split at h4
                  . cases h4
                  . split at h4
                    . cases h4
                    . omega
            . exact ih h m hm
        exact key h2 m hm
    . exact ub h x hx
theorem uS{a:Ad}(h:zl a a.sts=0){s:Int}(h0:0<=s)(h1:s<a.sts.length):a.at_ s≠[]/\∀m∈a.at_ s,0<=m.to/\m.to<a.sts.length:=by
 unfold Ad.at_;have hl:s.toNat<a.sts.length:=by omega
 rw[Le,Lg hl];exact ub h _ (Ld hl)
theorem uW{a:Ad}(h:zl a a.sts=0):∀(k:Nat) (s:Int),0<=s->s<a.sts.length->∀w∈zn a k s,∃w'∈zn a (k+1) s,w'.take k=w
 | 0,s,h0,h1,w,hw=>by
  obtain⟨bt,_⟩:=uS h h0 h1;obtain⟨m,hm⟩:=RQ _ bt;refine⟨[m.r],?_,by simp[zn] at hw;simp[hw]⟩;rw[zn];exact LR.2 ⟨m,hm,by simp[zn]⟩
 | k+1,s,h0,h1,w,hw=>by
  rw[zn] at hw;obtain⟨m,hm,hw⟩:=LR.1 hw;obtain⟨w',db,rfl⟩:=LA.1 hw;obtain⟨g0,g1⟩:=(uS h h0 h1).2 m hm;obtain⟨w2,cx,e⟩:=uW h k m.to g0 g1 w' db;refine⟨m.r::w2,?_,by rw[Pg,e]⟩;rw[zn];exact LR.2 ⟨m,hm,LA.2 ⟨w2,cx,rfl⟩⟩
theorem YU{a:Ad}(h:zl a a.sts=0):∀(k:Nat) (s:Int),0<=s->s<a.sts.length->zG a k s<=zG a (k+1) s
 | 0,s,h0,h1=>by
  obtain⟨bt,_⟩:=uS h h0 h1;rw[zG,zG];obtain⟨m,hm⟩:=RQ _ bt
  cases e:a.at_ s with
  | nil=>exact absurd e bt
  | cons m l=>simp[zG]
 | k+1,s,h0,h1=>by
  obtain⟨_,hf⟩:=uS h h0 h1;rw[zG,zG]
  have key:∀l:List Mv,(∀m∈l,0<=m.to/\m.to<a.sts.length)->(l.map fun m=>zG a k m.to).sum<=(l.map fun m=>zG a (k+1) m.to).sum:=by
   intro l
   induction l with
   | nil=>intro _;simp
   | cons m l ih=>
    intro hl;have h2:=YU h k m.to (hl m (by simp)).1 (hl m (by simp)).2;have h3:=ih fun m hm=>hl m (by simp[hm])
    simp only[List.map_cons,List.sum_cons];omega
  exact key _ hf
def qk(p:Pb):Pb:=⟨p.t,p.a,p.k-1⟩
theorem XQ{p:Pb}(h:xj p=Av)(hk:p.k≠0):xj (qk p)=Av:=by
 obtain⟨hb,hv,hf,h0,df,Be,K,N,hF,hS⟩:=qs h;obtain⟨cK,dO,ia,cq,lO⟩:=zJ h0;obtain⟨hz,dP,_⟩:=yq hf.1.2 dO;obtain⟨c1,_⟩:=yt cK
 have BG:zC (qk p)=0:=by
  unfold zC;rw[Lj (by rw[show(qk p).t=p.t from rfl,cK];simp),Lj (by rw[show(qk p).a=p.a from rfl,dO];simp),Lj (by show ¬p.t.n≠p.a.n;omega),Lj (by show ¬(p.k-1<0\/6<p.k-1);omega)]
 have nk:zG p.a (p.k-1).toNat 0<=zG p.a p.k.toNat 0:=by
  have e:p.k.toNat=(p.k-1).toNat+1:=by omega
  rw[e];exact YU hz _ 0 (by omega) (by omega)
 have tB:zK (qk p)<=60:=by
  refine Lx ?_ df;unfold zK;exact NJ _ nk
 unfold xj;rw[xr BG (by omega)]
 have dc:xa (qk p)=Av:=by
  have h1:xa p=Av:=by unfold xj at h;rw[L5] at h;exact h.1
  unfold xa at h1 ⊢;rw[L5] at h1 ⊢;refine⟨h1.1,?_⟩
  have h2:uE (qk p)<=60:=by
   unfold uE
   have hx:zG p.a (p.k-1).toNat 0<=4096:=by
    have h3:zG p.a p.k.toNat 0<=zK p:=by unfold zK;exact Pm _ c1
    omega
   show p.t.cases.length*yz 4096 (zG p.a (p.k-1).toNat 0)<=60;rw[Xn hx,Pd];exact tB
  rw[Ll h2];simp
 rw[dc];rfl
section
variable {s t:Sy} {KS KT N:Nat}
theorem wP{vs:List Vw}(v:Vw)(hr:0<v.r):(zS v).map (zi vs)=(List.range 5).filterMap fun q=>if 0<=v.h q then J (zi vs (v.h q).toNat) else Z:=by
 unfold zS yn yf;rw[Ln hr,N3,List.map_filterMap]
 congr 1
 funext q
 split<;>simp
theorem uV(hs:Sees s KS N)(ht:Sees t KT N)(fs:Fine s KS N)(ft:Fine t KT N)(ws:Wf s.n s.vs)(wt:Wf t.n t.vs)(hp:s.p.t=t.p.t){x y:Exn}(hx:x∈s.xs)(hy:y∈t.xs)(hc:x.c=y.c)(m:Nat)
  (sM:m<=KS) (fI:m<=KT) (hw:∀k,k<m->x.word.getD k default=y.word.getD k default):∀k,k<=m->∀q,q<N->zi s.vs (xw x k q).toNat=zi t.vs (xw y k q).toNat
 | 0,_,q,hq=>by
  have h1:=qy (hs.v0 x hx q hq);have h2:=qy (ht.v0 y hy q hq);have e:zW s.p x.c.toNat=zW t.p y.c.toNat:=by unfold zW;rw[hp,hc]
  rw[qR (by rw[h1];rfl),qR (by rw[h2];rfl),h1,h2,e]
 | k+1,hk,q,hq=>by
  have a1:=hs.vk x hx k (by omega) q hq;have a2:=ht.vk y hy k (by omega) q hq;have h1:=qy a1;have h2:=qy a2;have db:=hw k (by omega);have r1:(0:Int)<((k+1:Nat):Int):=by omega
  rw[qr ws.acyc (by have:=a1.lt;omega) (by rw[h1];show((k+1:Nat):Int)≠0;omega),qr wt.acyc (by have:=a2.lt;omega) (by rw[h2];show((k+1:Nat):Int)≠0;omega),h1,h2];rw[wP _ (by exact r1),wP _ (by exact r1)];obtain⟨l1,p1⟩:=fs.row hx (by omega:k<=KS);obtain⟨l2,p2⟩:=ft.row hy (by omega:k<=KT)
  have e:((List.range 5).filterMap fun j=>if 0<=(yI (x.word.getD k default) (k+1) q (x.views.getD k [])).h j then J (zi s.vs ((yI (x.word.getD k default) (k+1) q (x.views.getD k [])).h j).toNat) else Z)
    = ((List.range 5).filterMap fun j=>if 0<=(yI (y.word.getD k default) (k+1) q (y.views.getD k [])).h j then J (zi t.vs ((yI (y.word.getD k default) (k+1) q (y.views.getD k [])).h j).toNat) else Z):=by
   refine filterMap_same fun j hj=>?_
   have Bj:j<5:=by simpa using hj
   rw[jS _ _ _ _ _ Bj,jS _ _ _ _ _ Bj,db];unfold zM;rw[l1,l2]
   split
   . rename_i hb
     have g1:0<=(x.views.getD k []).getD j 0:=by rw[YM (by omega)];exact(p1 _ (Ld _)).1
     have g2:0<=(y.views.getD k []).getD j 0:=by rw[YM (by omega)];exact(p2 _ (Ld _)).1
     rw[Ln g1,Ln g2];exact congrArg J (uV hs ht fs ft ws wt hp hx hy hc m sM fI hw k (by omega) j hb.1)
   . rfl
  rw[e]
  rfl
where
 filterMap_same {α β:Type} {l:List α} {f g:α->Option β} (h:∀x∈l,f x=g x):l.filterMap f=l.filterMap g:=by
  induction l with
  | nil=>rfl
  | cons a l ih=>rw[List.filterMap_cons,List.filterMap_cons,h a (by simp),ih fun x hx=>h x (by simp[hx])]
theorem short_in(hs:Sees s (KT+1) N)(ht:Sees t KT N)(_fs:Fine s (KT+1) N)(ft:Fine t KT N)(cK:s.p.t=t.p.t)(dO:s.p.a=t.p.a){x:Exn}(hx:x∈s.xs):∃y∈t.xs,isX x.c (x.word.take KT) y=Av:=by
 obtain⟨c,hc,bh,iB⟩:=hs.cs x hx
 have hm:(c,x.word.take KT)∈zk t.p:=by
  unfold zk;have hk:t.p.k.toNat=KT:=by have:=ft.k;omega
  rw[hk,<-cK,<-dO];exact LR.2 ⟨c,by simpa using bh,LA.2 ⟨_,uU s.p.a KT 0 x.word iB,rfl⟩⟩
 rw[<-ht.prs] at hm;obtain⟨y,hy,e⟩:=LA.1 hm;refine⟨y,hy,?_⟩;obtain⟨c',Bw,_,_⟩:=ht.cs y hy;have e1:=(Po.1 e).1;have e2:=(Po.1 e).2;unfold isX;have e3:y.c=x.c:=by have e4:y.c.toNat=c:=e1;omega
 rw[Ll e3,Ll e2];rfl
theorem short_on(hs:Sees s (KT+1) N)(ht:Sees t KT N)(fs:Fine s (KT+1) N)(cK:s.p.t=t.p.t)(dO:s.p.a=t.p.a)(hz:zl t.p.a t.p.a.sts=0)(h1:1<=t.p.a.sts.length){y:Exn}(hy:y∈t.xs):∃x∈s.xs,x.c=y.c/\x.word.take KT=y.word:=by
 obtain⟨c,hc,bh,iB⟩:=ht.cs y hy;obtain⟨w',db,e⟩:=uW hz KT 0 (by omega) (by omega) y.word iB
 have hm:(c,w')∈zk s.p:=by
  unfold zk;have hk:s.p.k.toNat=KT+1:=by have:=fs.k;omega
  rw[hk,cK,dO];exact LR.2 ⟨c,by simpa using bh,LA.2 ⟨_,db,rfl⟩⟩
 rw[<-hs.prs] at hm;obtain⟨x,hx,e2⟩:=LA.1 hm;obtain⟨c',Bw,_,_⟩:=hs.cs x hx;have e3:x.c.toNat=c:=(Po.1 e2).1;have e4:x.word=w':=(Po.1 e2).2;exact⟨x,hx,by omega,by rw[e4];exact e⟩
end
end
section
open Go.RowKit
attribute [local go_sem] Oper.semAt_some
theorem isX_no{c:Int}{word:List Rd}{x:Exn}(h:x.c≠c):isX c word x=Ax:=by unfold isX;rw[Lm h];rfl
theorem isX_yes{c:Int}{word:List Rd}{x:Exn}(h:x.c=c):isX c word x=decide (x.word=word):=by unfold isX;rw[Ll h];rfl
theorem find1_any(x:Exn)(hx:x.word.length<=17592186044416)(c:Int)(word:List Rd)(ec:word.length<=17592186044416)(A1 A2 Aw:Bb)(a1 a2 kw bi bw:Nat)(w:Ba)(hA:RAt w w.heap.size A1 x.word)(hW:RAt w w.heap.size Aw word)
  (pl:w.heap[bi]?=J (Ah #[O U c] 3 (0,0))) (cD:w.heap[bw]?=J (Ah #[I Aw word.length kw] 39 (0,0))) :
  Ap An 37 #[Aj #[O U x.c,I A1 x.word.length a1,I A2 x.views.length a2],Ak (J ⟨bi,0,Z⟩),Ak (J ⟨bw,0,Z⟩)] w fun e w'=>e=Am (Ai (isX c word x))/\Ao w.heap.size w w':=by
 obtain⟨w1,ah,d0,bI,hB⟩:=zt w #[O U x.c,I A1 x.word.length a1,I A2 x.views.length a2] 42;have HQ:=zH (Q2 A1 Aw a1 kw x.word word w1 w1.heap.size (Lh _) ((hA.keep hB).more hB.size) ((hW.keep hB).more hB.size) hx ec);have aq:=zH ah;have HB:=zH hB;obtain⟨x0,x1,_⟩:=Ka d0;have ci:=za (La hB pl) 0 rfl;have cw:=za (La hB cD) 0 rfl;have di:=za pl 0 rfl;have dw:=za cD 0 rfl;have li:=zd pl;have lw:=zd cD;have HN:=zH (fun h=>isX_no (c:=c) (word:=word) (x:=x) h);have HY:=zH (fun h=>isX_yes (c:=c) (word:=word) (x:=x) h);obtain⟨r,hr⟩:=Kh (isX c word x);rw[hr] at HN HY ⊢;clear ah d0 hB hA hW pl cD hr hx ec;go_enter func37,ntmps37
 by_cases h1:x.c=c
 case neg=>
  have hR:=zH (HN.out h1);have e0:(x.c==c)=Ax:=by simpa using h1
  clear HN HY HQ h1;go_wp2_with fail;rw[aq.out];go_wp2_with fail
  all_goals
   go_ret;exact⟨ze hR.out.symm,HB.out⟩
 case pos=>
 have hR:=zH (HY.out h1);have e0:(x.c==c)=Av:=by simpa using h1
 clear HN HY h1;go_wp2_with fail;rw[aq.out];go_wp2_with fail;refine HQ.out.mono ?_;rintro e w2 ⟨rfl,n,rfl⟩;clear HQ;rw[<-hR.out];go_wp2_with fail
 all_goals
  go_ret;exact⟨rfl,zx HB.out n⟩
def vF(p:Exn->Bool)(xs:List Exn):Int:=if xs.findIdx p<xs.length then (xs.findIdx p:Int) else -1
theorem idxX_at{p:Exn->Bool}{xs:List Exn}{k:Nat}(hk:k<xs.length)(hp:p xs[k]=Av)(h:∀j (hj:j<xs.length),j<k->p xs[j]=Ax):vF p xs=(k:Int):=by
 have e:xs.findIdx p=k:=(List.findIdx_eq hk).2 ⟨hp,fun j hj=>h j (by omega) hj⟩;unfold vF;rw[e,Ln hk]
theorem JT{p:Exn->Bool}{xs:List Exn}(h:∀j (hj:j<xs.length),p xs[j]=Ax):vF p xs=-1:=by
 have e:xs.findIdx p=xs.length:=List.findIdx_eq_length.2 fun x hx=>by
  obtain⟨j,hj,rfl⟩:=LU hx;exact h j hj
 unfold vF;rw[e,Lj (by omega)]
theorem fidx_any(xs:List Exn)(oY:∀x∈xs,ZY x)(hl:xs.length<=17592186044416)(c:Int)(word:List Rd)(ec:word.length<=17592186044416)(AX Aw:Bb)(cap kw bi bw:Nat)(w:Ba)(hX:XAt w w.heap.size AX xs)(hW:RAt w w.heap.size Aw word)
  (pl:w.heap[bi]?=J (Ah #[O U c] 3 (0,0))) (cD:w.heap[bw]?=J (Ah #[I Aw word.length kw] 39 (0,0))) :
  Ap An 36 #[I AX xs.length cap,.func (.func 37) #[] #[Ak (J ⟨bi,0,Z⟩),Ak (J ⟨bw,0,Z⟩)]] w fun e w'=>e=Am (O U (vF (isX c word) xs))/\Ao w.heap.size w w':=by
 have HX:=zH hX;have HC:=zH (fun (x:Exn) (hx:ZY x) (A1 A2:Bb) (a1 a2:Nat) (X:Ba) (hb:Ao w.heap.size w X) (hA:RAt X X.heap.size A1 x.word)=>find1_any x hx.1 c word ec A1 A2 Aw a1 a2 kw bi bw X hA ((hW.keep hb).more hb.size) (La hb pl) (La hb cD));have Gl:=zH oY;have mC:=zH (fun (k:Nat) (hk:k<xs.length) (hp:isX c word xs[k]=Av) (h:∀j (hj:j<xs.length),j<k->isX c word xs[j]=Ax)=>idxX_at hk hp h);have pJ:=zH (fun h=>JT (p:=isX c word) (xs:=xs) h);obtain⟨r,hr⟩:=Kh (vF (isX c word) xs);rw[hr] at mC pJ ⊢;clear hX hW pl cD oY hr;go_enter func36,ntmps36;go_wp2_with fail
 go_loopw [8] (fun i wr=>∃k:Nat,k<=xs.length/\i=O U (k:Int)/\As (Ao w.heap.size w wr)/\As (∀j (hj:j<xs.length),j<k->isX c word xs[j]=Ax)) (fun i _=>xs.length-(Aq i).toNat)
 case atStart=>exact⟨0,by omega,rfl,Lp _ _,fun j hj h=>by omega⟩
 obtain⟨k,hk,rfl,hb,aj⟩:=hrel
 by_cases ac:k<xs.length
 . obtain⟨b,o,A1,c1,A2,c2,eX,aM,x0,x1,x2,hR,hL⟩:=(HX.out.keep hb.out).row k ac
   subst eX;have hm:=Gl.out _ (Ld ac);have Gw:=zH (HC.out xs[k] hm A1 A2 c1 c2 wr hb.out (hR.more hb.out.size));have t':=zH (mC.out k ac);have dz:=zH (fun (h:isX c word xs[k]=Ax) j (hj:j<xs.length) (Is:j<k+1)=>if e:j=k then (by subst e;exact h) else aj.out j hj (by omega):isX c word xs[k]=Ax->∀j (hj:j<xs.length),j<k+1->isX c word xs[j]=Ax);obtain⟨bo,bJ⟩:=Kh (isX c word xs[k]);rw[bJ] at Gw t' dz;obtain⟨x,hx⟩:=Kh (xs[k]);rw[hx] at x0 x1 x2 Gw;have cq:(0:Int)<=(k:Int):=by omega
   have cy:(k:Int)<(xs.length:Int):=by omega
   clear hm hR hL bJ hx HC;go_wp2_with fail;refine Gw.out.mono ?_;rintro e w2 ⟨rfl,af⟩;have aW:=zH (Lc hb.out af);clear af Gw x0 x1 x2
   cases bo with
   | true=>
    have hR:=zH (t'.out rfl aj.out);go_wp2_with fail;go_ret;exact⟨zc hR.out.symm,aW.out⟩
   | false=>
    have hn:=zH (dz.out rfl);clear t' dz;go_wp2_with fail
    go_roundw
    case rel=>exact⟨k+1,by omega,by go_num,aW.out,hn.out⟩
    case measure=>simp[Aq];omega
 obtain rfl:k=xs.length:=by omega
 have hR:=zH (pJ.out fun j hj=>aj.out j hj hj);clear HC mC pJ;go_wp2_with fail;go_ret;exact⟨zc hR.out.symm,hb.out⟩
def Zl(s:Sy)(c:Int)(word:List Rd):Int×Int:=if yX s≠0 then (0,yX s) else if vF (isX c word) s.xs<0 then (0,6) else (vF (isX c word) s.xs,0)
theorem Jj(s:Sy)(hs:LowS s)(hf:xY s.p)(c:Int)(word:List Rd)(ec:word.length<=17592186044416)(A SV AV AX Aw:Bb)(kc ks kv kx kw:Nat)(w:Ba)(hS:SyAt w w.heap.size A SV AV AX s)(hW:RAt w w.heap.size Aw word) :
  Ap An 12 #[.agg (s.vs_ A kc SV ks AV kv AX kx),O U c,I Aw word.length kw] w fun e w'=>e=Am (.tuple #[O U (Zl s c word).1,O U (Zl s c word).2])/\Ao w.heap.size w w':=by
 obtain⟨w1,ah,d0,d1,d2,bI,hB⟩:=qe w (s.vs_ A kc SV ks AV kv AX kx) #[O U c] #[I Aw word.length kw] 36 3 39;have HV:=zH (Zy s hs hf A SV AV AX kc ks kv kx w1 (hS.up hB));have eR:=zH (hS.up hB);have BU:=zH (fun (X:Ba) (hX:XAt X X.heap.size AX s.xs) (FN:RAt X X.heap.size Aw word) (h1:X.heap[w.heap.size+1]?=_) (h2:X.heap[w.heap.size+1+1]?=_)=>fidx_any s.xs hs.fe (Lx hs.fx (by decide)) c word ec AX Aw kx kw (w.heap.size+1) (w.heap.size+1+1) X hX FN h1 h2);have HE:As (Zl s c word=if yX s≠0 then (0,yX s) else if vF (isX c word) s.xs<0 then (0,6) else (vF (isX c word) s.xs,0)):=rfl;obtain⟨R,hR⟩:=Kh (Zl s c word);rw[hR] at HE ⊢;obtain⟨E,hE⟩:=Kh (yX s);rw[hE] at HV HE;obtain⟨Ae,hI⟩:=Kh (vF (isX c word) s.xs);rw[hI] at BU HE;have rP:=zH ((hW.keep hB).more hB.size);unfold Sy.vs_ at ah d0 HV ⊢;have aq:=zH ah;have HB:=zH hB;have HD:=zH d0;have bQ:=zH d1;have iJ:=zH d2;obtain⟨p0,p1,p2,p3,p4,p5,p6,p7,p8,p9⟩:=yg d0;clear ah d0 d1 d2 hB hS hs hf hE hI hR hW;go_enter func12,ntmps12;go_wp2_with fail;rw[aq.out];go_wp2_with fail;refine HV.out.mono ?_;rintro e w2 ⟨rfl,af⟩;have aW:=zH (HB.out.trans (af.mono (by omega)));have dg:=zH (eR.out.up af);have En:=zH ((rP.out.keep af).more af.size);have z':=zH (La af bQ.out);have oz:=zH (La af iJ.out);have d0:=Lb af (by omega:w.heap.size<w1.heap.size) HD.out
 clear p0 p1 p2 p3 p4 p5 p6 p7 p8 p9 af HV aq eR HD bQ iJ rP;have p9:=za d0 9 rfl;clear d0
 by_cases h0:E=0
 case neg=>
  have hR:As (R=(0,E)):=HE.out.trans (Ln h0);have e0:(E != 0)=Av:=by simpa using h0
  clear HE BU h0;go_wp2_with fail
  go_ret2
  rw[hR.out];exact⟨rfl,aW.out⟩
 case pos=>
 subst h0;have al:As (R=if Ae<0 then (0,6) else (Ae,0)):=HE.out.trans (Lj (by simp));clear HE;go_wp2_with fail;refine(BU.out w2 dg.out.fx En.out z'.out oz.out).mono ?_;rintro e w3 ⟨rfl,ap⟩;have bL:=zH (Lc aW.out ap);clear ap BU dg En z' oz p9
 by_cases h1:Ae<0
 . have hR:As (R=(0,6)):=al.out.trans (Ln h1)
   clear al;go_wp2_with fail
   all_goals first | (exfalso;omega) | skip
   go_ret2
   rw[hR.out];exact⟨rfl,bL.out⟩
 have hR:As (R=(Ae,0)):=al.out.trans (Lj h1);clear al;go_wp2_with fail
 all_goals first | (exfalso;omega) | skip
 go_ret2
 rw[hR.out];exact⟨rfl,bL.out⟩
end
section
theorem kids_le3{n:Int}{vs:List Vw}(hw:Wf n vs)(hn:n<=3):gE vs 3:=⟨by decide,fun c hc=>by
 have hb:=qX (hw.begv hc);have hq:=hb.2.2.2.2.2.2;have h3:¬(0<(zv vs c).r/\0<=(zv vs c).h 3):=fun h=>by have:=(hq 3 (by decide) (by omega)).2;omega
 have h4:¬(0<(zv vs c).r/\0<=(zv vs c).h 4):=fun h=>by have:=(hq 4 (by decide) (by omega)).2;omega
 unfold zS yn;rw[qV h4,qV h3,LG];unfold yf
 split
 . exact Lx (PV _ _) (by simp)
 . simp⟩
theorem fits3{n:Int}{vs:List Vw}(hn:n<=3)(i:Int):FitsV n vs i:=fun j _ hj hw=>⟨3,kids_le3 hw hn,by
 have hb:=qX (hw.begv hj);obtain h | h | h | h | h | h | h:(zv vs j).r.toNat=0\/(zv vs j).r.toNat=1\/(zv vs j).r.toNat=2\/(zv vs j).r.toNat=3\/(zv vs j).r.toNat=4\/(zv vs j).r.toNat=5\/(zv vs j).r.toNat=6:=by omega
 all_goals (rw[h];decide)⟩
theorem checkE_wf{n:Int}{vs:List Vw}(h:Wf n vs)(hl:vs.length<=8192):ye n vs=0:=by
 unfold ye;rw[Lj (by have:=h.1;have:=h.2.1;omega),Lj (by omega)];exact xJ.2 h.2.2
theorem QG{n:Int}{vs:List Vw}(hw:Wf n vs)(hl:vs.length<=8192){i:Int}(h0:0<=i)(h1:i<vs.length):ka n vs i=(zi vs i.toNat,0):=by
 have h2:atE n vs [i]=0:=Jc (checkE_wf hw hl) (by simp[inB];omega);unfold ka;rw[Lj (by simpa using h2)]
section
variable {s t:Sy} {KT N:Nat}
def shI(s t:Sy)(KT:Nat)(i:Nat):Nat:=jq t (s.xs.getD i default).c ((s.xs.getD i default).word.take KT)
def shL(s t:Sy)(KT:Nat):Nat->List Bool
 | 0=>List.replicate t.xs.length Ax
 | i+1=>(shL s t KT i).set (shI s t KT i) Av
theorem kN:∀i,(shL s t KT i).length=t.xs.length
 | 0=>by simp[shL]
 | i+1=>by rw[shL,List.length_set,kN i]
theorem QI{j:Nat}(hj:j<t.xs.length):∀ {m i:Nat},i<m->shI s t KT i=j->(shL s t KT m)[j]'(by rw[kN];exact hj)=Av
 | 0,_,h,_=>absurd h (by omega)
 | m+1,i,h,e=>by
  simp only[shL];rw[P1]
  by_cases h1:shI s t KT m=j
  . rw[Ln h1]
  . rw[Lj h1]
    exact QI hj (by have:i≠m:=fun e2=>h1 (by rw[<-e2];exact e);omega) e
theorem sh_turn(hs:Sees s (KT+1) N)(ht:Sees t KT N)(fs:Fine s (KT+1) N)(ft:Fine t KT N)(ws:Wf s.n s.vs)(wt:Wf t.n t.vs)(UQ:yX t=0)(cK:s.p.t=t.p.t)(dO:s.p.a=t.p.a){i:Nat}(hi:i<s.xs.length) :
  ∃(j:Nat) (hj:j<t.xs.length),shI s t KT i=j/\Zl t s.xs[i].c (s.xs[i].word.take KT)=((j:Int),0) /\
   ∀k q,k<=KT->q<N->ka s.n s.vs (xw s.xs[i] k q)=ka t.n t.vs (xw t.xs[j] k q):=by
 have hx:=Ld hi;obtain⟨y0,GW,e0⟩:=short_in hs ht fs ft cK dO hx;have ac:jq t s.xs[i].c (s.xs[i].word.take KT)<t.xs.length:=List.findIdx_lt_length_of_exists ⟨y0,GW,e0⟩;have Bo:s.xs.getD i default=s.xs[i]:=by rw[Le,Lg hi];rfl
 have he:shI s t KT i=jq t s.xs[i].c (s.xs[i].word.take KT):=by unfold shI;rw[Bo]
 refine⟨_,ac,he,?_,fun k q hk hq=>?_⟩
 . unfold Zl
   have e1:vF (isX s.xs[i].c (s.xs[i].word.take KT)) t.xs=((jq t s.xs[i].c (s.xs[i].word.take KT):Nat):Int):=by
    unfold vF jq;rw[Ln (by unfold jq at ac;exact ac)]
   rw[Lj (by simpa using UQ),e1,Lj (by omega)]
 have hy:=Ld ac;have hp:isX s.xs[i].c (s.xs[i].word.take KT) (t.xs[jq t s.xs[i].c (s.xs[i].word.take KT)])=Av:=List.findIdx_getElem (w:=ac);obtain⟨y,Cr⟩:=Kh (t.xs[jq t s.xs[i].c (s.xs[i].word.take KT)]);rw[Cr] at hy hp ⊢;unfold isX at hp;rw[L5,L6,L6] at hp;obtain⟨hc,hw⟩:=hp
 have oJ:∀k,k<KT->s.xs[i].word.getD k default=y.word.getD k default:=fun k hk=>by
  rw[hw,Le,Le,PI,Ln hk]
 have mL:=uV hs ht fs ft ws wt cK hx hy hc.symm KT (by omega) (Lh _) oJ k hk q hq;obtain⟨u,hu,_⟩:=hs.pr hx (show k<=KT+1 by omega) hq;obtain⟨v,hv,_⟩:=ht.pr hy hk hq;have Ft:=fs.lv;have Ih:=ft.lv;rw[QG ws (by omega) hu.1 hu.lt.2,QG wt (by omega) hv.1 hv.lt.2,mL]
theorem sh_all(hs:Sees s (KT+1) N)(ht:Sees t KT N)(fs:Fine s (KT+1) N)(cK:s.p.t=t.p.t)(dO:s.p.a=t.p.a)(hz:zl t.p.a t.p.a.sts=0)(h1:1<=t.p.a.sts.length):((shL s t KT s.xs.length).any fun b=>!b)=Ax:=by
 rw[List.any_eq_false];intro b hb;obtain⟨j,hj,rfl⟩:=LU hb;have Iu:j<t.xs.length:=by rwa[kN] at hj
 obtain⟨x,hx,hc,hw⟩:=short_on hs ht fs cK dO hz h1 (Ld Iu);obtain⟨i,hi,rfl⟩:=LU hx
 have e:shI s t KT i=j:=by
  have Bo:s.xs.getD i default=s.xs[i]:=by rw[Le,Lg hi];rfl
  unfold shI;rw[Bo,hc,hw];exact find_own ht hz Iu
 rw[QI Iu hi e];simp
end
end
section
open Go.RowKit
attribute [local go_sem] Oper.semAt_some
theorem Qy(g:Nat)(bs:List Bool)(c:Nat)(hl:bs.length<=100000)(w:Ba)(hg:w.heap[g]?=J (Ah (yy bs) 4 (0,0))) :
  Ap An 42 #[I (J ⟨g,0,Z⟩) bs.length c,Ai Ax] w (ZX (bs.any fun b=>!b) w):=by
 have HG:=zH hg;obtain⟨r,hr⟩:∃r,(bs.any fun b=>!b)=r:=⟨_,rfl⟩;rw[hr];have HR:As (r=(bs.drop 0).any fun b=>!b):=by rw[LQ];exact hr.symm
 clear hg hr;go_enter func42,ntmps42;go_wp2_with fail
 go_loop [8] (fun i=>∃k:Nat,k<=bs.length/\i=O U (k:Int)/\As (r=(bs.drop k).any fun b=>!b)) (fun i=>bs.length-(Aq i).toNat)
 case atStart=>exact⟨0,by omega,rfl,HR⟩
 obtain⟨k,hk,rfl,ai⟩:=hrel;clear HR
 by_cases ac:k<bs.length
 . have c1:=za HG.out k (kI bs k ac)
   have hs:=qN (p:=fun b:Bool=>!b) ac;obtain⟨x,hx⟩:=Kh (bs[k]);rw[hx] at c1 hs;have HS:=zH hs;have cq:(0:Int)<=(k:Int):=by omega
   have cy:(k:Int)<(bs.length:Int):=by omega
   clear hs hx
   cases x with
   | false=>
    have hR:r=Av:=by rw[ai.out,HS.out];rfl
    subst hR;go_wp2_with fail;go_ret;exact⟨(k:Int),rfl,by simp,0,rfl⟩
   | true=>
    have cf:As (r=(bs.drop (k+1)).any fun b=>!b):=by rw[ai.out,HS.out];rfl
    clear HS;go_wp2_with fail
    go_round
    case rel=>exact⟨k+1,by omega,by go_num,cf⟩
    case measure=>simp[Aq];omega
 obtain rfl:k=bs.length:=by omega
 have hR:r=Ax:=ai.out.trans (kX rfl);subst hR;go_wp2_with fail;go_ret;exact⟨-1,rfl,by decide,0,rfl⟩
theorem bcont_any(g:Nat)(bs:List Bool)(c:Nat)(hl:bs.length<=100000)(w:Ba)(hg:w.heap[g]?=J (Ah (yy bs) 4 (0,0))) :
  Ap An 14 #[I (J ⟨g,0,Z⟩) bs.length c,Ai Ax] w fun e w'=>e=Am (Ai (bs.any fun b=>!b))/\∃n,w'=w.drewN n:=by
 have hc:=Qy g bs c hl w hg;obtain⟨r,hr⟩:∃r,(bs.any fun b=>!b)=r:=⟨_,rfl⟩;rw[hr] at hc ⊢;have HC:=zH hc;clear hc hg hr;go_enter func14,ntmps14;go_wp2_with fail;refine HC.out.mono ?_;rintro e w' ⟨i,rfl,hi,n,rfl⟩;have HI:=zH hi;clear hi HC;go_wp2_with fail;go_ret;exact⟨ze HI.out,_,rfl⟩
end
section
open Go.RowKit
theorem Zj{α:Type}{l:List α}{i:Nat}(h:i<l.length){d:α}:l.getD i d=l[i]:=by
 rw[Le,Lg h];rfl
theorem row_xw{W:Ba}{B:Nat}{A:Bb}{x:Exn}(hL:LAt W B A x.views){k q N:Nat}(hk:k<x.views.length)(hq:q<N)(hr:(x.views[k]).length=N) :
  ∃b o B1 c b1 o1,A=J ⟨b,o,Z⟩/\b<B/\W.cell? ⟨b,o+k,Z⟩=J (I B1 N c)/\B1=J ⟨b1,o1,Z⟩/\b1<B/\W.cell? ⟨b1,o1+q,Z⟩=J (O U (xw x k q)):=by
 obtain⟨b,o,B1,c,e,hb,h1,h2⟩:=hL.at_ k hk;obtain⟨b1,o1,e1,aC,h3⟩:=h2.at_ q (by omega);rw[hr] at h1;refine⟨b,o,B1,c,b1,o1,e,hb,h1,e1,aC,?_⟩;rw[h3];unfold xw;rw[Zj hk,Zj (by omega)]
end
end Go.Proofs.YtkledihebeidlaaGreatDoor
