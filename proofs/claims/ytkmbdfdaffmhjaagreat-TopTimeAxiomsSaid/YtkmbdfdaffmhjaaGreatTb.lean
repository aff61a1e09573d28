/- Merged. -/
import Derived.Test.YtkmbdfdaffmhjaaGreatTa
import Derived.Deep.RegionHeld3
import Derived.Deep.DeepCutAuto
import Derived.StillTailTactics
import Derived.RangeFuncNested
import Derived.RangeFuncBound
import Derived.RangeFuncCalls
import Derived.RangeFuncLeaves
import Derived.Shelf.Abstract
import Derived.Shelf.RegionOpen
import Derived.OwnWalkIn
import Derived.TacticsInMore
import Derived.LoopNIn
import Derived.LoopIn
import Derived.SizedLaws
import Derived.OwnWalk
import Derived.Maps.AppendAt
import Derived.Lib.Walk
import Derived.Lib.SliceRun
open Go.Proofs.Tryz
open Go.Value renaming int->O,slice->I,bool->Ah,agg->Ai,pointer->Aj
open Go.IntKind renaming i64->U
open Option renaming none->Z,some->J
open Go.Obj renaming cells->Ag
open Go.Ending renaming returned->Ak
open Go.Proofs.Tryz renaming prog->Al,func173->RY,underlying71->P8,underlying22->Re,underlying79->P7,underlying25->Rc,underlying29->Rb
open Go.RowKit renaming Below->Am,intOf->Ap,Hid->Aq
open Go renaming Calls->An,Value->Ar,wpIn_wide->R6,wpList_append_own->Pi
open Bool renaming true->Au,false->Aw,false_and->N2
open Go.World renaming putObj_heap_other->N9,ownsRow_made->Pu
open List renaming flatten_cons->Rg
open Go.World.ownsRow renaming kept->Pd,alloc->PN
open Go.World.grownBy renaming refl->RR
open Go.Lib renaming run_eql_slice_nil->Ph
namespace Go.Proofs.YtkmbdfdaffmhjaaGreat
abbrev Lr:=@Nat.le_trans
abbrev NG:=@List.mem_iff_getElem
abbrev LE:=@Nat.lt_of_lt_of_le
abbrev Lf:=@Go.RowKit.Below.heap_setCell
abbrev RL:=@Go.cells_of_cell
abbrev LN:=@Go.World.cell?_of_block
abbrev Pr:=@List.nodup_cons
abbrev RW:=@Go.callsIn_wide
abbrev LL:=@List.mem_cons
abbrev LK:=@List.map_append
abbrev PR:=@List.map_map
abbrev LM:=@List.length_map
abbrev RM:=@Go.callsIn_of_wp
abbrev Lz:=@List.length_cons
abbrev Nc:=@List.nil_append
abbrev Nb:=@List.cons_append
abbrev Lv:=@List.length_append
abbrev Nh:=@List.append_assoc
abbrev Sm:=@Array.getElem?_eq_getElem
abbrev LI:=@Go.bodyPost_ret
abbrev Rr:=@Go.results_none
abbrev PF:=@Array.getElem?_modify
abbrev LY:=@List.mem_singleton
abbrev Nd:=@Go.grownBy_keeps_cells
abbrev NC:=@Go.Proofs.enters_of
abbrev Nw:=@List.mem_flatten
abbrev LZ:=@List.mem_map
abbrev PE:=@List.take_append_drop
abbrev PP:=@Nat.zero_mul
abbrev Pe:=@Nat.add_zero
abbrev Lo:=@Int.toNat_natCast
abbrev Lh:=@List.getD_eq_getElem?_getD
abbrev Lm:=@List.getElem?_eq_getElem
abbrev NA:=@List.idxOf_append
abbrev NZ:=@List.take_of_length_le
abbrev RF:=@Nat.mul_le_mul_right
abbrev Nz:=@Nat.zero_le
abbrev Lp:=@List.getElem?_eq_some_iff
abbrev Ns:=@List.getElem_map
abbrev LG:=@Go.World.block_lt_of_cell?
abbrev NJ:=@Go.Proofs.Tryz.underlying50
abbrev L6:=@Go.DataW.trod_int
abbrev LP:=@List.getElem_of_mem
abbrev NU:=@Go.DataW.trod_struct
abbrev P5:=@Go.World.ownsRow_nil
abbrev Rk:=@Go.World.ownsRow.lt
abbrev LQ:=@Nat.zero_add
abbrev RI:=@Go.World.news_of_block
abbrev LV:=@Nat.mul_le_mul
abbrev Np:=@Go.wpList_plain
abbrev Nu:=@Nat.eq_zero_or_pos
abbrev LR:=@List.eq_nil_of_length_eq_zero
abbrev Sc:=@List.take_append_of_le_length
abbrev Sd:=@Nat.min_eq_left
abbrev Rf:=@Nat.add_mul
abbrev LO:=@List.getElem?_append_left
abbrev LJ:=@List.getElem?_append_right
abbrev Pq:=@List.getElem_append_left
abbrev N3:=@List.getElem_append_right
abbrev RO:=@Go.info_parts
abbrev PU:=@Go.Proofs.Tryz.underlying124
abbrev Ra:=@Go.Proofs.Tryz.underlying34
abbrev Pf:=@Go.Addr.add_lit
abbrev Pm:=@Go.Lib.cell?_alloc_some
abbrev NH:=@List.mem_flatMap
abbrev NS:=@or_false
set_option maxRecDepth 100000
set_option maxHeartbeats 8000000
section
open Go.RowKit
attribute [local go_sem] Oper.semAt_some
def okC(c:Cs):Bool:=decide (c.inp.length<=10)&&j5 c.out 30&&j5 c.calm 30
theorem fewTB_eq(t:Tk):j6 t=(decide (t.cases.length<=30)&&t.cases.all okC):=rfl
def LowC(c:Cs):Prop:=c.inp.length<=17592186044416/\c.out.length<=17592186044416/\c.calm.length<=17592186044416/\(∀v∈c.out,v.length<=17592186044416)/\∀v∈c.calm,v.length<=17592186044416
theorem rfewT_any(t:Tk)(A:Bb)(kc:Nat)(hl:t.cases.length<=17592186044416)(aN:∀c∈t.cases,LowC c)(w:Ba)(hA:CAt w w.heap.size A t.cases) :
  An Al 94 #[Ai #[O U t.n,O U t.ins,O U t.outs,I A t.cases.length kc]] w fun e w'=>e=Ak (Ah (j6 t))/\Am w.heap.size w w':=by
 have tp:=zH aN;have H:Aq (j6 t=(decide (t.cases.length<=30)&&t.cases.all okC)):=fewTB_eq t;obtain⟨r,hr⟩:=Kk (j6 t);rw[hr] at H ⊢;obtain⟨w1,ae⟩:=Kk (w.alloc (Ag #[O U t.n,O U t.ins,O U t.outs,I A t.cases.length kc] 24));have cj:=zx w (Ag #[O U t.n,O U t.ins,O U t.outs,I A t.cases.length kc] 24);have aD:Am w.heap.size w w1:=by rw[<-ae];exact zU w _
 have fa:w1.heap.size=w.heap.size+1:=by rw[<-ae];simp
 rw[ae] at cj;have cX:=zH cj;have cI:=zH aD;have HA:=zH ((hA.keep aD).more (by omega:w.heap.size<=w1.heap.size));have ak:=zH ae;have q3:=zh cj 3 rfl;clear hA ae aD cj aN hr;go_enter func94,ntmps94
 by_cases hc:t.cases.length<=30
 case neg=>
  have hR:Aq (r=Aw):=H.out.trans (by rw[Lu hc,N2]);clear H;go_wp2_with fail;rw[ak.out];go_wp2_with fail
  all_goals first | (exfalso;omega) | skip
  go_ret;exact⟨zz hR.out.symm,cI.out⟩
 case pos=>
 have HR:Aq (r=(t.cases.drop 0).all okC):=H.out.trans (by rw[Lw hc,Nn,Ni]);clear H;go_wp2_with fail;rw[ak.out];go_wp2_with fail
 all_goals first | (exfalso;omega) | skip
 clear q3 ak
 go_loopw [3] (fun i wr=>∃k:Nat,k<=t.cases.length/\i=O U (k:Int)/\Aq (r=(t.cases.drop k).all okC)/\Aq (Am w1.heap.size w1 wr)) (fun i _=>t.cases.length-(Ap i).toNat)
 case atStart=>exact⟨0,by omega,rfl,HR,Li _ _⟩
 clear HR;obtain⟨k,hk,rfl,hp,hb⟩:=hrel;have cH:=La hb.out cX.out;have q3:=zh cH 3 rfl;clear cH
 by_cases ac:k<t.cases.length
 case neg=>
  have hR:Aq (r=Au):=hp.out.trans (all_end (by omega));obtain rfl:k=t.cases.length:=by omega
  clear hp;go_wp2_with fail;go_ret;exact⟨zz hR.out.symm,cI.out.trans (hb.out.mono (by omega))⟩
 case pos=>
 obtain⟨b,o,A0,c0,A1,c1,A2,c2,e',lw,d0,d1,d2,I0,I1,I2⟩:=(HA.out.keep hb.out).row k ac;subst e';have iA:=JG (p:=okC) ac;obtain⟨l0,l1,l2,l3,l4⟩:=tp.out _ (Le ac);have ce:=hb.out.size;have iE:=fun (W:Ba) (hW:Am wr.heap.size wr W)=>Jj A1 c1 t.cases[k].out l1 l3 W (((I1.more ce).keep hW).more hW.size)
 have mD:=fun (W:Ba) (hW:Am wr.heap.size wr W)=>Jj A2 c2 t.cases[k].calm l2 l4 W (((I2.more ce).keep hW).more hW.size)
 unfold okC at iA;obtain⟨c,IA⟩:=Kk (t.cases[k]);rw[IA] at d0 d1 d2 l0 l1 l2 iA iE mD;obtain⟨b1,aQ⟩:=Kk (j5 c.out 30);obtain⟨b2,ah⟩:=Kk (j5 c.calm 30);rw[aQ] at iA iE;rw[ah] at iA mD;obtain⟨wc,sT⟩:=Kk (wr.alloc (Ag #[I A0 c.inp.length c0,I A1 c.out.length c1,I A2 c.calm.length c2] 71));have CC:=zx wr (Ag #[I A0 c.inp.length c0,I A1 c.out.length c1,I A2 c.calm.length c2] 71);have fj:Am wr.heap.size wr wc:=by rw[<-sT];exact zU wr _
 rw[sT] at CC;obtain⟨p0,p1,p2,_⟩:=Kb CC;have ER:=zH (iE wc fj);have mh:=zH (mD wc fj);have eS:=zH (hb.out.trans (fj.mono ce));have o5:=zH sT;have en:=zH (hp.out.trans iA);obtain⟨il,tc⟩:=Kk c.inp.length;rw[tc] at d0 l0 en o5 p0;clear hp iA iE mD sT fj CC aQ ah IA tc I0 I1 I2
 by_cases hi:il<=10
 case neg=>
  have hR:Aq (r=Aw):=en.out.trans (by rw[Lu hi];rfl);clear en ER mh;go_wp2_with fail;rw[o5.out];go_wp2_with fail
  all_goals first | (exfalso;omega) | skip
  go_ret;exact⟨zz hR.out.symm,cI.out.trans (eS.out.mono (by omega))⟩
 case pos=>
 have fJ:Aq (r=((b1&&b2)&&(t.cases.drop (k+1)).all okC)):=en.out.trans (by rw[Lw hi,Nn];rfl);clear en;go_wp2_with fail;rw[o5.out];go_wp2_with fail
 all_goals first | (exfalso;omega) | skip
 refine ER.out.mono ?_;rintro e w2 ⟨rfl,rfl⟩
 cases b1 with
 | false=>
  have hR:Aq (r=Aw):=fJ.out;go_wp2_with fail;go_ret;exact⟨zz hR.out.symm,cI.out.trans (eS.out.mono (by omega))⟩
 | true=>
 go_wp2_with fail;refine mh.out.mono ?_;rintro e w2 ⟨rfl,aC⟩;obtain rfl:=aC.symm
 cases b2 with
 | false=>
  have hR:Aq (r=Aw):=fJ.out;go_wp2_with fail;go_ret;exact⟨zz hR.out.symm,cI.out.trans (eS.out.mono (by omega))⟩
 | true=>
  have hR:Aq (r=(t.cases.drop (k+1)).all okC):=fJ.out;go_wp2_with fail
  go_roundw
  case rel=>exact⟨k+1,by omega,by go_num,hR,eS⟩
  case measure=>simp[Ap];omega
def LowT(t:Tk):Prop:=t.cases.length<=17592186044416/\∀c∈t.cases,LowC c
end
section
open Go.RowKit
def FewA(a:Ad):Prop:=a.sts.length<=8/\a.mvs.length<=40
theorem FewA.each{a:Ad}(h:FewA a){l:List Mv}(hl:l∈a.sts):l.length<=40:=by
 refine Lr ?_ h.2;unfold Ad.mvs;obtain⟨i,hi,rfl⟩:=NG.1 hl;exact(List.sublist_flatten_of_mem (Le hi)).length_le
theorem hP{a:Ad}{p:Option Mv}{m:Mv}(h:yi m.r≠0):xV a p m=yi m.r:=Lj h
theorem moveE_n{a:Ad}{p:Option Mv}{m:Mv}(h:yi m.r=0)(h2:m.r.n≠a.n):xV a p m=22:=by unfold xV;rw[Lg (by simpa using h),Lj h2]
theorem hU{a:Ad}{p:Option Mv}{m:Mv}(h:yi m.r=0)(h2:m.r.n=a.n)(h3:YX p m=Au):xV a p m=14:=by unfold xV;rw[Lg (by simpa using h),Lg (by simpa using h2),Lj h3]
theorem QV{a:Ad}{p:Option Mv}{m:Mv}(h:yi m.r=0)(h2:m.r.n=a.n)(h3:YX p m=Aw)(h4:m.to<0\/(a.sts.length:Int)<=m.to):xV a p m=2:=by unfold xV;rw[Lg (by simpa using h),Lg (by simpa using h2),Lg (by rw[h3];decide),Lj h4]
theorem QW{a:Ad}{p:Option Mv}{m:Mv}(h:yi m.r=0)(h2:m.r.n=a.n)(h3:YX p m=Aw)(h4:¬(m.to<0\/(a.sts.length:Int)<=m.to)):xV a p m=0:=by unfold xV;rw[Lg (by simpa using h),Lg (by simpa using h2),Lg (by rw[h3];decide),Lg h4]
theorem gK{a:Ad}{l:List Mv}(h:l.length=0):qt a l=19:=Lj h
theorem ZU{a:Ad}{l:List Mv}(h:l.length≠0):qt a l=xO a l 0:=Lg h
theorem state_any(a:Ad)(SV:Bb)(ks:Nat)(_GP:a.sts.length<=8)(A:Bb)(k0:Nat)(l:List Mv)(hl:l.length<=40)(w:Ba)(hA:MAt w w.heap.size A l) :
  An Al 154 #[Ai #[O U a.n,I SV a.sts.length ks],I A l.length k0] w fun e w'=>e=Ak (O U (qt a l))/\Am w.heap.size w w':=by
 have HA:=zH hA;have aq:=zH (@gK a l);have am:=zH (@ZU a l);obtain⟨E,hE⟩:=Kk (qt a l);rw[hE] at aq am ⊢
 by_cases hz:l.length=0
 . have hR:=zH (aq.out hz)
   have e0:((l.length:Int)==0)=Au:=by simp[hz]
   clear aq am hz;go_enter func154,ntmps154;go_wp2_with fail;go_ret;exact⟨zr hR.out.symm,zU w _⟩
 have HE:=zH (am.out hz);have e0:((l.length:Int)==0)=Aw:=beq_eq_false_iff_ne.2 (by omega);clear aq am hz;go_enter func154,ntmps154;go_wp2_with fail
 obtain⟨W0,eJ,b0,bL,dl⟩:∃W0,w.alloc (Ag #[O U a.n,I SV a.sts.length ks] 27)=W0/\W0.heap[w.heap.size]?=J (Ag #[O U a.n,I SV a.sts.length ks] 27 (0,0))/\w.heap.size+1<=W0.heap.size/\Am w.heap.size w W0:=
  ⟨_,rfl,zx _ _,by simp,zU w _⟩
 rw[eJ];have iN:=zH dl;have sG:=zH b0;clear eJ dl b0 e0
 go_loopw [13] (fun i wr=>∃k:Nat,k<=l.length/\i=O U (k:Int)/\Aq (E=xO a l k)/\Am W0.heap.size W0 wr) (fun i _=>l.length-(Ap i).toNat)
 case atStart=>exact⟨0,by omega,rfl,HE,Li _ _⟩
 obtain⟨k,hk,rfl,av,cp⟩:=hrel;clear HE;have ix:=zH (Lc iN.out cp);have HW:=zH cp;clear cp
 by_cases ac:k<l.length
 . obtain⟨b,o,rfl,lw,c0,c1,c2,c3,c4,c5,c6,c7⟩:=(HA.out.keep ix.out).row k ac
   have bh:=zH (@gZ a l k ac);have bk:=zH (@Yh a l k ac);have hb:=ix.out.size;have Sp:w.heap.size<wr.heap.size:=by have:=HW.out.size;omega
   obtain⟨bo,dN⟩:=Kk (YX (zD l k) l[k]);have cP:=zH dN;have m1:=zH (@hP a (zD l k) l[k]);have m2:=zH (@moveE_n a (zD l k) l[k]);have m3:=zH (@hU a (zD l k) l[k]);have m4:=zH (@QV a (zD l k) l[k]);have m5:=zH (@QW a (zD l k) l[k]);rw[dN] at m3 m4 m5;obtain⟨m,hm⟩:=Kk (l[k]);have HX:=zH hm;obtain⟨mE,L1⟩:=Kk (xV a (zD l k) l[k]);rw[L1] at bh bk m1 m2 m3 m4 m5;rw[hm] at c0 c1 c2 c3 c4 c5 c6 c7 m1 m2 m3 m4 m5;have HR:=zH (fun w'=>Z6 m.r w');obtain⟨rE,KJ⟩:=Kk (yi m.r);rw[KJ] at m1 m2 m3 m4 m5 HR;unfold Rd.cells at HR;clear dN hm L1 KJ;go_wp2_with fail
   obtain⟨W1,fG,b1,aw,aB⟩:∃W1,wr.alloc (Ag #[O U m.r.n,O U m.r.h0,O U m.r.h1,O U m.r.h2,O U m.r.h3,O U m.r.h4,O U m.r.f,O U m.to] 78)=W1/\W1.heap[wr.heap.size]?=J (Ag #[O U m.r.n,O U m.r.h0,O U m.r.h1,O U m.r.h2,O U m.r.h3,O U m.r.h4,O U m.r.f,O U m.to] 78 (0,0))/\wr.heap.size+1<=W1.heap.size/\Am wr.heap.size wr W1:=
    ⟨_,rfl,zx _ _,by simp,zU wr _⟩
   rw[fG];refine(HR.out W1).mono ?_;rintro e w1 ⟨rfl,aQ⟩;have lj:=zH ((ix.out.trans (aB.mono hb)).trans (aQ.mono (by have:=aB.size;omega)));have Bn:=zH ((Lc HW.out aB).trans (aQ.mono (by have:=aB.size;have:=HW.out.size;omega)));have d0:=Lb Bn.out (by omega) sG.out;have d1:=Lb aQ (by omega) b1;have eQ:=zH d1;have dU:=zH d0;obtain⟨q0,q1,_⟩:=Ke d0;obtain⟨p0,p1,p2,p3,p4,p5,p6,p7,_⟩:=Kf d1;have Id:=zk d1;clear fG b1 aB aQ d0 d1 c0 c1 c2 c3 c4 c5 c6 c7 HR
   by_cases hr:rE=0
   case neg=>
    have he:=m1.out hr;have hR:=zH (av.out.trans ((bh.out (by rw[he];exact hr)).trans he));have e0:(rE != 0)=Au:=by simpa using hr
    clear bh bk m1 m2 m3 m4 m5 he hr av cP HX;go_wp2_with fail;go_ret;exact⟨zr hR.out.symm,lj.out⟩
   case pos=>
   subst hr;clear m1
   by_cases hn:m.r.n=a.n
   case neg=>
    have he:=m2.out (by simp) hn;have hR:=zH (av.out.trans ((bh.out (by rw[he];decide)).trans he));have e0:(m.r.n != a.n)=Au:=by simpa using hn
    clear bh bk m2 m3 m4 m5 he hn av cP HX;go_wp2_with fail;go_ret;exact⟨zr hR.out.symm,lj.out⟩
   case pos=>
   have e0:(m.r.n != a.n)=Aw:=by simpa using hn
   have n3:=zH (m3.out (by simp) hn);have n4:=zH (m4.out (by simp) hn);have n5:=zH (m5.out (by simp) hn);clear m2 hn m3 m4 m5
   cases k with
   | zero=>
    obtain rfl:bo=Aw:=by rw[<-cP.out];rfl
    have g0:decide ((0:Int)<0)=Aw:=by decide
    clear cP HX n3;go_wp2_with fail;go_quiet (fail)
    by_cases ht:m.to<0\/(a.sts.length:Int)<=m.to
    . have he:=n4.out (by simp) ht
      have hR:=zH (av.out.trans ((bh.out (by rw[he];decide)).trans he));clear bh bk n4 n5 he av
      by_cases FD:m.to<0
      . clear ht
        go_wp2_with fail;go_ret;exact⟨zr hR.out.symm,yv lj.out _⟩
      . have FC:(a.sts.length:Int)<=m.to:=by omega
        clear ht;go_wp2_with fail
        all_goals first | (exfalso;omega) | skip
        go_ret;exact⟨zr hR.out.symm,yv lj.out _⟩
    . have hR:=zH (av.out.trans (bk.out (n5.out (by simp) ht)))
      have FD:¬m.to<0:=by omega
      have FC:¬(a.sts.length:Int)<=m.to:=by omega
      clear bh bk n4 n5 av ht;go_wp2_with fail
      all_goals first | (exfalso;omega) | skip
      go_roundw
      case rel=>exact⟨0+1,by omega,by go_num,hR,yv Bn.out _⟩
      case measure=>simp[Ap];omega
   | succ j=>
    have hj:j<l.length:=by omega
    have dt:YX (zD l (j+1)) l[j+1]=decide (0<=zB l[j].r.l l[j+1].r.l):=by rw[yu l j hj];rfl
    rw[HX.out] at dt;rw[show YX (zD l (j+1)) m=bo by have:=cP.out;rwa[HX.out] at this] at dt;obtain⟨b',o',e',_,u0,u1,u2,u3,u4,u5,u6,u7⟩:=(HA.out.keep lj.out).row j hj
    cases e'
    have hc:=fun w'=>YQ l[j].r m.r w'
    obtain⟨mj,LT⟩:=Kk (l[j]);rw[LT] at dt hc u0 u1 u2 u3 u4 u5 u6 u7;obtain⟨r,hr⟩:=Kk (zB mj.r.l m.r.l);rw[hr] at dt hc;unfold Rd.cells at hc;have eN:=zH dt;have HC:=zH hc;have g1:((j:Int)+1).toNat=j+1:=by omega
    have g3:IntKind.i64.wrap ((j:Int)+1-1)=(j:Int):=by rw[Ll];omega
    have g5:IntKind.i64.wrap ((j:Int)+1)=(j:Int)+1:=by rw[Ll];omega
    have g6:decide ((0:Int)<(j:Int)+1)=Au:=Lw (by omega);have g7:IntKind.i64.wrap (j:Int)=(j:Int):=by rw[Ll];omega
    have g8:(0:Int)<=(j:Int):=by omega
    have g9:(j:Int)<(l.length:Int):=by omega
    clear dt hc hr LT cP HX;go_wp2_with fail
    go_still_tail 11,(by kernel_rfl)
    change wpList _ _ _ _ _ w1.drew;obtain⟨w2,aC⟩:∃w2,w2=w1.drew:=⟨_,rfl⟩;have Hu:Aq (Am w.heap.size w w2):=by rw[aC];exact lj.out.drew
    have Pc:Aq (Am W0.heap.size W0 w2):=by rw[aC];exact Bn.out.drew
    have aq:Aq (w2.heap[wr.heap.size]?=J (Ag #[O U m.r.n,O U m.r.h0,O U m.r.h1,O U m.r.h2,O U m.r.h3,O U m.r.h4,O U m.r.f,O U m.to] 78 (0,0))):=by rw[aC];exact eQ.out
    have di:Aq (w2.heap[w.heap.size]?=J (Ag #[O U a.n,I SV a.sts.length ks] 27 (0,0))):=by rw[aC];exact dU.out
    rw[<-aC];clear dU eQ aC q1 p1 p2 p3 p4 p5 p6 p7 u0 u1 u2 u3 u4 u5 u6 u7 g1 g3 g5 g7 g8 g9;go_wp2_with fail;refine(HC.out w2).mono ?_;rintro e w3 ⟨rfl,al⟩;have se:=zH (Lc Hu.out al);have BW3:=zH (Lc Pc.out al);have d0:=La al di.out;have d1:=La al aq.out;have q1:=zh d0 1 rfl;have p7:=zh d1 7 rfl
    cases bo with
    | true=>
     have WV:0<=r:=Lx eN.out.symm;have he:=n3.out (by simp);have hR:=zH (av.out.trans ((bh.out (by rw[he];decide)).trans he));go_wp2_with fail
     all_goals first | (exfalso;omega) | skip
     go_ret;exact⟨zr hR.out.symm,se.out⟩
    | false=>
     have WV:¬0<=r:=Nt eN.out.symm
     by_cases ht:m.to<0\/(a.sts.length:Int)<=m.to
     . have he:=n4.out (by simp) ht
       have hR:=zH (av.out.trans ((bh.out (by rw[he];decide)).trans he))
       by_cases FD:m.to<0
       . clear ht
         go_wp2_with fail
         all_goals first | (exfalso;omega) | skip
         go_ret;exact⟨zr hR.out.symm,se.out⟩
       . have FC:(a.sts.length:Int)<=m.to:=by omega
         go_wp2_with fail
         all_goals first | (exfalso;omega) | skip
         go_ret;exact⟨zr hR.out.symm,se.out⟩
     . have hR:=zH (av.out.trans (bk.out (n5.out (by simp) ht)))
       have FD:¬m.to<0:=by omega
       have FC:¬(a.sts.length:Int)<=m.to:=by omega
       go_wp2_with fail
       all_goals first | (exfalso;omega) | skip
       go_roundw
       case rel=>exact⟨j+1+1,by omega,by go_num,hR,BW3.out⟩
       case measure=>simp[Ap];omega
 obtain rfl:k=l.length:=by omega
 have hR:=zH (av.out.trans gY);go_wp2_with fail;go_ret;exact⟨zr hR.out.symm,ix.out⟩
end
section
open Go.RowKit Go.Shelf
structure KeepB(K:Nat->Prop)(W W':Ba):Prop where
 size:W.heap.size<=W'.heap.size
 same:∀k,K k->k<W.heap.size->W'.heap[k]?=W.heap[k]?
theorem KeepB.trans{K:Nat->Prop}{A B C:Ba}(h:KeepB K A B)(k:KeepB K B C):KeepB K A C:=
 ⟨Lr h.size k.size,fun i hi hl=>(k.same i hi (LE hl h.size)).trans (h.same i hi hl)⟩
theorem KeepB.drew(K:Nat->Prop)(W:Ba):KeepB K W W.drew:=⟨Ld _,fun _ _ _=>rfl⟩
theorem KeepB.alloc(K:Nat->Prop)(W:Ba)(o:Obj):KeepB K W (W.alloc o):=⟨by simp,fun k _ hk=>NP W o k hk⟩
theorem KeepB.setCell{K:Nat->Prop}{W:Ba}{a:Addr}(h:¬K a.block)(v:Ar):KeepB K W (W.setCell a v):=
 ⟨by simp[World.setCell],fun k hk _=>Lf W a v k (fun e=>h (e▸hk))⟩
theorem KeepB.of_below{K:Nat->Prop}{W W':Ba}{B:Nat}(h:Am B W W')(hK:∀k,K k->k<B):KeepB K W W':=
 ⟨h.size,fun k hk _=>h.block k (hK k hk)⟩
theorem KeepB.of_grown{K:Nat->Prop}{W W':Ba}{row:Option Nat}(h:W.grownBy W' row)(hK:∀k,row=J k->¬K k):KeepB K W W':=
 ⟨h.size,fun k hk hl=>h.block k hl (fun e=>hK k e.symm hk)⟩
theorem KeepB.mono{K K':Nat->Prop}{W W':Ba}(h:KeepB K W W')(hK:∀k,K' k->K k):KeepB K' W W':=⟨h.size,fun k hk=>h.same k (hK k hk)⟩
theorem KeepB.putObj{K:Nat->Prop}{W:Ba}{l:Nat}(h:¬K l)(o:Obj):KeepB K W (W.putObj l o):=
 ⟨by simp,fun k hk _=>N9 (fun e=>h (e▸hk))⟩
def Qe{β:Type}(P:Program)(g:Nat)(lb:Array Ar)(nU:β->Array Ar)(K:Nat->Prop)(xs:List β)(w:Ba):Prop:=
 ∀n,1<=n->SeqStopsK Fence.wide n P g lb (fun x:{ x:β // x∈xs }=>nU x.1) (KeepB K) (fun ys=>ys.map (·.1)=xs) (fun pre=>pre.map (·.1) <+: xs) xs.length w
section
variable {P:Program}
theorem ut{β:Type}{g:Operand}{ps:Array Tmp}{assign body:Code}{Q:Exit->Act->Ba->Prop}{a:Act}{w:Ba}
  {gf:Nat} {lb:Array Ar} (hg:a.eval g=.func (.func gf) #[] lb) (eg:Enters P gf)
  {nU:β->Array Ar} {K:Nat->Prop} {xs:List β} (FH:Qe P gf lb nU K xs w) (hK:∀k,K k->k<w.heap.size) (fW:∀x,(nU x).size=ps.size)
  (Ac:List { x:β // x∈xs }->Ba->Prop) (Ix:Code->List { x:β // x∈xs }->Ba->Prop) (hI:OwnFrom w.heap.size Ac) (Wz:∀c,OwnFrom w.heap.size (Ix c)) (h0:Ac [] w) (a₁:{ x:β // x∈xs }->Act)
  (nO:∀(l:Nat) (x:{ x:β // x∈xs }) (W:Ba) (K:Act->Ba->Prop),K (a₁ x) W ->
   assign.wpIn (Fence.wide.inRound l) 7 P (Exit.then K (fun _ _ _=>False)) { tmps:=(ps.zip (nU x.1)).foldl (fun t (p,v)=>t.setIfInBounds p v) a.tmps,defers:=[] } W)
  (t':∀(l:Nat) (pre:List { x:β // x∈xs }) (x:{ x:β // x∈xs }) (W:Ba),Ac pre W->pre.length<xs.length->body.wpIn (Fence.wide.inRound l) 7 P (ownPostG w.heap.size (KeepB K) Ac Ix (pre++[x]) W) (a₁ x) W)
  (tY:∀(D:Nat) (ys:List { x:β // x∈xs }) (W:Ba),w.heap.size<=D->ys.map (·.1)=xs->Ac ys W->W.heap[D]?=J (.deferred (J []))->Q .normal { a with defers:={ target:=.collected D,args:=#[] }::a.defers } W)
  (tF:∀(D:Nat) (c:Code) (pre:List { x:β // x∈xs }) (W:Ba),w.heap.size<=D->pre.map (·.1) <+: xs->Ix c pre W->W.heap[D]?=J (.deferred (J []))->c.wp P Q { a with defers:={ target:=.collected D,args:=#[] }::a.defers } W) :
  (Code.rangeFunc g ps assign body).wp P Q a w:=
 (R6 (n:=9)).1 (wpIn_rangeFunc_ownG (F:=Fence.wide) (n:=9) rfl (by omega) hg trivial eg (FH 8 (by omega)) KeepB.trans
  (fun W l o o' hl _ _ _=>KeepB.putObj (fun hk=>by have:=hK l hk;omega) o') (Li _ _) (fun x=>fW x.1) Ac Ix hI Wz h0 a₁ nO t' tY
  (fun D c pre W hD hS hc hk=>R6.2 (tF D c pre W hD hS hc hk)))
def Marks(B:Nat)(ds:List Deferred)(w:Ba):Prop:=
 ∃rs:List Nat,ds=rs.map (fun r=>{ target:=.collected r,args:=#[] })/\rs.Nodup/\∀r∈rs,B<=r/\w.heap[r]?=J (.deferred (J []))
theorem Marks.nil(B:Nat)(w:Ba):Marks B [] w:=⟨[],rfl,List.nodup_nil,fun _ h=>by cases h⟩
structure Shut(B:Nat)(w w':Ba):Prop where
 below:Am B w w'
 same:∀(k:Nat) (o:Obj),w.heap[k]?=J o->o.isCells=Au->w'.heap[k]?=J o
theorem Shut.refl(B:Nat)(w:Ba):Shut B w w:=⟨Li _ _,fun _ _ h _=>h⟩
theorem Shut.own{B:Nat}{w w':Ba}(h:Shut B w w'){ab:Nat}{e:TypeId}{size:Nat}{v:Ar}{k:Nat}{xs:List Ar}(hr:w.ownsRow ab e size v k xs):w'.ownsRow ab e size v k xs:=by
 refine⟨hr.1,?_⟩;rcases hr.2 with hn | ⟨g,cap,cur,hv,hb,hg,rest⟩
 . exact .inl hn
 exact .inr ⟨g,cap,cur,hv,hb,h.same g _ hg rfl,rest⟩
theorem Shut.cell{B:Nat}{w w':Ba}(h:Shut B w w'){a:Addr}{v:Ar}(hc:w.cell? a=J v):w'.cell? a=J v:=by
 obtain⟨o,ho,dP⟩:=RL hc;rw[LN ((h.same _ _ ho dP).trans ho.symm)];exact hc
theorem uN{fn:Func}{tmps:Array Ar}{R:Ending->Ba->Prop}{B n:Nat}{v:Ar}(ct:∀W,(results fn tmps).run P W=.ok v W) :
  ∀(rs:List Nat) (w:Ba),rs.Nodup->(∀r∈rs,B<=r/\w.heap[r]?=J (.deferred (J [])))->(∀W,Shut B w W->R (Ak v) W) ->
   LeavesInM Fence.wide n P fn tmps R (rs.map (fun r=>{ target:=.collected r,args:=#[] })) .returning w
 | [],w,_,_,hR=>⟨v,ct w,hR w (Shut.refl _ _)⟩
 | r::rs,w,hn,hm,hR=>by
  obtain⟨hr,DG⟩:=Pr.1 hn;obtain⟨hB,hk⟩:=hm r (by simp);refine⟨by simp,.inl ⟨r,_,rfl,run_takeDeferred hk,?_⟩⟩;refine uN ct rs _ DG (fun r' sW=>⟨(hm r' (by simp[sW])).1,?_⟩) (fun W hW=>hR W ?_)
  . rw[N9 (by rintro rfl;exact hr sW)]
    exact(hm r' (by simp[sW])).2
  . refine⟨((Li B w).grown (grownBy_putObj' w r (.deferred Z)) (by have:=(Ln.1 hk).1;omega) (fun k e=>by cases e;exact hB)).trans hW.below,fun k o ho hc=>?_⟩
    refine hW.same k o ?_ hc
    by_cases e:k=r
    . subst e;rw[hk] at ho;cases ho;cases hc
    . exact(N9 e).trans ho
theorem yr{f:FuncId}{fn:Func}{c:Code}{args:Array Ar}{w:Ba}{R:Ending->Ba->Prop}
  (hf:P.funcs[f]?=J fn) (hb:fn.body=J c)
  (h:c.wp P (bodyPostM Fence.wide 9 P fn R) { tmps:=args++Array.replicate (fn.ntmps-args.size) undef,defers:=[] } w):An P f args w R:=
 (RW (n:=9)).1 (callsIn_of_wp_marks hf hb trivial (R6.2 h))
theorem yU{fn:Func}{R:Ending->Ba->Prop}{a:Act}{w:Ba}{B:Nat}{v:Ar}(hm:Marks B a.defers w)(ct:∀W,(results fn a.tmps).run P W=.ok v W)
  (hR:∀W,Shut B w W->R (Ak v) W):bodyPostM Fence.wide 9 P fn R .ret a w:=by
 obtain⟨rs,hd,hn,hk⟩:=hm;show LeavesInM Fence.wide 9 P fn a.tmps R a.defers .returning w;rw[hd];exact uN ct rs w hn hk hR
theorem Marks.cons{B D:Nat}{ds:List Deferred}{w w':Ba}(h:Marks B ds w)(hs:∀(k:Nat),w.heap[k]?=J (Obj.deferred (J []))->w'.heap[k]?=J (Obj.deferred (J [])))
  (hB:B<=w.heap.size) (hD:w.heap.size<=D) (hk:w'.heap[D]?=J (.deferred (J []))):Marks B ({ target:=.collected D,args:=#[] }::ds) w':=by
 obtain⟨rs,rfl,hn,hr⟩:=h;refine⟨D::rs,rfl,Pr.2 ⟨fun hD'=>?_,hn⟩,fun r sW=>?_⟩
 . have:=(Ln.1 (hr D hD').2).1;omega
 rcases LL.1 sW with rfl | sW
 . exact⟨by omega,hk⟩
 exact⟨(hr r sW).1,hs r (hr r sW).2⟩
end
end
section
open Go.RowKit Go.Shelf
attribute [local go_sem] Oper.semAt_some
def zM:Nat->List (List Mv)->List (Int×Mv)
 | _,[]=>[]
 | s,l::r=>l.map (fun m=>((s:Int),m))++zM (s+1) r
theorem XY{xss:List (List Mv)}{s:Nat}(h:s<xss.length):zM s (xss.drop s)=(xss[s]).map (fun m=>((s:Int),m))++zM (s+1) (xss.drop (s+1)):=by
 rw[Ly h];rfl
theorem kF:∀(s:Nat) (xss:List (List Mv)),(zM s xss).map Prod.snd=xss.flatten
 | _,[]=>rfl
 | s,l::r=>by
  rw[zM,LK,kF (s+1) r,PR,Rg]
  congr 1
  exact List.map_id' l
theorem QT(a:Ad):(zM 0 a.sts).length=a.mvs.length:=by
 rw[<-LM (f:=Prod.snd),kF];rfl
theorem YM{B:Nat}{w w':Ba}(hs:w.heap.size<=w'.heap.size)(h:∀k,k<B->w'.heap[k]?=w.heap[k]?):Am B w { w' with os:=w.os,tape:=w.tape,output:=w.output }:=⟨rfl,rfl,rfl,hs,h⟩
theorem SAt.same{w w':Ba}{B:Nat}{A:Bb}{xss:List (List Mv)}(h:SAt w B A xss)(hs:w.heap.size<=w'.heap.size)(hk:∀k,k<B->w'.heap[k]?=w.heap[k]?):SAt w' B A xss:=by
 have h2:=h.keep (YM hs hk);exact h2
theorem MAt.same{w w':Ba}{B:Nat}{A:Bb}{xs:List Mv}(h:MAt w B A xs)(hs:w.heap.size<=w'.heap.size)(hk:∀k,k<B->w'.heap[k]?=w.heap[k]?):MAt w' B A xs:=by
 have h2:=h.keep (YM hs hk);exact h2
theorem wR(n:Int)(SV:Ar)(w:Ba):An Al 155 #[Ai #[O U n,SV]] w fun e w'=>
  e=Ak (.func (.func 173) #[] #[Aj (J ⟨w.heap.size,0,Z⟩)])/\w.alloc (Ag #[O U n,SV] 27)=w':=by
 go_enter func155,ntmps155;go_wp2;go_ret;exact⟨rfl,rfl⟩
theorem jW(a:Ad)(hf:FewA a)(SV:Bb)(ks B bx:Nat)(w:Ba)(hb:w.heap[bx]?=J (Ag #[O U a.n,I SV a.sts.length ks] 27))(hS:SAt w B SV a.sts)(hB:B<=w.heap.size) :
  Qe Al 173 #[Aj (J ⟨bx,0,Z⟩)] (fun x:Int×Mv=>#[O U x.1,.agg x.2.cells]) (fun k=>k<B\/k=bx) (zM 0 a.sts) w:=fun n hn l Af Jx W hW hJ Ww hY h0=>by
 have ce:bx<w.heap.size:=(Ln.1 hb).1;have lL:W.heap[bx]?=J (Ag #[O U a.n,I SV a.sts.length ks] 27):=(hW.block bx ce).trans hb;have Gz:SAt W B SV a.sts:=hS.keep (hW.mono hB);have HF:=zH (fun l hl=>hf.each (l:=l) hl);have tW:=hf.1;have HY:=zH hY;have OM:Aq (∀s X o,Af s X->Af s (X.alloc o)):=fun s X o hs=>hJ s X (X.alloc o) Z hs (World.grownBy_alloc X o Z) (fun r e=>by cases e)
 have c1:=zh lL 1 rfl;have EE:=zH Gz;have H0:=zH h0;have iN:=zH lL;have WQ:B<=W.heap.size:=Lr hB hW.size;have ir:bx<W.heap.size:=LE ce hW.size;obtain⟨n0,sts⟩:=a;dsimp only at iN c1 EE HF tW HY ⊢;refine RM RY rfl trivial ?_ rfl;simp only[ntmps173,List.size_toArray,List.length_cons,List.length_nil,Nat.reduceAdd,Nat.reduceSub,Array.replicate_succ,Array.replicate_zero,List.push_toArray,List.append_toArray,List.nil_append,List.cons_append];gi_wp2
 gi_loopw [10] (fun p wr=>∃s:Nat,s<=sts.length/\p=O U (s:Int)/\∃pre:List { x:Int×Mv // x∈zM 0 sts },Aq (pre.map (·.1)++zM s (sts.drop s)=zM 0 sts)/\Aq (Af pre wr)/\Aq (SAt wr B SV sts)/\Aq (wr.heap[bx]?=J (Ag #[O U n0,I SV sts.length ks] 27))/\W.heap.size<=wr.heap.size) (fun p _=>sts.length-(Ap p).toNat)
 case atStart=>exact⟨0,by omega,rfl,[],by simp[Aq],H0,EE,iN,Ld _⟩
 case round=>
  obtain⟨s,hs,rfl,pre,hp,la,Aa,bD,bL⟩:=hrel
  by_cases ac:s<sts.length
  . obtain⟨b,o,A',k',rfl,lw,q1,hM⟩:=Aa.out.at_ s ac
    have ig:=HF.out _ (Le ac);have Iw:=XY ac;obtain⟨L,hL⟩:=Kk (sts[s]);rw[hL] at q1 hM ig Iw;have HP:Aq (pre.map (·.1)++((L.drop 0).map (fun m=>((s:Int),m))++zM (s+1) (sts.drop (s+1)))=zM 0 sts):=by rw[Ni,<-Iw];exact hp.out
    have HM0:=zH hM;gi_wp2_with fail
    gi_loopw [17] (fun p wr=>∃j:Nat,j<=L.length/\p=O U (j:Int)/\∃pre:List { x:Int×Mv // x∈zM 0 sts },Aq (pre.map (·.1)++((L.drop j).map (fun m=>((s:Int),m))++zM (s+1) (sts.drop (s+1)))=zM 0 sts)/\Aq (Af pre wr)/\Aq (SAt wr B (J ⟨b,o,Z⟩) sts)/\Aq (wr.heap[bx]?=J (Ag #[O U n0,I (J ⟨b,o,Z⟩) sts.length ks] 27))/\Aq (MAt wr B A' L)/\W.heap.size<=wr.heap.size) (fun p _=>L.length-(Ap p).toNat)
    case atStart=>exact⟨0,by omega,rfl,pre,HP,la,Aa,bD,HM0,bL⟩
    case round=>
     obtain⟨j,hj,rfl,pre,hp,la,Aa,bD,hMr,bL⟩:=hrel
     by_cases cU:j<L.length
     . obtain⟨b2,o2,rfl,ah,m0,m1,m2,m3,m4,m5,m6,m7⟩:=hMr.out.row j cU
       have hdj:L.drop j=L[j]::L.drop (j+1):=Ly cU;obtain⟨m,hm⟩:=Kk (L[j]);rw[hm] at m0 m1 m2 m3 m4 m5 m6 m7 hdj
       have pO:pre.map (·.1)++(((s:Int),m)::((L.drop (j+1)).map (fun m=>((s:Int),m))++zM (s+1) (sts.drop (s+1))))=zM 0 sts:=by
        have:=hp.out;rw[hdj,L4,Nb] at this;exact this
       have dC:((s:Int),m)∈zM 0 sts:=by rw[<-pO];simp
       have aL:pre.length<(zM 0 sts).length:=by
        have:=congrArg List.length pO;simp only[List.length_append,List.length_map,List.length_cons] at this;omega
       obtain⟨fn,tmps,assign,body,hy,hR⟩:=HY.out pre ⟨((s:Int),m),dC⟩ _ (OM.out _ _ (Ag #[O U m.r.n,O U m.r.h0,O U m.r.h1,O U m.r.h2,O U m.r.h3,O U m.r.h4,O U m.r.f,O U m.to] 78) la.out) aL;unfold Mv.cells at hy;dsimp only at hy
       have AP:Aq ((pre++[(⟨((s:Int),m),dC⟩:{ x:Int×Mv // x∈zM 0 sts })]).map (·.1)++((L.drop (j+1)).map (fun m=>((s:Int),m))++zM (s+1) (sts.drop (s+1)))=zM 0 sts):=by
        rw[LK,Nh];exact pO
       have HR:=zH hR;gi_wp2_with fail;refine HR.out.mono ?_;rintro e W3 (⟨rfl,GE,rL⟩ | ⟨rfl,rg⟩)
       . have aw:wr.heap.size<=W3.heap.size:=by have:=rL.size;simp at this;omega
         have aW:∀k,(k<B\/k=bx)->k<wr.heap.size->W3.heap[k]?=wr.heap[k]?:=fun k hk ac=>(rL.same k hk (by simp;omega)).trans (xa (Sm ac) _ |>.trans (Sm ac).symm)
         have S3:=zH (Aa.out.same aw (fun k hk=>aW k (.inl hk) (by omega)));have M3:=zH (hMr.out.same aw (fun k hk=>aW k (.inl hk) (by omega)));have B3:=zH ((aW bx (.inr rfl) (by omega)).trans bD.out);have J3:=zH GE;have nD:W.heap.size<=W3.heap.size:=by omega
         gi_wp2_with fail
         go_roundw
         case rel=>exact⟨j+1,by omega,by go_num,_,AP,J3,S3,B3,M3,nD⟩
         case measure=>simp[Ap];omega
       . gi_wp2_with fail
         refine LI (Rr rfl _ _ _) rfl ?_;refine⟨⟨_,rfl⟩,.inr ⟨_,?_,rg⟩⟩;exact⟨_,AP.out⟩
     . obtain rfl:j=L.length:=by omega
       have HP:Aq (pre.map (·.1)++zM (s+1) (sts.drop (s+1))=zM 0 sts):=by have:=hp.out;rwa[NI,Nr,Nc] at this
       gi_wp2_with fail
       go_roundw
       case rel=>exact⟨s+1,by omega,by go_num,pre,HP,la,Aa,bD,bL⟩
       case measure=>simp[Ap];omega
  . obtain rfl:s=sts.length:=by omega
    have HP:Aq (pre.map (·.1)=zM 0 sts):=by have:=hp.out;rwa[NI,zM,Nj] at this
    gi_wp2_with fail
    go_end0
    exact⟨⟨_,rfl⟩,.inl ⟨pre,HP.out,la.out⟩⟩
theorem qK{w:Ba}{g:Nat}{v:Ar}{t:TypeId}(h:w.heap[g]?=J (Ag #[v] t (0,0)))(v':Ar) :
  (w.setCell ⟨g,0,Z⟩ v').heap[g]?=J (Ag #[v'] t (0,0))/\(w.setCell ⟨g,0,Z⟩ v').heap.size=w.heap.size/\∀k,k≠g->(w.setCell ⟨g,0,Z⟩ v').heap[k]?=w.heap[k]?:=by
 refine⟨?_,by simp[World.setCell],fun k hk=>Lf w ⟨g,0,Z⟩ v' k hk⟩;rw[World.setCell,PF,Lj rfl,h]
 rfl
theorem kn{B D:Nat}{w:Ba}(hB:B<=D)(hk:w.heap[D]?=J (.deferred (J []))):Marks B [{ target:=.collected D,args:=#[] }] w:=
 ⟨[D],rfl,by simp,fun r hr=>by simp only[List.mem_singleton] at hr;subst hr;exact⟨hB,hk⟩⟩
structure SzIn(B:Nat)(C:Array Ar)(T:TypeId)(Ep:Int)(w W:Ba):Prop where
 below:Am B w W
 b0:W.heap[B]?=J (Ag C T (0,0))
 b1:W.heap[B+1]?=J (Ag #[O U Ep] 3 (0,0))
theorem SzIn.turn{B:Nat}{C:Array Ar}{T:TypeId}{Ep:Int}{w W W':Ba}{row:Option Nat}(h:SzIn B C T Ep w W)(hg:W.grownBy W' row)(hr:∀r,row=J r->B<=r/\∃o:Obj,W.heap[r]?=J o/\o.isCells=Aw):SzIn B C T Ep w W':=
 ⟨h.below.grown hg (by have:=(Ln.1 h.b0).1;omega) (fun k hk=>(hr k hk).1),(Nd hg (fun r e=>(hr r e).2) h.b0 rfl).trans h.b0,(Nd hg (fun r e=>(hr r e).2) h.b1 rfl).trans h.b1⟩
theorem SzIn.set{B:Nat}{C:Array Ar}{T:TypeId}{Ep:Int}{w W:Ba}(h:SzIn B C T Ep w W)(c':Int):SzIn B C T c' w (W.setCell ⟨B+1,0,Z⟩ (O U c')):=by
 obtain⟨x1,x2,x3⟩:=qK h.b1 (O U c');exact⟨h.below.setCell (by simp) _,(x3 B (by omega)).trans h.b0,x1⟩
theorem SzIn.keeps{B D:Nat}{C:Array Ar}{T:TypeId}{Ep:Int}{w W:Ba}(h:SzIn B C T Ep w W)(c':Int)(K:Nat->Prop)(hK:¬K (B+1)):KeepsFrom D W (W.setCell ⟨B+1,0,Z⟩ (O U c'))/\KeepB K W (W.setCell ⟨B+1,0,Z⟩ (O U c')):=by
 obtain⟨x1,x2,x3⟩:=qK h.b1 (O U c');refine⟨⟨by omega,fun k o _ hk ho=>?_⟩,KeepB.setCell hK _⟩;have k1:k≠B+1:=by rintro rfl;rw[h.b1] at hk;cases hk;cases ho
 exact(x3 k k1).trans hk
theorem sized_any(a:Ad)(hf:FewA a)(SV:Bb)(ks:Nat)(w:Ba)(hS:SAt w w.heap.size SV a.sts) :
  An Al 153 #[Ai #[O U a.n,I SV a.sts.length ks]] w fun e w'=>e=Ak (O U (if a.sts.length<1 then 5 else 0))/\Am w.heap.size w w':=by
 have iE:=hf.1;have mD:=hf.2;have rI:=QT a;have HI:=zH (fun (bx:Nat) (w':Ba) (hb:w'.heap[bx]?=J (Ag #[O U a.n,I SV a.sts.length ks] 27)) (h:SAt w' w.heap.size SV a.sts) (hB:w.heap.size<=w'.heap.size)=>jW a hf SV ks w.heap.size bx w' hb h hB);have HS:=zH hS;obtain⟨nl,fN⟩:=Kk ((zM 0 a.sts).length);have Hd:=zH fN;clear hS;refine yr func153 rfl ?_;simp only[ntmps153,List.size_toArray,List.length_cons,List.length_nil,Nat.reduceAdd,Nat.reduceSub,Array.replicate_succ,Array.replicate_zero,List.push_toArray,List.append_toArray,List.nil_append,List.cons_append];go_wp2_with fail;obtain⟨w2,aC,b0,b1,bL,hB⟩:=xk w #[O U a.n,I SV a.sts.length ks] #[O U 0] 27 3;rw[aC];have eO:w2.heap.size=w.heap.size+2:=by rw[<-aC];simp
 refine(wR a.n (I SV a.sts.length ks) w2).mono ?_;rintro e W ⟨rfl,hW⟩;have bb:=zx w2 (Ag #[O U a.n,I SV a.sts.length ks] 27);have az:Am w2.heap.size w2 W:=by rw[<-hW];exact zU _ _
 have aw:w2.heap.size<W.heap.size:=by rw[<-hW];simp
 rw[hW] at bb;have WD:SzIn w.heap.size #[O U a.n,I SV a.sts.length ks] 27 0 w W:=⟨hB.trans (az.mono (by omega)),XE b0 az (by omega),XE b1 az (by omega)⟩;have hit:=HI.out w2.heap.size W bb ((HS.out.keep hB).keep (az.mono (by omega))) (by omega);have H0:=zH WD;have ib:=zH hit;have HZ:=zH eO;have cY:w.heap.size+2<=w2.heap.size:=bL;clear aC hW bb b0 b1 hB az WD hit eO bL HI HS fN;go_wp2_with fail
 refine ut rfl (NC RY (by kernel_rfl) rfl) ib.out (by rintro k (h | rfl)<;>omega) (fun _=>rfl)
  (fun (pre:List { x:Int×Mv // x∈zM 0 a.sts }) W=>SzIn w.heap.size #[O U a.n,I SV a.sts.length ks] 27 ((pre.length:Nat):Int) w W) (fun _ _ _=>False) (fun _ _ _ _ h hg hr=>h.turn hg (fun r e=>⟨by have:=(hr r e).1;omega,(hr r e).2⟩)) (fun _ _ _ _ _ h _ _=>h)
  H0.out ?a1 ?assign ?body ?done ?stop
 case assign=>
  intro l x W K hK;gi_wp2;exact hK
 case body=>
  intro l pre x W hI ac;have Cv:pre.length<100:=by have:=Hd.out;omega
  have c1:=zh hI.b1 0 rfl;have f1:=zi hI.b1 0;have HI:=zH hI;clear hI ac;gi_wp2_with fail;have hK:¬(w.heap.size+1<w.heap.size\/w.heap.size+1=w2.heap.size):=by have:=HZ.out;omega
  refine⟨(HI.out.keeps _ (fun k=>k<w.heap.size\/k=w2.heap.size) hK).1,(HI.out.keeps (D:=0) _ (fun k=>k<w.heap.size\/k=w2.heap.size) hK).2,?_⟩;have:=HI.out.set ((pre.length:Int)+1);dsimp only;rw[show(((pre++[x]).length:Nat):Int)=(pre.length:Int)+1 by simp];exact this
 case done=>
  intro D ys W hD iy hI ik;have aL:ys.length=(zM 0 a.sts).length:=by have:=congrArg List.length iy;rwa[LM] at this
  have nB:ys.length<=40:=by omega
  obtain⟨q0,q1,_⟩:=Ke hI.b0;have c1:=zh hI.b1 0 rfl;have HI:=zH hI;have HD:=zH ik
  by_cases hz:a.sts.length<1
  . clear hI ik aL iy
    go_wp2_with fail
    all_goals first | (exfalso;omega) | skip
    refine yU (B:=w.heap.size) (kn (by omega) HD.out) (v:=O U 5) (fun W=>by kernel_rfl) ?_;intro W hS;exact⟨by first | rfl | rw[Lj hz],HI.out.below.trans hS.below⟩
  have cY:¬((a.sts.length:Int)<1):=by omega
  clear hI ik aL iy;go_wp2_with fail
  all_goals first | (exfalso;omega) | skip
  refine yU (B:=w.heap.size) (kn (by omega) HD.out) (v:=O U 0) (fun W=>by kernel_rfl) ?_;intro W hS;exact⟨by first | rfl | rw[Lg hz],HI.out.below.trans hS.below⟩
 intro D c pre W _ _ h;exact h.elim
theorem uq{a:Ad}(h:a.n<1\/5<a.n):qn a=2:=Lj h
theorem gt{a:Ad}(h:¬(a.n<1\/5<a.n))(h2:a.sts.length<1):qn a=5:=by unfold qn;rw[Lg h,Lj (.inl h2)]
theorem uo{a:Ad}(h:¬(a.n<1\/5<a.n))(h2:1<=a.sts.length)(hf:FewA a)(h3:zG a a.sts≠0):qn a=zG a a.sts:=by
 unfold qn;rw[Lg h,Lg (by have:=hf.1;have:=hf.2;omega),Lj h3]
theorem ur{a:Ad}(h:¬(a.n<1\/5<a.n))(h2:1<=a.sts.length)(hf:FewA a)(h3:zG a a.sts=0):qn a=if xF a=Au then 0 else 21:=by
 unfold qn;rw[Lg h,Lg (by have:=hf.1;have:=hf.2;omega),Lg (by simpa using h3)]
theorem vM{a:Ad}:∀ {p:Option Mv} {l:List Mv},je a p l=0->∀m∈l,yi m.r=0/\m.r.n=a.n/\0<=m.to/\m.to<a.sts.length
 | _,[],_,m,hm=>by cases hm
 | p,x::r,h,m,hm=>by
  rw[je] at h
  split at h
  . rename_i h1;exact absurd h h1
  . rename_i h1
    have h1:xV a p x=0:=by simpa using h1
    rcases LL.1 hm with rfl | hm
    . unfold xV at h1
      split at h1
      . rename_i h2;exact absurd h1 h2
      . split at h1
        . cases h1
        . split at h1
          . cases h1
          . split at h1
            . cases h1
            . rename_i h2 h3 h4 h5
              exact⟨by simpa using h2,by simpa using h3,by omega,by omega⟩
    . exact vM h m hm
theorem jP{a:Ad}:∀ {xs:List (List Mv)},zG a xs=0->∀l∈xs,l.length≠0/\∀m∈l,yi m.r=0/\m.r.n=a.n/\0<=m.to/\m.to<a.sts.length
 | [],_,l,hl=>by cases hl
 | x::r,h,l,hl=>by
  rw[zG] at h
  split at h
  . rename_i h1;exact absurd h h1
  . rename_i h1
    have h1:qt a x=0:=by simpa using h1
    rcases LL.1 hl with rfl | hl
    . unfold qt at h1
      split at h1
      . cases h1
      . rename_i h2
        exact⟨h2,fun m hm=>vM (p:=zD l 0) (l:=l) (by have:=h1;unfold xO at this;rwa[Ni] at this) m hm⟩
    . exact jP h l hl
theorem kd{r:Rd}(h:yi r=0):1<=r.n/\r.n<=5/\yM r=0/\yZ r.n r.f=0:=by
 unfold yi at h
 split at h
 . rename_i h1;exact absurd h h1
 rename_i h1;have h1:yM r=0:=by simpa using h1
 refine⟨?_,?_,h1,h⟩
 . unfold yM at h1
   split at h1
   . cases h1
   omega
 unfold yM at h1
 split at h1
 . cases h1
 omega
theorem xL{a:Ad}(h:zG a a.sts=0):∀m∈a.mvs,yi m.r=0/\m.r.n=a.n/\0<=m.to/\m.to<a.sts.length:=fun m hm=>by
 obtain⟨l,hl,rI⟩:=Nw.1 hm;exact(jP h l hl).2 m rI
theorem qP{m:Mv}(h:yi m.r=0):∃f:Nat,m.r.f=(f:Int)/\f<32:=by
 obtain⟨_,k,_,e,_,_,_,hk⟩:=check_ok (kd h).2.2.2;exact⟨k,e,hk⟩
theorem JF{s x:Nat}(hs:s<32)(hx:x<32):(bits BinOp.andNot U (x:Int) (s:Int)=0)↔(x &&& s=x):=by
 have h1:=jJ (p:=fun s=>uY fun x=>decide ((bits BinOp.andNot U (x:Int) (s:Int)=0)↔(x &&& s=x))) (by decide +kernel) hs;have h2:=jJ h1 hx;simpa using h2
theorem XX{a:Ad}{x:Int×Mv}(h:x∈zM 0 a.sts):x.2∈a.mvs:=by
 have:x.2∈(zM 0 a.sts).map Prod.snd:=LZ.2 ⟨x,h,rfl⟩;rwa[kF] at this
end
section
open Go.RowKit
theorem flat_step{xss:List (List Mv)}{k:Nat}(h:k<xss.length):((xss.take (k+1)).flatten).length=((xss.take k).flatten).length+xss[k].length:=by
 rw[Lq h,List.flatten_append,Lv];simp
theorem flat_le{xss:List (List Mv)}{k:Nat}:((xss.take k).flatten).length<=xss.flatten.length:=by
 conv=>rhs;rw[<-PE k xss]
 rw[List.flatten_append,Lv];omega
theorem Z8(a:Ad)(SV:Bb)(ks:Nat)(hl:a.sts.length<=17592186044416)(hm:a.mvs.length<=4611686018427387904)(aN:∀l∈a.sts,l.length<=17592186044416)(w:Ba)(hS:SAt w w.heap.size SV a.sts) :
  An Al 133 #[Ai #[O U a.n,I SV a.sts.length ks]] w fun e w'=>e=Ak (O U (a.mvs.length:Nat))/\w'=w.alloc (Ag #[O U a.n,I SV a.sts.length ks] 27):=by
 have HS:=zH (hS.keep (zU w (Ag #[O U a.n,I SV a.sts.length ks] 27)));have tp:=zH aN;obtain⟨n0,sts⟩:=a;unfold Ad.mvs at hm ⊢;dsimp only at hl hm tp HS ⊢;go_enter func133,ntmps133;go_wp2_with fail
 go_loop [3,4] (fun v i=>∃k c:Nat,k<=sts.length/\i=O U (k:Int)/\v=O U (c:Int)/\Aq (c=((sts.take k).flatten).length)) (fun _ i=>sts.length-(Ap i).toNat)
 case atStart=>exact⟨0,0,by omega,rfl,rfl,rfl⟩
 obtain⟨k,c,hk,rfl,rfl,hc⟩:=hrel
 by_cases ac:k<sts.length
 . obtain⟨b,o,A',k',rfl,lw,c1,_⟩:=HS.out.at_ k ac
   have fF:=tp.out _ (Le ac);have iA:=flat_step ac;have ed:=flat_le (xss:=sts) (k:=k+1);obtain⟨ll,aN⟩:=Kk (sts[k].length);rw[aN] at c1 fF iA;have IA:c+ll=((sts.take (k+1)).flatten).length:=by rw[iA,hc.out]
   have hb:c+ll<=4611686018427387904:=by omega
   have HC:=zH IA;go_wp2_with fail
   go_round
   case rel=>exact⟨k+1,c+ll,by omega,by go_num,by go_num,HC.out⟩
   simp[Ap];omega
 obtain rfl:k=sts.length:=by omega
 have IA:c=sts.flatten.length:=by rw[hc.out,LS]
 subst IA;go_wp2_with fail;go_ret;exact⟨rfl,rfl⟩
theorem mvs_le{a:Ad}(h8:a.sts.length<=8)(aN:∀l∈a.sts,l.length<=17592186044416):a.mvs.length<=4611686018427387904:=by
 have h:∀(xs:List (List Mv)),(∀l∈xs,l.length<=17592186044416)->xs.flatten.length<=xs.length*17592186044416:=by
  intro xs
  induction xs with
  | nil=>intro _;simp
  | cons x xs ih=>
   intro hx;have h1:=ih fun l hl=>hx l (RH _ hl)
   have h2:=hx x (RT ..);rw[Rg,Lv,Lz,Nat.succ_mul];omega
 have h1:=h a.sts aN;unfold Ad.mvs;omega
theorem rfewA_any(a:Ad)(SV:Bb)(ks:Nat)(hl:a.sts.length<=17592186044416)(aN:∀l∈a.sts,l.length<=17592186044416)(w:Ba)(hS:SAt w w.heap.size SV a.sts) :
  An Al 95 #[Ai #[O U a.n,I SV a.sts.length ks]] w fun e w'=>e=Ak (Ah (decide (a.sts.length<=8)&&decide (a.mvs.length<=40)))/\Am w.heap.size w w':=by
 have HC:=zH (fun (hm:a.mvs.length<=4611686018427387904)=>Z8 a SV ks hl hm aN (w.alloc (Ag #[O U a.n,I SV a.sts.length ks] 27)) ((hS.keep (zU w _)).more (by simp)));have Va:=zH (fun (h8:a.sts.length<=8)=>mvs_le h8 aN);obtain⟨q,hq⟩:=Kk a.mvs.length;rw[hq] at HC Va ⊢;obtain⟨sl,mz⟩:=Kk a.sts.length;rw[mz] at HC Va hl ⊢;go_enter func95,ntmps95
 by_cases h1:sl<=8
 . have hm:=Va.out h1
   go_wp2_with fail
   all_goals first | (exfalso;omega) | skip
   refine(HC.out hm).mono ?_;rintro e w1 ⟨rfl,rfl⟩;go_wp2_with fail;go_ret;exact⟨zz (by first | (rw[Lw h1,Nn];exact Qb (by omega)) | exact Qb (by omega)),un w _ _⟩
 go_wp2_with fail
 all_goals first | (exfalso;omega) | skip
 go_ret;exact⟨zz (by first | rfl | rw[Lu h1,N2]),zU w _⟩
theorem QU{a:Ad}(hf:FewA a):(∀l∈a.sts,l.length<=17592186044416)/\a.sts.length<=17592186044416/\a.mvs.length<=4611686018427387904:=
 ⟨fun l hl=>by have:=hf.each hl;omega,by have:=hf.1;omega,by have:=hf.2;omega⟩
theorem rmove_any(a:Ad)(SV:Bb)(ks:Nat)(_GP:a.sts.length<=8)(A:Bb)(k0:Nat)(l:List Mv)(hl:l.length<=40)(k:Nat)(ac:k<l.length)(w:Ba)(hA:MAt w w.heap.size A l) :
  An Al 157 #[Ai #[O U a.n,I SV a.sts.length ks],I A l.length k0,O U k] w fun e w'=>e=Ak (O U (xV a (zD l k) l[k]))/\Am w.heap.size w w':=by
 have HA:=zH hA;obtain⟨b,o,rfl,lw,c0,c1,c2,c3,c4,c5,c6,c7⟩:=hA.row k ac;obtain⟨bo,dN⟩:=Kk (YX (zD l k) l[k]);have cP:=zH dN;have m1:=zH (@hP a (zD l k) l[k]);have m2:=zH (@moveE_n a (zD l k) l[k]);have m3:=zH (@hU a (zD l k) l[k]);have m4:=zH (@QV a (zD l k) l[k]);have m5:=zH (@QW a (zD l k) l[k]);rw[dN] at m3 m4 m5;obtain⟨m,hm⟩:=Kk (l[k]);have HX:=zH hm;obtain⟨mE,L1⟩:=Kk (xV a (zD l k) l[k]);rw[L1] at m1 m2 m3 m4 m5 ⊢;rw[hm] at c0 c1 c2 c3 c4 c5 c6 c7 m1 m2 m3 m4 m5;have HR:=zH (fun w'=>Zo m.r w');obtain⟨rE,KJ⟩:=Kk (yi m.r);rw[KJ] at m1 m2 m3 m4 m5 HR;unfold Rd.cells at HR;clear dN hm L1 KJ hA;go_enter func157,ntmps157;go_wp2_with fail;obtain⟨W1,fG,b0,b1,aw,aB⟩:=xk w #[O U a.n,I SV a.sts.length ks] #[O U m.r.n,O U m.r.h0,O U m.r.h1,O U m.r.h2,O U m.r.h3,O U m.r.h4,O U m.r.f] 27 76;rw[fG];refine(HR.out W1).mono ?_;rintro e w1 ⟨rfl,aQ⟩;have lj:=zH (aB.trans (aQ.mono (by omega)));have d0:=Lb aQ (by omega) b0;have d1:=Lb aQ (by omega) b1;have eQ:=zH d1;have dU:=zH d0;obtain⟨q0,q1,_⟩:=Ke d0;obtain⟨p0,p1,p2,p3,p4,p5,p6,_⟩:=Kg d1;have Id:=zk d1;obtain⟨_,_,e7,_,_,_,_,_,_,_,_,p7⟩:=(HA.out.keep lj.out).row k ac
 cases e7
 rw[HX.out] at p7;clear fG b0 b1 aB aQ d0 d1 c0 c1 c2 c3 c4 c5 c6 c7 HR
 by_cases hr:rE=0
 case neg=>
  have he:=zH (m1.out hr);have e0:(rE != 0)=Au:=by simpa using hr
  clear m1 m2 m3 m4 m5 hr cP HX;go_wp2_with fail;go_ret;exact⟨zr he.out.symm,lj.out⟩
 case pos=>
 subst hr;clear m1
 by_cases hn:m.r.n=a.n
 case neg=>
  have he:=zH (m2.out (by simp) hn);have e0:(m.r.n != a.n)=Au:=by simpa using hn
  clear m2 m3 m4 m5 hn cP HX;go_wp2_with fail;go_ret;exact⟨zr he.out.symm,lj.out⟩
 case pos=>
 have e0:(m.r.n != a.n)=Aw:=by simpa using hn
 have n3:=zH (m3.out (by simp) hn);have n4:=zH (m4.out (by simp) hn);have n5:=zH (m5.out (by simp) hn);clear m2 hn m3 m4 m5
 cases k with
 | zero=>
  obtain rfl:bo=Aw:=by rw[<-cP.out];rfl
  have g0:decide ((0:Int)<0)=Aw:=by decide
  rw[PP,Pe] at p7;clear cP HX n3;go_wp2_with fail;go_quiet (fail)
  by_cases ht:m.to<0\/(a.sts.length:Int)<=m.to
  . have he:=zH (n4.out (by simp) ht)
    clear n4 n5
    by_cases FD:m.to<0
    . clear ht
      go_wp2_with fail;go_quiet (fail);go_wp2_with fail;go_ret;exact⟨zr he.out.symm,by repeat (first | exact lj.out | refine yv ?_ _)⟩
    . have FC:(a.sts.length:Int)<=m.to:=by omega
      clear ht;go_wp2_with fail;go_quiet (fail);go_wp2_with fail;go_ret;exact⟨zr he.out.symm,by repeat (first | exact lj.out | refine yv ?_ _)⟩
  . have he:=zH (n5.out (by simp) ht)
    have FD:¬m.to<0:=by omega
    have FC:¬(a.sts.length:Int)<=m.to:=by omega
    clear n4 n5 ht;go_wp2_with fail;go_quiet (fail);go_wp2_with fail;go_ret;exact⟨zr he.out.symm,by repeat (first | exact lj.out | refine yv ?_ _)⟩
 | succ j=>
  have hj:j<l.length:=by omega
  have dt:YX (zD l (j+1)) l[j+1]=decide (0<=zB l[j].r.l l[j+1].r.l):=by rw[yu l j hj];rfl
  rw[HX.out] at dt;rw[show YX (zD l (j+1)) m=bo by have:=cP.out;rwa[HX.out] at this] at dt;obtain⟨b',o',e',_,u0,u1,u2,u3,u4,u5,u6,u7⟩:=(HA.out.keep lj.out).row j hj
  cases e'
  have hc:=fun w'=>Z0 l[j].r m.r w'
  obtain⟨mj,LT⟩:=Kk (l[j]);rw[LT] at dt hc u0 u1 u2 u3 u4 u5 u6 u7;obtain⟨r,hr⟩:=Kk (zB mj.r.l m.r.l);rw[hr] at dt hc;unfold Rd.cells at hc;have eN:=zH dt;have HC:=zH hc;have g1:((j:Int)+1).toNat=j+1:=by omega
  have g3:IntKind.i64.wrap ((j:Int)+1-1)=(j:Int):=by rw[Ll];omega
  have g5:IntKind.i64.wrap ((j:Int)+1)=(j:Int)+1:=by rw[Ll];omega
  have g6:decide ((0:Int)<(j:Int)+1)=Au:=Lw (by omega);have g7:IntKind.i64.wrap (j:Int)=(j:Int):=by rw[Ll];omega
  have g8:(0:Int)<=(j:Int):=by omega
  have g9:(j:Int)<(l.length:Int):=by omega
  clear dt hc hr LT cP;go_wp2_with fail
  go_still_tail 10,(by kernel_rfl)
  change wpList _ _ _ _ _ w1.drew;obtain⟨w2,aC⟩:∃w2,w2=w1.drew:=⟨_,rfl⟩;have Hu:Aq (Am w.heap.size w w2):=by rw[aC];exact lj.out.drew
  have aq:Aq (w2.heap[w.heap.size]?=J (Ag #[O U a.n,I SV a.sts.length ks] 27 (0,0))):=by rw[aC];exact dU.out
  rw[<-aC];clear dU eQ aC q0 q1 p0 p1 p2 p3 p4 p5 p6 p7 u0 u1 u2 u3 u4 u5 u6 u7 g3 g7 g8 g9;go_wp2_with fail;refine(HC.out w2).mono ?_;rintro e w3 ⟨rfl,al⟩;have se:=zH (Lc Hu.out al);have d0:=La al aq.out;obtain⟨q0,q1,_⟩:=Ke d0;obtain⟨_,_,e7,_,_,_,_,_,_,_,_,p7⟩:=(HA.out.keep se.out).row (j+1) ac
  cases e7
  rw[HX.out] at p7;have i1:(0:Int)<=(j:Int)+1:=by omega
  have i2:(j:Int)+1<(l.length:Int):=by omega
  clear d0 al HC HX
  cases bo with
  | true=>
   have WV:0<=r:=Lx eN.out.symm;have he:=zH (n3.out (by simp));clear n3 n4 n5 eN;go_wp2_with fail
   all_goals first | (exfalso;omega) | skip
   go_ret;exact⟨zr he.out.symm,se.out⟩
  | false=>
   have WV:¬0<=r:=Nt eN.out.symm;clear n3 eN
   by_cases ht:m.to<0\/(a.sts.length:Int)<=m.to
   . have he:=zH (n4.out (by simp) ht)
     clear n4 n5
     by_cases FD:m.to<0
     . clear ht
       go_wp2_with fail
       all_goals first | (exfalso;omega) | skip
       go_quiet (fail);go_wp2_with fail;go_ret;exact⟨zr he.out.symm,by repeat (first | exact se.out | refine yv ?_ _)⟩
     . have FC:(a.sts.length:Int)<=m.to:=by omega
       clear ht;go_wp2_with fail
       all_goals first | (exfalso;omega) | skip
       go_quiet (fail);go_wp2_with fail;go_ret;exact⟨zr he.out.symm,by repeat (first | exact se.out | refine yv ?_ _)⟩
   . have he:=zH (n5.out (by simp) ht)
     have FD:¬m.to<0:=by omega
     have FC:¬(a.sts.length:Int)<=m.to:=by omega
     clear n4 n5 ht;go_wp2_with fail
     all_goals first | (exfalso;omega) | skip
     go_quiet (fail);go_wp2_with fail;go_ret;exact⟨zr he.out.symm,by repeat (first | exact se.out | refine yv ?_ _)⟩
end
section
open Go.RowKit
attribute [local go_sem] Oper.semAt_some
def okB(a:Ad)(m:Mv):Bool:=(a.at_ m.to).all fun k=>ko m k
theorem grows_all{a:Ad}(h:∀t (ht:t<a.sts.length),∀m∈a.sts[t],okB a m=Au):xF a=Au:=by
 unfold xF;rw[LH];intro m hm;obtain⟨l,hl,rI⟩:=Nw.1 hm;obtain⟨t,ht,rfl⟩:=NG.1 hl;exact h t ht m rI
theorem grows_none{a:Ad}{m k:Mv}(hm:m∈a.mvs)(hk:k∈a.at_ m.to)(h:ko m k=Aw):xF a=Aw:=by
 rw[Bool.eq_false_iff];intro hg;unfold xF at hg;have:=LH.1 (LH.1 hg m hm) k hk;rw[this] at h
 cases h
theorem at_get{a:Ad}{t:Nat}(h:t<a.sts.length){x:Int}(hx:x=(t:Int)):a.at_ x=a.sts[t]:=by
 subst hx;unfold Ad.at_;rw[Lo,Lh,Lm h];rfl
theorem J8(a:Ad)(hf:FewA a)(hz:zG a a.sts=0)(SV:Bb)(ks:Nat)(w:Ba)(hS:SAt w w.heap.size SV a.sts) :
  An Al 158 #[Ai #[O U a.n,I SV a.sts.length ks]] w fun e w'=>e=Ak (Ah (xF a))/\Am w.heap.size w w':=by
 have iE:=hf.1;have rB:=zH (fun l hl=>hf.each (l:=l) hl);have HZ:=zH (@xL a hz);have IY:=zH (@grows_all a);have TI:=zH (fun m k hm hk h=>@grows_none a m k hm hk h);obtain⟨G,hG⟩:=Kk (xF a);rw[hG] at IY ⊢;simp only[hG] at TI;go_enter func158,ntmps158;go_wp2_with fail;obtain⟨w1,ae⟩:=Kk (w.alloc (Ag #[O U a.n,I SV a.sts.length ks] 27));have cj:=zx w (Ag #[O U a.n,I SV a.sts.length ks] 27);have aD:Am w.heap.size w w1:=by rw[<-ae];exact zU w _
 have fa:w1.heap.size=w.heap.size+1:=by rw[<-ae];simp
 rw[ae] at cj ⊢;have cX:=zH cj;have cI:=zH aD;have HS:=zH ((hS.keep aD).more (by omega:w.heap.size<=w1.heap.size))
 go_loopw [3] (fun i wr=>∃s:Nat,s<=a.sts.length/\i=O U (s:Int)/\Aq (∀t (ht:t<a.sts.length),t<s->∀m∈a.sts[t],okB a m=Au)/\Aq (Am w1.heap.size w1 wr)) (fun i _=>a.sts.length-(Ap i).toNat)
 case atStart=>exact⟨0,by omega,rfl,(fun t ht h0=>by omega),Li _ _⟩
 obtain⟨s,hs,rfl,fW,bN⟩:=hrel;have cH:=La bN.out cX.out;have q1:=zh cH 1 rfl
 by_cases ac:s<a.sts.length
 case neg=>
  obtain rfl:s=a.sts.length:=by omega
  have hg:=zH (IY.out (fun t ht=>fW.out t ht ht));go_wp2_with fail;go_ret;exact⟨zz hg.out.symm,cI.out.trans (bN.out.mono (by omega))⟩
 case pos=>
 obtain⟨b,o,A',k',rfl,lw,c1,hM⟩:=(HS.out.keep bN.out).at_ s ac;have ig:=rB.out _ (Le ac);have OI:Aq (∀m∈a.sts[s],m∈a.mvs):=fun m hm=>Nw.2 ⟨_,Le ac,hm⟩
 have ns:Aq ((∀m∈a.sts[s],okB a m=Au)->∀t (ht:t<a.sts.length),t<s+1->∀m∈a.sts[t],okB a m=Au):=fun h t ht h2 m hm=>by
  by_cases e:t=s
  . subst e;exact h m hm
  . exact fW.out t ht (by omega) m hm
 have ef:Aq (∀wr:Ba,Am w1.heap.size w1 wr->wr.cell? ⟨b,o+s,Z⟩=J (.slice A' (a.sts[s]).length k')/\MAt wr w1.heap.size A' a.sts[s]):=fun wr' dZ=>
  ⟨((dZ.cell (p:=⟨b,_,Z⟩) lw).trans ((bN.out.cell (p:=⟨b,_,Z⟩) lw).symm)).trans c1,(by
   obtain⟨b2,o2,A2,k2,e2,az,c2,Ei⟩:=(HS.out.keep dZ).at_ s ac
   cases e2
   have:=(((dZ.cell (p:=⟨b,o+s,Z⟩) lw).trans ((bN.out.cell (p:=⟨b,o+s,Z⟩) lw).symm)).trans c1).symm.trans c2
   cases this
   exact Ei)⟩
 obtain⟨L,hL⟩:=Kk (a.sts[s]);rw[hL] at c1 ig OI ns ef;go_wp2_with fail
 go_loopw [4] (fun i wr=>∃j:Nat,j<=L.length/\i=O U (j:Int)/\Aq (∀u (hu:u<L.length),u<j->okB a L[u]=Au)/\Aq (Am w1.heap.size w1 wr)) (fun i _=>L.length-(Ap i).toNat)
 case atStart=>exact⟨0,by omega,rfl,(fun u hu h0=>by omega),bN⟩
 obtain⟨j,hj,rfl,DC,bN⟩:=hrel;have cH:=La bN.out cX.out;have q1:=zh cH 1 rfl;obtain⟨c1,hM⟩:=ef.out _ bN.out
 by_cases cU:j<L.length
 case neg=>
  obtain rfl:j=L.length:=by omega
  have hg:=zH (ns.out (fun m hm=>by
   obtain⟨u,hu,rfl⟩:=NG.1 hm
   exact DC.out u hu hu))
  go_wp2_with fail
  go_roundw
  case rel=>exact⟨s+1,by omega,by go_num,hg,bN⟩
  simp[Ap];omega
 case pos=>
 obtain⟨b',o',e',hbB',d0,d1,d2,d3,d4,d5,d6,d7⟩:=hM.row j cU
 cases e'
 have HLj:Aq (L[j]∈a.mvs):=OI.out _ (Le cU)
 have IW:Aq (okB a L[j]=Au->∀u (hu:u<L.length),u<j+1->okB a L[u]=Au):=fun h u hu h2=>by
  by_cases e:u=j
  . subst e;exact h
  . exact DC.out u hu (by omega)
 obtain⟨m,hm⟩:=Kk (L[j]);rw[hm] at d0 d1 d2 d3 d4 d5 d6 d7 HLj IW;obtain⟨z1,z2,z3,z4⟩:=HZ.out m HLj.out;obtain⟨f1,M9,Uo⟩:=qP z1;obtain⟨t,et⟩:=Ls z3;have rF:t<a.sts.length:=by omega
 have bG:=at_get rF et;have HKt:Aq (∀y∈a.at_ m.to,y∈a.mvs):=by rw[bG];exact fun y hy=>Nw.2 ⟨_,Le rF,hy⟩
 have Mc:=rB.out _ (Le rF)
 have f':Aq (∀wr:Ba,Am w1.heap.size w1 wr->∃A' c,wr.cell? ⟨b,o+t,Z⟩=J (.slice A' (a.at_ m.to).length c)/\MAt wr w1.heap.size A' (a.at_ m.to)):=fun wr' dZ=>by
  rw[bG];obtain⟨b2,o2,A2,k2,e2,az,c2,Ei⟩:=(HS.out.keep dZ).at_ t rF
  cases e2
  exact⟨A2,k2,c2,Ei⟩
 rw[<-bG] at Mc;have nn:Aq ((∀y∈a.at_ m.to,ko m y=Au)->okB a m=Au):=fun h=>LH.2 h
 obtain⟨L2,MS⟩:=Kk (a.at_ m.to)
 have oh:Aq (∀y∈L2,ko m y=Aw->G=Aw):=by
  rw[<-MS];exact fun y hy h=>TI.out m y HLj.out hy h
 rw[MS] at HKt Mc f' nn;have aq:=zH M9;have HET:=zH et;rw[et] at d7;clear hM hm z1 z2 z3 z4 et M9 bG MS DC;go_wp2_with fail;obtain⟨wm,oJ⟩:=Kk (wr.alloc (Ag m.cells 78));have sn:=zx wr (Ag m.cells 78);have hmB:Am w1.heap.size w1 wm:=by rw[<-oJ];exact bN.out.trans ((zU wr _).mono bN.out.size)
 have rG:wm.heap.size=wr.heap.size+1:=by rw[<-oJ];simp
 have oz:=bN.out.size;rw[oJ] at sn;unfold Mv.cells at oJ sn;rw[HET.out] at oJ sn;rw[oJ];obtain⟨g,hg⟩:=Kk wr.heap.size;rw[hg] at sn rG oz ⊢;have HMB:=zH sn;have HMW:=zH hmB
 go_loopw [6] (fun i wx=>∃q:Nat,q<=L2.length/\i=O U (q:Int)/\Aq (∀u (hu:u<L2.length),u<q->ko m L2[u]=Au)/\Aq (Am wm.heap.size wm wx)) (fun i _=>L2.length-(Ap i).toNat)
 case atStart=>exact⟨0,by omega,rfl,(fun u hu h0=>by omega),Li _ _⟩
 obtain⟨q,hq,rfl,Sx,ce⟩:=hrel;have aO:=HMW.out.trans (ce.out.mono (by omega));have cH:=La aO cX.out;have q1:=zh cH 1 rfl;have iD:=Lb ce.out (by omega) HMB.out;have p6:=zh iD 6 rfl;have p7:=zh iD 7 rfl;obtain⟨A2,k2,c2,Ei⟩:=f'.out _ aO;have eS:=zH aO
 by_cases tJ:q<L2.length
 case neg=>
  obtain rfl:q=L2.length:=by omega
  have hg:=zH (IW.out (nn.out (fun y hy=>by
   obtain⟨u,hu,rfl⟩:=NG.1 hy
   exact Sx.out u hu hu)))
  go_wp2_with fail
  go_roundw
  case rel=>exact⟨j+1,by omega,by go_num,hg,eS⟩
  simp[Ap];omega
 case pos=>
 obtain⟨b3,o3,e3,ck,_,_,_,_,_,_,c6,_⟩:=Ei.row q tJ;subst e3;have dC:=Le tJ;obtain⟨f2,CW,Un⟩:=qP (HZ.out _ (HKt.out _ dC)).1;have Da:=zH (oh.out _ dC)
 have HQ2:Aq (ko m L2[q]=Au->∀u (hu:u<L2.length),u<q+1->ko m L2[u]=Au):=fun h u hu h2=>by
  by_cases e:u=q
  . subst e;exact h
  . exact Sx.out u hu (by omega)
 have nI:ko m L2[q]=(f1 &&& f2==f1):=by unfold ko;rw[aq.out,CW,Lo,Lo]
 have HC:=zH (fun w'=>inside_any f1 f2 Uo Un w');obtain⟨y,hy⟩:=Kk (L2[q]);rw[hy] at c6 Da HQ2 nI CW;obtain⟨bo,dN⟩:∃bo,(f1 &&& f2==f1)=bo:=⟨_,rfl⟩;rw[dN] at nI HC;have sK:=zH nI;have he1:=aq.out;rw[he1] at p6;rw[CW] at c6
 cases bo with
 | true=>
  have hg:=zH (HQ2.out sK.out);go_wp2_with fail;go_quiet ((go_at_call 179;exact(HC.out _).mono fun e w' h=>⟨h.1,_,h.2.symm⟩));go_wp2_with fail
  go_roundw
  case rel=>exact⟨q+1,by omega,by go_num,hg,yv ce.out _⟩
  case measure=>simp[Ap];omega
 | false=>
  have hg:=zH (Da.out sK.out);go_wp2_with fail;go_quiet ((go_at_call 179;exact(HC.out _).mono fun e w' h=>⟨h.1,_,h.2.symm⟩));go_wp2_with fail;go_ret;exact⟨zz hg.out.symm,yv (cI.out.trans (eS.out.mono (by omega))) _⟩
theorem QG(a:Ad)(hf:FewA a)(SV:Bb)(ks:Nat)(w:Ba)(hS:SAt w w.heap.size SV a.sts) :
  An Al 135 #[Ai #[O U a.n,I SV a.sts.length ks]] w fun e w'=>e=Ak (O U (qn a))/\Am w.heap.size w w':=by
 have iE:=hf.1;have mD:=hf.2;obtain⟨rI,hmt,lZ⟩:=QU hf;have Tx:=zH (fun (w':Ba) (h:SAt w' w'.heap.size SV a.sts)=>Z8 a SV ks hmt lZ rI w' h);have OQ:=zH (fun hz (w':Ba) (h:SAt w' w'.heap.size SV a.sts)=>J8 a hf hz SV ks w' h);have IS:=zH (fun (A:Bb) (k0:Nat) (l:List Mv) (hl:l.length<=40) (k:Nat) (ac:k<l.length) (w':Ba) (h:MAt w' w'.heap.size A l)=>rmove_any a SV ks iE A k0 l hl k ac w' h);have rB:=zH (fun l hl=>hf.each (l:=l) hl);have aq:=zH (@uq a);have am:=zH (@gt a);have aM:=zH (fun h h2=>@uo a h h2 hf);have dR:=zH (fun h h2=>@ur a h h2 hf);obtain⟨E,hE⟩:=Kk (qn a);rw[hE] at aq am aM dR ⊢;obtain⟨ml,Lt⟩:=Kk a.mvs.length;rw[Lt] at Tx mD;go_enter func135,ntmps135
 by_cases hr:a.n<1\/5<a.n
 . have hR:=zH (aq.out hr)
   have HN:=zH hr;go_wp2_with fail
   all_goals first | (exfalso;have:=HN.out;omega) | skip
   all_goals
    go_ret;exact⟨zr hR.out.symm,zU w _⟩
 have r1:¬a.n<1:=by omega
 have r2:¬5<a.n:=by omega
 have am:=zH (am.out hr);have aM:=zH (aM.out hr);have dR:=zH (dR.out hr);obtain⟨w1,ae⟩:=Kk (w.alloc (Ag #[O U a.n,I SV a.sts.length ks] 27));have cj:=zx w (Ag #[O U a.n,I SV a.sts.length ks] 27);have aD:Am w.heap.size w w1:=by rw[<-ae];exact zU w _
 have fa:w1.heap.size=w.heap.size+1:=by rw[<-ae];simp
 rw[ae] at cj;have cX:=zH cj;have cI:=zH aD;have HS:=zH ((hS.keep aD).more (by omega:w.heap.size<=w1.heap.size));have ak:=zH ae;clear hS ae aD;obtain⟨q0,q1,_⟩:=Ke cj
 by_cases hz:a.sts.length<1
 . have hR:=zH (am.out hz)
   clear am aM dR Tx OQ IS rB;go_wp2_with fail;rw[ak.out];go_wp2_with fail;go_ret;exact⟨zr hR.out.symm,cI.out⟩
 have cY:1<=a.sts.length:=by omega
 have G3:=zH (aM.out cY);have G4:=zH (dR.out cY);clear am hz aM dR;obtain⟨F,hF⟩:=Kk (zG a a.sts);have HF:Aq (F=zG a (a.sts.drop 0)):=by rw[Ni];exact hF.symm
 rw[hF] at G3 G4 OQ;clear hF;have g1:=zH (fun k h=>@vJ a a.sts k h);have g2:=zH (fun k h=>@uz a a.sts k h);have g3:=zH (fun k h=>@vI a a.sts k h);go_wp2_with fail;rw[ak.out];refine(Tx.out w1 HS.out).mono ?_;rintro e w2 ⟨rfl,aC⟩;have ah:Am w1.heap.size w1 w2:=by rw[aC];exact zU w1 _
 have aT:=zH ah;have cH:=La ah cX.out;have q1:=zh cH 1 rfl;clear aC ah cH cj Tx ak;go_wp2_with fail
 all_goals first | (exfalso;omega) | skip
 clear q1
 go_loopw [3] (fun i wr=>∃s:Nat,s<=a.sts.length/\i=O U (s:Int)/\Aq (F=zG a (a.sts.drop s))/\Aq (Am w1.heap.size w1 wr)) (fun i _=>a.sts.length-(Ap i).toNat)
 case atStart=>exact⟨0,by omega,rfl,HF,aT⟩
 obtain⟨s,hs,rfl,av,bN⟩:=hrel;have cH:=La bN.out cX.out;obtain⟨q0,q1,_⟩:=Ke cH
 by_cases ac:s<a.sts.length
 case neg=>
  obtain rfl:s=a.sts.length:=by omega
  have GH:F=0:=av.out.trans (g3.out _ rfl);have hR:=zH (G4.out GH);have HG:=zH (OQ.out GH wr ((HS.out.keep bN.out).more bN.out.size));obtain⟨gb,lr⟩:=Kk (xF a);rw[lr] at hR HG;clear G3 G4 g1 g2 g3 av lr GH OQ IS rB cH;go_wp2_with fail;refine HG.out.mono ?_;rintro e w3 ⟨rfl,al⟩;have bK:=zH (cI.out.trans ((Lc bN.out al).mono (by omega)));clear HG al q1
  cases gb with
  | true=>
   go_wp2_with fail;go_ret;exact⟨zr hR.out.symm,bK.out⟩
  | false=>
   go_wp2_with fail;go_ret;exact⟨zr hR.out.symm,bK.out⟩
 case pos=>
 have bh:=zH (g1.out s ac);have bk:=zH (g2.out s ac);obtain⟨b,o,A',k',e',lw,c1,hM⟩:=(HS.out.keep bN.out).at_ s ac;subst e';have ig:=rB.out _ (Le ac)
 have ef:Aq (∀wr:Ba,Am w1.heap.size w1 wr->wr.cell? ⟨b,o+s,Z⟩=J (.slice A' (a.sts[s]).length k')/\MAt wr w1.heap.size A' a.sts[s]):=fun wr' dZ=>
  ⟨((dZ.cell (p:=⟨b,_,Z⟩) lw).trans ((bN.out.cell (p:=⟨b,_,Z⟩) lw).symm)).trans c1,(by
   obtain⟨b2,o2,A2,k2,e2,az,c2,Ei⟩:=(HS.out.keep dZ).at_ s ac
   cases e2
   have:=(((dZ.cell (p:=⟨b,o+s,Z⟩) lw).trans ((bN.out.cell (p:=⟨b,o+s,Z⟩) lw).symm)).trans c1).symm.trans c2
   cases this
   exact Ei)⟩
 obtain⟨L,hL⟩:=Kk (a.sts[s]);rw[hL] at c1 ig ef bh bk;clear hM hL g1 g2 g3 cH rB OQ
 by_cases Cz:L.length=0
 . have he:=gK (a:=a) Cz
   rw[he] at bh;have BC:=av.out.trans (bh.out (by decide));have hR:=zH ((G3.out (by rw[BC];decide)).trans BC);rw[Cz] at c1;clear G3 G4 bh bk av he BC Cz ig ef IS;go_wp2_with fail;go_ret;exact⟨zr hR.out.symm,cI.out.trans (bN.out.mono (by omega))⟩
 have sH:=zH (ZU (a:=a) Cz);have e0:(((L.length:Nat):Int)==0)=Aw:=by simpa using Cz
 have e1:¬((L.length:Nat):Int)=0:=by omega
 have b1:=zH (fun k h=>@gZ a L k h);have b2:=zH (fun k h=>@Yh a L k h);have b3:=zH (@gY a L);obtain⟨V,hV⟩:=Kk (qt a L);rw[hV] at sH bh bk;clear hV Cz;go_wp2_with fail;clear q1 c1
 go_loopw [4] (fun i wr=>∃j:Nat,j<=L.length/\i=O U (j:Int)/\Aq (V=xO a L j)/\Aq (Am w1.heap.size w1 wr)) (fun i _=>L.length-(Ap i).toNat)
 case atStart=>exact⟨0,by omega,rfl,sH,bN⟩
 clear bN sH;obtain⟨j,hj,rfl,DC,bN⟩:=hrel;have cH:=La bN.out cX.out;obtain⟨q0,q1,_⟩:=Ke cH;obtain⟨c1,hM⟩:=ef.out _ bN.out
 by_cases cU:j<L.length
 case neg=>
  obtain rfl:j=L.length:=by omega
  have hV0:V=0:=DC.out.trans b3.out;have hR:=zH (av.out.trans (bk.out hV0));clear DC hM b1 b2 b3 bh bk av hV0 cH ef IS G3 G4;go_wp2_with fail
  go_roundw
  case rel=>exact⟨s+1,by omega,by go_num,hR,bN⟩
  simp[Ap];omega
 case pos=>
 have hC:=IS.out A' k' L ig j cU;have x1:=b1.out j cU;have x2:=b2.out j cU;obtain⟨ev,dY⟩:=Kk (xV a (zD L j) L[j]);rw[dY] at hC x1 x2;have HC:=zH hC;have X1:=zH x1;have X2:=zH x2;have tm:=zH hM;have HBK:=zH cH;have i1:(0:Int)<=(s:Int):=by omega
 have i2:(s:Int)<(a.sts.length:Int):=by omega
 clear hC x1 x2 dY hM cH b1 b2 b3 IS;go_wp2_with fail
 go_still_tail 7,(by kernel_rfl)
 change wpList _ _ _ _ _ wr.drew;obtain⟨wd,oy⟩:∃wd,wd=wr.drew:=⟨_,rfl⟩;have BLd:Aq (Am w1.heap.size w1 wd):=by rw[oy];exact bN.out.drew
 have HMd:Aq (MAt wd wd.heap.size A' L):=by rw[oy];exact(tm.out.keep (Li _ wr).drew).more bN.out.size
 rw[<-oy];clear oy tm q1 c1 HBK;go_wp2_with fail;refine(HC.out wd HMd.out).mono ?_;rintro e w3 ⟨rfl,al⟩;have se:=zH (Lc BLd.out al)
 by_cases he:ev=0
 . subst he
   have hR:=zH (DC.out.trans (X2.out (by simp)));go_wp2_with fail
   go_roundw
   case rel=>exact⟨j+1,by omega,by go_num,hR,se⟩
   simp[Ap];omega
 have hVv:=DC.out.trans (X1.out he);have BC:=(av.out.trans (bh.out (by rw[hVv];exact he))).trans hVv;have hR:=zH ((G3.out (by rw[BC];exact he)).trans BC);have e2:(ev != 0)=Au:=by simpa using he
 go_wp2_with fail;go_ret;exact⟨zr hR.out.symm,cI.out.trans (se.out.mono (by omega))⟩
end
section
open Go.RowKit Go.Shelf
section
variable {P:Program}
theorem vO{fn:Func}{tmps:Array Ar}{R:Ending->Ba->Prop}{B n:Nat} :
  ∀(rs:List Nat) (w:Ba),rs.Nodup->(∀r∈rs,B<=r/\w.heap[r]?=J (.deferred (J [])))->(∀W,Shut B w W->∃v,(results fn tmps).run P W=.ok v W/\R (Ak v) W) ->
   LeavesInM Fence.wide n P fn tmps R (rs.map (fun r=>{ target:=.collected r,args:=#[] })) .returning w
 | [],w,_,_,hR=>hR w (Shut.refl _ _)
 | r::rs,w,hn,hm,hR=>by
  obtain⟨hr,DG⟩:=Pr.1 hn;obtain⟨hB,hk⟩:=hm r (by simp);refine⟨by simp,.inl ⟨r,_,rfl,run_takeDeferred hk,?_⟩⟩;refine vO rs _ DG (fun r' sW=>⟨(hm r' (by simp[sW])).1,?_⟩) (fun W hW=>hR W ?_)
  . rw[N9 (by rintro rfl;exact hr sW)]
    exact(hm r' (by simp[sW])).2
  . refine⟨((Li B w).grown (grownBy_putObj' w r (.deferred Z)) (by have:=(Ln.1 hk).1;omega) (fun k e=>by cases e;exact hB)).trans hW.below,fun k o ho hc=>?_⟩
    refine hW.same k o ?_ hc
    by_cases e:k=r
    . subst e;rw[hk] at ho;cases ho;cases hc
    . exact(N9 e).trans ho
theorem xj{fn:Func}{R:Ending->Ba->Prop}{a:Act}{w:Ba}{B:Nat}(hm:Marks B a.defers w)
  (hR:∀W,Shut B w W->∃v,(results fn a.tmps).run P W=.ok v W/\R (Ak v) W):bodyPostM Fence.wide 9 P fn R .ret a w:=by
 obtain⟨rs,hd,hn,hk⟩:=hm;show LeavesInM Fence.wide 9 P fn a.tmps R a.defers .returning w;rw[hd];exact vO rs w hn hk hR
theorem kR{β:Type}{g:Operand}{ps:Array Tmp}{assign body:Code}{Q:Exit->Act->Ba->Prop}{a:Act}{w:Ba}
  {gf:Nat} {lb:Array Ar} (hg:a.eval g=.func (.func gf) #[] lb) (eg:Enters P gf)
  {nU:β->Array Ar} {K:Nat->Prop} {xs:List β} (FH:Qe P gf lb nU K xs w) (hK:∀k,K k->k<w.heap.size) (fW:∀x,(nU x).size=ps.size)
  (Ac:List { x:β // x∈xs }->Ba->Prop) (Ix:Code->List { x:β // x∈xs }->Ba->Prop) (hI:OwnFrom w.heap.size Ac) (Wz:∀c,OwnFrom w.heap.size (Ix c)) (h0:Ac [] w)
  (C:β->Array Ar) (T:TypeId) (a₁:{ x:β // x∈xs }->Nat->Act)
  (nO:∀(l:Nat) (pre:List { x:β // x∈xs }) (x:{ x:β // x∈xs }) (W:Ba) (K':Act->Ba->Prop),Ac pre W->(∀g,g=W.heap.size->Ac pre (W.alloc (Ag (C x.1) T))->K' (a₁ x g) (W.alloc (Ag (C x.1) T))) ->
   assign.wpIn (Fence.wide.inRound l) 7 P (Exit.then K' (fun _ _ _=>False)) { tmps:=(ps.zip (nU x.1)).foldl (fun t (p,v)=>t.setIfInBounds p v) a.tmps,defers:=[] } W)
  (t':∀(l:Nat) (pre:List { x:β // x∈xs }) (x:{ x:β // x∈xs }) (g:Nat) (W:Ba),w.heap.size<=g->W.heap[g]?=J (Ag (C x.1) T (0,0))->Ac pre W->pre.length<xs.length->body.wpIn (Fence.wide.inRound l) 7 P (ownPostG w.heap.size (KeepB K) Ac Ix (pre++[x]) W) (a₁ x g) W)
  (tY:∀(D:Nat) (ys:List { x:β // x∈xs }) (W:Ba),w.heap.size<=D->ys.map (·.1)=xs->Ac ys W->W.heap[D]?=J (.deferred (J []))->Q .normal { a with defers:={ target:=.collected D,args:=#[] }::a.defers } W)
  (tF:∀(D:Nat) (c:Code) (pre:List { x:β // x∈xs }) (W:Ba),w.heap.size<=D->pre.map (·.1) <+: xs->Ix c pre W->W.heap[D]?=J (.deferred (J []))->c.wp P Q { a with defers:={ target:=.collected D,args:=#[] }::a.defers } W)
  (hbig:∀pre W,Ac pre W->w.heap.size<=W.heap.size) :
  (Code.rangeFunc g ps assign body).wp P Q a w:=
 (R6 (n:=9)).1 (wpIn_rangeFunc_ownH (F:=Fence.wide) (n:=9) rfl (by omega) hg trivial eg (FH 8 (by omega)) KeepB.trans
  (fun W l o o' hl _ _ _=>KeepB.putObj (fun hk=>by have:=hK l hk;omega) o') (Li _ _) (fun x=>fW x.1) Ac Ix hI Wz h0
  (fun x a' W=>∃g,a'=a₁ x g/\w.heap.size<=g/\W.heap[g]?=J (Ag (C x.1) T (0,0)))
  (fun x a' _ W W' row ⟨g,e,DQ,hc⟩ px hr=>⟨g,e,DQ,(Nd px (fun r e=>(hr r e).2) hc rfl).trans hc⟩)
  (fun l pre x W K' hi aa=>nO l pre x W K' hi fun g DR rM=>by
   refine aa _ _ ?_ ?_ rM ⟨g,rfl,by rw[DR];exact hbig _ _ hi,by rw[DR];exact zx _ _⟩
   . exact⟨by simp,fun k o _ hk ho=>(NP W _ k (Ln.1 hk).1).trans hk⟩
   . exact KeepB.alloc _ _ _)
  (fun l pre x a' W _ _ hi ⟨g,e,DQ,hc⟩ hl=>by subst e;exact t' l pre x g W DQ hc hi hl) tY
  (fun D c pre W hD hS hc hk=>R6.2 (tF D c pre W hD hS hc hk)))
end
structure RsIn(B:Nat)(C:Array Ar)(T:TypeId)(r:Int)(w W:Ba):Prop where
 below:Am B w W
 b0:W.heap[B]?=J (Ag C T (0,0))
 b1:W.heap[B+1]?=J (Ag #[O U r] 47 (0,0))
theorem RsIn.turn{B:Nat}{C:Array Ar}{T:TypeId}{r:Int}{w W W':Ba}{row:Option Nat}(h:RsIn B C T r w W)(hg:W.grownBy W' row)(hr:∀r,row=J r->B<=r/\∃o:Obj,W.heap[r]?=J o/\o.isCells=Aw):RsIn B C T r w W':=
 ⟨h.below.grown hg (by have:=(Ln.1 h.b0).1;omega) (fun k hk=>(hr k hk).1),(Nd hg (fun r e=>(hr r e).2) h.b0 rfl).trans h.b0,(Nd hg (fun r e=>(hr r e).2) h.b1 rfl).trans h.b1⟩
theorem RsIn.on{B D:Nat}{C:Array Ar}{T:TypeId}{r:Int}{w W W':Ba}(h:RsIn B C T r w W)(hb:Am D W W')(hD:B+2<=D):RsIn B C T r w W':=
 ⟨h.below.trans (hb.mono (by omega)),Lb hb (by omega) h.b0,Lb hb (by omega) h.b1⟩
theorem RsIn.set{B:Nat}{C:Array Ar}{T:TypeId}{r:Int}{w W:Ba}(h:RsIn B C T r w W)(r':Int):RsIn B C T r' w (W.setCell ⟨B+1,0,Z⟩ (O U r')):=by
 obtain⟨x1,x2,x3⟩:=qK h.b1 (O U r');exact⟨h.below.setCell (by simp) _,(x3 B (by omega)).trans h.b0,x1⟩
theorem RsIn.keeps{B D:Nat}{C:Array Ar}{T:TypeId}{r:Int}{w W:Ba}(h:RsIn B C T r w W)(r':Int):KeepsFrom D W (W.setCell ⟨B+1,0,Z⟩ (O U r')):=by
 obtain⟨x1,x2,x3⟩:=qK h.b1 (O U r');refine⟨by omega,fun k o _ hk ho=>?_⟩;have k1:k≠B+1:=by rintro rfl;rw[h.b1] at hk;cases hk;cases ho
 exact(x3 k k1).trans hk
theorem xX{D:Nat}{W W':Ba}(h:Am W.heap.size W W'):KeepsFrom D W W':=⟨h.size,fun k _ _ hk _=>(h.block k (Ln.1 hk).1).trans hk⟩
theorem RsIn.cell{B:Nat}{C:Array Ar}{T:TypeId}{r:Int}{w W X:Ba}(h:RsIn B C T r w W)(hS:Shut B W X):X.cell? ⟨B+1,0,Z⟩=J (O U r):=hS.cell (zh h.b1 0 rfl)
end
section
open Go.RowKit Go.Shelf
attribute [local go_sem] Oper.semAt_some
theorem YN(a:Ad)(hf:FewA a)(SV:Bb)(ks:Nat)(w:Ba)(hS:SAt w w.heap.size SV a.sts) :
  An Al 130 #[Ai #[O U a.n,I SV a.sts.length ks]] w fun e w'=>e=Ak (O U (qn a))/\Am w.heap.size w w':=by
 have iE:=hf.1;have pb:=zH (fun (w':Ba) (h:SAt w' w'.heap.size SV a.sts)=>sized_any a hf SV ks w' h);have en:=zH (fun (A:Bb) (k0:Nat) (l:List Mv) (hl:l.length<=40) (w':Ba) (h:MAt w' w'.heap.size A l)=>state_any a SV ks iE A k0 l hl w' h);have HI:=zH (fun (bx:Nat) (w':Ba) (hb:w'.heap[bx]?=J (Ag #[O U a.n,I SV a.sts.length ks] 27)) (h:SAt w' w.heap.size SV a.sts) (hB:w.heap.size<=w'.heap.size)=>jW a hf SV ks w.heap.size bx w' hb h hB);have rB:=zH (fun l hl=>hf.each (l:=l) hl);have aq:=zH (@uq a);have am:=zH (@gt a);have aM:=zH (fun h h2=>@uo a h h2 hf);have dR:=zH (fun h h2=>@ur a h h2 hf);obtain⟨E,hE⟩:=Kk (qn a);rw[hE] at aq am aM dR ⊢;have HS:=zH hS;clear hS hE hf;refine yr func130 rfl ?_;simp only[ntmps130,List.size_toArray,List.length_cons,List.length_nil,Nat.reduceAdd,Nat.reduceSub,Array.replicate_succ,Array.replicate_zero,List.push_toArray,List.append_toArray,List.nil_append,List.cons_append]
 by_cases hr:a.n<1\/5<a.n
 . have hR:=zH (aq.out hr)
   have HN:=zH hr;clear aq am aM dR hr pb en HI rB;go_wp2_with fail
   all_goals first | (exfalso;have:=HN.out;omega) | skip
   all_goals
    refine xj (B:=w.heap.size) (Marks.nil _ _) ?_;intro W hX;have c1:=hX.cell (zh (zx (w.alloc (Ag #[O U a.n,I SV a.sts.length ks] 27)) (Ag #[O U 2] 47)) 0 rfl);rw[NM] at c1;refine⟨O U 2,?_,zr hR.out.symm,(un _ _ _).trans hX.below⟩;clear hX hR HN;simp[results,results130,go_sem,c1]
 have r1:¬a.n<1:=by omega
 have r2:¬5<a.n:=by omega
 have am:=zH (am.out hr);have aM:=zH (aM.out hr);have dR:=zH (dR.out hr);clear hr aq;go_wp2_with fail
 all_goals first | (exfalso;omega) | skip
 obtain⟨w2,aC,b0,b1,bL,hB⟩:=xk w #[O U a.n,I SV a.sts.length ks] #[O U 0] 27 47;rw[aC];have H0:Aq (RsIn w.heap.size #[O U a.n,I SV a.sts.length ks] 27 0 w w2):=⟨hB,b0,b1⟩;have HSw:=zH ((HS.out.keep hB).more hB.size);clear aC b0 b1 hB;refine(pb.out w2 HSw.out).mono ?_;rintro e w3 ⟨rfl,hb⟩;have H1:=zH (H0.out.on hb bL);have dx:w.heap.size+2<=w3.heap.size:=by have:=hb.size;omega
 obtain⟨q0,q1,_⟩:=Ke H1.out.b0;have p0:=zh H1.out.b1 0 rfl;have f0:=zi H1.out.b1 0;clear hb HSw H0 pb
 by_cases hz:a.sts.length<1
 . have hR:=zH (am.out hz)
   rw[Lj hz];clear am aM dR en HI rB;go_wp2_with fail;refine xj (B:=w.heap.size) (Marks.nil _ _) ?_;intro W hX;have hI:=H1.out.set 5;have c1:=hI.cell hX;refine⟨O U 5,?_,zr hR.out.symm,hI.below.trans hX.below⟩;clear hX hR hI;simp[results,results130,go_sem,c1]
 have cY:1<=a.sts.length:=by omega
 rw[Lg hz];have G3:=zH (aM.out cY);have G4:=zH (dR.out cY);clear am hz aM dR;obtain⟨F,hF⟩:=Kk (zG a a.sts);have HF:Aq (F=zG a (a.sts.drop 0)):=by rw[Ni];exact hF.symm
 have GT:=zH (fun h=>@xL a (hF.trans h));rw[hF] at G3 G4;clear hF;have g1:=zH (fun k h=>@vJ a a.sts k h);have g2:=zH (fun k h=>@uz a a.sts k h);have g3:=zH (fun k h=>@vI a a.sts k h);go_wp2_with fail
 all_goals first | (exfalso;omega) | skip
 clear q0 q1 p0 f0
 go_loopw [27] (fun i wr=>∃k:Nat,k<=a.sts.length/\i=O U (k:Int)/\Aq (F=zG a (a.sts.drop k))/\Aq (RsIn w.heap.size #[O U a.n,I SV a.sts.length ks] 27 0 w wr)/\w.heap.size+2<=wr.heap.size) (fun i _=>a.sts.length-(Ap i).toNat)
 case atStart=>exact⟨0,by omega,rfl,HF,H1,dx⟩
 obtain⟨k,hk,rfl,av,Bz,oz⟩:=hrel;clear HF;obtain⟨q0,q1,_⟩:=Ke Bz.out.b0;have p0:=zh Bz.out.b1 0 rfl;have f0:=zi Bz.out.b1 0
 by_cases ac:k<a.sts.length
 . have bh:=zH (g1.out k ac)
   have bk:=zH (g2.out k ac);obtain⟨b,o,A',k',e',lw,c1,hM⟩:=(HS.out.keep Bz.out.below).at_ k ac;have ig:=rB.out _ (Le ac);have HC:=zH (en.out A' k' (a.sts[k]'ac) ig);have HMr:=zH (hM.more Bz.out.below.size);obtain⟨L,hL⟩:=Kk (a.sts[k]);rw[hL] at c1 ig HC HMr bh bk;obtain⟨ev,dY⟩:=Kk (qt a L);rw[dY] at HC bh bk;subst e';clear hM hL dY g1 g2 g3 en HI rB GT;go_wp2_with fail;refine(HC.out _ HMr.out).mono ?_;rintro e w4 ⟨rfl,hb⟩;have H4:=zH (Bz.out.on hb oz);have iU:w.heap.size+2<=w4.heap.size:=by have:=hb.size;omega
   obtain⟨q0,q1,_⟩:=Ke H4.out.b0;have p0:=zh H4.out.b1 0 rfl;have f0:=zi H4.out.b1 0;clear hb HC
   by_cases he:ev=0
   . subst he
     have hR:=zH (av.out.trans (bk.out (by simp)));clear bh bk av;go_wp2_with fail
     go_roundw
     case rel=>exact⟨k+1,by omega,by go_num,hR,H4,iU⟩
     simp[Ap];omega
   have BC:=av.out.trans (bh.out he);have hR:=zH ((G3.out (by rw[BC];exact he)).trans BC);have e0:(ev != 0)=Au:=by simpa using he
   clear bh bk av G3 G4 BC he;go_wp2_with fail;refine xj (B:=w.heap.size) (Marks.nil _ _) ?_;intro W hX;have hI:=H4.out.set ev;have c1:=hI.cell hX;refine⟨O U ev,?_,zr hR.out.symm,hI.below.trans hX.below⟩;clear hX hR hI;simp[results,results130,go_sem,c1]
 obtain rfl:k=a.sts.length:=by omega
 have GH:F=0:=av.out.trans (g3.out _ rfl);have hR:=zH (G4.out GH);have HZ:=zH (GT.out GH);clear G3 G4 av g1 g2 g3 en GT GH;go_wp2_with fail;refine(wR a.n (I SV a.sts.length ks) wr).mono ?_;rintro e W ⟨rfl,hW⟩;have bb:=zx wr (Ag #[O U a.n,I SV a.sts.length ks] 27);have az:Am wr.heap.size wr W:=by rw[<-hW];exact zU _ _
 have aw:wr.heap.size<W.heap.size:=by rw[<-hW];simp
 rw[hW] at bb;have HW:=zH (Bz.out.on az oz);have ib:=zH (HI.out wr.heap.size W bb (HS.out.keep HW.out.below) (by omega));clear hW bb az HI q0 q1 p0 f0;go_wp2_with fail
 refine kR rfl (NC RY (by kernel_rfl) rfl) ib.out (by rintro k (h | rfl)<;>omega) (fun _=>rfl)
  (fun (pre:List { x:Int×Mv // x∈zM 0 a.sts }) X=>RsIn w.heap.size #[O U a.n,I SV a.sts.length ks] 27 0 w X/\(∀x∈pre,((a.at_ x.1.2.to).all fun k=>ko x.1.2 k)=Au)/\W.heap.size<=X.heap.size)
  (fun c _ W=>c=.ret/\RsIn w.heap.size #[O U a.n,I SV a.sts.length ks] 27 21 w W/\xF a=Aw)
  (fun _ _ _ _ h hg hr=>⟨h.1.turn hg (fun r e=>⟨by have:=(hr r e).1;omega,(hr r e).2⟩),h.2.1,Lr h.2.2 hg.size⟩) (fun _ _ _ _ _ ⟨h1,h2,h3⟩ hg hr=>⟨h1,h2.turn hg (fun r e=>⟨by have:=(hr r e).1;omega,(hr r e).2⟩),h3⟩)
  ⟨HW.out,(fun x hx=>by cases hx),Ld _⟩ (fun x=>x.2.cells) 78 ?a1 ?assign ?body ?done ?stop (fun _ _ h=>h.2.2)
 case assign=>
  intro l pre x X K hI hK;obtain⟨g,hg⟩:∃g,g=X.heap.size:=⟨_,rfl⟩;have HK:=zH (hK g hg ⟨hI.1.on (zU X _) (zk hI.1.b1),hI.2.1,by have:=hI.2.2;simp;omega⟩);have HG:=zH hg;unfold Mv.cells at HK ⊢;dsimp only at HK ⊢;clear hK hg hI;gi_wp2;rw[<-HG.out];exact HK.out
 case body=>
  intro l pre x g W1 hg lr hI ac;obtain⟨nR,Ax,nQ⟩:=hI;obtain⟨z1,z2,z3,z4⟩:=HZ.out x.1.2 (XX x.2);obtain⟨m,hm⟩:=Kk x.1.2;have HM:=zH hm;rw[hm] at z1 z2 z3 z4 lr;obtain⟨f1,M9,Uo⟩:=qP z1;obtain⟨t,et⟩:=Ls z3;have rF:t<a.sts.length:=by omega
  have bG:a.at_ m.to=a.sts[t]:=by unfold Ad.at_;rw[et,Lo,Lh,Lm rF];rfl
  obtain⟨b,o,A',k',e',lw,c1,GD⟩:=(HS.out.keep nR.below).at_ t rF;have ig:=rB.out _ (Le rF);have HLZ:Aq (∀y∈a.sts[t],yi y.r=0):=fun y hy=>(HZ.out y (Nw.2 ⟨_,Le rF,hy⟩)).1
  obtain⟨L,hL⟩:=Kk (a.sts[t]);rw[hL] at c1 GD ig HLZ bG;have ef:=zH bG;have EO:=zH nR;have OP:=zH Ax;have HGB:=zH lr;have Db:=zH (GD.more nR.below.size);obtain⟨q0,q1,_⟩:=Ke nR.b0;have u7:=zh lr 7 (u:=O U m.to) rfl;have u6:=zh lr 6 (u:=O U m.r.f) rfl;rw[et] at u7;have fd:=zk lr;have aB:=zk nR.b1;have aq:=zH M9;subst e';clear hm z1 z2 z3 z4 et M9 bG hL GD nR Ax lr ac;gi_wp2_with fail
  gi_loopw [49] (fun i wr=>∃j:Nat,j<=L.length/\i=O U (j:Int)/\Aq (∀k (h:k<L.length),k<j->ko m L[k]=Au)/\Aq (Am W1.heap.size W1 wr)) (fun i _=>L.length-(Ap i).toNat)
  case atStart=>exact⟨0,by omega,rfl,(fun k h h0=>by omega),Li _ _⟩
  obtain⟨j,hj,rfl,SH,cp⟩:=hrel;clear q0 q1 u6 u7 c1
  by_cases cU:j<L.length
  . obtain⟨b2,o2,rfl,ah,m0,m1,m2,m3,m4,m5,m6,m7⟩:=(Db.out.keep cp.out).row j cU
    obtain⟨f2,CW,Un⟩:=qP (HLZ.out _ (Le cU));have nI:ko m L[j]=decide (f1 &&& f2=f1):=by unfold ko;rw[aq.out,CW,Lo,Lo];rw[N6];simp
    have dC:L[j]∈L:=Le cU;obtain⟨y,hy⟩:=Kk (L[j]);have HYe:=zH hy;rw[hy] at m0 m1 m2 m3 m4 m5 m6 m7 nI CW dC;have HEF:=zH CW;have sr:=(cp.out.block g fd).trans HGB.out;have u6:=zh sr 6 (u:=O U m.r.f) rfl;have ly:=EO.out.on cp.out (by omega);have p0:=zh ly.b1 0 rfl;have f0:=zi ly.b1 0;have Is:=zk sr;have bN:=zk ly.b1;have HRw:=zH ly;have sK:=zH nI;rw[CW] at m6;rw[aq.out] at u6;have SR:=zH (@JF f2 f1 Un Uo);clear hy CW sr ly nI dC
    by_cases hk:f1 &&& f2=f1
    . have hz:=SR.out.2 hk
      have SF:Aq (ko m y=Au):=sK.out.trans (Lw hk);clear SR sK hk;gi_wp2_with fail
      go_roundw
      case rel=>
       refine⟨j+1,by omega,by go_num,fun k h h1=>?_,?_⟩
       . by_cases e:k=j
         . subst e;rw[HYe.out];exact SF.out
         exact SH.out k h (by omega)
       exact cp.out.alloc cp.out.size _
      simp[Ap];omega
    have hz:¬(bits BinOp.andNot U (f1:Int) (f2:Int)=0):=fun h=>hk (SR.out.1 h)
    have e0:(bits BinOp.andNot U (f1:Int) (f2:Int) != 0)=Au:=by simpa using hz
    have VB:Aq (xF a=Aw):=by
     unfold xF Aq;rw[List.all_eq_false];refine⟨m,by rw[<-HM.out];exact XX x.2,?_⟩;rw[ef.out];intro ax;have h1:=LH.1 ax y (by rw[<-HYe.out];exact Le cU);rw[sK.out,Lu hk] at h1
     cases h1
    clear SR sK hk hz;gi_wp2_with fail;have iB:=HRw.out.set 21;refine⟨((xX cp.out).trans (HRw.out.keeps 21)).trans (xX (zU _ _)),rfl,iB.on (zU _ _) (zk iB.b1),VB.out⟩
  obtain rfl:j=L.length:=by omega
  gi_wp2_with fail;refine⟨xX cp.out,KeepB.of_below cp.out (by rintro k (h | rfl)<;>omega),EO.out.on cp.out (by omega),?_,Lr nQ cp.out.size⟩;intro y hy;rcases Ng.1 hy with hy | hy
  . exact OP.out y hy
  simp only[List.mem_singleton] at hy;subst hy;rw[HM.out,ef.out,LH];intro z hz;obtain⟨k,hk,rfl⟩:=NG.1 hz;exact SH.out k hk hk
 case done=>
  intro D ys W1 hD iy hI ik
  have px:xF a=Au:=by
   unfold xF;rw[LH];intro m hm;have mL:m∈(zM 0 a.sts).map Prod.snd:=by rw[kF];exact hm
   obtain⟨x,hx,rfl⟩:=LZ.1 mL;rw[<-iy] at hx;obtain⟨y,hy,rfl⟩:=LZ.1 hx;exact hI.2.1 y hy
  have hE:=zH (hR.out.trans (Lj px));have HI:=zH hI.1;have p0:=zh HI.out.b1 0 rfl;have f0:=zi HI.out.b1 0;have HD:=zH ik;clear hI iy px ik hR ib HW;go_wp2_with fail;refine xj (B:=w.heap.size) (kn (by omega) ((HI.out.keeps (D:=D) 0).same D _ (Ld _) HD.out rfl)) ?_;intro X hX;have hI:=HI.out.set 0;have c1:=hI.cell hX;refine⟨O U 0,?_,zr hE.out.symm,hI.below.trans hX.below⟩;simp[results,results130,go_sem,c1]
 intro D c pre W1 hD FN hI ik;obtain⟨rfl,hI,px⟩:=hI;have hE:=zH (hR.out.trans (Lg (by rw[px];decide)));have HI:=zH hI;have HD:=zH ik;clear hI px ik hR ib HW FN;go_wp2_with fail;refine xj (B:=w.heap.size) (kn (by omega) HD.out) ?_;intro X hX;have c1:=HI.out.cell hX;refine⟨O U 21,?_,zr hE.out.symm,HI.out.below.trans hX.below⟩;clear hX hE;simp[results,results130,go_sem,c1]
end
section
open Go.RowKit
attribute [local go_sem] Oper.semAt_some
def Pb.vs(p:Pb)(A:Bb)(kc:Nat)(SV:Bb)(ks:Nat):Array Ar:=#[O U p.t.n,O U p.t.ins,O U p.t.outs,I A p.t.cases.length kc,O U p.a.n,I SV p.a.sts.length ks,O U p.k]
theorem ua{p:Pb}(h:xp p.t≠0):zV p=xp p.t:=Lj h
theorem wJ{p:Pb}(h:xp p.t=0)(h2:qn p.a≠0):zV p=qn p.a:=by unfold zV;rw[Lg (by simpa using h),Lj h2]
theorem XQ{p:Pb}(h:xp p.t=0)(h2:qn p.a=0)(h3:p.t.n≠p.a.n):zV p=22:=by unfold zV;rw[Lg (by simpa using h),Lg (by simpa using h2),Lj h3]
theorem XR{p:Pb}(h:xp p.t=0)(h2:qn p.a=0)(h3:p.t.n=p.a.n)(h4:p.k<0\/6<p.k):zV p=2:=by unfold zV;rw[Lg (by simpa using h),Lg (by simpa using h2),Lg (by simpa using h3),Lj h4]
theorem QK{p:Pb}(h:xp p.t=0)(h2:qn p.a=0)(h3:p.t.n=p.a.n)(h4:¬(p.k<0\/6<p.k)):zV p=0:=by unfold zV;rw[Lg (by simpa using h),Lg (by simpa using h2),Lg (by simpa using h3),Lg h4]
def Qg(p:Pb):Prop:=FewT p.t/\FewA p.a
theorem pcheck_any(p:Pb)(hf:Qg p)(A:Bb)(kc:Nat)(SV:Bb)(ks:Nat)(w:Ba)(hA:CAt w w.heap.size A p.t.cases)(hS:SAt w w.heap.size SV p.a.sts) :
  An Al 83 #[.agg (p.vs A kc SV ks)] w fun e w'=>e=Ak (O U (zV p))/\Am w.heap.size w w':=by
 have HT:=zH (fun (w':Ba) (h:CAt w' w'.heap.size A p.t.cases)=>JV p.t A kc hf.1 w' h);have HD:=zH (fun (w':Ba) (h:SAt w' w'.heap.size SV p.a.sts)=>YN p.a hf.2 SV ks w' h);have aq:=zH (@ua p);have am:=zH (@wJ p);have aM:=zH (@XQ p);have dR:=zH (@XR p);have fT:=zH (@QK p);obtain⟨E,hE⟩:=Kk (zV p);rw[hE] at aq am aM dR fT ⊢;obtain⟨tE,UM⟩:=Kk (xp p.t);rw[UM] at aq am aM dR fT HT;obtain⟨aE,Wb⟩:=Kk (qn p.a);rw[Wb] at am aM dR fT HD;unfold Pb.vs;obtain⟨w1,ae⟩:=Kk (w.alloc (Ag (p.vs A kc SV ks) 29));have cj:=zx w (Ag (p.vs A kc SV ks) 29);have aD:Am w.heap.size w w1:=by rw[<-ae];exact zU w _
 have fa:w1.heap.size=w.heap.size+1:=by rw[<-ae];simp
 rw[ae] at cj;unfold Pb.vs at ae cj;have cX:=zH cj;have cI:=zH aD;have HA:=zH ((hA.keep aD).more (by omega:w.heap.size<=w1.heap.size));have HS:=zH ((hS.keep aD).more (by omega:w.heap.size<=w1.heap.size));have ak:=zH ae;have q0:=zh cj 0 rfl;clear hA hS ae aD cj;go_enter func83,ntmps83;go_wp2_with fail;rw[ak.out];go_wp2_with fail;refine(HT.out w1 HA.out).mono ?_;rintro e w2 ⟨rfl,ah⟩;have B2:=zH (cI.out.trans (ah.mono (by omega)));have fJ:=zH ((HS.out.keep ah).more ah.size);have cH:=La ah cX.out;have aT:=zH cH;have bQ:=ah.size;have q4:=zh cH 4 rfl;have q5:=zh cH 5 rfl
 by_cases h1:tE=0
 case neg=>
  have hR:=zH (aq.out h1);go_wp2_with fail;go_ret;exact⟨zr hR.out.symm,B2.out⟩
 case pos=>
 subst h1;have F2:=zH (am.out (by simp));have F3:=zH (aM.out (by simp));have F4:=zH (dR.out (by simp));have F5:=zH (fT.out (by simp));go_wp2_with fail;refine(HD.out w2 fJ.out).mono ?_;rintro e w3 ⟨rfl,al⟩;have B3:=zH (B2.out.trans (al.mono (by omega)));have cH:=La al aT.out;have q0:=zh cH 0 rfl;have q4:=zh cH 4 rfl;have q6:=zh cH 6 rfl;clear al cH HD q5
 by_cases h2:aE=0
 case neg=>
  have hR:=zH (F2.out h2);have e0:(aE != 0)=Au:=by simpa using h2
  clear F2 F3 F4 F5 h2;go_wp2_with fail;go_ret;exact⟨zr hR.out.symm,B3.out⟩
 case pos=>
 subst h2;clear F2;have G3:=zH (F3.out (by simp));have G4:=zH (F4.out (by simp));have G5:=zH (F5.out (by simp));clear F3 F4 F5
 by_cases h3:p.t.n=p.a.n
 case neg=>
  have hR:=zH (G3.out h3);have e0:(p.t.n != p.a.n)=Au:=by simpa using h3
  clear G3 G4 G5;go_wp2_with fail
  all_goals
   go_ret;exact⟨zr hR.out.symm,B3.out⟩
 case pos=>
 have K4:=zH (G4.out h3);have K5:=zH (G5.out h3);rw[h3] at q0
 by_cases h4:p.k<0\/6<p.k
 . have hR:=zH (K4.out h4)
   by_cases h5:p.k<0
   . clear h4
     go_wp2_with fail
     all_goals first | (exfalso;omega) | skip
     go_ret;exact⟨zr hR.out.symm,B3.out⟩
   have h6:6<p.k:=by omega
   go_wp2_with fail
   all_goals first | (exfalso;omega) | skip
   go_ret;exact⟨zr hR.out.symm,B3.out⟩
 have hR:=zH (K5.out h4);have h5:¬p.k<0:=by omega
 have h6:¬6<p.k:=by omega
 go_wp2_with fail
 all_goals first | (exfalso;omega) | skip
 go_ret;exact⟨zr hR.out.symm,B3.out⟩
theorem gM(p:Pb)(hf:Qg p)(A:Bb)(kc:Nat)(SV:Bb)(ks:Nat)(w:Ba)(hA:CAt w w.heap.size A p.t.cases)(hS:SAt w w.heap.size SV p.a.sts) :
  An Al 96 #[.agg (p.vs A kc SV ks)] w fun e w'=>e=Ak (O U (zV p))/\Am w.heap.size w w':=by
 have HT:=zH (fun (w':Ba) (h:CAt w' w'.heap.size A p.t.cases)=>Qy p.t A kc hf.1 w' h);have HD:=zH (fun (w':Ba) (h:SAt w' w'.heap.size SV p.a.sts)=>QG p.a hf.2 SV ks w' h);have aq:=zH (@ua p);have am:=zH (@wJ p);have aM:=zH (@XQ p);have dR:=zH (@XR p);have fT:=zH (@QK p);obtain⟨E,hE⟩:=Kk (zV p);rw[hE] at aq am aM dR fT ⊢;obtain⟨tE,UM⟩:=Kk (xp p.t);rw[UM] at aq am aM dR fT HT;obtain⟨aE,Wb⟩:=Kk (qn p.a);rw[Wb] at am aM dR fT HD;unfold Pb.vs;obtain⟨w1,ae⟩:=Kk (w.alloc (Ag (p.vs A kc SV ks) 29));have cj:=zx w (Ag (p.vs A kc SV ks) 29);have aD:Am w.heap.size w w1:=by rw[<-ae];exact zU w _
 have fa:w1.heap.size=w.heap.size+1:=by rw[<-ae];simp
 rw[ae] at cj;unfold Pb.vs at ae cj;have cX:=zH cj;have cI:=zH aD;have HA:=zH ((hA.keep aD).more (by omega:w.heap.size<=w1.heap.size));have HS:=zH ((hS.keep aD).more (by omega:w.heap.size<=w1.heap.size));have ak:=zH ae;have q0:=zh cj 0 rfl;clear hA hS ae aD cj;go_enter func96,ntmps96;go_wp2_with fail;rw[ak.out];go_wp2_with fail;refine(HT.out w1 HA.out).mono ?_;rintro e w2 ⟨rfl,ah⟩;have B2:=zH (cI.out.trans (ah.mono (by omega)));have fJ:=zH ((HS.out.keep ah).more ah.size);have cH:=La ah cX.out;have aT:=zH cH;have bQ:=ah.size;have q4:=zh cH 4 rfl;have q5:=zh cH 5 rfl
 by_cases h1:tE=0
 case neg=>
  have hR:=zH (aq.out h1);go_wp2_with fail;go_ret;exact⟨zr hR.out.symm,B2.out⟩
 case pos=>
 subst h1;have F2:=zH (am.out (by simp));have F3:=zH (aM.out (by simp));have F4:=zH (dR.out (by simp));have F5:=zH (fT.out (by simp));go_wp2_with fail;refine(HD.out w2 fJ.out).mono ?_;rintro e w3 ⟨rfl,al⟩;have B3:=zH (B2.out.trans (al.mono (by omega)));have cH:=La al aT.out;have q0:=zh cH 0 rfl;have q4:=zh cH 4 rfl;have q6:=zh cH 6 rfl;clear al cH HD q5
 by_cases h2:aE=0
 case neg=>
  have hR:=zH (F2.out h2);have e0:(aE != 0)=Au:=by simpa using h2
  clear F2 F3 F4 F5 h2;go_wp2_with fail;go_ret;exact⟨zr hR.out.symm,B3.out⟩
 case pos=>
 subst h2;clear F2;have G3:=zH (F3.out (by simp));have G4:=zH (F4.out (by simp));have G5:=zH (F5.out (by simp));clear F3 F4 F5
 by_cases h3:p.t.n=p.a.n
 case neg=>
  have hR:=zH (G3.out h3);have e0:(p.t.n != p.a.n)=Au:=by simpa using h3
  clear G3 G4 G5;go_wp2_with fail
  all_goals
   go_ret;exact⟨zr hR.out.symm,B3.out⟩
 case pos=>
 have K4:=zH (G4.out h3);have K5:=zH (G5.out h3);rw[h3] at q0
 by_cases h4:p.k<0\/6<p.k
 . have hR:=zH (K4.out h4)
   by_cases h5:p.k<0
   . clear h4
     go_wp2_with fail
     all_goals first | (exfalso;omega) | skip
     go_ret;exact⟨zr hR.out.symm,B3.out⟩
   have h6:6<p.k:=by omega
   go_wp2_with fail
   all_goals first | (exfalso;omega) | skip
   go_ret;exact⟨zr hR.out.symm,B3.out⟩
 have hR:=zH (K5.out h4);have h5:¬p.k<0:=by omega
 have h6:¬6<p.k:=by omega
 go_wp2_with fail
 all_goals first | (exfalso;omega) | skip
 go_ret;exact⟨zr hR.out.symm,B3.out⟩
def Zq(p:Pb):Prop:=LowT p.t/\LowA p.a
def LowX(x:Exn):Prop:=x.word.length<=17592186044416/\x.views.length<=17592186044416/\∀v∈x.views,v.length<=17592186044416
theorem exn_eq{x y:Exn}(h1:x.c=y.c)(h2:x.word=y.word)(h3:x.views=y.views):x=y:=by cases x;cases y;simp_all
end
section
open Go.RowKit
def kB(vs:List Vw)(v:Vw):Int:=if v∈vs then (vs.idxOf v:Int) else -1
theorem Jb{vs:List Vw}{v:Vw}{k:Nat}(hk:k<vs.length)(hv:vs[k]=v)(hn:v∉vs.take k):kB vs v=k:=by
 have hm:v∈vs:=hv▸Le hk;unfold kB;rw[Lj hm];have h1:vs=vs.take k++vs.drop k:=(PE k vs).symm;rw[h1,NA,Lg hn];have h2:vs.drop k=v::vs.drop (k+1):=by rw[<-hv];exact Ly hk
 rw[h2,List.idxOf_cons_self];simp;omega
theorem idxE_none{vs:List Vw}{v:Vw}(hn:v∉vs):kB vs v=-1:=by unfold kB;rw[Lg hn]
theorem Ja{vs:List Vw}{v:Vw}(hv:v∈vs):0<=kB vs v:=by unfold kB;rw[Lj hv];omega
theorem XV{vs:List Vw}{v:Vw}{k:Nat}(hk:k<vs.length)(hv:vs[k]≠v)(hn:v∉vs.take k):v∉vs.take (k+1):=by
 rw[Lq hk,Ng,not_or];exact⟨hn,by simpa using fun e=>hv e.symm⟩
theorem index_any(n:Int)(A:Bb)(cap:Nat)(vs:List Vw)(v:Vw)(w:Ba)(B:Nat)(hB:B<=w.heap.size)(hA:VAt w B A vs)(hl:vs.length<=2199023255552) :
  An Al 160 #[Ai #[O U n,I A vs.length cap],.agg v.cells] w fun e w'=>e=Ak (O U (kB vs v))/\Am w.heap.size w w':=by
 have HB:=un w;have HE:Aq (∀k (hk:k<vs.length) (X:Ba),(binOp .eql 133 (.agg vs[k].cells) (.agg v.cells)).run Al X=.ok (Ah (decide (vs[k]=v))) X):=fun k hk X=>eql_view vs[k] v X
 unfold Vw.cells at HE ⊢;go_enter func160,ntmps160;go_wp2
 go_loopw [5] (fun i wr=>∃k m:Nat,k<=vs.length/\i=O U k/\wr=((w.alloc (Ag #[O U n,I A vs.length cap] 36)).alloc (Ag #[O U v.p,O U v.r,O U v.i,O U v.h0,O U v.h1,O U v.h2,O U v.h3,O U v.h4] 133)).drewN m/\Aq (v∉vs.take k)) (fun i _=>vs.length-(Ap i).toNat)
 case atStart=>exact⟨0,0,by omega,rfl,rfl,by show v∉vs.take 0;simp⟩
 obtain⟨k,m,hk,rfl,rfl,ax⟩:=hrel
 by_cases ac:k<vs.length
 . obtain⟨b,off,rfl,aQ,c0,c1,c2,c3,c4,c5,c6,c7⟩:=hA.row k ac
   have ah:b<w.heap.size:=by omega
   have py:=HE.out k ac
   by_cases hv:vs[k]=v
   . have tX:∀X:Ba,_:=fun X=>(py X).trans (by rw[Lw hv])
     have hz:Aq (kB vs v=k):=Jb ac hv ax.out;clear py hv;go_wp2;go_quiet (fail);go_wp2;go_ret;exact⟨zr hz.out.symm,by repeat (first | exact HB _ _ | refine yv ?_ _)⟩
   have tX:∀X:Ba,_:=fun X=>(py X).trans (by rw[Lu hv])
   have hz:Aq (v∉vs.take (k+1)):=XV ac hv ax.out;go_wp2;go_quiet (fail);go_wp2
   go_roundw
   case rel=>exact⟨k+1,_,by omega,by go_num,rfl,hz⟩
   simp[Ap];omega
 have hz:Aq (kB vs v=-1):=idxE_none (by have:=ax.out;rwa[NZ (by omega)] at this);go_wp2;go_ret;exact⟨zr hz.out.symm,by repeat (first | exact HB _ _ | refine yv ?_ _)⟩
theorem km{α:Type}{vs us:List α}{k:Nat}(hk:k<vs.length)(fO:k<us.length)(h:vs[k]≠us[k]):vs≠us:=by
 rintro rfl;exact h rfl
theorem kr{α:Type}{vs us:List α}(hl:vs.length=us.length)(h:vs.take vs.length=us.take vs.length):vs=us:=by
 rw[LS] at h;rw[h,hl,LS]
theorem wt{α:Type}{vs us:List α}{k:Nat}(hk:k<vs.length)(fO:k<us.length)(h:vs.take k=us.take k)(he:vs[k]=us[k]):vs.take (k+1)=us.take (k+1):=by
 rw[Lq hk,Lq fO,h,he]
end
section
open Go.RowKit
attribute [local go_sem] Oper.semAt_some
def Sy.vs_(s:Sy)(A:Bb)(kc:Nat)(SV:Bb)(ks:Nat)(AV:Bb)(kv:Nat)(AX:Bb)(kx:Nat):Array Ar:=
 #[O U s.p.t.n,O U s.p.t.ins,O U s.p.t.outs,I A s.p.t.cases.length kc,O U s.p.a.n,I SV s.p.a.sts.length ks,O U s.p.k,O U s.n,I AV s.vs.length kv,I AX s.xs.length kx]
structure LowS(s:Sy):Prop where
 fp:Zq s.p
 fv:s.vs.length<=2199023255552
 fx:s.xs.length<=2199023255552
 fe:∀x∈s.xs,LowX x
structure SyAt(w:Ba)(B:Nat)(A SV AV AX:Bb)(s:Sy):Prop where
 fc:CAt w B A s.p.t.cases
 fs:SAt w B SV s.p.a.sts
 fv:VAt w B AV s.vs
 fx:XAt w B AX s.xs
theorem SyAt.keep{w w':Ba}{B:Nat}{A SV AV AX:Bb}{s:Sy}(h:SyAt w B A SV AV AX s)(hb:Am B w w'):SyAt w' B A SV AV AX s:=⟨h.fc.keep hb,h.fs.keep hb,h.fv.keep hb,h.fx.keep hb⟩
theorem SyAt.more{w:Ba}{B B':Nat}{A SV AV AX:Bb}{s:Sy}(h:SyAt w B A SV AV AX s)(hB:B<=B'):SyAt w B' A SV AV AX s:=⟨h.fc.more hB,h.fs.more hB,h.fv.more hB,h.fx.more hB⟩
theorem SyAt.up{w w':Ba}{A SV AV AX:Bb}{s:Sy}(h:SyAt w w.heap.size A SV AV AX s)(hb:Am w.heap.size w w'):SyAt w' w'.heap.size A SV AV AX s:=(h.keep hb).more hb.size
theorem sy_eq{a b:Sy}(h1:a.p=b.p)(h2:a.n=b.n/\a.vs=b.vs)(h3:a.xs=b.xs):a=b:=by cases a;cases b;simp_all
end
section
open Go.ChangeShapes Go.WideShapes Go.ChangeAt Go.RowKit Go.Deep
section
variable {H:Type} {enc:TypeId×Ar->H} {P:Program} {W:Ba} {ab:Nat} {spare:Nat->Bool} {aR:Bool}
def xM(P:Program)(t:TypeId)(d:DataW H):Prop:=(d.weights P t).all (·<=reachBytes)=Au
theorem xY{fs:Array Field}{t:TypeId}{oI:List (DataW H)}(ht:P.underlying t=J (.struct fs))(h:xM P t (.agg oI)){j:Nat}{f:Field}{d:DataW H}(hf:fs[j]?=J f)(hd:oI[j]?=J d):xM P f.type d:=by
 unfold xM at h ⊢;refine LH.2 fun n hn=>LH.1 h n ?_
 simp only[DataW.weights,ht];exact DataW.weights_mem_each (j:=j) (by simp[hf]) hd n hn
theorem qJ{e:TypeId}:∀ {ds:List (DataW H)} {d:DataW H},d∈ds->∀n∈d.weights P e,n∈DataW.weightsAll P e ds
 | d0::ds,d,hd,n,hn=>by
  simp only[DataW.weightsAll,List.mem_append];rcases LL.1 hd with rfl | hd
  . exact Or.inl hn
  . exact Or.inr (qJ hd n hn)
theorem Yz{t e:TypeId}{el sp:List (DataW H)}(ht:P.underlying t=J (.slice e))(h:xM P t (.slice el sp)):el.length*P.bytesOf e<=reachBytes/\∀d∈el,xM P e d:=by
 unfold xM at h;have h1:=LH.1 h;simp only[DataW.weights,ht] at h1;constructor
 . have h2:=h1 _ (RT ..)
   have h3:(el.length+sp.length)*P.bytesOf e<=reachBytes:=by simpa using h2
   exact Lr (RF _ (Nat.le_add_right _ _)) h3
 intro d hd;exact LH.2 fun n hn=>h1 n (RH _ (PJ _ (qJ hd n hn)))
theorem jc{α:Type}[Inhabited α]{t e:TypeId}{fuel:Nat}{cs:List Ar}{x:DataW H×List MemPlace}{s:Nat}(L:List Ar->α->Prop)(ht:P.underlying t=J (.slice e))(hs:P.cellsOf e=s)(h1:0<s)
  (rd:∀(m:Nat) (cs:List Ar) (y:DataW H×List MemPlace),DataW.trod enc P W ab spare aR m e cs=J y->xM P e y.1->∃a,L cs a)
  (h:DataW.trod enc P W ab spare aR fuel t cs=J x) (hw:xM P t x.1) :
  ∃(A:Bb) (iS:List α) (cap:Nat),cs=[I A iS.length cap]/\iS.length<=cap/\cap<=maxLen/\iS.length*P.bytesOf e<=reachBytes /\
   (0<iS.length->∃b off,A=J ⟨b,off,Z⟩/\b<W.heap.size/\∀(i:Nat) (hi:i<iS.length),∃cs,L cs iS[i]/\∀(k:Nat) (y:Ar),cs[k]?=J y->W.cell? ⟨b,off+i*s+k,Z⟩=J y):=by
 rcases open_slice ht h with ⟨rfl,_⟩ | ⟨a,len,cap,m,n',D,Pl,rfl,_,hlc,oU,hm,sS,hi⟩
 . exact⟨Z,[],0,rfl,Ld _,Nz _,by simp,fun h=>absurd h (by simp)⟩
 have Ve:len<=m:=by rw[hm];split<;>omega
 rw[sS] at hw;obtain⟨hb,ax⟩:=Yz ht hw
 have oT:∀i,i<len->∃(a':α) (cs:List Ar),cs.length=s/\L cs a'/\∀(k:Nat) (y:Ar),cs[k]?=J y->W.cell? (a.add (i*s+k))=J y:=fun i ac=>by
  obtain⟨rk,hc,UN⟩:=hi i (by omega);rw[hs] at hc;obtain⟨_,bn,bG⟩:=World.cells?_some hc;obtain⟨u,hu⟩:=rd _ _ _ UN (ax _ (LZ.2 ⟨i,PX.2 ac,rfl⟩));refine⟨u,rk,bn,hu,fun k y hk=>?_⟩;have fO:k<s:=by rw[<-bn];exact(Lp.1 hk).1
  rw[<-Go.Deep.add_add,bG k fO,hk]
 obtain⟨iS,Gs,has⟩:∃iS:List α,iS.length=len/\∀i (hi:i<iS.length),∃cs:List Ar,cs.length=s/\L cs iS[i]/\∀(k:Nat) (y:Ar),cs[k]?=J y->W.cell? (a.add (i*s+k))=J y:=by
  refine⟨(List.range len).map fun i=>if h:i<len then Classical.choose (oT i h) else default,by simp,fun i hi=>?_⟩;have fX:i<len:=by simpa using hi
  simp only[List.getElem_map,List.getElem_range,fX,dite_true];exact Classical.choose_spec (oT i fX)
 subst Gs;have dZ:iS.length*P.bytesOf e<=reachBytes:=by simpa using hb
 refine⟨J a,iS,cap,rfl,hlc,oU,dZ,fun h0=>?_⟩;obtain⟨c0,Cz,_,CD⟩:=has 0 h0;have Em:=CD 0 _ (Lm (by omega));obtain⟨b,off,Fl⟩:=a;have tH:Fl=Z:=by simpa[Addr.add] using World.cell?_spot Em
 subst tH;refine⟨b,off,rfl,?_,fun i hi=>?_⟩
 . have:=LG W _ Em
   simpa[Addr.add] using this
 obtain⟨c1,_,hL,hc1⟩:=has i hi;refine⟨c1,hL,fun k y hk=>?_⟩;have:=hc1 k y hk;rw[add_plain] at this;rw[<-Pp] at this;exact this
end
section
variable {H:Type} {enc:TypeId×Ar->H} {W:Ba} {ab:Nat} {spare:Nat->Bool} {aR:Bool}
theorem cellsIs:Al.cellsOf 50=1:=by kernel_rfl
theorem Jv:Al.cellsOf 69=1:=by kernel_rfl
theorem cellsCs:Al.cellsOf 71=3:=by kernel_rfl
theorem cellsCss:Al.cellsOf 22=1:=by kernel_rfl
theorem cellsTk:Al.cellsOf 24=4:=by kernel_rfl
theorem cellsGr:Al.cellsOf 74=6:=by kernel_rfl
theorem cellsRd:Al.cellsOf 76=7:=by kernel_rfl
theorem cellsMv:Al.cellsOf 78=8:=by kernel_rfl
theorem cellsMl:Al.cellsOf 79=1:=by kernel_rfl
theorem cellsMls:Al.cellsOf 25=1:=by kernel_rfl
theorem cellsAd:Al.cellsOf 27=2:=by kernel_rfl
theorem cellsPb:Al.cellsOf 29=7:=by kernel_rfl
theorem bytesI8:Al.bytesOf 3=8:=by kernel_rfl
theorem bytesIs:Al.bytesOf 50=24:=by kernel_rfl
theorem bytesCs:Al.bytesOf 71=72:=by kernel_rfl
theorem bytesMv:Al.bytesOf 78=64:=by kernel_rfl
theorem bytesMl:Al.bytesOf 79=24:=by kernel_rfl
/-- A slice of integers. -/
theorem rd_ints{m:Nat}{cs:List Ar}{y:DataW H×List MemPlace}(h:DataW.trod enc Al W ab spare aR m 50 cs=J y)(hw:xM Al 50 y.1) :
  ∃(A:Bb) (xs:List Int) (c:Nat),cs=[I A xs.length c]/\xs.length<=17592186044416/\IAt W W.heap.size A xs:=by
 obtain⟨A,xs,c,e,_,_,hb,hA⟩:=jc (α:=Int) (fun cs i=>cs=[O U i]) NJ xf (by decide) (fun m cs y h _=>by obtain⟨i,e,_⟩:=L6 LF h;exact⟨i,e⟩) h hw;refine⟨A,xs,c,e,?_,fun h0=>?_⟩
 . rw[bytesI8] at hb;unfold reachBytes at hb;omega
 obtain⟨b,off,e,ac,hc⟩:=hA h0;refine⟨b,off,e,ac,fun i hi=>?_⟩;obtain⟨cs,rfl,h2⟩:=hc i hi;simpa using h2 0 _ rfl
/-- A slice of slices of integers. -/
theorem QF{m:Nat}{cs:List Ar}{y:DataW H×List MemPlace}(h:DataW.trod enc Al W ab spare aR m 69 cs=J y)(hw:xM Al 69 y.1) :
  ∃(A:Bb) (xs:List (List Int)) (c:Nat),cs=[I A xs.length c]/\xs.length<=17592186044416/\(∀v∈xs,v.length<=17592186044416)/\LAt W W.heap.size A xs:=by
 obtain⟨A,xs,c,e,_,_,hb,hA⟩:=jc (α:=List Int) (fun cs v=>∃A c,cs=[I A v.length c]/\v.length<=17592186044416/\IAt W W.heap.size A v) underlying69 cellsIs (by decide)
  (fun m cs y h hw=>by obtain⟨A,xs,c,e,h1,h2⟩:=rd_ints h hw;exact⟨xs,A,c,e,h1,h2⟩) h hw
 refine⟨A,xs,c,e,?_,?_,fun h0=>?_⟩
 . rw[bytesIs] at hb;unfold reachBytes at hb;omega
 . intro v hv
   obtain⟨i,hi,rfl⟩:=LP hv;obtain⟨b,off,_,_,hc⟩:=hA (by omega);obtain⟨cs,⟨A,c,_,h1,_⟩,_⟩:=hc i hi;exact h1
 obtain⟨b,off,e,ac,hc⟩:=hA h0;refine⟨b,off,e,ac,fun i hi=>?_⟩;obtain⟨cs,⟨A,c,rfl,_,h3⟩,h2⟩:=hc i hi;exact⟨A,c,by simpa using h2 0 _ rfl,h3⟩
/-- A case. -/
theorem rd_case{m:Nat}{cs:List Ar}{y:DataW H×List MemPlace}(h:DataW.trod enc Al W ab spare aR m 71 cs=J y)(hw:xM Al 71 y.1) :
  ∃x:Cs,LowC x/\∃v0 v1 v2,cs=[v0,v1,v2]/\CsV W W.heap.size v0 v1 v2 x:=by
 obtain⟨xs,n,rfl,rfl,hl,nC,hf⟩:=NU P8 h;rw[cellsCs] at hl;have pI:xs.length=3:=nC
 match cs,hl with
 | [c0,c1,c2],_=>
  have f0:=hf 0 _ rfl;have f1:=hf 1 _ rfl;have f2:=hf 2 _ rfl
  match xs,pI with
  | [x0,x1,x2],_=>
   have g0:DataW.trod enc Al W ab spare aR n 50 [c0]=J x0:=by simpa[cellsIs] using f0
   have g1:DataW.trod enc Al W ab spare aR n 69 [c1]=J x1:=by simpa[Jv] using f1
   have g2:DataW.trod enc Al W ab spare aR n 69 [c2]=J x2:=by simpa[Jv] using f2
   have w0:xM Al 50 x0.1:=xY P8 hw (j:=0) rfl rfl;have w1:xM Al 69 x1.1:=xY P8 hw (j:=1) rfl rfl;have w2:xM Al 69 x2.1:=xY P8 hw (j:=2) rfl rfl;obtain⟨A0,y0,k0,e0,l0,r0⟩:=rd_ints g0 w0;obtain⟨A1,y1,k1,e1,l1,m1,r1⟩:=QF g1 w1;obtain⟨A2,y2,k2,e2,l2,m2,r2⟩:=QF g2 w2
   cases e0;cases e1;cases e2
   exact⟨⟨y0,y1,y2⟩,⟨l0,l1,l2,m1,m2⟩,_,_,_,rfl,⟨A0,k0,rfl,r0⟩,⟨A1,k1,rfl,r1⟩,⟨A2,k2,rfl,r2⟩⟩
/-- A slice of cases. -/
theorem rd_cases{m:Nat}{cs:List Ar}{y:DataW H×List MemPlace}(h:DataW.trod enc Al W ab spare aR m 22 cs=J y)(hw:xM Al 22 y.1) :
  ∃(A:Bb) (xs:List Cs) (c:Nat),cs=[I A xs.length c]/\xs.length<=17592186044416/\(∀v∈xs,LowC v)/\CAt W W.heap.size A xs:=by
 obtain⟨A,xs,c,e,_,_,hb,hA⟩:=jc (α:=Cs) (fun cs x=>LowC x/\∃v0 v1 v2,cs=[v0,v1,v2]/\CsV W W.heap.size v0 v1 v2 x) Re cellsCs (by decide)
  (fun m cs y h hw=>rd_case h hw) h hw
 refine⟨A,xs,c,e,?_,?_,fun h0=>?_⟩
 . rw[bytesCs] at hb;unfold reachBytes at hb;omega
 . intro v hv
   obtain⟨i,hi,rfl⟩:=LP hv;obtain⟨b,off,_,_,hc⟩:=hA (by omega);obtain⟨cs,⟨h1,_⟩,_⟩:=hc i hi;exact h1
 obtain⟨b,off,e,ac,hc⟩:=hA h0;refine⟨b,off,e,ac,fun i hi=>?_⟩;obtain⟨cs,⟨_,v0,v1,v2,rfl,h3⟩,h2⟩:=hc i hi;exact⟨v0,v1,v2,h2 0 _ rfl,h2 1 _ rfl,h2 2 _ rfl,h3⟩
/-- A round. -/
theorem rd_round{m:Nat}{cs:List Ar}{y:DataW H×List MemPlace}(h:DataW.trod enc Al W ab spare aR m 76 cs=J y):∃x:Rd,cs=x.cells.toList:=by
 obtain⟨xs,n,rfl,rfl,hl,nC,hf⟩:=NU underlying76 h;rw[cellsRd] at hl;have pI:xs.length=2:=nC
 match cs,hl with
 | [c0,c1,c2,c3,c4,c5,c6],_=>
  have f0:=hf 0 _ rfl;have f1:=hf 1 _ rfl
  match xs,pI with
  | [x0,x1],_=>
   have g0:DataW.trod enc Al W ab spare aR n 74 [c0,c1,c2,c3,c4,c5]=J x0:=by simpa[cellsGr] using f0
   have g1:DataW.trod enc Al W ab spare aR n 3 [c6]=J x1:=by simpa[xf] using f1
   obtain⟨i6,e6,_,_⟩:=L6 LF g1;obtain⟨ys,k,rfl,rfl,_,nB,hg⟩:=NU underlying74 g0;have Uw:ys.length=2:=nB;have q0:=hg 0 _ rfl;have q1:=hg 1 _ rfl
   match ys,Uw with
   | [y0,y1],_=>
    have r0:DataW.trod enc Al W ab spare aR k 3 [c0]=J y0:=by simpa[xf] using q0
    have r1:DataW.trod enc Al W ab spare aR k 72 [c1,c2,c3,c4,c5]=J y1:=by simpa[cells5] using q1
    obtain⟨i0,e0,_,_⟩:=L6 LF r0;obtain⟨zs,m,rfl,_,_,Uq,hi⟩:=DataW.trod_array Pj r1;have k0:=hi 0 (by decide);have k1:=hi 1 (by decide);have k2:=hi 2 (by decide);have k3:=hi 3 (by decide);have k4:=hi 4 (by decide)
    match zs,Uq with
    | [z0,z1,z2,z3,z4],_=>
     have j0:DataW.trod enc Al W ab spare aR m 3 [c1]=J z0:=by simpa[xf] using k0
     have j1:DataW.trod enc Al W ab spare aR m 3 [c2]=J z1:=by simpa[xf] using k1
     have j2:DataW.trod enc Al W ab spare aR m 3 [c3]=J z2:=by simpa[xf] using k2
     have j3:DataW.trod enc Al W ab spare aR m 3 [c4]=J z3:=by simpa[xf] using k3
     have j4:DataW.trod enc Al W ab spare aR m 3 [c5]=J z4:=by simpa[xf] using k4
     obtain⟨a0,b0,_,_⟩:=L6 LF j0;obtain⟨a1,b1,_,_⟩:=L6 LF j1;obtain⟨a2,b2,_,_⟩:=L6 LF j2;obtain⟨a3,b3,_,_⟩:=L6 LF j3;obtain⟨a4,b4,_,_⟩:=L6 LF j4
     cases e0;cases e6;cases b0;cases b1;cases b2;cases b3;cases b4
     exact⟨⟨i0,a0,a1,a2,a3,a4,i6⟩,rfl⟩
/-- A move. -/
theorem rd_move{m:Nat}{cs:List Ar}{y:DataW H×List MemPlace}(h:DataW.trod enc Al W ab spare aR m 78 cs=J y):∃x:Mv,cs=x.cells.toList:=by
 obtain⟨xs,n,rfl,rfl,hl,nC,hf⟩:=NU underlying78 h;rw[cellsMv] at hl;have pI:xs.length=2:=nC
 match cs,hl with
 | [c0,c1,c2,c3,c4,c5,c6,c7],_=>
  have f0:=hf 0 _ rfl;have f1:=hf 1 _ rfl
  match xs,pI with
  | [x0,x1],_=>
   have g0:DataW.trod enc Al W ab spare aR n 76 [c0,c1,c2,c3,c4,c5,c6]=J x0:=by simpa[cellsRd] using f0
   have g1:DataW.trod enc Al W ab spare aR n 3 [c7]=J x1:=by simpa[xf] using f1
   obtain⟨r,e0⟩:=rd_round g0;obtain⟨i7,e7,_,_⟩:=L6 LF g1
   cases e7
   refine⟨⟨r,i7⟩,?_⟩;simp only[Rd.cells,List.cons.injEq] at e0;obtain⟨rfl,rfl,rfl,rfl,rfl,rfl,rfl,_⟩:=e0
   rfl
/-- A slice of moves. -/
theorem rd_moves{m:Nat}{cs:List Ar}{y:DataW H×List MemPlace}(h:DataW.trod enc Al W ab spare aR m 79 cs=J y)(hw:xM Al 79 y.1) :
  ∃(A:Bb) (xs:List Mv) (c:Nat),cs=[I A xs.length c]/\xs.length<=17592186044416/\MAt W W.heap.size A xs:=by
 obtain⟨A,xs,c,e,_,_,hb,hA⟩:=jc (α:=Mv) (fun cs x=>cs=x.cells.toList) P7 cellsMv (by decide) (fun m cs y h _=>rd_move h) h hw;refine⟨A,xs,c,e,?_,fun h0=>?_⟩
 . rw[bytesMv] at hb;unfold reachBytes at hb;omega
 obtain⟨b,off,e,ac,hc⟩:=hA h0;refine⟨b,off,e,ac,fun i hi k u hk=>?_⟩;obtain⟨cs,rfl,h2⟩:=hc i hi;exact h2 k u (by simpa using hk)
/-- A slice of slices of moves. -/
theorem rd_states{m:Nat}{cs:List Ar}{y:DataW H×List MemPlace}(h:DataW.trod enc Al W ab spare aR m 25 cs=J y)(hw:xM Al 25 y.1) :
  ∃(A:Bb) (xs:List (List Mv)) (c:Nat),cs=[I A xs.length c]/\xs.length<=17592186044416/\(∀v∈xs,v.length<=17592186044416)/\SAt W W.heap.size A xs:=by
 obtain⟨A,xs,c,e,_,_,hb,hA⟩:=jc (α:=List Mv) (fun cs v=>∃A c,cs=[I A v.length c]/\v.length<=17592186044416/\MAt W W.heap.size A v) Rc cellsMl (by decide)
  (fun m cs y h hw=>by obtain⟨A,xs,c,e,h1,h2⟩:=rd_moves h hw;exact⟨xs,A,c,e,h1,h2⟩) h hw
 refine⟨A,xs,c,e,?_,?_,fun h0=>?_⟩
 . rw[bytesMl] at hb;unfold reachBytes at hb;omega
 . intro v hv
   obtain⟨i,hi,rfl⟩:=LP hv;obtain⟨b,off,_,_,hc⟩:=hA (by omega);obtain⟨cs,⟨A,c,_,h1,_⟩,_⟩:=hc i hi;exact h1
 obtain⟨b,off,e,ac,hc⟩:=hA h0;refine⟨b,off,e,ac,fun i hi=>?_⟩;obtain⟨cs,⟨A,c,rfl,_,h3⟩,h2⟩:=hc i hi;exact⟨A,c,by simpa using h2 0 _ rfl,h3⟩
/-- A problem. -/
theorem rd_prob{m:Nat}{cs:List Ar}{y:DataW H×List MemPlace}(h:DataW.trod enc Al W ab spare aR m 29 cs=J y)(hw:xM Al 29 y.1) :
  ∃(p:Pb) (A:Bb) (kc:Nat) (SV:Bb) (ks:Nat),cs=(p.vs A kc SV ks).toList/\Zq p/\CAt W W.heap.size A p.t.cases/\SAt W W.heap.size SV p.a.sts:=by
 obtain⟨xs,n,rfl,rfl,hl,nC,hf⟩:=NU Rb h;rw[cellsPb] at hl;have pI:xs.length=3:=nC
 match cs,hl with
 | [c0,c1,c2,c3,c4,c5,c6],_=>
  have f0:=hf 0 _ rfl;have f1:=hf 1 _ rfl;have f2:=hf 2 _ rfl
  match xs,pI with
  | [x0,x1,x2],_=>
   have g0:DataW.trod enc Al W ab spare aR n 24 [c0,c1,c2,c3]=J x0:=by simpa[cellsTk] using f0
   have g1:DataW.trod enc Al W ab spare aR n 27 [c4,c5]=J x1:=by simpa[cellsAd] using f1
   have g2:DataW.trod enc Al W ab spare aR n 3 [c6]=J x2:=by simpa[xf] using f2
   have w0:xM Al 24 x0.1:=xY Rb hw (j:=0) rfl rfl;have w1:xM Al 27 x1.1:=xY Rb hw (j:=1) rfl rfl;obtain⟨i6,e6,_,_⟩:=L6 LF g2;obtain⟨ys,k,rfl,iT,_,nB,hg⟩:=NU underlying24 g0;rw[iT] at w0;have Uv:ys.length=4:=nB;have q0:=hg 0 _ rfl;have q1:=hg 1 _ rfl;have q2:=hg 2 _ rfl;have q3:=hg 3 _ rfl
   match ys,Uv with
   | [y0,y1,y2,y3],_=>
    have r0:DataW.trod enc Al W ab spare aR k 3 [c0]=J y0:=by simpa[xf] using q0
    have r1:DataW.trod enc Al W ab spare aR k 3 [c1]=J y1:=by simpa[xf] using q1
    have r2:DataW.trod enc Al W ab spare aR k 3 [c2]=J y2:=by simpa[xf] using q2
    have r3:DataW.trod enc Al W ab spare aR k 22 [c3]=J y3:=by simpa[cellsCss] using q3
    have v3:xM Al 22 y3.1:=xY underlying24 w0 (j:=3) rfl rfl;obtain⟨i0,e0,_,_⟩:=L6 LF r0;obtain⟨i1,e1,_,_⟩:=L6 LF r1;obtain⟨i2,e2,_,_⟩:=L6 LF r2;obtain⟨A,us,kc,e3,lu,hu,hA⟩:=rd_cases r3 v3;obtain⟨zs,k',fO,sS,_,Uq,lK⟩:=NU underlying27 g1;rw[sS] at w1;have Up:zs.length=2:=Uq;have s0:=lK 0 _ rfl;have s1:=lK 1 _ rfl
    match zs,Up with
    | [z0,z1],_=>
     have t0:DataW.trod enc Al W ab spare aR k' 3 [c4]=J z0:=by simpa[xf] using s0
     have t1:DataW.trod enc Al W ab spare aR k' 25 [c5]=J z1:=by simpa[cellsMls] using s1
     have u1:xM Al 25 z1.1:=xY underlying27 w1 (j:=1) rfl rfl;obtain⟨i4,e4,_,_⟩:=L6 LF t0;obtain⟨SV,ss,ks,e5,ls,hs,hS⟩:=rd_states t1 u1
     cases e0;cases e1;cases e2;cases e3;cases e4;cases e5;cases e6
     exact⟨⟨⟨i0,i1,i2,us⟩,⟨i4,ss⟩,i6⟩,A,kc,SV,ks,rfl,⟨⟨lu,hu⟩,ls,hs⟩,hA,hS⟩
/-- A problem that is handed over by value. -/
theorem jz{b0:Nat}{v:Ar}{d:DataW H}{ps:List MemPlace}(hv:Value.okWide Al W .any b0 29 v)(h:DataW.Trod enc Al W ab spare aR 29 v d ps)(hw:xM Al 29 d) :
  ∃(p:Pb) (A:Bb) (kc:Nat) (SV:Bb) (ks:Nat),v=.agg (p.vs A kc SV ks)/\Zq p/\CAt W W.heap.size A p.t.cases/\SAt W W.heap.size SV p.a.sts:=by
 obtain⟨cs,rfl,_⟩:=okWide_struct Rb hv;obtain⟨fuel,hf⟩:=h;obtain⟨p,A,kc,SV,ks,e,h1,h2,h3⟩:=rd_prob hf hw;refine⟨p,A,kc,SV,ks,?_,h1,h2,h3⟩;have e':cs.toList=(p.vs A kc SV ks).toList:=e;rw[Array.toList_inj.1 e']
end
end
section
open Go.RowKit
structure Kd where
 e:TypeId
 s:TypeId
 size:Nat
 bytes:Nat
 z:Ar
structure KdOk(P:Program)(K:Kd):Prop where
 under:P.underlying K.s=J (.slice K.e)
 info:(P.info? K.e).map (fun i=>(i.zero,i.size,i.bytes))=J (J K.z,K.size,K.bytes)
 zs:K.z.cells.size=K.size
 pos:0<K.size
 small:K.bytes<=1024
def Raw(w:Ba)(A:Bb)(n:Nat)(cs:List Ar):Prop:=0<n->∃b off,A=J ⟨b,off,Z⟩/\b<w.heap.size/\∀(j:Nat) (u:Ar),cs[j]?=J u->w.cell? ⟨b,off+j,Z⟩=J u
def OwnR(K:Kd)(w:Ba)(ab:Nat)(v:Ar)(n:Nat)(cs:List Ar):Prop:=w.ownsRow ab K.e K.size v n cs
section
variable {P:Program} {K:Kd} {w w':Ba} {ab:Nat} {v:Ar} {n:Nat} {cs:List Ar}
theorem OwnR.nil(K:Kd)(w:Ba)(ab:Nat):OwnR K w ab (I Z 0 0) 0 []:=P5 w ab _ _
theorem OwnR.kept{row:Option Nat}(h:OwnR K w ab v n cs)(hg:w.grownBy w' row)(bC:v.ownBlock=Z\/v.ownBlock≠row):OwnR K w' ab v n cs:=Pd h hg bC
theorem OwnR.alloc(h:OwnR K w ab v n cs)(o:Obj):OwnR K (w.alloc o) ab v n cs:=PN h o
theorem OwnR.lt(h:OwnR K w ab v n cs):∀k,v.ownBlock=J k->ab<=k/\k<w.heap.size:=Rk h
theorem OwnR.below{B:Nat}(h:OwnR K w ab v n cs)(hb:Am B w w')(hB:w.heap.size<=B):OwnR K w' ab v n cs:=
 Pd (row:=Z) h ⟨hb.os,hb.tape,hb.output,hb.size,fun k hk _=>hb.block k (by omega)⟩ (by cases v.ownBlock<;>simp)
theorem OwnR.low{base':Nat}(h:OwnR K w ab v n cs)(hb:base'<=ab):OwnR K w base' v n cs:=by
 refine⟨h.1,?_⟩;rcases h.2 with h2 | ⟨g,cap,cur,hv,hg,r⟩
 . exact Or.inl h2
 exact Or.inr ⟨g,cap,cur,hv,by omega,r⟩
theorem OwnR.form(h:OwnR K w ab v n cs):∃A cap,v=I A n cap/\n<=cap/\cap<=maxLen/\(0<n->∃g,A=J ⟨g,0,Z⟩/\v.ownBlock=J g/\g<w.heap.size/\∀j u,cs[j]?=J u->w.cell? ⟨g,j,Z⟩=J u):=by
 rcases h.2 with ⟨rfl,h0⟩ | ⟨g,cap,cur,rfl,_,hg,ed,oU,_⟩
 . exact⟨Z,0,by rw[h0],by omega,by omega,fun hn=>by omega⟩
 refine⟨_,_,rfl,ed,oU,fun _=>⟨g,rfl,rfl,(Ln.1 hg).1,fun j u hu=>?_⟩⟩;have:=World.ownsRow.cells h (g:=g) rfl j u hu;rwa[show(⟨g,0,Z⟩:Addr).add j=⟨g,j,Z⟩ from by unfold Addr.add;split<;>simp_all] at this
theorem OwnR.ne{b:Nat}(h:OwnR K w ab v n cs)(hb:b<ab):v.ownBlock≠J b:=fun e=>by
 have:=(h.lt b e).1;omega
theorem OwnR.raw(h:OwnR K w ab v n cs):∃A cap,v=I A n cap/\n<=cap/\cap<=maxLen/\Raw w A n cs:=by
 obtain⟨A,cap,e,h1,h2,h3⟩:=h.form;refine⟨A,cap,e,h1,h2,fun h0=>?_⟩;obtain⟨g,hA,_,hg,hc⟩:=h3 h0;exact⟨g,0,hA,hg,fun j u hu=>by rw[LQ];exact hc j u hu⟩
theorem xe(ok:KdOk P K):∃i:TypeInfo,P.info? K.e=J i/\i.zero=J K.z/\i.size=K.size/\i.bytes=K.bytes:=by
 have h:=ok.info
 cases hi:P.info? K.e with
 | none=>rw[hi] at h;cases h
 | some i=>
  rw[hi] at h;simp only[Option.map_some,Option.some.injEq,Prod.mk.injEq] at h;exact⟨i,rfl,h.1,h.2.1,h.2.2⟩
theorem jo(ok:KdOk P K){o:Oper}{a:Act}{KK:Act->Ba->Prop}{Q:Exit->Act->Ba->Prop}{W:Ba}(s x:Operand)
  (ho:o.op=.call { callee:=.builtin .append,args:=#[s,x],argTypes:=#[K.s,K.s] }) (ab:Nat) (V:Ar) (n:Nat) (cs:List Ar) (hs:a.eval s=V) (bZ:OwnR K W ab V n cs)
  (g:Nat) (new:Array Ar) (hx:a.eval x=I (J ⟨g,0,Z⟩) 1 1) (hg:W.heap[g]?=J (Ag new K.e (0,0))) (hn:new.size=K.size) (h1:∀u∈new.toList,u.oneCell'=Au) (hl:n<=1000000000) (hb:ab<=W.heap.size) (H:Nat) (hH:W.heap.size=H)
  (h:∀g' cap w1,OwnR K w1 ab (I (J ⟨g',0,Z⟩) (n+1) cap) (n+1) (cs++new.toList)->W.grownBy w1 V.ownBlock->(V.ownBlock=J g'\/g'=H)->g'<w1.heap.size->KK (a.put o.dst (I (J ⟨g',0,Z⟩) (n+1) cap)) w1):o.wp P a W KK Q:=by
 obtain⟨i0,hi,eO,cY,ep⟩:=xe ok
 refine wp_append_lies W s x K.s ho ab K.e i0 K.z K.size K.bytes ok.under hi eO cY ep ok.zs ok.pos V n cs hs bZ ⟨g,0,Z⟩ 1 1 new.toList hx (by simp[hn])
  (RI hg) h1 (by omega) (by unfold maxLen;omega) ?_ hb H hH h
 have:=LV (show n+1<=1000000001 by omega) ok.small;omega
theorem yI(ok:KdOk P K){ops:Array Oper}{rest:List Oper}{o:Oper}{a:Act}{Q:Exit->Act->Ba->Prop}{W:Ba}(i5:o.guard=Z)(s x:Operand)
  (ho:o.op=.call { callee:=.builtin .append,args:=#[s,x],argTypes:=#[K.s,K.s] }) (ab:Nat) (V:Ar) (n:Nat) (cs:List Ar) (hs:a.eval s=V) (bZ:OwnR K W ab V n cs)
  (g:Nat) (new:Array Ar) (hx:a.eval x=I (J ⟨g,0,Z⟩) 1 1) (hg:W.heap[g]?=J (Ag new K.e (0,0))) (hn:new.size=K.size) (h1:∀u∈new.toList,u.oneCell'=Au) (hl:n<=1000000000) (hb:ab<=W.heap.size) (H:Nat) (hH:W.heap.size=H)
  (h:∀g' cap w1,OwnR K w1 ab (I (J ⟨g',0,Z⟩) (n+1) cap) (n+1) (cs++new.toList)->W.grownBy w1 V.ownBlock->(V.ownBlock=J g'\/g'=H)->g'<w1.heap.size->wpList P ops Q rest (a.put o.dst (I (J ⟨g',0,Z⟩) (n+1) cap)) w1):wpList P ops Q (o::rest) a W:=
 Np i5 fun _ hK=>jo ok s x ho ab V n cs hs bZ g new hx hg hn h1 hl hb H hH fun g' cap w1 h1 h2 h3 h4=>hK _ _ (h g' cap w1 h1 h2 h3 h4)
theorem step_appR(ok:KdOk P K){ops:Array Oper}{o:Oper}{a:Act}{KK:Act->Ba->Prop}{Q:Exit->Act->Ba->Prop}{E:Prop}{W:Ba}(i5:o.guard=Z)(s x:Operand)
  (ho:o.op=.call { callee:=.builtin .append,args:=#[s,x],argTypes:=#[K.s,K.s] }) (ab:Nat) (V:Ar) (n:Nat) (cs:List Ar) (hs:a.eval s=V) (bZ:OwnR K W ab V n cs)
  (g:Nat) (new:Array Ar) (hx:a.eval x=I (J ⟨g,0,Z⟩) 1 1) (hg:W.heap[g]?=J (Ag new K.e (0,0))) (hn:new.size=K.size) (h1:∀u∈new.toList,u.oneCell'=Au) (hl:n<=1000000000) (hb:ab<=W.heap.size) (H:Nat) (hH:W.heap.size=H)
  (h:∀g' cap w1,OwnR K w1 ab (I (J ⟨g',0,Z⟩) (n+1) cap) (n+1) (cs++new.toList)->W.grownBy w1 V.ownBlock->(V.ownBlock=J g'\/g'=H)->g'<w1.heap.size->KK (a.put o.dst (I (J ⟨g',0,Z⟩) (n+1) cap)) w1) :
  if Region.wanted o (yielded ops a.tmps)=Au then Oper.wp P o a W KK Q else E:=by
 have hw:Region.wanted o (yielded ops a.tmps)=Au:=by simp[Region.wanted,i5]
 rw[Lj hw];exact jo ok s x ho ab V n cs hs bZ g new hx hg hn h1 hl hb H hH h
theorem wp_fitR(ok:KdOk P K){o:Oper}{a:Act}{KK:Act->Ba->Prop}{Q:Exit->Act->Ba->Prop}{W:Ba}(s x:Operand)
  (ho:o.op=.call { callee:=.builtin .append,args:=#[s,x],argTypes:=#[K.s,K.s] }) (ab g n cap:Nat) (cs:List Ar) (hs:a.eval s=I (J ⟨g,0,Z⟩) n cap) (bZ:OwnR K W ab (I (J ⟨g,0,Z⟩) n cap) n cs)
  (h:Nat) (new:Array Ar) (hx:a.eval x=I (J ⟨h,0,Z⟩) 1 1) (hg:W.heap[h]?=J (Ag new K.e (0,0))) (hn:new.size=K.size) (h1:∀u∈new.toList,u.oneCell'=Au) (ed:n+1<=cap)
  (hK:∀w1,OwnR K w1 ab (I (J ⟨g,0,Z⟩) (n+1) cap) (n+1) (cs++new.toList)->W.grownBy w1 (J g)->KK (a.put o.dst (I (J ⟨g,0,Z⟩) (n+1) cap)) w1):o.wp P a W KK Q:=by
 obtain⟨i0,hi,eO,cY,ep⟩:=xe ok;obtain⟨w',ft,r1,r2⟩:=run_append_fits (P:=P) W ab K.s o.type K.e i0 K.size ok.under hi cY g n cap cs bZ ⟨h,0,Z⟩ 1 1 new.toList (by simp[hn]) (RI hg) h1 ed;unfold Oper.wp execOp;simp only[ho,resolve,invoke,builtin,Sem.run_bind,Sem.run_pure,Result.andThen_ok,List.map_toArray,List.map_cons,List.map_nil,hs,hx,ft];exact hK w' r1 r2
theorem wz(ok:KdOk P K)(A:Bb)(n cap c:Nat)(ty:TypeId)(W:Ba)(hn:n<=cap):(Builtin.append_ #[K.s,K.s] ty #[I A n cap,I Z 0 c]).run P W=.ok (I A n cap) W:=by
 obtain⟨i0,hi,eO,cY,ep⟩:=xe ok
 cases A with
 | none=>simp[Builtin.append_,run_underlying ok.under,sizeOf,typeInfo,hi,Builtin.lenOf,Builtin.firstCells,hn,Result.andThen]
 | some ad=>simp[Builtin.append_,run_underlying ok.under,sizeOf,typeInfo,hi,Builtin.lenOf,Builtin.firstCells,hn,Result.andThen,storeCells]
theorem run_appN(ok:KdOk P K)(W:Ba)(ty:TypeId)(ab:Nat)(v:Ar)(n:Nat)(cs:List Ar)(bZ:OwnR K W ab v n cs)(A:Bb)(m c:Nat)(news:List Ar)(hl:news.length=m*K.size)(hA:Raw W A m news)
  (h1:∀u∈news,u.oneCell'=Au) (hm:n+m<=1000000000) (hb:ab<=W.heap.size) :
  ∃v' w',(Builtin.append_ #[K.s,K.s] ty #[v,I A m c]).run P W=.ok v' w'/\OwnR K w' ab v' (n+m) (cs++news)/\W.grownBy w' v.ownBlock/\(v'.ownBlock=v.ownBlock\/v'.ownBlock=J W.heap.size):=by
 obtain⟨i0,hi,eO,cY,ep⟩:=xe ok
 cases A with
 | none=>
  have s':m=0:=by
   rcases Nu m with h | h
   . exact h
   . obtain⟨b,off,e,_⟩:=hA h;cases e
  subst s';have Il:news=[]:=LR (by omega);subst Il;obtain⟨A,cap,rfl,hc,_⟩:=bZ.form;exact⟨_,W,wz ok A n cap c ty W hc,by simpa using bZ,RR _ _,.inl rfl⟩
 | some ad=>
  have cj:=LV hm ok.small
  obtain⟨v',w',hr,r1,r2,_,r4⟩:=run_append_own_at (P:=P) W ab K.s ty K.e i0 K.z K.size K.bytes ok.under hi eO cY ep ok.zs ok.pos v n cs bZ ad m c news hl (fun j u hj=>by
    have cU:j<m*K.size:=by rw[<-hl];exact(Lp.1 hj).1
    have s':0<m:=by rcases Nu m with h | h;(· subst h;omega);(· exact h)
    obtain⟨b,off,e,_,hc⟩:=hA s'
    cases e
    rw[show(⟨b,off,Z⟩:Addr).add j=⟨b,off+j,Z⟩ from by unfold Addr.add;split<;>simp_all]
    exact hc j u hj) h1 (by unfold maxLen;omega) (by omega) hb
  exact⟨v',w',hr,r1,r2,r4⟩
theorem wp_appN(ok:KdOk P K){o:Oper}{a:Act}{KK:Act->Ba->Prop}{Q:Exit->Act->Ba->Prop}{W:Ba}(s x:Operand)
  (ho:o.op=.call { callee:=.builtin .append,args:=#[s,x],argTypes:=#[K.s,K.s] }) (ab:Nat) (v:Ar) (n:Nat) (cs:List Ar) (hs:a.eval s=v) (bZ:OwnR K W ab v n cs) (A:Bb) (m c:Nat) (news:List Ar) (hx:a.eval x=I A m c)
  (hl:news.length=m*K.size) (hA:Raw W A m news) (h1:∀u∈news,u.oneCell'=Au) (hm:n+m<=1000000000) (hb:ab<=W.heap.size)
  (h:∀v' w1,OwnR K w1 ab v' (n+m) (cs++news)->W.grownBy w1 v.ownBlock->(v'.ownBlock=v.ownBlock\/v'.ownBlock=J W.heap.size)->KK (a.put o.dst v') w1):o.wp P a W KK Q:=by
 obtain⟨v',w',ft,r1,r2,r3⟩:=run_appN ok W o.type ab v n cs bZ A m c news hl hA h1 hm hb;unfold Oper.wp execOp;simp only[ho,resolve,invoke,builtin,Sem.run_bind,Sem.run_pure,Result.andThen_ok,List.map_toArray,List.map_cons,List.map_nil,hs,hx,ft];exact h v' w' r1 r2 r3
theorem Qj(ok:KdOk P K){ops:Array Oper}{rest:List Oper}{o:Oper}{a:Act}{Q:Exit->Act->Ba->Prop}{W:Ba}(i5:o.guard=Z)(s x:Operand)
  (ho:o.op=.call { callee:=.builtin .append,args:=#[s,x],argTypes:=#[K.s,K.s] }) (ab:Nat) (v:Ar) (n:Nat) (cs:List Ar) (hs:a.eval s=v) (bZ:OwnR K W ab v n cs) (A:Bb) (m c:Nat) (news:List Ar) (hx:a.eval x=I A m c)
  (hl:news.length=m*K.size) (hA:Raw W A m news) (h1:∀u∈news,u.oneCell'=Au) (hm:n+m<=1000000000) (hb:ab<=W.heap.size)
  (h:∀v' w1,OwnR K w1 ab v' (n+m) (cs++news)->W.grownBy w1 v.ownBlock->(v'.ownBlock=v.ownBlock\/v'.ownBlock=J W.heap.size)->wpList P ops Q rest (a.put o.dst v') w1):wpList P ops Q (o::rest) a W:=
 Np i5 fun _ hK=>wp_appN ok s x ho ab v n cs hs bZ A m c news hx hl hA h1 hm hb fun v' w1 h1 h2 h3=>hK _ _ (h v' w1 h1 h2 h3)
theorem OwnR.of_block{g:Nat}{cur:Array Ar}(h:w.heap[g]?=J (Ag cur K.e (0,0)))(hb:ab<=g)(hc:cur.size=n*K.size)(hn:n<=maxLen):OwnR K w ab (I (J ⟨g,0,Z⟩) n n) n cur.toList:=
 ⟨by simpa using hc,.inr ⟨g,n,cur,rfl,hb,h,Ld _,hn,hc,by rw[NZ (by simp[hc])]⟩⟩
theorem OwnR.pop{g m cap:Nat}{rk:List Ar}(h:OwnR K w ab (I (J ⟨g,0,Z⟩) (n+m) cap) (n+m) (cs++rk))(hl:cs.length=n*K.size):OwnR K w ab (I (J ⟨g,0,Z⟩) n cap) n cs:=by
 refine⟨hl,.inr ?_⟩;rcases h.2 with ⟨e,_⟩ | ⟨g',aH,cur,e,hb,hg,ed,hm,hs,ht⟩
 . cases e
 injection e with e1 e2 e3
 injection e1 with e1
 injection e1 with e1
 subst e1;subst e3;refine⟨g,cap,cur,rfl,hb,hg,by omega,hm,hs,?_⟩;have h2:=congrArg (List.take (n*K.size)) ht;rw[List.take_take,Sc (by omega),<-hl,LS,Sd (by rw[hl,Rf];omega)] at h2;rw[<-hl];exact h2
end
section
variable {S S':Nat->Prop} {w w':Ba} {A:Bb}
theorem qX{b o:Nat}{u:Ar}(h:KeepB S w w')(hb:S b)(hc:w.cell? ⟨b,o,Z⟩=J u):w'.cell? ⟨b,o,Z⟩=J u:=by
 obtain⟨ob,ho,_⟩:=RL hc;rw[LN (h.same b hb (Ln.1 ho).1)];exact hc
structure KeepC(S:Nat->Prop)(w w':Ba):Prop where
 size:w.heap.size<=w'.heap.size
 cell:∀k o v,S k->w.cell? ⟨k,o,Z⟩=J v->w'.cell? ⟨k,o,Z⟩=J v
theorem KeepC.of_cells(S:Nat->Prop)(hs:w.heap.size<=w'.heap.size)(h:∀(k:Nat) (o:Obj),w.heap[k]?=J o->o.isCells=Au->w'.heap[k]?=J o):KeepC S w w':=
 ⟨hs,fun k o v _ hc=>by
  obtain⟨ob,ho,dP⟩:=RL hc;rw[LN ((h k ob ho dP).trans ho.symm)]
  exact hc⟩
def IAtS(S:Nat->Prop)(w:Ba)(A:Bb)(xs:List Int):Prop:=
 0<xs.length->∃b off,A=J ⟨b,off,Z⟩/\S b/\b<w.heap.size/\∀(i:Nat) (hi:i<xs.length),w.cell? ⟨b,off+i,Z⟩=J (O U xs[i])
theorem IAtS.keep{xs:List Int}(h:IAtS S w A xs)(hk:KeepB S w w'):IAtS S w' A xs:=fun h0=>by
 obtain⟨b,off,e,hs,hb,hc⟩:=h h0;exact⟨b,off,e,hs,LE hb hk.size,fun i hi=>qX hk hs (hc i hi)⟩
theorem IAtS.keepC{xs:List Int}(h:IAtS S w A xs)(hk:KeepC S w w'):IAtS S w' A xs:=fun h0=>by
 obtain⟨b,off,e,hs,hb,hc⟩:=h h0;exact⟨b,off,e,hs,LE hb hk.size,fun i hi=>hk.cell _ _ _ hs (hc i hi)⟩
theorem IAtS.mono{xs:List Int}(h:IAtS S w A xs)(hm:∀k,k<w.heap.size->S k->S' k):IAtS S' w A xs:=fun h0=>by
 obtain⟨b,off,e,hs,hb,hc⟩:=h h0;exact⟨b,off,e,hm b hb hs,hb,hc⟩
theorem IAtS.on{xs:List Int}(h:IAtS S w A xs)(hb:Am w.heap.size w w'):IAtS S w' A xs:=
 ((h.mono (S':=fun k=>S k/\k<w.heap.size) fun _ hk hs=>⟨hs,hk⟩).keep ⟨hb.size,fun k hk _=>hb.block k hk.2⟩).mono fun _ _ hs=>hs.1
theorem IAtS.iat{xs:List Int}(h:IAtS S w A xs):IAt w w.heap.size A xs:=fun h0=>by
 obtain⟨b,off,e,hs,hb,hc⟩:=h h0;exact⟨b,off,e,hb,hc⟩
theorem IAtS.of_iat{xs:List Int}{B:Nat}(h:IAt w B A xs)(hB:B<=w.heap.size)(hS:∀k,k<B->S k):IAtS S w A xs:=fun h0=>by
 obtain⟨b,off,e,hb,hc⟩:=h h0;exact⟨b,off,e,hS b hb,by omega,hc⟩
def RAtS(S:Nat->Prop)(w:Ba)(A:Bb)(rs:List Rd):Prop:=
 0<rs.length->∃b off,A=J ⟨b,off,Z⟩/\S b/\b<w.heap.size/\∀(i:Nat) (hi:i<rs.length) (k:Nat) (u:Ar),rs[i].cells[k]?=J u->w.cell? ⟨b,off+i*7+k,Z⟩=J u
theorem RAtS.keep{xs:List Rd}(h:RAtS S w A xs)(hk:KeepB S w w'):RAtS S w' A xs:=fun h0=>by
 obtain⟨b,off,e,hs,hb,hc⟩:=h h0;exact⟨b,off,e,hs,LE hb hk.size,fun i hi k u hu=>qX hk hs (hc i hi k u hu)⟩
theorem RAtS.keepC{xs:List Rd}(h:RAtS S w A xs)(hk:KeepC S w w'):RAtS S w' A xs:=fun h0=>by
 obtain⟨b,off,e,hs,hb,hc⟩:=h h0;exact⟨b,off,e,hs,LE hb hk.size,fun i hi k u hu=>hk.cell _ _ _ hs (hc i hi k u hu)⟩
theorem RAtS.mono{xs:List Rd}(h:RAtS S w A xs)(hm:∀k,k<w.heap.size->S k->S' k):RAtS S' w A xs:=fun h0=>by
 obtain⟨b,off,e,hs,hb,hc⟩:=h h0;exact⟨b,off,e,hm b hb hs,hb,hc⟩
theorem RAtS.on{xs:List Rd}(h:RAtS S w A xs)(hb:Am w.heap.size w w'):RAtS S w' A xs:=
 ((h.mono (S':=fun k=>S k/\k<w.heap.size) fun _ hk hs=>⟨hs,hk⟩).keep ⟨hb.size,fun k hk _=>hb.block k hk.2⟩).mono fun _ _ hs=>hs.1
theorem RAtS.rat{xs:List Rd}(h:RAtS S w A xs):RAt w w.heap.size A xs:=fun h0=>by
 obtain⟨b,off,e,hs,hb,hc⟩:=h h0;exact⟨b,off,e,hb,hc⟩
theorem RAtS.nil(S:Nat->Prop)(w:Ba)(A:Bb):RAtS S w A []:=fun h=>absurd h (by simp)
def LAtS(S:Nat->Prop)(w:Ba)(A:Bb)(xss:List (List Int)):Prop:=
 0<xss.length->∃b off,A=J ⟨b,off,Z⟩/\S b/\b<w.heap.size/\∀(i:Nat) (hi:i<xss.length),∃A' c,w.cell? ⟨b,off+i,Z⟩=J (I A' xss[i].length c)/\IAtS S w A' xss[i]
theorem LAtS.keep{xs:List (List Int)}(h:LAtS S w A xs)(hk:KeepB S w w'):LAtS S w' A xs:=fun h0=>by
 obtain⟨b,off,e,hs,hb,hc⟩:=h h0;refine⟨b,off,e,hs,LE hb hk.size,fun i hi=>?_⟩;obtain⟨A',c,h1,h2⟩:=hc i hi;exact⟨A',c,qX hk hs h1,h2.keep hk⟩
theorem LAtS.keepC{xs:List (List Int)}(h:LAtS S w A xs)(hk:KeepC S w w'):LAtS S w' A xs:=fun h0=>by
 obtain⟨b,off,e,hs,hb,hc⟩:=h h0;refine⟨b,off,e,hs,LE hb hk.size,fun i hi=>?_⟩;obtain⟨A',c,h1,h2⟩:=hc i hi;exact⟨A',c,hk.cell _ _ _ hs h1,h2.keepC hk⟩
theorem LAtS.mono{xs:List (List Int)}(h:LAtS S w A xs)(hm:∀k,k<w.heap.size->S k->S' k):LAtS S' w A xs:=fun h0=>by
 obtain⟨b,off,e,hs,hb,hc⟩:=h h0;refine⟨b,off,e,hm b hb hs,hb,fun i hi=>?_⟩;obtain⟨A',c,h1,h2⟩:=hc i hi;exact⟨A',c,h1,h2.mono hm⟩
theorem LAtS.on{xs:List (List Int)}(h:LAtS S w A xs)(hb:Am w.heap.size w w'):LAtS S w' A xs:=
 ((h.mono (S':=fun k=>S k/\k<w.heap.size) fun _ hk hs=>⟨hs,hk⟩).keep ⟨hb.size,fun k hk _=>hb.block k hk.2⟩).mono fun _ _ hs=>hs.1
theorem LAtS.lat{xs:List (List Int)}(h:LAtS S w A xs):LAt w w.heap.size A xs:=fun h0=>by
 obtain⟨b,off,e,hs,hb,hc⟩:=h h0;refine⟨b,off,e,hb,fun i hi=>?_⟩;obtain⟨A',c,h1,h2⟩:=hc i hi;exact⟨A',c,h1,h2.iat⟩
theorem LAtS.of_lat{xs:List (List Int)}{B:Nat}(h:LAt w B A xs)(hB:B<=w.heap.size)(hS:∀k,k<B->S k):LAtS S w A xs:=fun h0=>by
 obtain⟨b,off,e,hb,hc⟩:=h h0;refine⟨b,off,e,hS b hb,by omega,fun i hi=>?_⟩;obtain⟨A',c,h1,h2⟩:=hc i hi;exact⟨A',c,h1,IAtS.of_iat h2 hB hS⟩
def MAtS(S:Nat->Prop)(w:Ba)(A:Bb)(ms:List Mv):Prop:=
 0<ms.length->∃b off,A=J ⟨b,off,Z⟩/\S b/\b<w.heap.size/\∀(i:Nat) (hi:i<ms.length) (k:Nat) (u:Ar),ms[i].cells[k]?=J u->w.cell? ⟨b,off+i*8+k,Z⟩=J u
theorem MAtS.keep{xs:List Mv}(h:MAtS S w A xs)(hk:KeepB S w w'):MAtS S w' A xs:=fun h0=>by
 obtain⟨b,off,e,hs,hb,hc⟩:=h h0;exact⟨b,off,e,hs,LE hb hk.size,fun i hi k u hu=>qX hk hs (hc i hi k u hu)⟩
theorem MAtS.keepC{xs:List Mv}(h:MAtS S w A xs)(hk:KeepC S w w'):MAtS S w' A xs:=fun h0=>by
 obtain⟨b,off,e,hs,hb,hc⟩:=h h0;exact⟨b,off,e,hs,LE hb hk.size,fun i hi k u hu=>hk.cell _ _ _ hs (hc i hi k u hu)⟩
theorem MAtS.mono{xs:List Mv}(h:MAtS S w A xs)(hm:∀k,k<w.heap.size->S k->S' k):MAtS S' w A xs:=fun h0=>by
 obtain⟨b,off,e,hs,hb,hc⟩:=h h0;exact⟨b,off,e,hm b hb hs,hb,hc⟩
theorem MAtS.mat{xs:List Mv}(h:MAtS S w A xs):MAt w w.heap.size A xs:=fun h0=>by
 obtain⟨b,off,e,hs,hb,hc⟩:=h h0;exact⟨b,off,e,hb,hc⟩
theorem MAtS.of_mat{xs:List Mv}{B:Nat}(h:MAt w B A xs)(hB:B<=w.heap.size)(hS:∀k,k<B->S k):MAtS S w A xs:=fun h0=>by
 obtain⟨b,off,e,hb,hc⟩:=h h0;exact⟨b,off,e,hS b hb,by omega,hc⟩
end
structure Ct(α:Type) where
 K:Kd
 lies:(Nat->Prop)->Ba->List Ar->α->Prop
structure CtOk{α:Type}(C:Ct α):Prop where
 len:∀ {S w cs x},C.lies S w cs x->cs.length=C.K.size
 one:∀ {S w cs x},C.lies S w cs x->∀u∈cs,u.oneCell'=Au
 keep:∀ {S w w' cs x},C.lies S w cs x->KeepB S w w'->C.lies S w' cs x
 keepC:∀ {S w w' cs x},C.lies S w cs x->KeepC S w w'->C.lies S w' cs x
 mono:∀ {S S' w cs x},C.lies S w cs x->(∀k,k<w.heap.size->S k->S' k)->C.lies S' w cs x
def OwnX{α:Type}(C:Ct α)(S:Nat->Prop)(w:Ba)(ab:Nat)(v:Ar)(xs:List α):Prop:=
 ∃bE:List (List Ar),bE.length=xs.length/\OwnR C.K w ab v xs.length bE.flatten/\∀(i:Nat) (h1:i<bE.length) (h2:i<xs.length),C.lies (fun k=>S k/\v.ownBlock≠J k) w bE[i] xs[i]
theorem Zz{s:Nat}:∀(bE:List (List Ar)) (_:∀c∈bE,c.length=s) (i:Nat) (hi:i<bE.length) (k:Nat),k<s->bE.flatten[i*s+k]?=bE[i][k]?
 | c::bE,h,0,hi,k,hk=>by
  have:=h c (by simp);rw[Rg,LO (by omega)];simp
 | c::bE,h,i+1,hi,k,hk=>by
  have hc:=h c (by simp);have:=Zz bE (fun d hd=>h d (by simp[hd])) i (by simpa using hi) k hk;rw[Rg,LJ (by rw[hc,Rf];omega),hc,show(i+1)*s+k-s=i*s+k by rw[Rf];omega,this]
  rfl
section
variable {α:Type} {C:Ct α} {S S':Nat->Prop} {w w':Ba} {ab:Nat} {v:Ar} {xs:List α}
theorem OwnX.nil(C:Ct α)(S:Nat->Prop)(w:Ba)(ab:Nat):OwnX C S w ab (I Z 0 0) []:=⟨[],rfl,OwnR.nil _ _ _,fun i h1 _=>absurd h1 (by simp)⟩
theorem OwnX.lt(h:OwnX C S w ab v xs):∀k,v.ownBlock=J k->ab<=k/\k<w.heap.size:=by
 obtain⟨bE,_,h2,_⟩:=h;exact h2.lt
theorem OwnX.ne{b:Nat}(h:OwnX C S w ab v xs)(hb:b<ab):v.ownBlock≠J b:=fun e=>by
 have:=(h.lt b e).1;omega
theorem OwnX.kept(ok:CtOk C){row:Option Nat}(h:OwnX C S w ab v xs)(hg:w.grownBy w' row)(bC:v.ownBlock=Z\/v.ownBlock≠row)(hS:∀k,row=J k->¬S k\/v.ownBlock=J k):OwnX C S w' ab v xs:=by
 obtain⟨bE,hl,h2,h3⟩:=h;refine⟨bE,hl,h2.kept hg bC,fun i i1 i2=>ok.keep (h3 i i1 i2) (KeepB.of_grown hg fun k hk hs=>?_)⟩;rcases hS k hk with h | h
 . exact h hs.1
 exact hs.2 h
theorem OwnX.keep(ok:CtOk C)(h:OwnX C S w ab v xs)(hk:KeepB S w w')(hv:∀k,v.ownBlock=J k->w'.heap[k]?=w.heap[k]?):OwnX C S w' ab v xs:=by
 obtain⟨bE,hl,h2,h3⟩:=h;refine⟨bE,hl,?_,fun i i1 i2=>ok.keep (h3 i i1 i2) (hk.mono fun k hk=>hk.1)⟩;refine⟨h2.1,?_⟩;rcases h2.2 with hn | ⟨g,cap,cur,Bs,hb,hg,rest⟩
 . exact .inl hn
 exact .inr ⟨g,cap,cur,Bs,hb,(hv g (by rw[Bs];rfl)).trans hg,rest⟩
theorem OwnX.turn(ok:CtOk C)(h:OwnX C S w ab v xs)(hs:w.heap.size<=w'.heap.size)(hc:∀(k:Nat) (o:Obj),w.heap[k]?=J o->o.isCells=Au->w'.heap[k]?=J o):OwnX C S w' ab v xs:=by
 obtain⟨bE,hl,h2,h3⟩:=h;refine⟨bE,hl,?_,fun i i1 i2=>ok.keepC (h3 i i1 i2) (KeepC.of_cells _ hs hc)⟩;refine⟨h2.1,?_⟩;rcases h2.2 with hn | ⟨g,cap,cur,Bs,hb,hg,rest⟩
 . exact .inl hn
 exact .inr ⟨g,cap,cur,Bs,hb,hc g _ hg rfl,rest⟩
theorem OwnX.below(ok:CtOk C){B:Nat}(h:OwnX C S w ab v xs)(hb:Am B w w')(hB:w.heap.size<=B):OwnX C S w' ab v xs:=
 h.keep ok ⟨hb.size,fun k _ hk=>hb.block k (by omega)⟩ (fun k hk=>hb.block k (by have:=(h.lt k hk).2;omega))
theorem OwnX.mono(ok:CtOk C)(h:OwnX C S w ab v xs)(hm:∀k,k<w.heap.size->S k->S' k):OwnX C S' w ab v xs:=by
 obtain⟨bE,hl,h2,h3⟩:=h;exact⟨bE,hl,h2,fun i i1 i2=>ok.mono (h3 i i1 i2) fun k hk hs=>⟨hm k hk hs.1,hs.2⟩⟩
theorem OwnX.low{base':Nat}(h:OwnX C S w ab v xs)(hb:base'<=ab):OwnX C S w base' v xs:=by
 obtain⟨bE,hl,h2,h3⟩:=h;exact⟨bE,hl,h2.low hb,h3⟩
theorem OwnX.app(ok:CtOk C){g' cap:Nat}{bE:List (List Ar)}{x:α}{cs:List Ar}(hl:bE.length=xs.length)(h3:∀(i:Nat) (h1:i<bE.length) (h2:i<xs.length),C.lies (fun k=>S k/\v.ownBlock≠J k) w bE[i] xs[i])
  (hx:C.lies (fun k=>S k/\v.ownBlock≠J k) w cs x) (hr:OwnR C.K w' ab (I (J ⟨g',0,Z⟩) (xs.length+1) cap) (xs.length+1) (bE.flatten++cs)) (hg:w.grownBy w' v.ownBlock) (bG:v.ownBlock=J g'\/g'=w.heap.size) :
  OwnX C S w' ab (I (J ⟨g',0,Z⟩) (xs.length+1) cap) (xs++[x]):=by
 have go:∀ {cs x},C.lies (fun k=>S k/\v.ownBlock≠J k) w cs x->C.lies (fun k=>S k/\(I (J ⟨g',0,Z⟩) (xs.length+1) cap).ownBlock≠J k) w' cs x:=fun h=>by
  have h1:=ok.mono (S':=fun k=>S k/\v.ownBlock≠J k/\g'≠k) h fun k hk hs=>⟨hs.1,hs.2,by
   rcases bG with e | e
   . rintro rfl;exact hs.2 e
   . omega⟩
  have h2:=ok.keep h1 (KeepB.of_grown hg fun k hk hs=>hs.2.1 hk);exact ok.mono h2 fun k _ hs=>⟨hs.1,fun e=>hs.2.2 (by simpa[Value.ownBlock] using e)⟩
 refine⟨bE++[cs],by simp[hl],by simpa using hr,fun i i1 i2=>?_⟩
 by_cases hi:i<bE.length
 . have h2:i<xs.length:=by omega
   rw[Pq hi,Pq h2];exact go (h3 i hi h2)
 have e1:i=bE.length:=by simp at i1;omega
 subst e1;rw[N3 (Ld _),N3 (by omega)];simpa[hl] using go hx
theorem OwnX.form(ok:CtOk C)(h:OwnX C S w ab v xs):∃A cap,v=I A xs.length cap/\xs.length<=cap/\cap<=maxLen/\(0<xs.length->∃g,A=J ⟨g,0,Z⟩/\ab<=g/\g<w.heap.size /\
  ∀(i:Nat) (h2:i<xs.length),∃cs,C.lies (fun k=>S k/\k≠g) w cs xs[i]/\∀j u,cs[j]?=J u->w.cell? ⟨g,i*C.K.size+j,Z⟩=J u):=by
 obtain⟨bE,hl,h2,h3⟩:=h;have ac:=h2.lt;obtain⟨A,cap,rfl,hc,hm,hr⟩:=h2.form;refine⟨A,cap,rfl,hc,hm,fun h0=>?_⟩;obtain⟨g,rfl,hg,fd,bn⟩:=hr h0;refine⟨g,rfl,(ac g hg).1,fd,fun i hi=>?_⟩;have Vv:i<bE.length:=by omega
 refine⟨bE[i],ok.mono (h3 i Vv hi) fun k _ hs=>⟨hs.1,fun e=>hs.2 (by rw[hg,e])⟩,fun j u hu=>?_⟩
 have cN:∀c∈bE,c.length=C.K.size:=fun c hc=>by
  obtain⟨m,hm,rfl⟩:=LP hc;exact ok.len (h3 m hm (by omega))
 have cU:j<C.K.size:=by
  have:=(Lp.1 hu).1;rw[cN _ (Le Vv)] at this;exact this
 exact bn _ u (by rw[Zz bE cN i Vv j cU];exact hu)
end
end
section
open Go.RowKit
def Own(w:Ba)(ab:Nat)(v:Ar)(xs:List Int):Prop:=w.ownsRow ab 3 1 v xs.length (xs.map (O U))
theorem Own.nil(w:Ba)(ab:Nat):Own w ab (I Z 0 0) []:=P5 w ab _ 1
theorem Own.kept{w w':Ba}{ab:Nat}{v:Ar}{xs:List Int}{row:Option Nat}(h:Own w ab v xs)(hg:w.grownBy w' row)(bC:v.ownBlock=Z\/v.ownBlock≠row):Own w' ab v xs:=Pd h hg bC
theorem Own.below{w w':Ba}{ab B:Nat}{v:Ar}{xs:List Int}(h:Own w ab v xs)(hb:Am B w w')(hB:w.heap.size<=B):Own w' ab v xs:=
 Pd (row:=Z) h ⟨hb.os,hb.tape,hb.output,hb.size,fun k hk _=>hb.block k (by omega)⟩ (by cases v.ownBlock<;>simp)
theorem Own.shut{w w':Ba}{ab B:Nat}{v:Ar}{xs:List Int}(h:Own w ab v xs)(hs:Shut B w w'):Own w' ab v xs:=hs.own h
theorem Own.form{w:Ba}{ab:Nat}{v:Ar}{xs:List Int}(h:Own w ab v xs):∃A cap,v=I A xs.length cap/\xs.length<=cap/\cap<=maxLen/\IAt w w.heap.size A xs:=by
 rcases h.2 with ⟨rfl,h0⟩ | ⟨g,cap,cur,rfl,_,_,ed,oU,_⟩
 . have:xs=[]:=LR h0
   subst this;exact⟨Z,0,rfl,Ld _,Nz _,IAt.nil _ _ _⟩
 exact⟨_,_,rfl,ed,oU,IAt.of_own h⟩
theorem Own.low{w:Ba}{ab base':Nat}{v:Ar}{xs:List Int}(h:Own w ab v xs)(hb:base'<=ab):Own w base' v xs:=by
 refine⟨h.1,?_⟩;rcases h.2 with h2 | ⟨g,cap,cur,hv,hg,r⟩
 . exact Or.inl h2
 exact Or.inr ⟨g,cap,cur,hv,by omega,r⟩
theorem Own.lt{w:Ba}{ab:Nat}{v:Ar}{xs:List Int}(h:Own w ab v xs):∀k,v.ownBlock=J k->ab<=k/\k<w.heap.size:=Rk h
theorem Q7:(Al.info? 3).map (fun i=>(i.zero,i.size,i.bytes))=J (J (O U 0),1,8):=by kernel_rfl
theorem xz{w w':Ba}{o:Obj}{row:Option Nat}(h:(w.alloc o).grownBy w' row):w.grownBy w' row:=
 ⟨h.os,h.tape,h.output,Lr (by simp) h.size,fun k hk bC=>(h.block k (by simp;omega) bC).trans (NP w o k hk)⟩
theorem gz{ops:Array Oper}{rest:List Oper}{o:Oper}{a:Act}{Q:Exit->Act->Ba->Prop}{W:Ba}(i5:o.guard=Z)(s x:Operand)
  (cS:o.op=.call { callee:=.builtin .append,args:=#[s,x],argTypes:=#[50,50] }) (ab:Nat) (v:Ar) (xs:List Int) (u:Int) (hs:a.eval s=v) (bZ:Own W ab v xs)
  (hx:a.eval x=I (J ⟨W.heap.size,0,Z⟩) 1 1) (aL:xs.length<8796093022208) (hb:ab<=W.heap.size)
  (h:∀v' w1,Own w1 ab v' (xs++[u])->W.grownBy w1 v.ownBlock->Am ab W w1->wpList Al ops Q rest (a.put o.dst v') w1) :
  wpList Al ops Q (o::rest) a (W.alloc (Ag #[O U u] 3)):=by
 obtain⟨i0,hi,eO,cY,ep⟩:=RO Q7
 refine Pi _ i5 s x 50 cS ab 3 i0 (O U 0) 1 8 NJ hi eO cY ep rfl (by decide) v xs.length _ hs (PN bZ _) ⟨W.heap.size,0,Z⟩ 1 1 [O U u] hx rfl (cell_one_new _ _ _)
  (by simp[Value.oneCell']) (by unfold maxLen;omega) (by omega) (by simp;omega) ?_
 intro v' w1 dB cJ _;have hg:=xz cJ;refine h v' w1 ?_ hg ((Li ab W).grown hg hb fun k hk=>(bZ.lt k hk).1);unfold Own;rw[Lv,LK];exact dB
theorem vB{F:Fence}{n:Nat}{ops:Array Oper}{rest:List Oper}{o:Oper}{a:Act}{Q:Exit->Act->Ba->Prop}{W:Ba}(i5:o.guard=Z)(s x:Operand)
  (cS:o.op=.call { callee:=.builtin .append,args:=#[s,x],argTypes:=#[50,50] }) (ab:Nat) (v:Ar) (xs:List Int) (u:Int) (hs:a.eval s=v) (bZ:Own W ab v xs)
  (hx:a.eval x=I (J ⟨W.heap.size,0,Z⟩) 1 1) (aL:xs.length<8796093022208) (hb:ab<=W.heap.size)
  (h:∀v' w1,Own w1 ab v' (xs++[u])->W.grownBy w1 v.ownBlock->Am ab W w1->wpListIn F n Al ops Q rest (a.put o.dst v') w1) :
  wpListIn F n Al ops Q (o::rest) a (W.alloc (Ag #[O U u] 3)):=by
 obtain⟨i0,hi,eO,cY,ep⟩:=RO Q7
 refine wpListIn_append_own _ i5 s x 50 cS ab 3 i0 (O U 0) 1 8 NJ hi eO cY ep rfl (by decide) v xs.length _ hs (PN bZ _) ⟨W.heap.size,0,Z⟩ 1 1 [O U u] hx rfl (cell_one_new _ _ _)
  (by simp[Value.oneCell']) (by unfold maxLen;omega) (by omega) (by simp;omega) ?_
 intro v' w1 dB cJ _;have hg:=xz cJ;refine h v' w1 ?_ hg ((Li ab W).grown hg hb fun k hk=>(bZ.lt k hk).1);unfold Own;rw[Lv,LK];exact dB
def RowAt(w:Ba)(g:Nat)(xs:List Int):Prop:=w.heap[g]?=J (Ag (xs.map (O U)).toArray 3 (0,0))
theorem RowAt.cell{w:Ba}{g:Nat}{xs:List Int}(h:RowAt w g xs)(k:Nat)(hk:k<xs.length):w.cell? ⟨g,k,Z⟩=J (O U xs[k]):=zh h k (by simp[hk])
theorem RowAt.froz{w:Ba}{g:Nat}{xs:List Int}(h:RowAt w g xs)(k:Nat):w.frozen? ⟨g,k,Z⟩=Aw:=zi h k
theorem RowAt.lt{w:Ba}{g:Nat}{xs:List Int}(h:RowAt w g xs):g<w.heap.size:=zk h
theorem RowAt.set{w:Ba}{g:Nat}{xs:List Int}(h:RowAt w g xs)(k:Nat)(u:Int):RowAt (w.setCell ⟨g,k,Z⟩ (O U u)) g (xs.set k u):=by
 unfold RowAt at *;rw[World.setCell,PF,Lj rfl,h];simp[List.map_set]
theorem zm(w:Ba)(c1:Array Ar)(t1:TypeId):∃W0,w.alloc (Ag c1 t1)=W0/\W0.heap[w.heap.size]?=J (Ag c1 t1 (0,0))/\W0.heap.size=w.heap.size+1/\Am w.heap.size w W0:=
 ⟨_,rfl,zx _ _,by simp,zU w _⟩
theorem zQ(w:Ba)(g k:Nat)(v':Ar):w.grownBy (w.setCell ⟨g,k,Z⟩ v') (J g):=
 ⟨rfl,rfl,rfl,by simp[World.setCell],fun j _ hj=>Lf w ⟨g,k,Z⟩ v' j (fun e=>hj (by rw[e]))⟩
def kRd:Kd:=⟨76,124,7,56,Ai #[O U 0,O U 0,O U 0,O U 0,O U 0,O U 0,O U 0]⟩
theorem X0:KdOk Al kRd:=⟨PU,by kernel_rfl,by rfl,by decide,by decide⟩
def kMv:Kd:=⟨78,79,8,64,Ai #[O U 0,O U 0,O U 0,O U 0,O U 0,O U 0,O U 0,O U 0]⟩
theorem kMv_ok:KdOk Al kMv:=⟨P7,by kernel_rfl,by rfl,by decide,by decide⟩
def kWd:Kd:=⟨124,113,1,24,I Z 0 0⟩
theorem kWd_ok:KdOk Al kWd:=⟨underlying113,by kernel_rfl,by rfl,by decide,by decide⟩
def kIs:Kd:=⟨50,69,1,24,I Z 0 0⟩
theorem X3:KdOk Al kIs:=⟨underlying69,by kernel_rfl,by rfl,by decide,by decide⟩
def kMl:Kd:=⟨79,25,1,24,I Z 0 0⟩
theorem kMl_ok:KdOk Al kMl:=⟨Rc,by kernel_rfl,by rfl,by decide,by decide⟩
def kCs:Kd:=⟨71,22,3,72,Ai #[I Z 0 0,I Z 0 0,I Z 0 0]⟩
theorem kCs_ok:KdOk Al kCs:=⟨Re,by kernel_rfl,by rfl,by decide,by decide⟩
def kXn:Kd:=⟨128,37,3,56,Ai #[O U 0,I Z 0 0,I Z 0 0]⟩
theorem kXn_ok:KdOk Al kXn:=⟨underlying37,by kernel_rfl,by rfl,by decide,by decide⟩
def kIn:Kd:=⟨3,50,1,8,O U 0⟩
theorem Yl:KdOk Al kIn:=⟨NJ,by kernel_rfl,by rfl,by decide,by decide⟩
def kVw:Kd:=⟨133,34,8,64,Ai #[O U 0,O U 0,O U 0,O U 0,O U 0,O U 0,O U 0,O U 0]⟩
theorem kVw_ok:KdOk Al kVw:=⟨Ra,by kernel_rfl,by rfl,by decide,by decide⟩
def RetR(K:Kd)(n:Nat)(cs:List Ar)(w:Ba)(e:Ending)(w':Ba):Prop:=∃v,e=Ak v/\OwnR K w' w.heap.size v n cs/\Am w.heap.size w w'
theorem Xw(A:Bb)(n cap:Nat)(cs:List Ar)(w:Ba)(hl:cs.length=n*7)(hA:Raw w A n cs)(h1:∀u∈cs,u.oneCell'=Au)(hn:n<=1000000) :
  An Al 52 #[I A n cap] w (RetR kRd n cs w):=by
 have HT:=zH hA;have H1:=zH h1;have HL:=zH hl;have q:∀(w:Ba) (a:Bb) (n c n' c':Nat),(binOp .eql 124 (I a n c) (I Z n' c')).run Al w=.ok (Ah a.isNone) w:=fun w a n c n' c'=>Ph w _ _ a n c n' c' PU
 obtain⟨i0,hi,eO,cY,ep⟩:=xe X0
 cases A with
 | none=>
  have pJ:n=0:=by
   rcases Nu n with h | h
   . exact h
   . obtain⟨b,off,e,_⟩:=HT.out h;cases e
  subst pJ;have cN:cs=[]:=LR (by have:=HL.out;omega);subst cN;go_enter func52,ntmps52;go_wp2;go_ret;exact⟨_,rfl,OwnR.nil _ _ _,Li _ _⟩
 | some ad=>
  have HC:Aq (∀(j:Nat) (u:Ar),cs[j]?=J u->(w.alloc (Ag #[] 76)).cell? (ad.add j)=J u):=fun j u hj=>by
   have cU:j<n*7:=by rw[<-HL.out];exact(Lp.1 hj).1
   obtain⟨b,off,e,ac,hc⟩:=HT.out (by omega)
   cases e
   rw[Pf];exact Pm _ (hc j u hj)
  go_enter func52,ntmps52;go_wp2_with (at_builtin;refine Pi _ rfl _ _ 124 rfl w.heap.size 76 i0 _ 7 56 PU hi eO cY ep rfl (by decide) _ _ _ rfl (Pu w #[] 0 (Ld _) (Nz _) rfl) ad n cap cs rfl HL.out HC.out H1.out ?qc4 ?qc5 ?qc6 ?_)
  case qc4=>unfold maxLen;omega
  case qc5=>omega
  case qc6=>simp
  intro v' w1 bZ cJ sm;go_wp2;go_ret;refine⟨v',rfl,bZ,?_⟩;exact((Li _ w).alloc (Ld _) _).grown cJ (by simp) (by intro k hk;simp[Value.ownBlock] at hk;omega)
theorem clone_kCs(A:Bb)(n cap:Nat)(cs:List Ar)(w:Ba)(hl:cs.length=n*3)(hA:Raw w A n cs)(h1:∀u∈cs,u.oneCell'=Au)(hn:n<=1000000) :
  An Al 87 #[I A n cap] w (RetR kCs n cs w):=by
 have HT:=zH hA;have H1:=zH h1;have HL:=zH hl;have q:∀(w:Ba) (a:Bb) (n c n' c':Nat),(binOp .eql 22 (I a n c) (I Z n' c')).run Al w=.ok (Ah a.isNone) w:=fun w a n c n' c'=>Ph w _ _ a n c n' c' Re
 obtain⟨i0,hi,eO,cY,ep⟩:=xe kCs_ok
 cases A with
 | none=>
  have pJ:n=0:=by
   rcases Nu n with h | h
   . exact h
   . obtain⟨b,off,e,_⟩:=HT.out h;cases e
  subst pJ;have cN:cs=[]:=LR (by have:=HL.out;omega);subst cN;go_enter func87,ntmps87;go_wp2;go_ret;exact⟨_,rfl,OwnR.nil _ _ _,Li _ _⟩
 | some ad=>
  have HC:Aq (∀(j:Nat) (u:Ar),cs[j]?=J u->(w.alloc (Ag #[] 71)).cell? (ad.add j)=J u):=fun j u hj=>by
   have cU:j<n*3:=by rw[<-HL.out];exact(Lp.1 hj).1
   obtain⟨b,off,e,ac,hc⟩:=HT.out (by omega)
   cases e
   rw[Pf];exact Pm _ (hc j u hj)
  go_enter func87,ntmps87;go_wp2_with (at_builtin;refine Pi _ rfl _ _ 22 rfl w.heap.size 71 i0 _ 3 72 Re hi eO cY ep rfl (by decide) _ _ _ rfl (Pu w #[] 0 (Ld _) (Nz _) rfl) ad n cap cs rfl HL.out HC.out H1.out ?qc4 ?qc5 ?qc6 ?_)
  case qc4=>unfold maxLen;omega
  case qc5=>omega
  case qc6=>simp
  intro v' w1 bZ cJ sm;go_wp2;go_ret;refine⟨v',rfl,bZ,?_⟩;exact((Li _ w).alloc (Ld _) _).grown cJ (by simp) (by intro k hk;simp[Value.ownBlock] at hk;omega)
theorem clone_kMv(A:Bb)(n cap:Nat)(cs:List Ar)(w:Ba)(hl:cs.length=n*8)(hA:Raw w A n cs)(h1:∀u∈cs,u.oneCell'=Au)(hn:n<=1000000) :
  An Al 90 #[I A n cap] w (RetR kMv n cs w):=by
 have HT:=zH hA;have H1:=zH h1;have HL:=zH hl;have q:∀(w:Ba) (a:Bb) (n c n' c':Nat),(binOp .eql 79 (I a n c) (I Z n' c')).run Al w=.ok (Ah a.isNone) w:=fun w a n c n' c'=>Ph w _ _ a n c n' c' P7
 obtain⟨i0,hi,eO,cY,ep⟩:=xe kMv_ok
 cases A with
 | none=>
  have pJ:n=0:=by
   rcases Nu n with h | h
   . exact h
   . obtain⟨b,off,e,_⟩:=HT.out h;cases e
  subst pJ;have cN:cs=[]:=LR (by have:=HL.out;omega);subst cN;go_enter func90,ntmps90;go_wp2;go_ret;exact⟨_,rfl,OwnR.nil _ _ _,Li _ _⟩
 | some ad=>
  have HC:Aq (∀(j:Nat) (u:Ar),cs[j]?=J u->(w.alloc (Ag #[] 78)).cell? (ad.add j)=J u):=fun j u hj=>by
   have cU:j<n*8:=by rw[<-HL.out];exact(Lp.1 hj).1
   obtain⟨b,off,e,ac,hc⟩:=HT.out (by omega)
   cases e
   rw[Pf];exact Pm _ (hc j u hj)
  go_enter func90,ntmps90;go_wp2_with (at_builtin;refine Pi _ rfl _ _ 79 rfl w.heap.size 78 i0 _ 8 64 P7 hi eO cY ep rfl (by decide) _ _ _ rfl (Pu w #[] 0 (Ld _) (Nz _) rfl) ad n cap cs rfl HL.out HC.out H1.out ?qc4 ?qc5 ?qc6 ?_)
  case qc4=>unfold maxLen;omega
  case qc5=>omega
  case qc6=>simp
  intro v' w1 bZ cJ sm;go_wp2;go_ret;refine⟨v',rfl,bZ,?_⟩;exact((Li _ w).alloc (Ld _) _).grown cJ (by simp) (by intro k hk;simp[Value.ownBlock] at hk;omega)
theorem clone_kMl(A:Bb)(n cap:Nat)(cs:List Ar)(w:Ba)(hl:cs.length=n*1)(hA:Raw w A n cs)(h1:∀u∈cs,u.oneCell'=Au)(hn:n<=1000000) :
  An Al 89 #[I A n cap] w (RetR kMl n cs w):=by
 have HT:=zH hA;have H1:=zH h1;have HL:=zH hl;have q:∀(w:Ba) (a:Bb) (n c n' c':Nat),(binOp .eql 25 (I a n c) (I Z n' c')).run Al w=.ok (Ah a.isNone) w:=fun w a n c n' c'=>Ph w _ _ a n c n' c' Rc
 obtain⟨i0,hi,eO,cY,ep⟩:=xe kMl_ok
 cases A with
 | none=>
  have pJ:n=0:=by
   rcases Nu n with h | h
   . exact h
   . obtain⟨b,off,e,_⟩:=HT.out h;cases e
  subst pJ;have cN:cs=[]:=LR (by have:=HL.out;omega);subst cN;go_enter func89,ntmps89;go_wp2;go_ret;exact⟨_,rfl,OwnR.nil _ _ _,Li _ _⟩
 | some ad=>
  have HC:Aq (∀(j:Nat) (u:Ar),cs[j]?=J u->(w.alloc (Ag #[] 79)).cell? (ad.add j)=J u):=fun j u hj=>by
   have cU:j<n*1:=by rw[<-HL.out];exact(Lp.1 hj).1
   obtain⟨b,off,e,ac,hc⟩:=HT.out (by omega)
   cases e
   rw[Pf];exact Pm _ (hc j u hj)
  go_enter func89,ntmps89;go_wp2_with (at_builtin;refine Pi _ rfl _ _ 25 rfl w.heap.size 79 i0 _ 1 24 Rc hi eO cY ep rfl (by decide) _ _ _ rfl (Pu w #[] 0 (Ld _) (Nz _) rfl) ad n cap cs rfl HL.out HC.out H1.out ?qc4 ?qc5 ?qc6 ?_)
  case qc4=>unfold maxLen;omega
  case qc5=>omega
  case qc6=>simp
  intro v' w1 bZ cJ sm;go_wp2;go_ret;refine⟨v',rfl,bZ,?_⟩;exact((Li _ w).alloc (Ld _) _).grown cJ (by simp) (by intro k hk;simp[Value.ownBlock] at hk;omega)
theorem clone_kIn(A:Bb)(n cap:Nat)(cs:List Ar)(w:Ba)(hl:cs.length=n*1)(hA:Raw w A n cs)(h1:∀u∈cs,u.oneCell'=Au)(hn:n<=1000000) :
  An Al 80 #[I A n cap] w (RetR kIn n cs w):=by
 have HT:=zH hA;have H1:=zH h1;have HL:=zH hl;have q:∀(w:Ba) (a:Bb) (n c n' c':Nat),(binOp .eql 50 (I a n c) (I Z n' c')).run Al w=.ok (Ah a.isNone) w:=fun w a n c n' c'=>Ph w _ _ a n c n' c' NJ
 obtain⟨i0,hi,eO,cY,ep⟩:=xe Yl
 cases A with
 | none=>
  have pJ:n=0:=by
   rcases Nu n with h | h
   . exact h
   . obtain⟨b,off,e,_⟩:=HT.out h;cases e
  subst pJ;have cN:cs=[]:=LR (by have:=HL.out;omega);subst cN;go_enter func80,ntmps80;go_wp2;go_ret;exact⟨_,rfl,OwnR.nil _ _ _,Li _ _⟩
 | some ad=>
  have HC:Aq (∀(j:Nat) (u:Ar),cs[j]?=J u->(w.alloc (Ag #[] 3)).cell? (ad.add j)=J u):=fun j u hj=>by
   have cU:j<n*1:=by rw[<-HL.out];exact(Lp.1 hj).1
   obtain⟨b,off,e,ac,hc⟩:=HT.out (by omega)
   cases e
   rw[Pf];exact Pm _ (hc j u hj)
  go_enter func80,ntmps80;go_wp2_with (at_builtin;refine Pi _ rfl _ _ 50 rfl w.heap.size 3 i0 _ 1 8 NJ hi eO cY ep rfl (by decide) _ _ _ rfl (Pu w #[] 0 (Ld _) (Nz _) rfl) ad n cap cs rfl HL.out HC.out H1.out ?qc4 ?qc5 ?qc6 ?_)
  case qc4=>unfold maxLen;omega
  case qc5=>omega
  case qc6=>simp
  intro v' w1 bZ cJ sm;go_wp2;go_ret;refine⟨v',rfl,bZ,?_⟩;exact((Li _ w).alloc (Ld _) _).grown cJ (by simp) (by intro k hk;simp[Value.ownBlock] at hk;omega)
end
section
open Go.RowKit
def yR(vs:List Rd):List Ar:=vs.flatMap fun x=>x.cells.toList
theorem vK(vs us:List Rd):yR (vs++us)=yR vs++yR us:=by simp[yR]
theorem xK(vs:List Rd):(yR vs).length=vs.length*7:=by
 induction vs with
 | nil=>rfl
 | cons v vs ih=>simp only[yR,List.flatMap_cons,List.length_append,List.length_cons] at *;rw[ih];simp[Rd.cells];omega
theorem wF:∀(vs:List Rd) (i:Nat) (hi:i<vs.length) (k:Nat),k<7->(yR vs)[i*7+k]?=vs[i].cells[k]?
 | v::vs,0,hi,k,hk=>by
  simp only[yR,List.flatMap_cons,List.getElem_cons_zero,Nat.zero_mul,Nat.zero_add];rw[LO (by simp[Rd.cells];omega)];simp
 | v::vs,i+1,hi,k,hk=>by
  have:=wF vs i (by simpa using hi) k hk;simp only[yR,List.flatMap_cons,List.getElem_cons_succ] at *;rw[LJ (by simp[Rd.cells];omega),<-this]
  congr 1
  simp[Rd.cells];omega
theorem vZ(vs:List Rd):∀u∈yR vs,u.oneCell'=Au:=by
 intro u hu;obtain⟨v,_,hv⟩:=NH.1 hu;simp only[Rd.cells,List.mem_cons,List.not_mem_nil,or_false] at hv;rcases hv with rfl | rfl | rfl | rfl | rfl | rfl | rfl<;>rfl
theorem Z9{w:Ba}{A:Bb}{vs:List Rd}(h:RAt w w.heap.size A vs):Raw w A vs.length (yR vs):=fun h0=>by
 obtain⟨b,off,e,ac,hc⟩:=h h0;refine⟨b,off,e,ac,fun j u hj=>?_⟩;have hj8:j<vs.length*7:=by have:=(Lp.1 hj).1;rwa[xK] at this
 have fX:j / 7<vs.length:=by omega
 have h8:j / 7*7+j % 7=j:=by omega
 rw[<-h8,wF vs (j / 7) fX (j % 7) (by omega)] at hj;have:=hc (j / 7) fX (j % 7) u hj;rwa[Pp,h8] at this
theorem vY{w:Ba}{ab:Nat}{v:Ar}{vs:List Rd}(h:OwnR kRd w ab v vs.length (yR vs)):∃A cap,v=I A vs.length cap/\vs.length<=cap/\cap<=maxLen/\RAtS (fun k=>ab<=k) w A vs:=by
 have ac:=h.lt;obtain⟨A,cap,rfl,hc,hm,hr⟩:=h.form;refine⟨A,cap,rfl,hc,hm,fun h0=>?_⟩;obtain⟨g,rfl,hg,fd,bn⟩:=hr h0;refine⟨g,0,rfl,(ac g hg).1,fd,fun i hi k u hu=>?_⟩;have hk:k<7:=by have:=(Ln.1 hu).1;simpa[Rd.cells] using this
 rw[LQ];exact bn _ u (by rw[wF vs i hi k hk];exact hu)
def kM(vs:List Mv):List Ar:=vs.flatMap fun x=>x.cells.toList
theorem vN(vs:List Mv):(kM vs).length=vs.length*8:=by
 induction vs with
 | nil=>rfl
 | cons v vs ih=>simp only[kM,List.flatMap_cons,List.length_append,List.length_cons] at *;rw[ih];simp[Mv.cells];omega
theorem wT:∀(vs:List Mv) (i:Nat) (hi:i<vs.length) (k:Nat),k<8->(kM vs)[i*8+k]?=vs[i].cells[k]?
 | v::vs,0,hi,k,hk=>by
  simp only[kM,List.flatMap_cons,List.getElem_cons_zero,Nat.zero_mul,Nat.zero_add];rw[LO (by simp[Mv.cells];omega)];simp
 | v::vs,i+1,hi,k,hk=>by
  have:=wT vs i (by simpa using hi) k hk;simp only[kM,List.flatMap_cons,List.getElem_cons_succ] at *;rw[LJ (by simp[Mv.cells];omega),<-this]
  congr 1
  simp[Mv.cells];omega
theorem mcells_one(vs:List Mv):∀u∈kM vs,u.oneCell'=Au:=by
 intro u hu;obtain⟨v,_,hv⟩:=NH.1 hu;simp only[Mv.cells,List.mem_cons,List.not_mem_nil,or_false] at hv;rcases hv with rfl | rfl | rfl | rfl | rfl | rfl | rfl | rfl<;>rfl
theorem mcells_raw{w:Ba}{A:Bb}{vs:List Mv}(h:MAt w w.heap.size A vs):Raw w A vs.length (kM vs):=fun h0=>by
 obtain⟨b,off,e,ac,hc⟩:=h h0;refine⟨b,off,e,ac,fun j u hj=>?_⟩;have hj8:j<vs.length*8:=by have:=(Lp.1 hj).1;rwa[vN] at this
 have fX:j / 8<vs.length:=by omega
 have h8:j / 8*8+j % 8=j:=by omega
 rw[<-h8,wT vs (j / 8) fX (j % 8) (by omega)] at hj;have:=hc (j / 8) fX (j % 8) u hj;rwa[Pp,h8] at this
theorem mcells_own{w:Ba}{ab:Nat}{v:Ar}{vs:List Mv}(h:OwnR kMv w ab v vs.length (kM vs)):∃A cap,v=I A vs.length cap/\vs.length<=cap/\cap<=maxLen/\MAtS (fun k=>ab<=k) w A vs:=by
 have ac:=h.lt;obtain⟨A,cap,rfl,hc,hm,hr⟩:=h.form;refine⟨A,cap,rfl,hc,hm,fun h0=>?_⟩;obtain⟨g,rfl,hg,fd,bn⟩:=hr h0;refine⟨g,0,rfl,(ac g hg).1,fd,fun i hi k u hu=>?_⟩;have hk:k<8:=by have:=(Ln.1 hu).1;simpa[Mv.cells] using this
 rw[LQ];exact bn _ u (by rw[wT vs i hi k hk];exact hu)
def cIs:Ct (List Int):=⟨kIs,fun S w cs xs=>∃A c,cs=[I A xs.length c]/\IAtS S w A xs⟩
theorem yX:CtOk cIs where
 len:=fun ⟨A,c,e,_⟩=>by rw[e];rfl
 one:=fun ⟨A,c,e,_⟩ u hu=>by rw[e] at hu;simp at hu;subst hu;rfl
 keep:=fun ⟨A,c,e,h⟩ hk=>⟨A,c,e,h.keep hk⟩
 keepC:=fun ⟨A,c,e,h⟩ hk=>⟨A,c,e,h.keepC hk⟩
 mono:=fun ⟨A,c,e,h⟩ hm=>⟨A,c,e,h.mono hm⟩
def cWd:Ct (List Rd):=⟨kWd,fun S w cs xs=>∃A c,cs=[I A xs.length c]/\RAtS S w A xs/\xs.length<=c⟩
theorem qx:CtOk cWd where
 len:=fun ⟨A,c,e,_⟩=>by rw[e];rfl
 one:=fun ⟨A,c,e,_⟩ u hu=>by rw[e] at hu;simp at hu;subst hu;rfl
 keep:=fun ⟨A,c,e,h,hc⟩ hk=>⟨A,c,e,h.keep hk,hc⟩
 keepC:=fun ⟨A,c,e,h,hc⟩ hk=>⟨A,c,e,h.keepC hk,hc⟩
 mono:=fun ⟨A,c,e,h,hc⟩ hm=>⟨A,c,e,h.mono hm,hc⟩
def cMl:Ct (List Mv):=⟨kMl,fun S w cs xs=>∃A c,cs=[I A xs.length c]/\MAtS S w A xs⟩
theorem ku:CtOk cMl where
 len:=fun ⟨A,c,e,_⟩=>by rw[e];rfl
 one:=fun ⟨A,c,e,_⟩ u hu=>by rw[e] at hu;simp at hu;subst hu;rfl
 keep:=fun ⟨A,c,e,h⟩ hk=>⟨A,c,e,h.keep hk⟩
 keepC:=fun ⟨A,c,e,h⟩ hk=>⟨A,c,e,h.keepC hk⟩
 mono:=fun ⟨A,c,e,h⟩ hm=>⟨A,c,e,h.mono hm⟩
def cCs:Ct Cs:=⟨kCs,fun S w cs x=>∃A0 c0 A1 c1 A2 c2,cs=[I A0 x.inp.length c0,I A1 x.out.length c1,I A2 x.calm.length c2]/\IAtS S w A0 x.inp/\LAtS S w A1 x.out/\LAtS S w A2 x.calm⟩
theorem qj:CtOk cCs where
 len:=fun ⟨A0,c0,A1,c1,A2,c2,e,_⟩=>by rw[e];rfl
 one:=fun ⟨A0,c0,A1,c1,A2,c2,e,_⟩ u hu=>by rw[e] at hu;simp at hu;rcases hu with rfl | rfl | rfl<;>rfl
 keep:=fun ⟨A0,c0,A1,c1,A2,c2,e,h0,h1,h2⟩ hk=>⟨A0,c0,A1,c1,A2,c2,e,h0.keep hk,h1.keep hk,h2.keep hk⟩
 keepC:=fun ⟨A0,c0,A1,c1,A2,c2,e,h0,h1,h2⟩ hk=>⟨A0,c0,A1,c1,A2,c2,e,h0.keepC hk,h1.keepC hk,h2.keepC hk⟩
 mono:=fun ⟨A0,c0,A1,c1,A2,c2,e,h0,h1,h2⟩ hm=>⟨A0,c0,A1,c1,A2,c2,e,h0.mono hm,h1.mono hm,h2.mono hm⟩
section
variable {S:Nat->Prop} {w:Ba} {ab:Nat} {v:Ar}
theorem YI{xs:List (List Rd)}(h:OwnX cWd S w ab v xs):∃A cap,v=I A xs.length cap/\xs.length<=cap/\cap<=maxLen/\WAt w w.heap.size A xs:=by
 obtain⟨A,cap,e,h1,h2,h3⟩:=h.form qx;refine⟨A,cap,e,h1,h2,fun h0=>?_⟩;obtain⟨g,rfl,_,hg,hc⟩:=h3 h0;refine⟨g,0,rfl,hg,fun i hi=>?_⟩;obtain⟨cs,⟨A',c',rfl,hl,_⟩,ap⟩:=hc i hi;refine⟨A',c',?_,hl.rat⟩;have:=ap 0 _ rfl;rw[LQ];rwa[show i*cWd.K.size+0=i by show i*1+0=i;omega] at this
theorem Jw{xs:List (List Int)}(h:OwnX cIs S w ab v xs):∃A cap,v=I A xs.length cap/\xs.length<=cap/\cap<=maxLen/\LAtS (fun k=>S k\/ab<=k) w A xs:=by
 obtain⟨A,cap,e,h1,h2,h3⟩:=h.form yX;refine⟨A,cap,e,h1,h2,fun h0=>?_⟩;obtain⟨g,rfl,hb,hg,hc⟩:=h3 h0;refine⟨g,0,rfl,.inr hb,hg,fun i hi=>?_⟩;obtain⟨cs,⟨A',c',rfl,hl⟩,ap⟩:=hc i hi;refine⟨A',c',?_,hl.mono fun k _ hs=>.inl hs.1⟩;have:=ap 0 _ rfl;rw[LQ];rwa[show i*cIs.K.size+0=i by show i*1+0=i;omega] at this
theorem XC{xs:List (List Int)}(h:OwnX cIs S w ab v xs):∃A cap,v=I A xs.length cap/\xs.length<=cap/\cap<=maxLen/\LAtS (fun k=>S k\/v.ownBlock=J k) w A xs:=by
 obtain⟨A,cap,e,h1,h2,h3⟩:=h.form yX;refine⟨A,cap,e,h1,h2,fun h0=>?_⟩;obtain⟨g,rfl,hb,hg,hc⟩:=h3 h0;refine⟨g,0,rfl,.inr (by rw[e];rfl),hg,fun i hi=>?_⟩;obtain⟨cs,⟨A',c',rfl,hl⟩,ap⟩:=hc i hi;refine⟨A',c',?_,hl.mono fun k _ hs=>.inl hs.1⟩;have:=ap 0 _ rfl;rw[LQ];rwa[show i*cIs.K.size+0=i by show i*1+0=i;omega] at this
end
end
end Go.Proofs.YtkmbdfdaffmhjaaGreat
