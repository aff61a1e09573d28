/- Merged. -/
import Derived.Test.YtkmbdfdaffmhjaaGreatUa
import Derived.Deep.RegionHeld3
import Derived.Deep.DeepCutAuto
import Derived.StillTailTactics
import Derived.RangeFuncNested
import Derived.RangeFuncBound
import Derived.RangeFuncCalls
import Derived.RangeFuncLeaves
import Derived.Shelf.Abstract
import Derived.Shelf.RegionOpen
import Derived.OwnWalkIn
import Derived.TacticsInMore
import Derived.LoopNIn
import Derived.LoopIn
import Derived.SizedLaws
import Derived.OwnWalk
import Derived.Maps.AppendAt
import Derived.Lib.Walk
import Derived.Lib.SliceRun
open Go.Proofs.Tryz
open Go.Value renaming int->O,slice->I,bool->Ah,agg->Ai,pointer->Aj
open Go.IntKind renaming i64->U
open Option renaming none->Z,some->J
open Go.Obj renaming cells->Ag
open Go.Ending renaming returned->Ak
open Go.Proofs.Tryz renaming prog->Al,func173->Sf,underlying71->Rm,underlying22->Rq,underlying79->Rl,underlying25->Rp,underlying29->Ro
open Go.RowKit renaming Below->Am,intOf->Ar,Hid->As
open Go renaming Calls->An,Value->Au
open Bool renaming true->Av,false->Aw,false_and->N3
open Go.World renaming putObj_heap_other->Pt
open List renaming flatten_cons->Rt
open Go.World.ownsRow renaming kept->Pw,alloc->PH
open Go.World.grownBy renaming refl->R9
namespace Go.Proofs.YtkmbdfdaffmhjaaGreat
abbrev Lu:=@Nat.le_trans
abbrev NM:=@List.mem_iff_getElem
abbrev P6:=@beq_eq_false_iff_ne
abbrev LH:=@Nat.lt_of_lt_of_le
abbrev Le:=@Go.RowKit.Below.heap_setCell
abbrev RU:=@Go.wpIn_wide
abbrev Sx:=@List.nodup_nil
abbrev R5:=@Go.cells_of_cell
abbrev LL:=@Go.World.cell?_of_block
abbrev P5:=@List.nodup_cons
abbrev Se:=@Go.callsIn_wide
abbrev L9:=@List.mem_cons
abbrev LF:=@List.map_append
abbrev PP:=@List.map_map
abbrev LG:=@List.length_map
abbrev Ru:=@Go.callsIn_of_wp
abbrev Lx:=@List.length_cons
abbrev LW:=@List.nil_append
abbrev L3:=@List.cons_append
abbrev Lr:=@List.length_append
abbrev L6:=@List.append_assoc
abbrev SB:=@Array.getElem?_eq_getElem
abbrev LP:=@Go.bodyPost_ret
abbrev P8:=@Go.results_none
abbrev PT:=@Array.getElem?_modify
abbrev LQ:=@List.mem_singleton
abbrev LN:=@Go.grownBy_keeps_cells
abbrev NA:=@Go.Proofs.enters_of
abbrev NG:=@List.mem_flatten
abbrev LS:=@List.mem_map
abbrev PR:=@List.take_append_drop
abbrev P9:=@Nat.zero_mul
abbrev Py:=@Nat.add_zero
abbrev Lm:=@Int.toNat_natCast
abbrev Lf:=@List.getD_eq_getElem?_getD
abbrev Li:=@List.getElem?_eq_getElem
abbrev NI:=@List.idxOf_append
abbrev NQ:=@List.take_of_length_le
abbrev RQ:=@Nat.mul_le_mul_right
abbrev Ni:=@Nat.zero_le
abbrev Lq:=@List.getElem?_eq_some_iff
abbrev Ny:=@List.getElem_map
abbrev Pe:=@List.getElem_range
abbrev Pi:=@Classical.choose_spec
abbrev N4:=@Go.World.block_lt_of_cell?
abbrev Nn:=@Go.Proofs.Tryz.underlying50
abbrev Nc:=@Go.DataW.trod_int
abbrev LT:=@List.getElem_of_mem
abbrev N5:=@Go.DataW.trod_struct
abbrev Rh:=@Go.World.ownsRow_nil
abbrev Ry:=@Go.World.ownsRow.lt
abbrev LI:=@Nat.zero_add
abbrev RW:=@Go.World.news_of_block
abbrev LU:=@Nat.mul_le_mul
abbrev Nu:=@Go.wpList_plain
abbrev NC:=@Nat.eq_zero_or_pos
abbrev LJ:=@List.eq_nil_of_length_eq_zero
abbrev Sn:=@List.take_append_of_le_length
abbrev RK:=@Nat.min_eq_left
abbrev Rr:=@Nat.add_mul
abbrev LC:=@List.getElem?_append_left
abbrev Ly:=@List.getElem?_append_right
abbrev Pr:=@List.getElem_append_left
abbrev NU:=@List.getElem_append_right
abbrev RH:=@Go.info_parts
abbrev Pk:=@Go.wpList_append_own
abbrev Rb:=@Go.Proofs.Tryz.underlying124
abbrev Rn:=@Go.Proofs.Tryz.underlying34
abbrev Ph:=@Go.Lib.run_eql_slice_nil
abbrev NR:=@Go.Addr.add_lit
abbrev Pq:=@Go.Lib.cell?_alloc_some
abbrev Pv:=@Go.World.ownsRow_made
abbrev Nr:=@List.flatMap_cons
abbrev Nw:=@List.mem_flatMap
abbrev Ss:=@or_false
set_option maxRecDepth 100000
set_option maxHeartbeats 8000000
section
open Go.RowKit
attribute [local go_sem] Oper.semAt_some
def okC(c:Cs):Bool:=decide (c.inp.length<=10)&&vb c.out 30&&vb c.calm 30
theorem fewTB_eq(t:Tk):vc t=(decide (t.cases.length<=30)&&t.cases.all okC):=rfl
def LowC(c:Cs):Prop:=c.inp.length<=17592186044416/\c.out.length<=17592186044416/\c.calm.length<=17592186044416/\(∀v∈c.out,v.length<=17592186044416)/\∀v∈c.calm,v.length<=17592186044416
theorem rfewT_any(t:Tk)(A:Bb)(kc:Nat)(hl:t.cases.length<=17592186044416)(aJ:∀c∈t.cases,LowC c)(w:Ba)(hA:CAt w w.heap.size A t.cases) :
  An Al 94 #[Ai #[O U t.n,O U t.ins,O U t.outs,I A t.cases.length kc]] w fun e w'=>e=Ak (Ah (vc t))/\Am w.heap.size w w':=by
 have fY:=zH aJ;have H:As (vc t=(decide (t.cases.length<=30)&&t.cases.all okC)):=fewTB_eq t;obtain⟨r,hr⟩:=Kj (vc t);rw[hr] at H ⊢;obtain⟨w1,ab⟩:=Kj (w.alloc (Ag #[O U t.n,O U t.ins,O U t.outs,I A t.cases.length kc] 24));have bj:=zx w (Ag #[O U t.n,O U t.ins,O U t.outs,I A t.cases.length kc] 24);have aw:Am w.heap.size w w1:=by rw[<-ab];exact zW w _
 have eh:w1.heap.size=w.heap.size+1:=by rw[<-ab];simp
 rw[ab] at bj;have cj:=zH bj;have bW:=zH aw;have HA:=zH ((hA.keep aw).more (by omega:w.heap.size<=w1.heap.size));have ag:=zH ab;have q3:=zh bj 3 rfl;clear hA ab aw bj aJ hr;go_enter func94,ntmps94
 by_cases hc:t.cases.length<=30
 case neg=>
  have hR:As (r=Aw):=H.out.trans (by rw[Lv hc,N3]);clear H;go_wp2_with fail;rw[ag.out];go_wp2_with fail
  all_goals first | (exfalso;omega) | skip
  go_ret;exact⟨zy hR.out.symm,bW.out⟩
 case pos=>
 have HR:As (r=(t.cases.drop 0).all okC):=H.out.trans (by rw[Lw hc,Ns,Nl]);clear H;go_wp2_with fail;rw[ag.out];go_wp2_with fail
 all_goals first | (exfalso;omega) | skip
 clear q3 ag
 go_loopw [3] (fun i wr=>∃k:Nat,k<=t.cases.length/\i=O U (k:Int)/\As (r=(t.cases.drop k).all okC)/\As (Am w1.heap.size w1 wr)) (fun i _=>t.cases.length-(Ar i).toNat)
 case atStart=>exact⟨0,by omega,rfl,HR,Ll _ _⟩
 clear HR;obtain⟨k,hk,rfl,hp,hb⟩:=hrel;have bQ:=La hb.out cj.out;have q3:=zh bQ 3 rfl;clear bQ
 by_cases hlt:k<t.cases.length
 case neg=>
  have hR:As (r=Av):=hp.out.trans (all_end (by omega));obtain rfl:k=t.cases.length:=by omega
  clear hp;go_wp2_with fail;go_ret;exact⟨zy hR.out.symm,bW.out.trans (hb.out.mono (by omega))⟩
 case pos=>
 obtain⟨b,o,A0,c0,A1,c1,A2,c2,e',iX,d0,d1,d2,I0,I1,I2⟩:=(HA.out.keep hb.out).row k hlt;subst e';have eZ:=JW (p:=okC) hlt;obtain⟨l0,l1,l2,l3,l4⟩:=fY.out _ (Lh hlt);have cd:=hb.out.size;have fq:=fun (W:Ba) (hW:Am wr.heap.size wr W)=>JG A1 c1 t.cases[k].out l1 l3 W (((I1.more cd).keep hW).more hW.size)
 have lL:=fun (W:Ba) (hW:Am wr.heap.size wr W)=>JG A2 c2 t.cases[k].calm l2 l4 W (((I2.more cd).keep hW).more hW.size)
 unfold okC at eZ;obtain⟨c,Ea⟩:=Kj (t.cases[k]);rw[Ea] at d0 d1 d2 l0 l1 l2 eZ fq lL;obtain⟨b1,aF⟩:=Kj (vb c.out 30);obtain⟨b2,ae⟩:=Kj (vb c.calm 30);rw[aF] at eZ fq;rw[ae] at eZ lL;obtain⟨wc,sL⟩:=Kj (wr.alloc (Ag #[I A0 c.inp.length c0,I A1 c.out.length c1,I A2 c.calm.length c2] 71));have CQ:=zx wr (Ag #[I A0 c.inp.length c0,I A1 c.out.length c1,I A2 c.calm.length c2] 71);have ld:Am wr.heap.size wr wc:=by rw[<-sL];exact zW wr _
 rw[sL] at CQ;obtain⟨p0,p1,p2,_⟩:=Kb CQ;have EL:=zH (fq wc ld);have ia:=zH (lL wc ld);have ec:=zH (hb.out.trans (ld.mono cd));have AS:=zH sL;have cW:=zH (hp.out.trans eZ);obtain⟨il,sX⟩:=Kj c.inp.length;rw[sX] at d0 l0 cW AS p0;clear hp eZ fq lL sL ld CQ aF ae Ea sX I0 I1 I2
 by_cases hi:il<=10
 case neg=>
  have hR:As (r=Aw):=cW.out.trans (by rw[Lv hi];rfl);clear cW EL ia;go_wp2_with fail;rw[AS.out];go_wp2_with fail
  all_goals first | (exfalso;omega) | skip
  go_ret;exact⟨zy hR.out.symm,bW.out.trans (ec.out.mono (by omega))⟩
 case pos=>
 have fX:As (r=((b1&&b2)&&(t.cases.drop (k+1)).all okC)):=cW.out.trans (by rw[Lw hi,Ns];rfl);clear cW;go_wp2_with fail;rw[AS.out];go_wp2_with fail
 all_goals first | (exfalso;omega) | skip
 refine EL.out.mono ?_;rintro e w2 ⟨rfl,rfl⟩
 cases b1 with
 | false=>
  have hR:As (r=Aw):=fX.out;go_wp2_with fail;go_ret;exact⟨zy hR.out.symm,bW.out.trans (ec.out.mono (by omega))⟩
 | true=>
 go_wp2_with fail;refine ia.out.mono ?_;rintro e w2 ⟨rfl,bh⟩;obtain rfl:=bh.symm
 cases b2 with
 | false=>
  have hR:As (r=Aw):=fX.out;go_wp2_with fail;go_ret;exact⟨zy hR.out.symm,bW.out.trans (ec.out.mono (by omega))⟩
 | true=>
  have hR:As (r=(t.cases.drop (k+1)).all okC):=fX.out;go_wp2_with fail
  go_roundw
  case rel=>exact⟨k+1,by omega,by go_num,hR,ec⟩
  case measure=>simp[Ar];omega
def LowT(t:Tk):Prop:=t.cases.length<=17592186044416/\∀c∈t.cases,LowC c
end
section
open Go.RowKit
def FewA(a:Ad):Prop:=a.sts.length<=8/\a.mvs.length<=40
theorem FewA.each{a:Ad}(h:FewA a){l:List Mv}(hl:l∈a.sts):l.length<=40:=by
 refine Lu ?_ h.2;unfold Ad.mvs;obtain⟨i,hi,rfl⟩:=NM.1 hl;exact(List.sublist_flatten_of_mem (Lh hi)).length_le
theorem hU{a:Ad}{p:Option Mv}{m:Mv}(h:yu m.r≠0):xV a p m=yu m.r:=Lj h
theorem moveE_n{a:Ad}{p:Option Mv}{m:Mv}(h:yu m.r=0)(h2:m.r.n≠a.n):xV a p m=22:=by unfold xV;rw[Lg (by simpa using h),Lj h2]
theorem Za{a:Ad}{p:Option Mv}{m:Mv}(h:yu m.r=0)(h2:m.r.n=a.n)(h3:YZ p m=Av):xV a p m=14:=by unfold xV;rw[Lg (by simpa using h),Lg (by simpa using h2),Lj h3]
theorem Jf{a:Ad}{p:Option Mv}{m:Mv}(h:yu m.r=0)(h2:m.r.n=a.n)(h3:YZ p m=Aw)(h4:m.to<0\/(a.sts.length:Int)<=m.to):xV a p m=2:=by unfold xV;rw[Lg (by simpa using h),Lg (by simpa using h2),Lg (by rw[h3];decide),Lj h4]
theorem Jg{a:Ad}{p:Option Mv}{m:Mv}(h:yu m.r=0)(h2:m.r.n=a.n)(h3:YZ p m=Aw)(h4:¬(m.to<0\/(a.sts.length:Int)<=m.to)):xV a p m=0:=by unfold xV;rw[Lg (by simpa using h),Lg (by simpa using h2),Lg (by rw[h3];decide),Lg h4]
theorem gJ{a:Ad}{l:List Mv}(h:l.length=0):qt a l=19:=Lj h
theorem ZV{a:Ad}{l:List Mv}(h:l.length≠0):qt a l=xO a l 0:=Lg h
theorem state_any(a:Ad)(SV:Bb)(ks:Nat)(_Gr:a.sts.length<=8)(A:Bb)(k0:Nat)(l:List Mv)(hl:l.length<=40)(w:Ba)(hA:MAt w w.heap.size A l) :
  An Al 154 #[Ai #[O U a.n,I SV a.sts.length ks],I A l.length k0] w fun e w'=>e=Ak (O U (qt a l))/\Am w.heap.size w w':=by
 have HA:=zH hA;have ai:=zH (@gJ a l);have aj:=zH (@ZV a l);obtain⟨E,hE⟩:=Kj (qt a l);rw[hE] at ai aj ⊢
 by_cases hz:l.length=0
 . have hR:=zH (ai.out hz)
   have e0:((l.length:Int)==0)=Av:=by simp[hz]
   clear ai aj hz;go_enter func154,ntmps154;go_wp2_with fail;go_ret;exact⟨zm hR.out.symm,zW w _⟩
 have HE:=zH (aj.out hz);have e0:((l.length:Int)==0)=Aw:=P6.2 (by omega);clear ai aj hz;go_enter func154,ntmps154;go_wp2_with fail
 obtain⟨W0,dT,b0,aP,bG⟩:∃W0,w.alloc (Ag #[O U a.n,I SV a.sts.length ks] 27)=W0/\W0.heap[w.heap.size]?=J (Ag #[O U a.n,I SV a.sts.length ks] 27 (0,0))/\w.heap.size+1<=W0.heap.size/\Am w.heap.size w W0:=
  ⟨_,rfl,zx _ _,by simp,zW w _⟩
 rw[dT];have ir:=zH bG;have pz:=zH b0;clear dT bG b0 e0
 go_loopw [13] (fun i wr=>∃k:Nat,k<=l.length/\i=O U (k:Int)/\As (E=xO a l k)/\Am W0.heap.size W0 wr) (fun i _=>l.length-(Ar i).toNat)
 case atStart=>exact⟨0,by omega,rfl,HE,Ll _ _⟩
 obtain⟨k,hk,rfl,an,aY⟩:=hrel;clear HE;have fg:=zH (Lc ir.out aY);have HW:=zH aY;clear aY
 by_cases hlt:k<l.length
 . obtain⟨b,o,rfl,iX,c0,c1,c2,c3,c4,c5,c6,c7⟩:=(HA.out.keep fg.out).row k hlt
   have aR:=zH (@gZ a l k hlt);have aQ:=zH (@Yi a l k hlt);have hb:=fg.out.size;have Tp:w.heap.size<wr.heap.size:=by have:=HW.out.size;omega
   obtain⟨bo,di⟩:=Kj (YZ (zG l k) l[k]);have bU:=zH di;have m1:=zH (@hU a (zG l k) l[k]);have m2:=zH (@moveE_n a (zG l k) l[k]);have m3:=zH (@Za a (zG l k) l[k]);have m4:=zH (@Jf a (zG l k) l[k]);have m5:=zH (@Jg a (zG l k) l[k]);rw[di] at m3 m4 m5;obtain⟨m,hm⟩:=Kj (l[k]);have HX:=zH hm;obtain⟨mE,Mu⟩:=Kj (xV a (zG l k) l[k]);rw[Mu] at aR aQ m1 m2 m3 m4 m5;rw[hm] at c0 c1 c2 c3 c4 c5 c6 c7 m1 m2 m3 m4 m5;have HR:=zH (fun w'=>Z7 m.r w');obtain⟨rE,Ma⟩:=Kj (yu m.r);rw[Ma] at m1 m2 m3 m4 m5 HR;unfold Rd.cells at HR;clear di hm Mu Ma;go_wp2_with fail
   obtain⟨W1,dj,b1,av,aV⟩:∃W1,wr.alloc (Ag #[O U m.r.n,O U m.r.h0,O U m.r.h1,O U m.r.h2,O U m.r.h3,O U m.r.h4,O U m.r.f,O U m.to] 78)=W1/\W1.heap[wr.heap.size]?=J (Ag #[O U m.r.n,O U m.r.h0,O U m.r.h1,O U m.r.h2,O U m.r.h3,O U m.r.h4,O U m.r.f,O U m.to] 78 (0,0))/\wr.heap.size+1<=W1.heap.size/\Am wr.heap.size wr W1:=
    ⟨_,rfl,zx _ _,by simp,zW wr _⟩
   rw[dj];refine(HR.out W1).mono ?_;rintro e w1 ⟨rfl,aF⟩;have iQ:=zH ((fg.out.trans (aV.mono hb)).trans (aF.mono (by have:=aV.size;omega)));have BA:=zH ((Lc HW.out aV).trans (aF.mono (by have:=aV.size;have:=HW.out.size;omega)));have d0:=Lb BA.out (by omega) pz.out;have d1:=Lb aF (by omega) b1;have cy:=zH d1;have du:=zH d0;obtain⟨q0,q1,_⟩:=Ke d0;obtain⟨p0,p1,p2,p3,p4,p5,p6,p7,_⟩:=Kf d1;have Cv:=zj d1;clear dj b1 aV aF d0 d1 c0 c1 c2 c3 c4 c5 c6 c7 HR
   by_cases hr:rE=0
   case neg=>
    have he:=m1.out hr;have hR:=zH (an.out.trans ((aR.out (by rw[he];exact hr)).trans he));have e0:(rE != 0)=Av:=by simpa using hr
    clear aR aQ m1 m2 m3 m4 m5 he hr an bU HX;go_wp2_with fail;go_ret;exact⟨zm hR.out.symm,iQ.out⟩
   case pos=>
   subst hr;clear m1
   by_cases hn:m.r.n=a.n
   case neg=>
    have he:=m2.out (by simp) hn;have hR:=zH (an.out.trans ((aR.out (by rw[he];decide)).trans he));have e0:(m.r.n != a.n)=Av:=by simpa using hn
    clear aR aQ m2 m3 m4 m5 he hn an bU HX;go_wp2_with fail;go_ret;exact⟨zm hR.out.symm,iQ.out⟩
   case pos=>
   have e0:(m.r.n != a.n)=Aw:=by simpa using hn
   have n3:=zH (m3.out (by simp) hn);have n4:=zH (m4.out (by simp) hn);have n5:=zH (m5.out (by simp) hn);clear m2 hn m3 m4 m5
   cases k with
   | zero=>
    obtain rfl:bo=Aw:=by rw[<-bU.out];rfl
    have g0:decide ((0:Int)<0)=Aw:=by decide
    clear bU HX n3;go_wp2_with fail;go_quiet (fail)
    by_cases ht:m.to<0\/(a.sts.length:Int)<=m.to
    . have he:=n4.out (by simp) ht
      have hR:=zH (an.out.trans ((aR.out (by rw[he];decide)).trans he));clear aR aQ n4 n5 he an
      by_cases BF:m.to<0
      . clear ht
        go_wp2_with fail;go_ret;exact⟨zm hR.out.symm,yy iQ.out _⟩
      . have rz:(a.sts.length:Int)<=m.to:=by omega
        clear ht;go_wp2_with fail
        all_goals first | (exfalso;omega) | skip
        go_ret;exact⟨zm hR.out.symm,yy iQ.out _⟩
    . have hR:=zH (an.out.trans (aQ.out (n5.out (by simp) ht)))
      have BF:¬m.to<0:=by omega
      have rz:¬(a.sts.length:Int)<=m.to:=by omega
      clear aR aQ n4 n5 an ht;go_wp2_with fail
      all_goals first | (exfalso;omega) | skip
      go_roundw
      case rel=>exact⟨0+1,by omega,by go_num,hR,yy BA.out _⟩
      case measure=>simp[Ar];omega
   | succ j=>
    have hj:j<l.length:=by omega
    have cu:YZ (zG l (j+1)) l[j+1]=decide (0<=zD l[j].r.l l[j+1].r.l):=by rw[yz l j hj];rfl
    rw[HX.out] at cu;rw[show YZ (zG l (j+1)) m=bo by have:=bU.out;rwa[HX.out] at this] at cu;obtain⟨b',o',e',_,u0,u1,u2,u3,u4,u5,u6,u7⟩:=(HA.out.keep iQ.out).row j hj
    cases e'
    have hc:=fun w'=>YT l[j].r m.r w'
    obtain⟨mj,Mr⟩:=Kj (l[j]);rw[Mr] at cu hc u0 u1 u2 u3 u4 u5 u6 u7;obtain⟨r,hr⟩:=Kj (zD mj.r.l m.r.l);rw[hr] at cu hc;unfold Rd.cells at hc;have dH:=zH cu;have HC:=zH hc;have g1:((j:Int)+1).toNat=j+1:=by omega
    have g3:IntKind.i64.wrap ((j:Int)+1-1)=(j:Int):=by rw[Lo];omega
    have g5:IntKind.i64.wrap ((j:Int)+1)=(j:Int)+1:=by rw[Lo];omega
    have g6:decide ((0:Int)<(j:Int)+1)=Av:=Lw (by omega);have g7:IntKind.i64.wrap (j:Int)=(j:Int):=by rw[Lo];omega
    have g8:(0:Int)<=(j:Int):=by omega
    have g9:(j:Int)<(l.length:Int):=by omega
    clear cu hc hr Mr bU HX;go_wp2_with fail
    go_still_tail 11,(by kernel_rfl)
    change wpList _ _ _ _ _ w1.drew;obtain⟨w2,bh⟩:∃w2,w2=w1.drew:=⟨_,rfl⟩;have Ho:As (Am w.heap.size w w2):=by rw[bh];exact iQ.out.drew
    have Td:As (Am W0.heap.size W0 w2):=by rw[bh];exact BA.out.drew
    have ai:As (w2.heap[wr.heap.size]?=J (Ag #[O U m.r.n,O U m.r.h0,O U m.r.h1,O U m.r.h2,O U m.r.h3,O U m.r.h4,O U m.r.f,O U m.to] 78 (0,0))):=by rw[bh];exact cy.out
    have be:As (w2.heap[w.heap.size]?=J (Ag #[O U a.n,I SV a.sts.length ks] 27 (0,0))):=by rw[bh];exact du.out
    rw[<-bh];clear du cy bh q1 p1 p2 p3 p4 p5 p6 p7 u0 u1 u2 u3 u4 u5 u6 u7 g1 g3 g5 g7 g8 g9;go_wp2_with fail;refine(HC.out w2).mono ?_;rintro e w3 ⟨rfl,ak⟩;have rZ:=zH (Lc Ho.out ak);have BW3:=zH (Lc Td.out ak);have d0:=La ak be.out;have d1:=La ak ai.out;have q1:=zh d0 1 rfl;have p7:=zh d1 7 rfl
    cases bo with
    | true=>
     have g0':0<=r:=LA dH.out.symm;have he:=n3.out (by simp);have hR:=zH (an.out.trans ((aR.out (by rw[he];decide)).trans he));go_wp2_with fail
     all_goals first | (exfalso;omega) | skip
     go_ret;exact⟨zm hR.out.symm,rZ.out⟩
    | false=>
     have g0':¬0<=r:=NB dH.out.symm
     by_cases ht:m.to<0\/(a.sts.length:Int)<=m.to
     . have he:=n4.out (by simp) ht
       have hR:=zH (an.out.trans ((aR.out (by rw[he];decide)).trans he))
       by_cases BF:m.to<0
       . clear ht
         go_wp2_with fail
         all_goals first | (exfalso;omega) | skip
         go_ret;exact⟨zm hR.out.symm,rZ.out⟩
       . have rz:(a.sts.length:Int)<=m.to:=by omega
         go_wp2_with fail
         all_goals first | (exfalso;omega) | skip
         go_ret;exact⟨zm hR.out.symm,rZ.out⟩
     . have hR:=zH (an.out.trans (aQ.out (n5.out (by simp) ht)))
       have BF:¬m.to<0:=by omega
       have rz:¬(a.sts.length:Int)<=m.to:=by omega
       go_wp2_with fail
       all_goals first | (exfalso;omega) | skip
       go_roundw
       case rel=>exact⟨j+1+1,by omega,by go_num,hR,BW3.out⟩
       case measure=>simp[Ar];omega
 obtain rfl:k=l.length:=by omega
 have hR:=zH (an.out.trans gY);go_wp2_with fail;go_ret;exact⟨zm hR.out.symm,fg.out⟩
end
section
open Go.RowKit Go.Shelf
structure KeepB(K:Nat->Prop)(W W':Ba):Prop where
 size:W.heap.size<=W'.heap.size
 same:∀k,K k->k<W.heap.size->W'.heap[k]?=W.heap[k]?
theorem KeepB.refl(K:Nat->Prop)(W:Ba):KeepB K W W:=⟨Ld _,fun _ _ _=>rfl⟩
theorem KeepB.trans{K:Nat->Prop}{A B C:Ba}(h:KeepB K A B)(k:KeepB K B C):KeepB K A C:=
 ⟨Lu h.size k.size,fun i hi hl=>(k.same i hi (LH hl h.size)).trans (h.same i hi hl)⟩
theorem KeepB.drew(K:Nat->Prop)(W:Ba):KeepB K W W.drew:=⟨Ld _,fun _ _ _=>rfl⟩
theorem KeepB.alloc(K:Nat->Prop)(W:Ba)(o:Obj):KeepB K W (W.alloc o):=⟨by simp,fun k _ hk=>Nj W o k hk⟩
theorem KeepB.setCell{K:Nat->Prop}{W:Ba}{a:Addr}(h:¬K a.block)(v:Au):KeepB K W (W.setCell a v):=
 ⟨by simp[World.setCell],fun k hk _=>Le W a v k (fun e=>h (e▸hk))⟩
theorem KeepB.of_below{K:Nat->Prop}{W W':Ba}{B:Nat}(h:Am B W W')(hK:∀k,K k->k<B):KeepB K W W':=
 ⟨h.size,fun k hk _=>h.block k (hK k hk)⟩
theorem KeepB.of_grown{K:Nat->Prop}{W W':Ba}{row:Option Nat}(h:W.grownBy W' row)(hK:∀k,row=J k->¬K k):KeepB K W W':=
 ⟨h.size,fun k hk hl=>h.block k hl (fun e=>hK k e.symm hk)⟩
theorem KeepB.mono{K K':Nat->Prop}{W W':Ba}(h:KeepB K W W')(hK:∀k,K' k->K k):KeepB K' W W':=⟨h.size,fun k hk=>h.same k (hK k hk)⟩
theorem KeepB.putObj{K:Nat->Prop}{W:Ba}{l:Nat}(h:¬K l)(o:Obj):KeepB K W (W.putObj l o):=
 ⟨by simp,fun k hk _=>Pt (fun e=>h (e▸hk))⟩
def Y1{β:Type}(P:Program)(g:Nat)(lb:Array Au)(nT:β->Array Au)(K:Nat->Prop)(xs:List β)(w:Ba):Prop:=
 ∀n,1<=n->SeqStopsK Fence.wide n P g lb (fun x:{ x:β // x∈xs }=>nT x.1) (KeepB K) (fun ys=>ys.map (·.1)=xs) (fun pre=>pre.map (·.1) <+: xs) xs.length w
section
variable {P:Program}
theorem un{β:Type}{g:Operand}{ps:Array Tmp}{assign body:Code}{Q:Exit->Act->Ba->Prop}{a:Act}{w:Ba}
  {gf:Nat} {lb:Array Au} (hg:a.eval g=.func (.func gf) #[] lb) (eg:Enters P gf)
  {nT:β->Array Au} {K:Nat->Prop} {xs:List β} (Fg:Y1 P gf lb nT K xs w) (hK:∀k,K k->k<w.heap.size) (cI:∀x,(nT x).size=ps.size)
  (Ac:List { x:β // x∈xs }->Ba->Prop) (Ix:Code->List { x:β // x∈xs }->Ba->Prop) (hI:OwnFrom w.heap.size Ac) (hIx:∀c,OwnFrom w.heap.size (Ix c)) (h0:Ac [] w) (a₁:{ x:β // x∈xs }->Act)
  (nN:∀(l:Nat) (x:{ x:β // x∈xs }) (W:Ba) (K:Act->Ba->Prop),K (a₁ x) W ->
   assign.wpIn (Fence.wide.inRound l) 7 P (Exit.then K (fun _ _ _=>False)) { tmps:=(ps.zip (nT x.1)).foldl (fun t (p,v)=>t.setIfInBounds p v) a.tmps,defers:=[] } W)
  (tY:∀(l:Nat) (pre:List { x:β // x∈xs }) (x:{ x:β // x∈xs }) (W:Ba),Ac pre W->pre.length<xs.length->body.wpIn (Fence.wide.inRound l) 7 P (ownPostG w.heap.size (KeepB K) Ac Ix (pre++[x]) W) (a₁ x) W)
  (tV:∀(D:Nat) (ys:List { x:β // x∈xs }) (W:Ba),w.heap.size<=D->ys.map (·.1)=xs->Ac ys W->W.heap[D]?=J (.deferred (J []))->Q .normal { a with defers:={ target:=.collected D,args:=#[] }::a.defers } W)
  (tG:∀(D:Nat) (c:Code) (pre:List { x:β // x∈xs }) (W:Ba),w.heap.size<=D->pre.map (·.1) <+: xs->Ix c pre W->W.heap[D]?=J (.deferred (J []))->c.wp P Q { a with defers:={ target:=.collected D,args:=#[] }::a.defers } W) :
  (Code.rangeFunc g ps assign body).wp P Q a w:=
 (RU (n:=9)).1 (wpIn_rangeFunc_ownG (F:=Fence.wide) (n:=9) rfl (by omega) hg trivial eg (Fg 8 (by omega)) KeepB.trans
  (fun W l o o' hl _ _ _=>KeepB.putObj (fun hk=>by have:=hK l hk;omega) o') (Ll _ _) (fun x=>cI x.1) Ac Ix hI hIx h0 a₁ nN tY tV
  (fun D c pre W hD hS hc hk=>RU.2 (tG D c pre W hD hS hc hk)))
def Marks(B:Nat)(ds:List Deferred)(w:Ba):Prop:=
 ∃rs:List Nat,ds=rs.map (fun r=>{ target:=.collected r,args:=#[] })/\rs.Nodup/\∀r∈rs,B<=r/\w.heap[r]?=J (.deferred (J []))
theorem Marks.nil(B:Nat)(w:Ba):Marks B [] w:=⟨[],rfl,Sx,fun _ h=>by cases h⟩
structure Shut(B:Nat)(w w':Ba):Prop where
 below:Am B w w'
 same:∀(k:Nat) (o:Obj),w.heap[k]?=J o->o.isCells=Av->w'.heap[k]?=J o
theorem Shut.refl(B:Nat)(w:Ba):Shut B w w:=⟨Ll _ _,fun _ _ h _=>h⟩
theorem Shut.own{B:Nat}{w w':Ba}(h:Shut B w w'){base:Nat}{e:TypeId}{size:Nat}{v:Au}{k:Nat}{xs:List Au}(hr:w.ownsRow base e size v k xs):w'.ownsRow base e size v k xs:=by
 refine⟨hr.1,?_⟩;rcases hr.2 with hn | ⟨g,cap,cur,hv,hb,hg,rest⟩
 . exact .inl hn
 exact .inr ⟨g,cap,cur,hv,hb,h.same g _ hg rfl,rest⟩
theorem Shut.cell{B:Nat}{w w':Ba}(h:Shut B w w'){a:Addr}{v:Au}(hc:w.cell? a=J v):w'.cell? a=J v:=by
 obtain⟨o,ho,dp⟩:=R5 hc;rw[LL ((h.same _ _ ho dp).trans ho.symm)];exact hc
theorem uL{fn:Func}{tmps:Array Au}{R:Ending->Ba->Prop}{B n:Nat}{v:Au}(bJ:∀W,(results fn tmps).run P W=.ok v W) :
  ∀(rs:List Nat) (w:Ba),rs.Nodup->(∀r∈rs,B<=r/\w.heap[r]?=J (.deferred (J [])))->(∀W,Shut B w W->R (Ak v) W) ->
   LeavesInM Fence.wide n P fn tmps R (rs.map (fun r=>{ target:=.collected r,args:=#[] })) .returning w
 | [],w,_,_,hR=>⟨v,bJ w,hR w (Shut.refl _ _)⟩
 | r::rs,w,hn,hm,hR=>by
  obtain⟨hr,TI⟩:=P5.1 hn;obtain⟨hB,hk⟩:=hm r (by simp);refine⟨by simp,.inl ⟨r,_,rfl,run_takeDeferred hk,?_⟩⟩;refine uL bJ rs _ TI (fun r' sQ=>⟨(hm r' (by simp[sQ])).1,?_⟩) (fun W hW=>hR W ?_)
  . rw[Pt (by rintro rfl;exact hr sQ)]
    exact(hm r' (by simp[sQ])).2
  . refine⟨((Ll B w).grown (grownBy_putObj' w r (.deferred Z)) (by have:=(Ln.1 hk).1;omega) (fun k e=>by cases e;exact hB)).trans hW.below,fun k o ho hc=>?_⟩
    refine hW.same k o ?_ hc
    by_cases e:k=r
    . subst e;rw[hk] at ho;cases ho;cases hc
    . exact(Pt e).trans ho
theorem yg{f:FuncId}{fn:Func}{c:Code}{args:Array Au}{w:Ba}{R:Ending->Ba->Prop}
  (hf:P.funcs[f]?=J fn) (hb:fn.body=J c)
  (h:c.wp P (bodyPostM Fence.wide 9 P fn R) { tmps:=args++Array.replicate (fn.ntmps-args.size) undef,defers:=[] } w):An P f args w R:=
 (Se (n:=9)).1 (callsIn_of_wp_marks hf hb trivial (RU.2 h))
theorem yo{fn:Func}{R:Ending->Ba->Prop}{a:Act}{w:Ba}{B:Nat}{v:Au}(hm:Marks B a.defers w)(bJ:∀W,(results fn a.tmps).run P W=.ok v W)
  (hR:∀W,Shut B w W->R (Ak v) W):bodyPostM Fence.wide 9 P fn R .ret a w:=by
 obtain⟨rs,hd,hn,hk⟩:=hm;show LeavesInM Fence.wide 9 P fn a.tmps R a.defers .returning w;rw[hd];exact uL bJ rs w hn hk hR
theorem Marks.cons{B D:Nat}{ds:List Deferred}{w w':Ba}(h:Marks B ds w)(hs:∀(k:Nat),w.heap[k]?=J (Obj.deferred (J []))->w'.heap[k]?=J (Obj.deferred (J [])))
  (hB:B<=w.heap.size) (hD:w.heap.size<=D) (hk:w'.heap[D]?=J (.deferred (J []))):Marks B ({ target:=.collected D,args:=#[] }::ds) w':=by
 obtain⟨rs,rfl,hn,hr⟩:=h;refine⟨D::rs,rfl,P5.2 ⟨fun hD'=>?_,hn⟩,fun r sQ=>?_⟩
 . have:=(Ln.1 (hr D hD').2).1;omega
 rcases L9.1 sQ with rfl | sQ
 . exact⟨by omega,hk⟩
 exact⟨(hr r sQ).1,hs r (hr r sQ).2⟩
end
end
section
open Go.RowKit Go.Shelf
attribute [local go_sem] Oper.semAt_some
def zO:Nat->List (List Mv)->List (Int×Mv)
 | _,[]=>[]
 | s,l::r=>l.map (fun m=>((s:Int),m))++zO (s+1) r
theorem Qi{xss:List (List Mv)}{s:Nat}(h:s<xss.length):zO s (xss.drop s)=(xss[s]).map (fun m=>((s:Int),m))++zO (s+1) (xss.drop (s+1)):=by
 rw[Lz h];rfl
theorem kL:∀(s:Nat) (xss:List (List Mv)),(zO s xss).map Prod.snd=xss.flatten
 | _,[]=>rfl
 | s,l::r=>by
  rw[zO,LF,kL (s+1) r,PP,Rt]
  congr 1
  exact List.map_id' l
theorem Jd(a:Ad):(zO 0 a.sts).length=a.mvs.length:=by
 rw[<-LG (f:=Prod.snd),kL];rfl
theorem YK{B:Nat}{w w':Ba}(hs:w.heap.size<=w'.heap.size)(h:∀k,k<B->w'.heap[k]?=w.heap[k]?):Am B w { w' with os:=w.os,tape:=w.tape,output:=w.output }:=⟨rfl,rfl,rfl,hs,h⟩
theorem SAt.same{w w':Ba}{B:Nat}{A:Bb}{xss:List (List Mv)}(h:SAt w B A xss)(hs:w.heap.size<=w'.heap.size)(hk:∀k,k<B->w'.heap[k]?=w.heap[k]?):SAt w' B A xss:=by
 have h2:=h.keep (YK hs hk);exact h2
theorem MAt.same{w w':Ba}{B:Nat}{A:Bb}{xs:List Mv}(h:MAt w B A xs)(hs:w.heap.size<=w'.heap.size)(hk:∀k,k<B->w'.heap[k]?=w.heap[k]?):MAt w' B A xs:=by
 have h2:=h.keep (YK hs hk);exact h2
theorem wJ(n:Int)(SV:Au)(w:Ba):An Al 155 #[Ai #[O U n,SV]] w fun e w'=>
  e=Ak (.func (.func 173) #[] #[Aj (J ⟨w.heap.size,0,Z⟩)])/\w.alloc (Ag #[O U n,SV] 27)=w':=by
 go_enter func155,ntmps155;go_wp2;go_ret;exact⟨rfl,rfl⟩
theorem jW(a:Ad)(hf:FewA a)(SV:Bb)(ks B bx:Nat)(w:Ba)(hb:w.heap[bx]?=J (Ag #[O U a.n,I SV a.sts.length ks] 27))(hS:SAt w B SV a.sts)(hB:B<=w.heap.size) :
  Y1 Al 173 #[Aj (J ⟨bx,0,Z⟩)] (fun x:Int×Mv=>#[O U x.1,.agg x.2.cells]) (fun k=>k<B\/k=bx) (zO 0 a.sts) w:=fun n hn l Af Jx W hW hJ OG hY h0=>by
 have cd:bx<w.heap.size:=(Ln.1 hb).1;have fP:W.heap[bx]?=J (Ag #[O U a.n,I SV a.sts.length ks] 27):=(hW.block bx cd).trans hb;have Ga:SAt W B SV a.sts:=hS.keep (hW.mono hB);have HF:=zH (fun l hl=>hf.each (l:=l) hl);have nD:=hf.1;have HY:=zH hY;have SE:As (∀s X o,Af s X->Af s (X.alloc o)):=fun s X o hs=>hJ s X (X.alloc o) Z hs (World.grownBy_alloc X o Z) (fun r e=>by cases e)
 have c1:=zh fP 1 rfl;have Be:=zH Ga;have H0:=zH h0;have ir:=zH fP;have Uf:B<=W.heap.size:=Lu hB hW.size;have Ee:bx<W.heap.size:=LH cd hW.size;obtain⟨n0,sts⟩:=a;dsimp only at ir c1 Be HF nD HY ⊢;refine Ru Sf rfl trivial ?_ rfl;simp only[ntmps173,List.size_toArray,List.length_cons,List.length_nil,Nat.reduceAdd,Nat.reduceSub,Array.replicate_succ,Array.replicate_zero,List.push_toArray,List.append_toArray,List.nil_append,List.cons_append];gi_wp2
 gi_loopw [10] (fun p wr=>∃s:Nat,s<=sts.length/\p=O U (s:Int)/\∃pre:List { x:Int×Mv // x∈zO 0 sts },As (pre.map (·.1)++zO s (sts.drop s)=zO 0 sts)/\As (Af pre wr)/\As (SAt wr B SV sts)/\As (wr.heap[bx]?=J (Ag #[O U n0,I SV sts.length ks] 27))/\W.heap.size<=wr.heap.size) (fun p _=>sts.length-(Ar p).toNat)
 case atStart=>exact⟨0,by omega,rfl,[],by simp[As],H0,Be,ir,Ld _⟩
 case round=>
  obtain⟨s,hs,rfl,pre,hp,eS,mB,aK,aP⟩:=hrel
  by_cases hlt:s<sts.length
  . obtain⟨b,o,A',k',rfl,iX,q1,hM⟩:=mB.out.at_ s hlt
    have fN:=HF.out _ (Lh hlt);have BO:=Qi hlt;obtain⟨L,hL⟩:=Kj (sts[s]);rw[hL] at q1 hM fN BO;have HP:As (pre.map (·.1)++((L.drop 0).map (fun m=>((s:Int),m))++zO (s+1) (sts.drop (s+1)))=zO 0 sts):=by rw[Nl,<-BO];exact hp.out
    have HM0:=zH hM;gi_wp2_with fail
    gi_loopw [17] (fun p wr=>∃j:Nat,j<=L.length/\p=O U (j:Int)/\∃pre:List { x:Int×Mv // x∈zO 0 sts },As (pre.map (·.1)++((L.drop j).map (fun m=>((s:Int),m))++zO (s+1) (sts.drop (s+1)))=zO 0 sts)/\As (Af pre wr)/\As (SAt wr B (J ⟨b,o,Z⟩) sts)/\As (wr.heap[bx]?=J (Ag #[O U n0,I (J ⟨b,o,Z⟩) sts.length ks] 27))/\As (MAt wr B A' L)/\W.heap.size<=wr.heap.size) (fun p _=>L.length-(Ar p).toNat)
    case atStart=>exact⟨0,by omega,rfl,pre,HP,eS,mB,aK,HM0,aP⟩
    case round=>
     obtain⟨j,hj,rfl,pre,hp,eS,mB,aK,hMr,aP⟩:=hrel
     by_cases cc:j<L.length
     . obtain⟨b2,o2,rfl,ae,m0,m1,m2,m3,m4,m5,m6,m7⟩:=hMr.out.row j cc
       have hdj:L.drop j=L[j]::L.drop (j+1):=Lz cc;obtain⟨m,hm⟩:=Kj (L[j]);rw[hm] at m0 m1 m2 m3 m4 m5 m6 m7 hdj
       have mr:pre.map (·.1)++(((s:Int),m)::((L.drop (j+1)).map (fun m=>((s:Int),m))++zO (s+1) (sts.drop (s+1))))=zO 0 sts:=by
        have:=hp.out;rw[hdj,L4,L3] at this;exact this
       have cS:((s:Int),m)∈zO 0 sts:=by rw[<-mr];simp
       have ay:pre.length<(zO 0 sts).length:=by
        have:=congrArg List.length mr;simp only[List.length_append,List.length_map,List.length_cons] at this;omega
       obtain⟨fn,tmps,assign,body,hy,hR⟩:=HY.out pre ⟨((s:Int),m),cS⟩ _ (SE.out _ _ (Ag #[O U m.r.n,O U m.r.h0,O U m.r.h1,O U m.r.h2,O U m.r.h3,O U m.r.h4,O U m.r.f,O U m.to] 78) eS.out) ay;unfold Mv.cells at hy;dsimp only at hy
       have rU:As ((pre++[(⟨((s:Int),m),cS⟩:{ x:Int×Mv // x∈zO 0 sts })]).map (·.1)++((L.drop (j+1)).map (fun m=>((s:Int),m))++zO (s+1) (sts.drop (s+1)))=zO 0 sts):=by
        rw[LF,L6];exact mr
       have HR:=zH hR;gi_wp2_with fail;refine HR.out.mono ?_;rintro e W3 (⟨rfl,BS,mu⟩ | ⟨rfl,nQ⟩)
       . have av:wr.heap.size<=W3.heap.size:=by have:=mu.size;simp at this;omega
         have aM:∀k,(k<B\/k=bx)->k<wr.heap.size->W3.heap[k]?=wr.heap[k]?:=fun k hk hlt=>(mu.same k hk (by simp;omega)).trans (yD (SB hlt) _ |>.trans (SB hlt).symm)
         have S3:=zH (mB.out.same av (fun k hk=>aM k (.inl hk) (by omega)));have M3:=zH (hMr.out.same av (fun k hk=>aM k (.inl hk) (by omega)));have B3:=zH ((aM bx (.inr rfl) (by omega)).trans aK.out);have J3:=zH BS;have lB:W.heap.size<=W3.heap.size:=by omega
         gi_wp2_with fail
         go_roundw
         case rel=>exact⟨j+1,by omega,by go_num,_,rU,J3,S3,B3,M3,lB⟩
         case measure=>simp[Ar];omega
       . gi_wp2_with fail
         refine LP (P8 rfl _ _ _) rfl ?_;refine⟨⟨_,rfl⟩,.inr ⟨_,?_,nQ⟩⟩;exact⟨_,rU.out⟩
     . obtain rfl:j=L.length:=by omega
       have HP:As (pre.map (·.1)++zO (s+1) (sts.drop (s+1))=zO 0 sts):=by have:=hp.out;rwa[Nz,Nd,LW] at this
       gi_wp2_with fail
       go_roundw
       case rel=>exact⟨s+1,by omega,by go_num,pre,HP,eS,mB,aK,aP⟩
       case measure=>simp[Ar];omega
  . obtain rfl:s=sts.length:=by omega
    have HP:As (pre.map (·.1)=zO 0 sts):=by have:=hp.out;rwa[Nz,zO,Nk] at this
    gi_wp2_with fail
    go_end0
    exact⟨⟨_,rfl⟩,.inl ⟨pre,HP.out,eS.out⟩⟩
theorem qv{w:Ba}{g:Nat}{v:Au}{t:TypeId}(h:w.heap[g]?=J (Ag #[v] t (0,0)))(v':Au) :
  (w.setCell ⟨g,0,Z⟩ v').heap[g]?=J (Ag #[v'] t (0,0))/\(w.setCell ⟨g,0,Z⟩ v').heap.size=w.heap.size/\∀k,k≠g->(w.setCell ⟨g,0,Z⟩ v').heap[k]?=w.heap[k]?:=by
 refine⟨?_,by simp[World.setCell],fun k hk=>Le w ⟨g,0,Z⟩ v' k hk⟩;rw[World.setCell,PT,Lj rfl,h]
 rfl
theorem kC{B D:Nat}{w:Ba}(hB:B<=D)(hk:w.heap[D]?=J (.deferred (J []))):Marks B [{ target:=.collected D,args:=#[] }] w:=
 ⟨[D],rfl,by simp,fun r hr=>by simp only[List.mem_singleton] at hr;subst hr;exact⟨hB,hk⟩⟩
structure SzIn(B:Nat)(C:Array Au)(T:TypeId)(Er:Int)(w W:Ba):Prop where
 below:Am B w W
 b0:W.heap[B]?=J (Ag C T (0,0))
 b1:W.heap[B+1]?=J (Ag #[O U Er] 3 (0,0))
theorem SzIn.turn{B:Nat}{C:Array Au}{T:TypeId}{Er:Int}{w W W':Ba}{row:Option Nat}(h:SzIn B C T Er w W)(hg:W.grownBy W' row)(hr:∀r,row=J r->B<=r/\∃o:Obj,W.heap[r]?=J o/\o.isCells=Aw):SzIn B C T Er w W':=
 ⟨h.below.grown hg (by have:=(Ln.1 h.b0).1;omega) (fun k hk=>(hr k hk).1),(LN hg (fun r e=>(hr r e).2) h.b0 rfl).trans h.b0,(LN hg (fun r e=>(hr r e).2) h.b1 rfl).trans h.b1⟩
theorem SzIn.set{B:Nat}{C:Array Au}{T:TypeId}{Er:Int}{w W:Ba}(h:SzIn B C T Er w W)(c':Int):SzIn B C T c' w (W.setCell ⟨B+1,0,Z⟩ (O U c')):=by
 obtain⟨x1,x2,x3⟩:=qv h.b1 (O U c');exact⟨h.below.setCell (by simp) _,(x3 B (by omega)).trans h.b0,x1⟩
theorem SzIn.keeps{B D:Nat}{C:Array Au}{T:TypeId}{Er:Int}{w W:Ba}(h:SzIn B C T Er w W)(c':Int)(K:Nat->Prop)(hK:¬K (B+1)):KeepsFrom D W (W.setCell ⟨B+1,0,Z⟩ (O U c'))/\KeepB K W (W.setCell ⟨B+1,0,Z⟩ (O U c')):=by
 obtain⟨x1,x2,x3⟩:=qv h.b1 (O U c');refine⟨⟨by omega,fun k o _ hk ho=>?_⟩,KeepB.setCell hK _⟩;have k1:k≠B+1:=by rintro rfl;rw[h.b1] at hk;cases hk;cases ho
 exact(x3 k k1).trans hk
theorem sized_any(a:Ad)(hf:FewA a)(SV:Bb)(ks:Nat)(w:Ba)(hS:SAt w w.heap.size SV a.sts) :
  An Al 153 #[Ai #[O U a.n,I SV a.sts.length ks]] w fun e w'=>e=Ak (O U (if a.sts.length<1 then 5 else 0))/\Am w.heap.size w w':=by
 have fq:=hf.1;have lL:=hf.2;have ie:=Jd a;have HI:=zH (fun (bx:Nat) (w':Ba) (hb:w'.heap[bx]?=J (Ag #[O U a.n,I SV a.sts.length ks] 27)) (h:SAt w' w.heap.size SV a.sts) (hB:w.heap.size<=w'.heap.size)=>jW a hf SV ks w.heap.size bx w' hb h hB);have HS:=zH hS;obtain⟨nl,fj⟩:=Kj ((zO 0 a.sts).length);have sE:=zH fj;clear hS;refine yg func153 rfl ?_;simp only[ntmps153,List.size_toArray,List.length_cons,List.length_nil,Nat.reduceAdd,Nat.reduceSub,Array.replicate_succ,Array.replicate_zero,List.push_toArray,List.append_toArray,List.nil_append,List.cons_append];go_wp2_with fail;obtain⟨w2,bh,b0,b1,aP,hB⟩:=yI w #[O U a.n,I SV a.sts.length ks] #[O U 0] 27 3;rw[bh];have dx:w2.heap.size=w.heap.size+2:=by rw[<-bh];simp
 refine(wJ a.n (I SV a.sts.length ks) w2).mono ?_;rintro e W ⟨rfl,hW⟩;have bb:=zx w2 (Ag #[O U a.n,I SV a.sts.length ks] 27);have bE:Am w2.heap.size w2 W:=by rw[<-hW];exact zW _ _
 have av:w2.heap.size<W.heap.size:=by rw[<-hW];simp
 rw[hW] at bb;have hI0:SzIn w.heap.size #[O U a.n,I SV a.sts.length ks] 27 0 w W:=⟨hB.trans (bE.mono (by omega)),XO b0 bE (by omega),XO b1 bE (by omega)⟩;have TO:=HI.out w2.heap.size W bb ((HS.out.keep hB).keep (bE.mono (by omega))) (by omega);have H0:=zH hI0;have dG:=zH TO;have HZ:=zH dx;have ce:w.heap.size+2<=w2.heap.size:=aP;clear bh hW bb b0 b1 hB bE hI0 TO dx aP HI HS fj;go_wp2_with fail
 refine un rfl (NA Sf (by kernel_rfl) rfl) dG.out (by rintro k (h | rfl)<;>omega) (fun _=>rfl)
  (fun (pre:List { x:Int×Mv // x∈zO 0 a.sts }) W=>SzIn w.heap.size #[O U a.n,I SV a.sts.length ks] 27 ((pre.length:Nat):Int) w W) (fun _ _ _=>False) (fun _ _ _ _ h hg hr=>h.turn hg (fun r e=>⟨by have:=(hr r e).1;omega,(hr r e).2⟩)) (fun _ _ _ _ _ h _ _=>h)
  H0.out ?a1 ?assign ?body ?done ?stop
 case assign=>
  intro l x W K hK;gi_wp2;exact hK
 case body=>
  intro l pre x W hI hlt;have rF:pre.length<100:=by have:=sE.out;omega
  have c1:=zh hI.b1 0 rfl;have f1:=zi hI.b1 0;have HI:=zH hI;clear hI hlt;gi_wp2_with fail;have hK:¬(w.heap.size+1<w.heap.size\/w.heap.size+1=w2.heap.size):=by have:=HZ.out;omega
  refine⟨(HI.out.keeps _ (fun k=>k<w.heap.size\/k=w2.heap.size) hK).1,(HI.out.keeps (D:=0) _ (fun k=>k<w.heap.size\/k=w2.heap.size) hK).2,?_⟩;have:=HI.out.set ((pre.length:Int)+1);dsimp only;rw[show(((pre++[x]).length:Nat):Int)=(pre.length:Int)+1 by simp];exact this
 case done=>
  intro D ys W hD eJ hI eq;have ay:ys.length=(zO 0 a.sts).length:=by have:=congrArg List.length eJ;rwa[LG] at this
  have lw:ys.length<=40:=by omega
  obtain⟨q0,q1,_⟩:=Ke hI.b0;have c1:=zh hI.b1 0 rfl;have HI:=zH hI;have HD:=zH eq
  by_cases hz:a.sts.length<1
  . clear hI eq ay eJ
    go_wp2_with fail
    all_goals first | (exfalso;omega) | skip
    refine yo (B:=w.heap.size) (kC (by omega) HD.out) (v:=O U 5) (fun W=>by kernel_rfl) ?_;intro W hS;exact⟨by first | rfl | rw[Lj hz],HI.out.below.trans hS.below⟩
  have ce:¬((a.sts.length:Int)<1):=by omega
  clear hI eq ay eJ;go_wp2_with fail
  all_goals first | (exfalso;omega) | skip
  refine yo (B:=w.heap.size) (kC (by omega) HD.out) (v:=O U 0) (fun W=>by kernel_rfl) ?_;intro W hS;exact⟨by first | rfl | rw[Lg hz],HI.out.below.trans hS.below⟩
 intro D c pre W _ _ h;exact h.elim
theorem ul{a:Ad}(h:a.n<1\/5<a.n):ql a=2:=Lj h
theorem gj{a:Ad}(h:¬(a.n<1\/5<a.n))(h2:a.sts.length<1):ql a=5:=by unfold ql;rw[Lg h,Lj (.inl h2)]
theorem uk{a:Ad}(h:¬(a.n<1\/5<a.n))(h2:1<=a.sts.length)(hf:FewA a)(h3:zJ a a.sts≠0):ql a=zJ a a.sts:=by
 unfold ql;rw[Lg h,Lg (by have:=hf.1;have:=hf.2;omega),Lj h3]
theorem um{a:Ad}(h:¬(a.n<1\/5<a.n))(h2:1<=a.sts.length)(hf:FewA a)(h3:zJ a a.sts=0):ql a=if xG a=Av then 0 else 21:=by
 unfold ql;rw[Lg h,Lg (by have:=hf.1;have:=hf.2;omega),Lg (by simpa using h3)]
theorem vO{a:Ad}:∀ {p:Option Mv} {l:List Mv},jh a p l=0->∀m∈l,yu m.r=0/\m.r.n=a.n/\0<=m.to/\m.to<a.sts.length
 | _,[],_,m,hm=>by cases hm
 | p,x::r,h,m,hm=>by
  rw[jh] at h
  split at h
  . rename_i h1;exact absurd h h1
  . rename_i h1
    have h1:xV a p x=0:=by simpa using h1
    rcases L9.1 hm with rfl | hm
    . unfold xV at h1
      split at h1
      . rename_i h2;exact absurd h1 h2
      . split at h1
        . cases h1
        . split at h1
          . cases h1
          . split at h1
            . cases h1
            . rename_i h2 h3 h4 h5
              exact⟨by simpa using h2,by simpa using h3,by omega,by omega⟩
    . exact vO h m hm
theorem jO{a:Ad}:∀ {xs:List (List Mv)},zJ a xs=0->∀l∈xs,l.length≠0/\∀m∈l,yu m.r=0/\m.r.n=a.n/\0<=m.to/\m.to<a.sts.length
 | [],_,l,hl=>by cases hl
 | x::r,h,l,hl=>by
  rw[zJ] at h
  split at h
  . rename_i h1;exact absurd h h1
  . rename_i h1
    have h1:qt a x=0:=by simpa using h1
    rcases L9.1 hl with rfl | hl
    . unfold qt at h1
      split at h1
      . cases h1
      . rename_i h2
        exact⟨h2,fun m hm=>vO (p:=zG l 0) (l:=l) (by have:=h1;unfold xO at this;rwa[Nl] at this) m hm⟩
    . exact jO h l hl
theorem kh{r:Rd}(h:yu r=0):1<=r.n/\r.n<=5/\yN r=0/\yY r.n r.f=0:=by
 unfold yu at h
 split at h
 . rename_i h1;exact absurd h h1
 rename_i h1;have h1:yN r=0:=by simpa using h1
 refine⟨?_,?_,h1,h⟩
 . unfold yN at h1
   split at h1
   . cases h1
   omega
 unfold yN at h1
 split at h1
 . cases h1
 omega
theorem xL{a:Ad}(h:zJ a a.sts=0):∀m∈a.mvs,yu m.r=0/\m.r.n=a.n/\0<=m.to/\m.to<a.sts.length:=fun m hm=>by
 obtain⟨l,hl,ie⟩:=NG.1 hm;exact(jO h l hl).2 m ie
theorem qR{m:Mv}(h:yu m.r=0):∃f:Nat,m.r.f=(f:Int)/\f<32:=by
 obtain⟨_,k,_,e,_,_,_,hk⟩:=check_ok (kh h).2.2.2;exact⟨k,e,hk⟩
theorem JV{s x:Nat}(hs:s<32)(hx:x<32):(bits BinOp.andNot U (x:Int) (s:Int)=0)↔(x &&& s=x):=by
 have h1:=kr (p:=fun s=>uX fun x=>decide ((bits BinOp.andNot U (x:Int) (s:Int)=0)↔(x &&& s=x))) (by decide +kernel) hs;have h2:=kr h1 hx;simpa using h2
theorem Qh{a:Ad}{x:Int×Mv}(h:x∈zO 0 a.sts):x.2∈a.mvs:=by
 have:x.2∈(zO 0 a.sts).map Prod.snd:=LS.2 ⟨x,h,rfl⟩;rwa[kL] at this
end
section
open Go.RowKit
theorem flat_step{xss:List (List Mv)}{k:Nat}(h:k<xss.length):((xss.take (k+1)).flatten).length=((xss.take k).flatten).length+xss[k].length:=by
 rw[Ls h,List.flatten_append,Lr];simp
theorem flat_le{xss:List (List Mv)}{k:Nat}:((xss.take k).flatten).length<=xss.flatten.length:=by
 conv=>rhs;rw[<-PR k xss]
 rw[List.flatten_append,Lr];omega
theorem Z9(a:Ad)(SV:Bb)(ks:Nat)(hl:a.sts.length<=17592186044416)(hm:a.mvs.length<=4611686018427387904)(aJ:∀l∈a.sts,l.length<=17592186044416)(w:Ba)(hS:SAt w w.heap.size SV a.sts) :
  An Al 133 #[Ai #[O U a.n,I SV a.sts.length ks]] w fun e w'=>e=Ak (O U (a.mvs.length:Nat))/\w'=w.alloc (Ag #[O U a.n,I SV a.sts.length ks] 27):=by
 have HS:=zH (hS.keep (zW w (Ag #[O U a.n,I SV a.sts.length ks] 27)));have fY:=zH aJ;obtain⟨n0,sts⟩:=a;unfold Ad.mvs at hm ⊢;dsimp only at hl hm fY HS ⊢;go_enter func133,ntmps133;go_wp2_with fail
 go_loop [3,4] (fun v i=>∃k c:Nat,k<=sts.length/\i=O U (k:Int)/\v=O U (c:Int)/\As (c=((sts.take k).flatten).length)) (fun _ i=>sts.length-(Ar i).toNat)
 case atStart=>exact⟨0,0,by omega,rfl,rfl,rfl⟩
 obtain⟨k,c,hk,rfl,rfl,hc⟩:=hrel
 by_cases hlt:k<sts.length
 . obtain⟨b,o,A',k',rfl,iX,c1,_⟩:=HS.out.at_ k hlt
   have dS:=fY.out _ (Lh hlt);have eZ:=flat_step hlt;have cG:=flat_le (xss:=sts) (k:=k+1);obtain⟨ll,aJ⟩:=Kj (sts[k].length);rw[aJ] at c1 dS eZ;have Ea:c+ll=((sts.take (k+1)).flatten).length:=by rw[eZ,hc.out]
   have hb:c+ll<=4611686018427387904:=by omega
   have HC:=zH Ea;go_wp2_with fail
   go_round
   case rel=>exact⟨k+1,c+ll,by omega,by go_num,by go_num,HC.out⟩
   simp[Ar];omega
 obtain rfl:k=sts.length:=by omega
 have Ea:c=sts.flatten.length:=by rw[hc.out,LK]
 subst Ea;go_wp2_with fail;go_ret;exact⟨rfl,rfl⟩
theorem mvs_le{a:Ad}(h8:a.sts.length<=8)(aJ:∀l∈a.sts,l.length<=17592186044416):a.mvs.length<=4611686018427387904:=by
 have h:∀(xs:List (List Mv)),(∀l∈xs,l.length<=17592186044416)->xs.flatten.length<=xs.length*17592186044416:=by
  intro xs
  induction xs with
  | nil=>intro _;simp
  | cons x xs ih=>
   intro hx;have h1:=ih fun l hl=>hx l (PF _ hl)
   have h2:=hx x (Sa ..);rw[Rt,Lr,Lx,Nat.succ_mul];omega
 have h1:=h a.sts aJ;unfold Ad.mvs;omega
theorem rfewA_any(a:Ad)(SV:Bb)(ks:Nat)(hl:a.sts.length<=17592186044416)(aJ:∀l∈a.sts,l.length<=17592186044416)(w:Ba)(hS:SAt w w.heap.size SV a.sts) :
  An Al 95 #[Ai #[O U a.n,I SV a.sts.length ks]] w fun e w'=>e=Ak (Ah (decide (a.sts.length<=8)&&decide (a.mvs.length<=40)))/\Am w.heap.size w w':=by
 have HC:=zH (fun (hm:a.mvs.length<=4611686018427387904)=>Z9 a SV ks hl hm aJ (w.alloc (Ag #[O U a.n,I SV a.sts.length ks] 27)) ((hS.keep (zW w _)).more (by simp)));have VW:=zH (fun (h8:a.sts.length<=8)=>mvs_le h8 aJ);obtain⟨q,hq⟩:=Kj a.mvs.length;rw[hq] at HC VW ⊢;obtain⟨sl,dR⟩:=Kj a.sts.length;rw[dR] at HC VW hl ⊢;go_enter func95,ntmps95
 by_cases h1:sl<=8
 . have hm:=VW.out h1
   go_wp2_with fail
   all_goals first | (exfalso;omega) | skip
   refine(HC.out hm).mono ?_;rintro e w1 ⟨rfl,rfl⟩;go_wp2_with fail;go_ret;exact⟨zy (by first | (rw[Lw h1,Ns];exact Qv (by omega)) | exact Qv (by omega)),uj w _ _⟩
 go_wp2_with fail
 all_goals first | (exfalso;omega) | skip
 go_ret;exact⟨zy (by first | rfl | rw[Lv h1,N3]),zW w _⟩
theorem Je{a:Ad}(hf:FewA a):(∀l∈a.sts,l.length<=17592186044416)/\a.sts.length<=17592186044416/\a.mvs.length<=4611686018427387904:=
 ⟨fun l hl=>by have:=hf.each hl;omega,by have:=hf.1;omega,by have:=hf.2;omega⟩
theorem rmove_any(a:Ad)(SV:Bb)(ks:Nat)(_Gr:a.sts.length<=8)(A:Bb)(k0:Nat)(l:List Mv)(hl:l.length<=40)(k:Nat)(hlt:k<l.length)(w:Ba)(hA:MAt w w.heap.size A l) :
  An Al 157 #[Ai #[O U a.n,I SV a.sts.length ks],I A l.length k0,O U k] w fun e w'=>e=Ak (O U (xV a (zG l k) l[k]))/\Am w.heap.size w w':=by
 have HA:=zH hA;obtain⟨b,o,rfl,iX,c0,c1,c2,c3,c4,c5,c6,c7⟩:=hA.row k hlt;obtain⟨bo,di⟩:=Kj (YZ (zG l k) l[k]);have bU:=zH di;have m1:=zH (@hU a (zG l k) l[k]);have m2:=zH (@moveE_n a (zG l k) l[k]);have m3:=zH (@Za a (zG l k) l[k]);have m4:=zH (@Jf a (zG l k) l[k]);have m5:=zH (@Jg a (zG l k) l[k]);rw[di] at m3 m4 m5;obtain⟨m,hm⟩:=Kj (l[k]);have HX:=zH hm;obtain⟨mE,Mu⟩:=Kj (xV a (zG l k) l[k]);rw[Mu] at m1 m2 m3 m4 m5 ⊢;rw[hm] at c0 c1 c2 c3 c4 c5 c6 c7 m1 m2 m3 m4 m5;have HR:=zH (fun w'=>Zr m.r w');obtain⟨rE,Ma⟩:=Kj (yu m.r);rw[Ma] at m1 m2 m3 m4 m5 HR;unfold Rd.cells at HR;clear di hm Mu Ma hA;go_enter func157,ntmps157;go_wp2_with fail;obtain⟨W1,dj,b0,b1,av,aV⟩:=yI w #[O U a.n,I SV a.sts.length ks] #[O U m.r.n,O U m.r.h0,O U m.r.h1,O U m.r.h2,O U m.r.h3,O U m.r.h4,O U m.r.f] 27 76;rw[dj];refine(HR.out W1).mono ?_;rintro e w1 ⟨rfl,aF⟩;have iQ:=zH (aV.trans (aF.mono (by omega)));have d0:=Lb aF (by omega) b0;have d1:=Lb aF (by omega) b1;have cy:=zH d1;have du:=zH d0;obtain⟨q0,q1,_⟩:=Ke d0;obtain⟨p0,p1,p2,p3,p4,p5,p6,_⟩:=Kg d1;have Cv:=zj d1;obtain⟨_,_,e7,_,_,_,_,_,_,_,_,p7⟩:=(HA.out.keep iQ.out).row k hlt
 cases e7
 rw[HX.out] at p7;clear dj b0 b1 aV aF d0 d1 c0 c1 c2 c3 c4 c5 c6 c7 HR
 by_cases hr:rE=0
 case neg=>
  have he:=zH (m1.out hr);have e0:(rE != 0)=Av:=by simpa using hr
  clear m1 m2 m3 m4 m5 hr bU HX;go_wp2_with fail;go_ret;exact⟨zm he.out.symm,iQ.out⟩
 case pos=>
 subst hr;clear m1
 by_cases hn:m.r.n=a.n
 case neg=>
  have he:=zH (m2.out (by simp) hn);have e0:(m.r.n != a.n)=Av:=by simpa using hn
  clear m2 m3 m4 m5 hn bU HX;go_wp2_with fail;go_ret;exact⟨zm he.out.symm,iQ.out⟩
 case pos=>
 have e0:(m.r.n != a.n)=Aw:=by simpa using hn
 have n3:=zH (m3.out (by simp) hn);have n4:=zH (m4.out (by simp) hn);have n5:=zH (m5.out (by simp) hn);clear m2 hn m3 m4 m5
 cases k with
 | zero=>
  obtain rfl:bo=Aw:=by rw[<-bU.out];rfl
  have g0:decide ((0:Int)<0)=Aw:=by decide
  rw[P9,Py] at p7;clear bU HX n3;go_wp2_with fail;go_quiet (fail)
  by_cases ht:m.to<0\/(a.sts.length:Int)<=m.to
  . have he:=zH (n4.out (by simp) ht)
    clear n4 n5
    by_cases BF:m.to<0
    . clear ht
      go_wp2_with fail;go_quiet (fail);go_wp2_with fail;go_ret;exact⟨zm he.out.symm,by repeat (first | exact iQ.out | refine yy ?_ _)⟩
    . have rz:(a.sts.length:Int)<=m.to:=by omega
      clear ht;go_wp2_with fail;go_quiet (fail);go_wp2_with fail;go_ret;exact⟨zm he.out.symm,by repeat (first | exact iQ.out | refine yy ?_ _)⟩
  . have he:=zH (n5.out (by simp) ht)
    have BF:¬m.to<0:=by omega
    have rz:¬(a.sts.length:Int)<=m.to:=by omega
    clear n4 n5 ht;go_wp2_with fail;go_quiet (fail);go_wp2_with fail;go_ret;exact⟨zm he.out.symm,by repeat (first | exact iQ.out | refine yy ?_ _)⟩
 | succ j=>
  have hj:j<l.length:=by omega
  have cu:YZ (zG l (j+1)) l[j+1]=decide (0<=zD l[j].r.l l[j+1].r.l):=by rw[yz l j hj];rfl
  rw[HX.out] at cu;rw[show YZ (zG l (j+1)) m=bo by have:=bU.out;rwa[HX.out] at this] at cu;obtain⟨b',o',e',_,u0,u1,u2,u3,u4,u5,u6,u7⟩:=(HA.out.keep iQ.out).row j hj
  cases e'
  have hc:=fun w'=>Z3 l[j].r m.r w'
  obtain⟨mj,Mr⟩:=Kj (l[j]);rw[Mr] at cu hc u0 u1 u2 u3 u4 u5 u6 u7;obtain⟨r,hr⟩:=Kj (zD mj.r.l m.r.l);rw[hr] at cu hc;unfold Rd.cells at hc;have dH:=zH cu;have HC:=zH hc;have g1:((j:Int)+1).toNat=j+1:=by omega
  have g3:IntKind.i64.wrap ((j:Int)+1-1)=(j:Int):=by rw[Lo];omega
  have g5:IntKind.i64.wrap ((j:Int)+1)=(j:Int)+1:=by rw[Lo];omega
  have g6:decide ((0:Int)<(j:Int)+1)=Av:=Lw (by omega);have g7:IntKind.i64.wrap (j:Int)=(j:Int):=by rw[Lo];omega
  have g8:(0:Int)<=(j:Int):=by omega
  have g9:(j:Int)<(l.length:Int):=by omega
  clear cu hc hr Mr bU;go_wp2_with fail
  go_still_tail 10,(by kernel_rfl)
  change wpList _ _ _ _ _ w1.drew;obtain⟨w2,bh⟩:∃w2,w2=w1.drew:=⟨_,rfl⟩;have Ho:As (Am w.heap.size w w2):=by rw[bh];exact iQ.out.drew
  have ai:As (w2.heap[w.heap.size]?=J (Ag #[O U a.n,I SV a.sts.length ks] 27 (0,0))):=by rw[bh];exact du.out
  rw[<-bh];clear du cy bh q0 q1 p0 p1 p2 p3 p4 p5 p6 p7 u0 u1 u2 u3 u4 u5 u6 u7 g3 g7 g8 g9;go_wp2_with fail;refine(HC.out w2).mono ?_;rintro e w3 ⟨rfl,ak⟩;have rZ:=zH (Lc Ho.out ak);have d0:=La ak ai.out;obtain⟨q0,q1,_⟩:=Ke d0;obtain⟨_,_,e7,_,_,_,_,_,_,_,_,p7⟩:=(HA.out.keep rZ.out).row (j+1) hlt
  cases e7
  rw[HX.out] at p7;have i1:(0:Int)<=(j:Int)+1:=by omega
  have i2:(j:Int)+1<(l.length:Int):=by omega
  clear d0 ak HC HX
  cases bo with
  | true=>
   have g0':0<=r:=LA dH.out.symm;have he:=zH (n3.out (by simp));clear n3 n4 n5 dH;go_wp2_with fail
   all_goals first | (exfalso;omega) | skip
   go_ret;exact⟨zm he.out.symm,rZ.out⟩
  | false=>
   have g0':¬0<=r:=NB dH.out.symm;clear n3 dH
   by_cases ht:m.to<0\/(a.sts.length:Int)<=m.to
   . have he:=zH (n4.out (by simp) ht)
     clear n4 n5
     by_cases BF:m.to<0
     . clear ht
       go_wp2_with fail
       all_goals first | (exfalso;omega) | skip
       go_quiet (fail);go_wp2_with fail;go_ret;exact⟨zm he.out.symm,by repeat (first | exact rZ.out | refine yy ?_ _)⟩
     . have rz:(a.sts.length:Int)<=m.to:=by omega
       clear ht;go_wp2_with fail
       all_goals first | (exfalso;omega) | skip
       go_quiet (fail);go_wp2_with fail;go_ret;exact⟨zm he.out.symm,by repeat (first | exact rZ.out | refine yy ?_ _)⟩
   . have he:=zH (n5.out (by simp) ht)
     have BF:¬m.to<0:=by omega
     have rz:¬(a.sts.length:Int)<=m.to:=by omega
     clear n4 n5 ht;go_wp2_with fail
     all_goals first | (exfalso;omega) | skip
     go_quiet (fail);go_wp2_with fail;go_ret;exact⟨zm he.out.symm,by repeat (first | exact rZ.out | refine yy ?_ _)⟩
end
section
open Go.RowKit
attribute [local go_sem] Oper.semAt_some
def okB(a:Ad)(m:Mv):Bool:=(a.at_ m.to).all fun k=>kE m k
theorem grows_all{a:Ad}(h:∀t (ht:t<a.sts.length),∀m∈a.sts[t],okB a m=Av):xG a=Av:=by
 unfold xG;rw[Nf];intro m hm;obtain⟨l,hl,ie⟩:=NG.1 hm;obtain⟨t,ht,rfl⟩:=NM.1 hl;exact h t ht m ie
theorem grows_none{a:Ad}{m k:Mv}(hm:m∈a.mvs)(hk:k∈a.at_ m.to)(h:kE m k=Aw):xG a=Aw:=by
 rw[Bool.eq_false_iff];intro hg;unfold xG at hg;have:=Nf.1 (Nf.1 hg m hm) k hk;rw[this] at h
 cases h
theorem at_get{a:Ad}{t:Nat}(h:t<a.sts.length){x:Int}(hx:x=(t:Int)):a.at_ x=a.sts[t]:=by
 subst hx;unfold Ad.at_;rw[Lm,Lf,Li h];rfl
theorem rgrows_any(a:Ad)(hf:FewA a)(hz:zJ a a.sts=0)(SV:Bb)(ks:Nat)(w:Ba)(hS:SAt w w.heap.size SV a.sts) :
  An Al 158 #[Ai #[O U a.n,I SV a.sts.length ks]] w fun e w'=>e=Ak (Ah (xG a))/\Am w.heap.size w w':=by
 have fq:=hf.1;have ru:=zH (fun l hl=>hf.each (l:=l) hl);have HZ:=zH (@xL a hz);have HGA:=zH (@grows_all a);have UN:=zH (fun m k hm hk h=>@grows_none a m k hm hk h);obtain⟨G,hG⟩:=Kj (xG a);rw[hG] at HGA ⊢;simp only[hG] at UN;go_enter func158,ntmps158;go_wp2_with fail;obtain⟨w1,ab⟩:=Kj (w.alloc (Ag #[O U a.n,I SV a.sts.length ks] 27));have bj:=zx w (Ag #[O U a.n,I SV a.sts.length ks] 27);have aw:Am w.heap.size w w1:=by rw[<-ab];exact zW w _
 have eh:w1.heap.size=w.heap.size+1:=by rw[<-ab];simp
 rw[ab] at bj ⊢;have cj:=zH bj;have bW:=zH aw;have HS:=zH ((hS.keep aw).more (by omega:w.heap.size<=w1.heap.size))
 go_loopw [3] (fun i wr=>∃s:Nat,s<=a.sts.length/\i=O U (s:Int)/\As (∀t (ht:t<a.sts.length),t<s->∀m∈a.sts[t],okB a m=Av)/\As (Am w1.heap.size w1 wr)) (fun i _=>a.sts.length-(Ar i).toNat)
 case atStart=>exact⟨0,by omega,rfl,(fun t ht h0=>by omega),Ll _ _⟩
 obtain⟨s,hs,rfl,cI,aO⟩:=hrel;have bQ:=La aO.out cj.out;have q1:=zh bQ 1 rfl
 by_cases hlt:s<a.sts.length
 case neg=>
  obtain rfl:s=a.sts.length:=by omega
  have hg:=zH (HGA.out (fun t ht=>cI.out t ht ht));go_wp2_with fail;go_ret;exact⟨zy hg.out.symm,bW.out.trans (aO.out.mono (by omega))⟩
 case pos=>
 obtain⟨b,o,A',k',rfl,iX,c1,hM⟩:=(HS.out.keep aO.out).at_ s hlt;have fN:=ru.out _ (Lh hlt);have RO:As (∀m∈a.sts[s],m∈a.mvs):=fun m hm=>NG.2 ⟨_,Lh hlt,hm⟩
 have mn:As ((∀m∈a.sts[s],okB a m=Av)->∀t (ht:t<a.sts.length),t<s+1->∀m∈a.sts[t],okB a m=Av):=fun h t ht h2 m hm=>by
  by_cases e:t=s
  . subst e;exact h m hm
  . exact cI.out t ht (by omega) m hm
 have dl:As (∀wr:Ba,Am w1.heap.size w1 wr->wr.cell? ⟨b,o+s,Z⟩=J (.slice A' (a.sts[s]).length k')/\MAt wr w1.heap.size A' a.sts[s]):=fun wr' cN=>
  ⟨((cN.cell (p:=⟨b,_,Z⟩) iX).trans ((aO.out.cell (p:=⟨b,_,Z⟩) iX).symm)).trans c1,(by
   obtain⟨b2,o2,A2,k2,e2,bE,c2,AD⟩:=(HS.out.keep cN).at_ s hlt
   cases e2
   have:=(((cN.cell (p:=⟨b,o+s,Z⟩) iX).trans ((aO.out.cell (p:=⟨b,o+s,Z⟩) iX).symm)).trans c1).symm.trans c2
   cases this
   exact AD)⟩
 obtain⟨L,hL⟩:=Kj (a.sts[s]);rw[hL] at c1 fN RO mn dl;go_wp2_with fail
 go_loopw [4] (fun i wr=>∃j:Nat,j<=L.length/\i=O U (j:Int)/\As (∀u (hu:u<L.length),u<j->okB a L[u]=Av)/\As (Am w1.heap.size w1 wr)) (fun i _=>L.length-(Ar i).toNat)
 case atStart=>exact⟨0,by omega,rfl,(fun u hu h0=>by omega),aO⟩
 obtain⟨j,hj,rfl,DN,aO⟩:=hrel;have bQ:=La aO.out cj.out;have q1:=zh bQ 1 rfl;obtain⟨c1,hM⟩:=dl.out _ aO.out
 by_cases cc:j<L.length
 case neg=>
  obtain rfl:j=L.length:=by omega
  have hg:=zH (mn.out (fun m hm=>by
   obtain⟨u,hu,rfl⟩:=NM.1 hm
   exact DN.out u hu hu))
  go_wp2_with fail
  go_roundw
  case rel=>exact⟨s+1,by omega,by go_num,hg,aO⟩
  simp[Ar];omega
 case pos=>
 obtain⟨b',o',e',hbB',d0,d1,d2,d3,d4,d5,d6,d7⟩:=hM.row j cc
 cases e'
 have HLj:As (L[j]∈a.mvs):=RO.out _ (Lh cc)
 have IN:As (okB a L[j]=Av->∀u (hu:u<L.length),u<j+1->okB a L[u]=Av):=fun h u hu h2=>by
  by_cases e:u=j
  . subst e;exact h
  . exact DN.out u hu (by omega)
 obtain⟨m,hm⟩:=Kj (L[j]);rw[hm] at d0 d1 d2 d3 d4 d5 d6 d7 HLj IN;obtain⟨z1,z2,z3,z4⟩:=HZ.out m HLj.out;obtain⟨f1,OP,U4⟩:=qR z1;obtain⟨t,et⟩:=Lp z3;have lA:t<a.sts.length:=by omega
 have aI:=at_get lA et;have HKt:As (∀y∈a.at_ m.to,y∈a.mvs):=by rw[aI];exact fun y hy=>NG.2 ⟨_,Lh lA,hy⟩
 have MD:=ru.out _ (Lh lA)
 have eG:As (∀wr:Ba,Am w1.heap.size w1 wr->∃A' c,wr.cell? ⟨b,o+t,Z⟩=J (.slice A' (a.at_ m.to).length c)/\MAt wr w1.heap.size A' (a.at_ m.to)):=fun wr' cN=>by
  rw[aI];obtain⟨b2,o2,A2,k2,e2,bE,c2,AD⟩:=(HS.out.keep cN).at_ t lA
  cases e2
  exact⟨A2,k2,c2,AD⟩
 rw[<-aI] at MD;have tj:As ((∀y∈a.at_ m.to,kE m y=Av)->okB a m=Av):=fun h=>Nf.2 h
 obtain⟨L2,OD⟩:=Kj (a.at_ m.to)
 have iP:As (∀y∈L2,kE m y=Aw->G=Aw):=by
  rw[<-OD];exact fun y hy h=>UN.out m y HLj.out hy h
 rw[OD] at HKt MD eG tj;have ai:=zH OP;have HET:=zH et;rw[et] at d7;clear hM hm z1 z2 z3 z4 et OP aI OD DN;go_wp2_with fail;obtain⟨wm,oI⟩:=Kj (wr.alloc (Ag m.cells 78));have se:=zx wr (Ag m.cells 78);have hmB:Am w1.heap.size w1 wm:=by rw[<-oI];exact aO.out.trans ((zW wr _).mono aO.out.size)
 have rA:wm.heap.size=wr.heap.size+1:=by rw[<-oI];simp
 have pj:=aO.out.size;rw[oI] at se;unfold Mv.cells at oI se;rw[HET.out] at oI se;rw[oI];obtain⟨g,hg⟩:=Kj wr.heap.size;rw[hg] at se rA pj ⊢;have HMB:=zH se;have HMW:=zH hmB
 go_loopw [6] (fun i wx=>∃q:Nat,q<=L2.length/\i=O U (q:Int)/\As (∀u (hu:u<L2.length),u<q->kE m L2[u]=Av)/\As (Am wm.heap.size wm wx)) (fun i _=>L2.length-(Ar i).toNat)
 case atStart=>exact⟨0,by omega,rfl,(fun u hu h0=>by omega),Ll _ _⟩
 obtain⟨q,hq,rfl,Tz,cd⟩:=hrel;have bz:=HMW.out.trans (cd.out.mono (by omega));have bQ:=La bz cj.out;have q1:=zh bQ 1 rfl;have fl:=Lb cd.out (by omega) HMB.out;have p6:=zh fl 6 rfl;have p7:=zh fl 7 rfl;obtain⟨A2,k2,c2,AD⟩:=eG.out _ bz;have ec:=zH bz
 by_cases sR:q<L2.length
 case neg=>
  obtain rfl:q=L2.length:=by omega
  have hg:=zH (IN.out (tj.out (fun y hy=>by
   obtain⟨u,hu,rfl⟩:=NM.1 hy
   exact Tz.out u hu hu)))
  go_wp2_with fail
  go_roundw
  case rel=>exact⟨j+1,by omega,by go_num,hg,ec⟩
  simp[Ar];omega
 case pos=>
 obtain⟨b3,o3,e3,aG,_,_,_,_,_,_,c6,_⟩:=AD.row q sR;subst e3;have cS:=Lh sR;obtain⟨f2,Da,U3⟩:=qR (HZ.out _ (HKt.out _ cS)).1;have Dh:=zH (iP.out _ cS)
 have HQ2:As (kE m L2[q]=Av->∀u (hu:u<L2.length),u<q+1->kE m L2[u]=Av):=fun h u hu h2=>by
  by_cases e:u=q
  . subst e;exact h
  . exact Tz.out u hu (by omega)
 have dB:kE m L2[q]=(f1 &&& f2==f1):=by unfold kE;rw[ai.out,Da,Lm,Lm]
 have HC:=zH (fun w'=>inside_any f1 f2 U4 U3 w');obtain⟨y,hy⟩:=Kj (L2[q]);rw[hy] at c6 Dh HQ2 dB Da;obtain⟨bo,di⟩:∃bo,(f1 &&& f2==f1)=bo:=⟨_,rfl⟩;rw[di] at dB HC;have sG:=zH dB;have he1:=ai.out;rw[he1] at p6;rw[Da] at c6
 cases bo with
 | true=>
  have hg:=zH (HQ2.out sG.out);go_wp2_with fail;go_quiet ((go_at_call 179;exact(HC.out _).mono fun e w' h=>⟨h.1,_,h.2.symm⟩));go_wp2_with fail
  go_roundw
  case rel=>exact⟨q+1,by omega,by go_num,hg,yy cd.out _⟩
  case measure=>simp[Ar];omega
 | false=>
  have hg:=zH (Dh.out sG.out);go_wp2_with fail;go_quiet ((go_at_call 179;exact(HC.out _).mono fun e w' h=>⟨h.1,_,h.2.symm⟩));go_wp2_with fail;go_ret;exact⟨zy hg.out.symm,yy (bW.out.trans (ec.out.mono (by omega))) _⟩
theorem QY(a:Ad)(hf:FewA a)(SV:Bb)(ks:Nat)(w:Ba)(hS:SAt w w.heap.size SV a.sts) :
  An Al 135 #[Ai #[O U a.n,I SV a.sts.length ks]] w fun e w'=>e=Ak (O U (ql a))/\Am w.heap.size w w':=by
 have fq:=hf.1;have lL:=hf.2;obtain⟨ie,hmt,iD⟩:=Je hf;have IJ:=zH (fun (w':Ba) (h:SAt w' w'.heap.size SV a.sts)=>Z9 a SV ks hmt iD ie w' h);have SH:=zH (fun hz (w':Ba) (h:SAt w' w'.heap.size SV a.sts)=>rgrows_any a hf hz SV ks w' h);have IK:=zH (fun (A:Bb) (k0:Nat) (l:List Mv) (hl:l.length<=40) (k:Nat) (hlt:k<l.length) (w':Ba) (h:MAt w' w'.heap.size A l)=>rmove_any a SV ks fq A k0 l hl k hlt w' h);have ru:=zH (fun l hl=>hf.each (l:=l) hl);have ai:=zH (@ul a);have aj:=zH (@gj a);have ax:=zH (fun h h2=>@uk a h h2 hf);have cK:=zH (fun h h2=>@um a h h2 hf);obtain⟨E,hE⟩:=Kj (ql a);rw[hE] at ai aj ax cK ⊢;obtain⟨ml,DU⟩:=Kj a.mvs.length;rw[DU] at IJ lL;go_enter func135,ntmps135
 by_cases hr:a.n<1\/5<a.n
 . have hR:=zH (ai.out hr)
   have HN:=zH hr;go_wp2_with fail
   all_goals first | (exfalso;have:=HN.out;omega) | skip
   all_goals
    go_ret;exact⟨zm hR.out.symm,zW w _⟩
 have r1:¬a.n<1:=by omega
 have r2:¬5<a.n:=by omega
 have aj:=zH (aj.out hr);have ax:=zH (ax.out hr);have cK:=zH (cK.out hr);obtain⟨w1,ab⟩:=Kj (w.alloc (Ag #[O U a.n,I SV a.sts.length ks] 27));have bj:=zx w (Ag #[O U a.n,I SV a.sts.length ks] 27);have aw:Am w.heap.size w w1:=by rw[<-ab];exact zW w _
 have eh:w1.heap.size=w.heap.size+1:=by rw[<-ab];simp
 rw[ab] at bj;have cj:=zH bj;have bW:=zH aw;have HS:=zH ((hS.keep aw).more (by omega:w.heap.size<=w1.heap.size));have ag:=zH ab;clear hS ab aw;obtain⟨q0,q1,_⟩:=Ke bj
 by_cases hz:a.sts.length<1
 . have hR:=zH (aj.out hz)
   clear aj ax cK IJ SH IK ru;go_wp2_with fail;rw[ag.out];go_wp2_with fail;go_ret;exact⟨zm hR.out.symm,bW.out⟩
 have ce:1<=a.sts.length:=by omega
 have G3:=zH (ax.out ce);have G4:=zH (cK.out ce);clear aj hz ax cK;obtain⟨F,hF⟩:=Kj (zJ a a.sts);have HF:As (F=zJ a (a.sts.drop 0)):=by rw[Nl];exact hF.symm
 rw[hF] at G3 G4 SH;clear hF;have g1:=zH (fun k h=>@vL a a.sts k h);have g2:=zH (fun k h=>@uq a a.sts k h);have g3:=zH (fun k h=>@vK a a.sts k h);go_wp2_with fail;rw[ag.out];refine(IJ.out w1 HS.out).mono ?_;rintro e w2 ⟨rfl,bh⟩;have ae:Am w1.heap.size w1 w2:=by rw[bh];exact zW w1 _
 have au:=zH ae;have bQ:=La ae cj.out;have q1:=zh bQ 1 rfl;clear bh ae bQ bj IJ ag;go_wp2_with fail
 all_goals first | (exfalso;omega) | skip
 clear q1
 go_loopw [3] (fun i wr=>∃s:Nat,s<=a.sts.length/\i=O U (s:Int)/\As (F=zJ a (a.sts.drop s))/\As (Am w1.heap.size w1 wr)) (fun i _=>a.sts.length-(Ar i).toNat)
 case atStart=>exact⟨0,by omega,rfl,HF,au⟩
 obtain⟨s,hs,rfl,an,aO⟩:=hrel;have bQ:=La aO.out cj.out;obtain⟨q0,q1,_⟩:=Ke bQ
 by_cases hlt:s<a.sts.length
 case neg=>
  obtain rfl:s=a.sts.length:=by omega
  have Ge:F=0:=an.out.trans (g3.out _ rfl);have hR:=zH (G4.out Ge);have HG:=zH (SH.out Ge wr ((HS.out.keep aO.out).more aO.out.size));obtain⟨gb,dK⟩:=Kj (xG a);rw[dK] at hR HG;clear G3 G4 g1 g2 g3 an dK Ge SH IK ru bQ;go_wp2_with fail;refine HG.out.mono ?_;rintro e w3 ⟨rfl,ak⟩;have aC:=zH (bW.out.trans ((Lc aO.out ak).mono (by omega)));clear HG ak q1
  cases gb with
  | true=>
   go_wp2_with fail;go_ret;exact⟨zm hR.out.symm,aC.out⟩
  | false=>
   go_wp2_with fail;go_ret;exact⟨zm hR.out.symm,aC.out⟩
 case pos=>
 have aR:=zH (g1.out s hlt);have aQ:=zH (g2.out s hlt);obtain⟨b,o,A',k',e',iX,c1,hM⟩:=(HS.out.keep aO.out).at_ s hlt;subst e';have fN:=ru.out _ (Lh hlt)
 have dl:As (∀wr:Ba,Am w1.heap.size w1 wr->wr.cell? ⟨b,o+s,Z⟩=J (.slice A' (a.sts[s]).length k')/\MAt wr w1.heap.size A' a.sts[s]):=fun wr' cN=>
  ⟨((cN.cell (p:=⟨b,_,Z⟩) iX).trans ((aO.out.cell (p:=⟨b,_,Z⟩) iX).symm)).trans c1,(by
   obtain⟨b2,o2,A2,k2,e2,bE,c2,AD⟩:=(HS.out.keep cN).at_ s hlt
   cases e2
   have:=(((cN.cell (p:=⟨b,o+s,Z⟩) iX).trans ((aO.out.cell (p:=⟨b,o+s,Z⟩) iX).symm)).trans c1).symm.trans c2
   cases this
   exact AD)⟩
 obtain⟨L,hL⟩:=Kj (a.sts[s]);rw[hL] at c1 fN dl aR aQ;clear hM hL g1 g2 g3 bQ ru SH
 by_cases oQ:L.length=0
 . have he:=gJ (a:=a) oQ
   rw[he] at aR;have BT:=an.out.trans (aR.out (by decide));have hR:=zH ((G3.out (by rw[BT];decide)).trans BT);rw[oQ] at c1;clear G3 G4 aR aQ an he BT oQ fN dl IK;go_wp2_with fail;go_ret;exact⟨zm hR.out.symm,bW.out.trans (aO.out.mono (by omega))⟩
 have sB:=zH (ZV (a:=a) oQ);have e0:(((L.length:Nat):Int)==0)=Aw:=by simpa using oQ
 have e1:¬((L.length:Nat):Int)=0:=by omega
 have b1:=zH (fun k h=>@gZ a L k h);have b2:=zH (fun k h=>@Yi a L k h);have b3:=zH (@gY a L);obtain⟨V,hV⟩:=Kj (qt a L);rw[hV] at sB aR aQ;clear hV oQ;go_wp2_with fail;clear q1 c1
 go_loopw [4] (fun i wr=>∃j:Nat,j<=L.length/\i=O U (j:Int)/\As (V=xO a L j)/\As (Am w1.heap.size w1 wr)) (fun i _=>L.length-(Ar i).toNat)
 case atStart=>exact⟨0,by omega,rfl,sB,aO⟩
 clear aO sB;obtain⟨j,hj,rfl,DN,aO⟩:=hrel;have bQ:=La aO.out cj.out;obtain⟨q0,q1,_⟩:=Ke bQ;obtain⟨c1,hM⟩:=dl.out _ aO.out
 by_cases cc:j<L.length
 case neg=>
  obtain rfl:j=L.length:=by omega
  have T4:V=0:=DN.out.trans b3.out;have hR:=zH (an.out.trans (aQ.out T4));clear DN hM b1 b2 b3 aR aQ an T4 bQ dl IK G3 G4;go_wp2_with fail
  go_roundw
  case rel=>exact⟨s+1,by omega,by go_num,hR,aO⟩
  simp[Ar];omega
 case pos=>
 have hC:=IK.out A' k' L fN j cc;have x1:=b1.out j cc;have x2:=b2.out j cc;obtain⟨ev,dD⟩:=Kj (xV a (zG L j) L[j]);rw[dD] at hC x1 x2;have HC:=zH hC;have X1:=zH x1;have X2:=zH x2;have pc:=zH hM;have HBK:=zH bQ;have i1:(0:Int)<=(s:Int):=by omega
 have i2:(s:Int)<(a.sts.length:Int):=by omega
 clear hC x1 x2 dD hM bQ b1 b2 b3 IK;go_wp2_with fail
 go_still_tail 7,(by kernel_rfl)
 change wpList _ _ _ _ _ wr.drew;obtain⟨wd,oe⟩:∃wd,wd=wr.drew:=⟨_,rfl⟩;have BLd:As (Am w1.heap.size w1 wd):=by rw[oe];exact aO.out.drew
 have HMd:As (MAt wd wd.heap.size A' L):=by rw[oe];exact(pc.out.keep (Ll _ wr).drew).more aO.out.size
 rw[<-oe];clear oe pc q1 c1 HBK;go_wp2_with fail;refine(HC.out wd HMd.out).mono ?_;rintro e w3 ⟨rfl,ak⟩;have rZ:=zH (Lc BLd.out ak)
 by_cases he:ev=0
 . subst he
   have hR:=zH (DN.out.trans (X2.out (by simp)));go_wp2_with fail
   go_roundw
   case rel=>exact⟨j+1,by omega,by go_num,hR,rZ⟩
   simp[Ar];omega
 have hVv:=DN.out.trans (X1.out he);have BT:=(an.out.trans (aR.out (by rw[hVv];exact he))).trans hVv;have hR:=zH ((G3.out (by rw[BT];exact he)).trans BT);have e2:(ev != 0)=Av:=by simpa using he
 go_wp2_with fail;go_ret;exact⟨zm hR.out.symm,bW.out.trans (rZ.out.mono (by omega))⟩
end
section
open Go.RowKit Go.Shelf
section
variable {P:Program}
theorem vQ{fn:Func}{tmps:Array Au}{R:Ending->Ba->Prop}{B n:Nat} :
  ∀(rs:List Nat) (w:Ba),rs.Nodup->(∀r∈rs,B<=r/\w.heap[r]?=J (.deferred (J [])))->(∀W,Shut B w W->∃v,(results fn tmps).run P W=.ok v W/\R (Ak v) W) ->
   LeavesInM Fence.wide n P fn tmps R (rs.map (fun r=>{ target:=.collected r,args:=#[] })) .returning w
 | [],w,_,_,hR=>hR w (Shut.refl _ _)
 | r::rs,w,hn,hm,hR=>by
  obtain⟨hr,TI⟩:=P5.1 hn;obtain⟨hB,hk⟩:=hm r (by simp);refine⟨by simp,.inl ⟨r,_,rfl,run_takeDeferred hk,?_⟩⟩;refine vQ rs _ TI (fun r' sQ=>⟨(hm r' (by simp[sQ])).1,?_⟩) (fun W hW=>hR W ?_)
  . rw[Pt (by rintro rfl;exact hr sQ)]
    exact(hm r' (by simp[sQ])).2
  . refine⟨((Ll B w).grown (grownBy_putObj' w r (.deferred Z)) (by have:=(Ln.1 hk).1;omega) (fun k e=>by cases e;exact hB)).trans hW.below,fun k o ho hc=>?_⟩
    refine hW.same k o ?_ hc
    by_cases e:k=r
    . subst e;rw[hk] at ho;cases ho;cases hc
    . exact(Pt e).trans ho
theorem xk{fn:Func}{R:Ending->Ba->Prop}{a:Act}{w:Ba}{B:Nat}(hm:Marks B a.defers w)
  (hR:∀W,Shut B w W->∃v,(results fn a.tmps).run P W=.ok v W/\R (Ak v) W):bodyPostM Fence.wide 9 P fn R .ret a w:=by
 obtain⟨rs,hd,hn,hk⟩:=hm;show LeavesInM Fence.wide 9 P fn a.tmps R a.defers .returning w;rw[hd];exact vQ rs w hn hk hR
theorem qp{β:Type}{g:Operand}{ps:Array Tmp}{assign body:Code}{Q:Exit->Act->Ba->Prop}{a:Act}{w:Ba}
  {gf:Nat} {lb:Array Au} (hg:a.eval g=.func (.func gf) #[] lb) (eg:Enters P gf)
  {nT:β->Array Au} {K:Nat->Prop} {xs:List β} (Fg:Y1 P gf lb nT K xs w) (hK:∀k,K k->k<w.heap.size) (cI:∀x,(nT x).size=ps.size)
  (Ac:List { x:β // x∈xs }->Ba->Prop) (Ix:Code->List { x:β // x∈xs }->Ba->Prop) (hI:OwnFrom w.heap.size Ac) (hIx:∀c,OwnFrom w.heap.size (Ix c)) (h0:Ac [] w)
  (C:β->Array Au) (T:TypeId) (a₁:{ x:β // x∈xs }->Nat->Act)
  (nN:∀(l:Nat) (pre:List { x:β // x∈xs }) (x:{ x:β // x∈xs }) (W:Ba) (K':Act->Ba->Prop),Ac pre W->(∀g,g=W.heap.size->Ac pre (W.alloc (Ag (C x.1) T))->K' (a₁ x g) (W.alloc (Ag (C x.1) T))) ->
   assign.wpIn (Fence.wide.inRound l) 7 P (Exit.then K' (fun _ _ _=>False)) { tmps:=(ps.zip (nT x.1)).foldl (fun t (p,v)=>t.setIfInBounds p v) a.tmps,defers:=[] } W)
  (tY:∀(l:Nat) (pre:List { x:β // x∈xs }) (x:{ x:β // x∈xs }) (g:Nat) (W:Ba),w.heap.size<=g->W.heap[g]?=J (Ag (C x.1) T (0,0))->Ac pre W->pre.length<xs.length->body.wpIn (Fence.wide.inRound l) 7 P (ownPostG w.heap.size (KeepB K) Ac Ix (pre++[x]) W) (a₁ x g) W)
  (tV:∀(D:Nat) (ys:List { x:β // x∈xs }) (W:Ba),w.heap.size<=D->ys.map (·.1)=xs->Ac ys W->W.heap[D]?=J (.deferred (J []))->Q .normal { a with defers:={ target:=.collected D,args:=#[] }::a.defers } W)
  (tG:∀(D:Nat) (c:Code) (pre:List { x:β // x∈xs }) (W:Ba),w.heap.size<=D->pre.map (·.1) <+: xs->Ix c pre W->W.heap[D]?=J (.deferred (J []))->c.wp P Q { a with defers:={ target:=.collected D,args:=#[] }::a.defers } W)
  (hbig:∀pre W,Ac pre W->w.heap.size<=W.heap.size) :
  (Code.rangeFunc g ps assign body).wp P Q a w:=
 (RU (n:=9)).1 (wpIn_rangeFunc_ownH (F:=Fence.wide) (n:=9) rfl (by omega) hg trivial eg (Fg 8 (by omega)) KeepB.trans
  (fun W l o o' hl _ _ _=>KeepB.putObj (fun hk=>by have:=hK l hk;omega) o') (Ll _ _) (fun x=>cI x.1) Ac Ix hI hIx h0
  (fun x a' W=>∃g,a'=a₁ x g/\w.heap.size<=g/\W.heap[g]?=J (Ag (C x.1) T (0,0)))
  (fun x a' _ W W' row ⟨g,e,ov,hc⟩ iH hr=>⟨g,e,ov,(LN iH (fun r e=>(hr r e).2) hc rfl).trans hc⟩)
  (fun l pre x W K' hi aa=>nN l pre x W K' hi fun g hge rK=>by
   refine aa _ _ ?_ ?_ rK ⟨g,rfl,by rw[hge];exact hbig _ _ hi,by rw[hge];exact zx _ _⟩
   . exact⟨by simp,fun k o _ hk ho=>(Nj W _ k (Ln.1 hk).1).trans hk⟩
   . exact KeepB.alloc _ _ _)
  (fun l pre x a' W _ _ hi ⟨g,e,ov,hc⟩ hl=>by subst e;exact tY l pre x g W ov hc hi hl) tV
  (fun D c pre W hD hS hc hk=>RU.2 (tG D c pre W hD hS hc hk)))
end
structure RsIn(B:Nat)(C:Array Au)(T:TypeId)(r:Int)(w W:Ba):Prop where
 below:Am B w W
 b0:W.heap[B]?=J (Ag C T (0,0))
 b1:W.heap[B+1]?=J (Ag #[O U r] 47 (0,0))
theorem RsIn.turn{B:Nat}{C:Array Au}{T:TypeId}{r:Int}{w W W':Ba}{row:Option Nat}(h:RsIn B C T r w W)(hg:W.grownBy W' row)(hr:∀r,row=J r->B<=r/\∃o:Obj,W.heap[r]?=J o/\o.isCells=Aw):RsIn B C T r w W':=
 ⟨h.below.grown hg (by have:=(Ln.1 h.b0).1;omega) (fun k hk=>(hr k hk).1),(LN hg (fun r e=>(hr r e).2) h.b0 rfl).trans h.b0,(LN hg (fun r e=>(hr r e).2) h.b1 rfl).trans h.b1⟩
theorem RsIn.on{B D:Nat}{C:Array Au}{T:TypeId}{r:Int}{w W W':Ba}(h:RsIn B C T r w W)(hb:Am D W W')(hD:B+2<=D):RsIn B C T r w W':=
 ⟨h.below.trans (hb.mono (by omega)),Lb hb (by omega) h.b0,Lb hb (by omega) h.b1⟩
theorem RsIn.set{B:Nat}{C:Array Au}{T:TypeId}{r:Int}{w W:Ba}(h:RsIn B C T r w W)(r':Int):RsIn B C T r' w (W.setCell ⟨B+1,0,Z⟩ (O U r')):=by
 obtain⟨x1,x2,x3⟩:=qv h.b1 (O U r');exact⟨h.below.setCell (by simp) _,(x3 B (by omega)).trans h.b0,x1⟩
theorem RsIn.keeps{B D:Nat}{C:Array Au}{T:TypeId}{r:Int}{w W:Ba}(h:RsIn B C T r w W)(r':Int):KeepsFrom D W (W.setCell ⟨B+1,0,Z⟩ (O U r')):=by
 obtain⟨x1,x2,x3⟩:=qv h.b1 (O U r');refine⟨by omega,fun k o _ hk ho=>?_⟩;have k1:k≠B+1:=by rintro rfl;rw[h.b1] at hk;cases hk;cases ho
 exact(x3 k k1).trans hk
theorem xY{D:Nat}{W W':Ba}(h:Am W.heap.size W W'):KeepsFrom D W W':=⟨h.size,fun k _ _ hk _=>(h.block k (Ln.1 hk).1).trans hk⟩
theorem RsIn.cell{B:Nat}{C:Array Au}{T:TypeId}{r:Int}{w W X:Ba}(h:RsIn B C T r w W)(hS:Shut B W X):X.cell? ⟨B+1,0,Z⟩=J (O U r):=hS.cell (zh h.b1 0 rfl)
end
section
open Go.RowKit Go.Shelf
attribute [local go_sem] Oper.semAt_some
theorem YN(a:Ad)(hf:FewA a)(SV:Bb)(ks:Nat)(w:Ba)(hS:SAt w w.heap.size SV a.sts) :
  An Al 130 #[Ai #[O U a.n,I SV a.sts.length ks]] w fun e w'=>e=Ak (O U (ql a))/\Am w.heap.size w w':=by
 have fq:=hf.1;have nf:=zH (fun (w':Ba) (h:SAt w' w'.heap.size SV a.sts)=>sized_any a hf SV ks w' h);have cW:=zH (fun (A:Bb) (k0:Nat) (l:List Mv) (hl:l.length<=40) (w':Ba) (h:MAt w' w'.heap.size A l)=>state_any a SV ks fq A k0 l hl w' h);have HI:=zH (fun (bx:Nat) (w':Ba) (hb:w'.heap[bx]?=J (Ag #[O U a.n,I SV a.sts.length ks] 27)) (h:SAt w' w.heap.size SV a.sts) (hB:w.heap.size<=w'.heap.size)=>jW a hf SV ks w.heap.size bx w' hb h hB);have ru:=zH (fun l hl=>hf.each (l:=l) hl);have ai:=zH (@ul a);have aj:=zH (@gj a);have ax:=zH (fun h h2=>@uk a h h2 hf);have cK:=zH (fun h h2=>@um a h h2 hf);obtain⟨E,hE⟩:=Kj (ql a);rw[hE] at ai aj ax cK ⊢;have HS:=zH hS;clear hS hE hf;refine yg func130 rfl ?_;simp only[ntmps130,List.size_toArray,List.length_cons,List.length_nil,Nat.reduceAdd,Nat.reduceSub,Array.replicate_succ,Array.replicate_zero,List.push_toArray,List.append_toArray,List.nil_append,List.cons_append]
 by_cases hr:a.n<1\/5<a.n
 . have hR:=zH (ai.out hr)
   have HN:=zH hr;clear ai aj ax cK hr nf cW HI ru;go_wp2_with fail
   all_goals first | (exfalso;have:=HN.out;omega) | skip
   all_goals
    refine xk (B:=w.heap.size) (Marks.nil _ _) ?_;intro W hX;have c1:=hX.cell (zh (zx (w.alloc (Ag #[O U a.n,I SV a.sts.length ks] 27)) (Ag #[O U 2] 47)) 0 rfl);rw[NX] at c1;refine⟨O U 2,?_,zm hR.out.symm,(uj _ _ _).trans hX.below⟩;clear hX hR HN;simp[results,results130,go_sem,c1]
 have r1:¬a.n<1:=by omega
 have r2:¬5<a.n:=by omega
 have aj:=zH (aj.out hr);have ax:=zH (ax.out hr);have cK:=zH (cK.out hr);clear hr ai;go_wp2_with fail
 all_goals first | (exfalso;omega) | skip
 obtain⟨w2,bh,b0,b1,aP,hB⟩:=yI w #[O U a.n,I SV a.sts.length ks] #[O U 0] 27 47;rw[bh];have H0:As (RsIn w.heap.size #[O U a.n,I SV a.sts.length ks] 27 0 w w2):=⟨hB,b0,b1⟩;have HSw:=zH ((HS.out.keep hB).more hB.size);clear bh b0 b1 hB;refine(nf.out w2 HSw.out).mono ?_;rintro e w3 ⟨rfl,hb⟩;have H1:=zH (H0.out.on hb aP);have cz:w.heap.size+2<=w3.heap.size:=by have:=hb.size;omega
 obtain⟨q0,q1,_⟩:=Ke H1.out.b0;have p0:=zh H1.out.b1 0 rfl;have f0:=zi H1.out.b1 0;clear hb HSw H0 nf
 by_cases hz:a.sts.length<1
 . have hR:=zH (aj.out hz)
   rw[Lj hz];clear aj ax cK cW HI ru;go_wp2_with fail;refine xk (B:=w.heap.size) (Marks.nil _ _) ?_;intro W hX;have hI:=H1.out.set 5;have c1:=hI.cell hX;refine⟨O U 5,?_,zm hR.out.symm,hI.below.trans hX.below⟩;clear hX hR hI;simp[results,results130,go_sem,c1]
 have ce:1<=a.sts.length:=by omega
 rw[Lg hz];have G3:=zH (ax.out ce);have G4:=zH (cK.out ce);clear aj hz ax cK;obtain⟨F,hF⟩:=Kj (zJ a a.sts);have HF:As (F=zJ a (a.sts.drop 0)):=by rw[Nl];exact hF.symm
 have GC:=zH (fun h=>@xL a (hF.trans h));rw[hF] at G3 G4;clear hF;have g1:=zH (fun k h=>@vL a a.sts k h);have g2:=zH (fun k h=>@uq a a.sts k h);have g3:=zH (fun k h=>@vK a a.sts k h);go_wp2_with fail
 all_goals first | (exfalso;omega) | skip
 clear q0 q1 p0 f0
 go_loopw [27] (fun i wr=>∃k:Nat,k<=a.sts.length/\i=O U (k:Int)/\As (F=zJ a (a.sts.drop k))/\As (RsIn w.heap.size #[O U a.n,I SV a.sts.length ks] 27 0 w wr)/\w.heap.size+2<=wr.heap.size) (fun i _=>a.sts.length-(Ar i).toNat)
 case atStart=>exact⟨0,by omega,rfl,HF,H1,cz⟩
 obtain⟨k,hk,rfl,an,BP,pj⟩:=hrel;clear HF;obtain⟨q0,q1,_⟩:=Ke BP.out.b0;have p0:=zh BP.out.b1 0 rfl;have f0:=zi BP.out.b1 0
 by_cases hlt:k<a.sts.length
 . have aR:=zH (g1.out k hlt)
   have aQ:=zH (g2.out k hlt);obtain⟨b,o,A',k',e',iX,c1,hM⟩:=(HS.out.keep BP.out.below).at_ k hlt;have fN:=ru.out _ (Lh hlt);have HC:=zH (cW.out A' k' (a.sts[k]'hlt) fN);have HMr:=zH (hM.more BP.out.below.size);obtain⟨L,hL⟩:=Kj (a.sts[k]);rw[hL] at c1 fN HC HMr aR aQ;obtain⟨ev,dD⟩:=Kj (qt a L);rw[dD] at HC aR aQ;subst e';clear hM hL dD g1 g2 g3 cW HI ru GC;go_wp2_with fail;refine(HC.out _ HMr.out).mono ?_;rintro e w4 ⟨rfl,hb⟩;have H4:=zH (BP.out.on hb pj);have iy:w.heap.size+2<=w4.heap.size:=by have:=hb.size;omega
   obtain⟨q0,q1,_⟩:=Ke H4.out.b0;have p0:=zh H4.out.b1 0 rfl;have f0:=zi H4.out.b1 0;clear hb HC
   by_cases he:ev=0
   . subst he
     have hR:=zH (an.out.trans (aQ.out (by simp)));clear aR aQ an;go_wp2_with fail
     go_roundw
     case rel=>exact⟨k+1,by omega,by go_num,hR,H4,iy⟩
     simp[Ar];omega
   have BT:=an.out.trans (aR.out he);have hR:=zH ((G3.out (by rw[BT];exact he)).trans BT);have e0:(ev != 0)=Av:=by simpa using he
   clear aR aQ an G3 G4 BT he;go_wp2_with fail;refine xk (B:=w.heap.size) (Marks.nil _ _) ?_;intro W hX;have hI:=H4.out.set ev;have c1:=hI.cell hX;refine⟨O U ev,?_,zm hR.out.symm,hI.below.trans hX.below⟩;clear hX hR hI;simp[results,results130,go_sem,c1]
 obtain rfl:k=a.sts.length:=by omega
 have Ge:F=0:=an.out.trans (g3.out _ rfl);have hR:=zH (G4.out Ge);have HZ:=zH (GC.out Ge);clear G3 G4 an g1 g2 g3 cW GC Ge;go_wp2_with fail;refine(wJ a.n (I SV a.sts.length ks) wr).mono ?_;rintro e W ⟨rfl,hW⟩;have bb:=zx wr (Ag #[O U a.n,I SV a.sts.length ks] 27);have bE:Am wr.heap.size wr W:=by rw[<-hW];exact zW _ _
 have av:wr.heap.size<W.heap.size:=by rw[<-hW];simp
 rw[hW] at bb;have HW:=zH (BP.out.on bE pj);have dG:=zH (HI.out wr.heap.size W bb (HS.out.keep HW.out.below) (by omega));clear hW bb bE HI q0 q1 p0 f0;go_wp2_with fail
 refine qp rfl (NA Sf (by kernel_rfl) rfl) dG.out (by rintro k (h | rfl)<;>omega) (fun _=>rfl)
  (fun (pre:List { x:Int×Mv // x∈zO 0 a.sts }) X=>RsIn w.heap.size #[O U a.n,I SV a.sts.length ks] 27 0 w X/\(∀x∈pre,((a.at_ x.1.2.to).all fun k=>kE x.1.2 k)=Av)/\W.heap.size<=X.heap.size)
  (fun c _ W=>c=.ret/\RsIn w.heap.size #[O U a.n,I SV a.sts.length ks] 27 21 w W/\xG a=Aw)
  (fun _ _ _ _ h hg hr=>⟨h.1.turn hg (fun r e=>⟨by have:=(hr r e).1;omega,(hr r e).2⟩),h.2.1,Lu h.2.2 hg.size⟩) (fun _ _ _ _ _ ⟨h1,h2,h3⟩ hg hr=>⟨h1,h2.turn hg (fun r e=>⟨by have:=(hr r e).1;omega,(hr r e).2⟩),h3⟩)
  ⟨HW.out,(fun x hx=>by cases hx),Ld _⟩ (fun x=>x.2.cells) 78 ?a1 ?assign ?body ?done ?stop (fun _ _ h=>h.2.2)
 case assign=>
  intro l pre x X K hI hK;obtain⟨g,hg⟩:∃g,g=X.heap.size:=⟨_,rfl⟩;have HK:=zH (hK g hg ⟨hI.1.on (zW X _) (zj hI.1.b1),hI.2.1,by have:=hI.2.2;simp;omega⟩);have HG:=zH hg;unfold Mv.cells at HK ⊢;dsimp only at HK ⊢;clear hK hg hI;gi_wp2;rw[<-HG.out];exact HK.out
 case body=>
  intro l pre x g W1 hg dK hI hlt;obtain⟨iM,pY,nR⟩:=hI;obtain⟨z1,z2,z3,z4⟩:=HZ.out x.1.2 (Qh x.2);obtain⟨m,hm⟩:=Kj x.1.2;have HM:=zH hm;rw[hm] at z1 z2 z3 z4 dK;obtain⟨f1,OP,U4⟩:=qR z1;obtain⟨t,et⟩:=Lp z3;have lA:t<a.sts.length:=by omega
  have aI:a.at_ m.to=a.sts[t]:=by unfold Ad.at_;rw[et,Lm,Lf,Li lA];rfl
  obtain⟨b,o,A',k',e',iX,c1,Gd⟩:=(HS.out.keep iM.below).at_ t lA;have fN:=ru.out _ (Lh lA);have HLZ:As (∀y∈a.sts[t],yu y.r=0):=fun y hy=>(HZ.out y (NG.2 ⟨_,Lh lA,hy⟩)).1
  obtain⟨L,hL⟩:=Kj (a.sts[t]);rw[hL] at c1 Gd fN HLZ aI;have dl:=zH aI;have EH:=zH iM;have SG:=zH pY;have HGB:=zH dK;have Di:=zH (Gd.more iM.below.size);obtain⟨q0,q1,_⟩:=Ke iM.b0;have u7:=zh dK 7 (u:=O U m.to) rfl;have u6:=zh dK 6 (u:=O U m.r.f) rfl;rw[et] at u7;have dC:=zj dK;have aV:=zj iM.b1;have ai:=zH OP;subst e';clear hm z1 z2 z3 z4 et OP aI hL Gd iM pY dK hlt;gi_wp2_with fail
  gi_loopw [49] (fun i wr=>∃j:Nat,j<=L.length/\i=O U (j:Int)/\As (∀k (h:k<L.length),k<j->kE m L[k]=Av)/\As (Am W1.heap.size W1 wr)) (fun i _=>L.length-(Ar i).toNat)
  case atStart=>exact⟨0,by omega,rfl,(fun k h h0=>by omega),Ll _ _⟩
  obtain⟨j,hj,rfl,MG,aY⟩:=hrel;clear q0 q1 u6 u7 c1
  by_cases cc:j<L.length
  . obtain⟨b2,o2,rfl,ae,m0,m1,m2,m3,m4,m5,m6,m7⟩:=(Di.out.keep aY.out).row j cc
    obtain⟨f2,Da,U3⟩:=qR (HLZ.out _ (Lh cc));have dB:kE m L[j]=decide (f1 &&& f2=f1):=by unfold kE;rw[ai.out,Da,Lm,Lm];rw[NL];simp
    have cS:L[j]∈L:=Lh cc;obtain⟨y,hy⟩:=Kj (L[j]);have HYe:=zH hy;rw[hy] at m0 m1 m2 m3 m4 m5 m6 m7 dB Da cS;have HEF:=zH Da;have pQ:=(aY.out.block g dC).trans HGB.out;have u6:=zh pQ 6 (u:=O U m.r.f) rfl;have iY:=EH.out.on aY.out (by omega);have p0:=zh iY.b1 0 rfl;have f0:=zi iY.b1 0;have CM:=zj pQ;have aO:=zj iY.b1;have HRw:=zH iY;have sG:=zH dB;rw[Da] at m6;rw[ai.out] at u6;have TZ:=zH (@JV f2 f1 U3 U4);clear hy Da pQ iY dB cS
    by_cases hk:f1 &&& f2=f1
    . have hz:=TZ.out.2 hk
      have DV:As (kE m y=Av):=sG.out.trans (Lw hk);clear TZ sG hk;gi_wp2_with fail
      go_roundw
      case rel=>
       refine⟨j+1,by omega,by go_num,fun k h h1=>?_,?_⟩
       . by_cases e:k=j
         . subst e;rw[HYe.out];exact DV.out
         exact MG.out k h (by omega)
       exact aY.out.alloc aY.out.size _
      simp[Ar];omega
    have hz:¬(bits BinOp.andNot U (f1:Int) (f2:Int)=0):=fun h=>hk (TZ.out.1 h)
    have e0:(bits BinOp.andNot U (f1:Int) (f2:Int) != 0)=Av:=by simpa using hz
    have WE:As (xG a=Aw):=by
     unfold xG As;rw[List.all_eq_false];refine⟨m,by rw[<-HM.out];exact Qh x.2,?_⟩;rw[dl.out];intro aZ;have h1:=Nf.1 aZ y (by rw[<-HYe.out];exact Lh cc);rw[sG.out,Lv hk] at h1
     cases h1
    clear TZ sG hk hz;gi_wp2_with fail;have cH:=HRw.out.set 21;refine⟨((xY aY.out).trans (HRw.out.keeps 21)).trans (xY (zW _ _)),rfl,cH.on (zW _ _) (zj cH.b1),WE.out⟩
  obtain rfl:j=L.length:=by omega
  gi_wp2_with fail;refine⟨xY aY.out,KeepB.of_below aY.out (by rintro k (h | rfl)<;>omega),EH.out.on aY.out (by omega),?_,Lu nR aY.out.size⟩;intro y hy;rcases LX.1 hy with hy | hy
  . exact SG.out y hy
  simp only[List.mem_singleton] at hy;subst hy;rw[HM.out,dl.out,Nf];intro z hz;obtain⟨k,hk,rfl⟩:=NM.1 hz;exact MG.out k hk hk
 case done=>
  intro D ys W1 hD eJ hI eq
  have iH:xG a=Av:=by
   unfold xG;rw[Nf];intro m hm;have fL:m∈(zO 0 a.sts).map Prod.snd:=by rw[kL];exact hm
   obtain⟨x,hx,rfl⟩:=LS.1 fL;rw[<-eJ] at hx;obtain⟨y,hy,rfl⟩:=LS.1 hx;exact hI.2.1 y hy
  have hE:=zH (hR.out.trans (Lj iH));have HI:=zH hI.1;have p0:=zh HI.out.b1 0 rfl;have f0:=zi HI.out.b1 0;have HD:=zH eq;clear hI eJ iH eq hR dG HW;go_wp2_with fail;refine xk (B:=w.heap.size) (kC (by omega) ((HI.out.keeps (D:=D) 0).same D _ (Ld _) HD.out rfl)) ?_;intro X hX;have hI:=HI.out.set 0;have c1:=hI.cell hX;refine⟨O U 0,?_,zm hE.out.symm,hI.below.trans hX.below⟩;simp[results,results130,go_sem,c1]
 intro D c pre W1 hD pK hI eq;obtain⟨rfl,hI,iH⟩:=hI;have hE:=zH (hR.out.trans (Lg (by rw[iH];decide)));have HI:=zH hI;have HD:=zH eq;clear hI iH eq hR dG HW pK;go_wp2_with fail;refine xk (B:=w.heap.size) (kC (by omega) HD.out) ?_;intro X hX;have c1:=HI.out.cell hX;refine⟨O U 21,?_,zm hE.out.symm,HI.out.below.trans hX.below⟩;clear hX hE;simp[results,results130,go_sem,c1]
end
section
open Go.RowKit
attribute [local go_sem] Oper.semAt_some
def Pb.vs(p:Pb)(A:Bb)(kc:Nat)(SV:Bb)(ks:Nat):Array Au:=#[O U p.t.n,O U p.t.ins,O U p.t.outs,I A p.t.cases.length kc,O U p.a.n,I SV p.a.sts.length ks,O U p.k]
theorem vZ{p:Pb}(h:xp p.t≠0):zZ p=xp p.t:=Lj h
theorem wu{p:Pb}(h:xp p.t=0)(h2:ql p.a≠0):zZ p=ql p.a:=by unfold zZ;rw[Lg (by simpa using h),Lj h2]
theorem X5{p:Pb}(h:xp p.t=0)(h2:ql p.a=0)(h3:p.t.n≠p.a.n):zZ p=22:=by unfold zZ;rw[Lg (by simpa using h),Lg (by simpa using h2),Lj h3]
theorem X6{p:Pb}(h:xp p.t=0)(h2:ql p.a=0)(h3:p.t.n=p.a.n)(h4:p.k<0\/6<p.k):zZ p=2:=by unfold zZ;rw[Lg (by simpa using h),Lg (by simpa using h2),Lg (by simpa using h3),Lj h4]
theorem Q3{p:Pb}(h:xp p.t=0)(h2:ql p.a=0)(h3:p.t.n=p.a.n)(h4:¬(p.k<0\/6<p.k)):zZ p=0:=by unfold zZ;rw[Lg (by simpa using h),Lg (by simpa using h2),Lg (by simpa using h3),Lg h4]
def Qz(p:Pb):Prop:=FewT p.t/\FewA p.a
theorem pcheck_any(p:Pb)(hf:Qz p)(A:Bb)(kc:Nat)(SV:Bb)(ks:Nat)(w:Ba)(hA:CAt w w.heap.size A p.t.cases)(hS:SAt w w.heap.size SV p.a.sts) :
  An Al 83 #[.agg (p.vs A kc SV ks)] w fun e w'=>e=Ak (O U (zZ p))/\Am w.heap.size w w':=by
 have HT:=zH (fun (w':Ba) (h:CAt w' w'.heap.size A p.t.cases)=>tcheck_any p.t A kc hf.1 w' h);have HD:=zH (fun (w':Ba) (h:SAt w' w'.heap.size SV p.a.sts)=>YN p.a hf.2 SV ks w' h);have ai:=zH (@vZ p);have aj:=zH (@wu p);have ax:=zH (@X5 p);have cK:=zH (@X6 p);have fA:=zH (@Q3 p);obtain⟨E,hE⟩:=Kj (zZ p);rw[hE] at ai aj ax cK fA ⊢;obtain⟨tE,Vq⟩:=Kj (xp p.t);rw[Vq] at ai aj ax cK fA HT;obtain⟨aE,haE⟩:=Kj (ql p.a);rw[haE] at aj ax cK fA HD;unfold Pb.vs;obtain⟨w1,ab⟩:=Kj (w.alloc (Ag (p.vs A kc SV ks) 29));have bj:=zx w (Ag (p.vs A kc SV ks) 29);have aw:Am w.heap.size w w1:=by rw[<-ab];exact zW w _
 have eh:w1.heap.size=w.heap.size+1:=by rw[<-ab];simp
 rw[ab] at bj;unfold Pb.vs at ab bj;have cj:=zH bj;have bW:=zH aw;have HA:=zH ((hA.keep aw).more (by omega:w.heap.size<=w1.heap.size));have HS:=zH ((hS.keep aw).more (by omega:w.heap.size<=w1.heap.size));have ag:=zH ab;have q0:=zh bj 0 rfl;clear hA hS ab aw bj;go_enter func83,ntmps83;go_wp2_with fail;rw[ag.out];go_wp2_with fail;refine(HT.out w1 HA.out).mono ?_;rintro e w2 ⟨rfl,ae⟩;have B2:=zH (bW.out.trans (ae.mono (by omega)));have fX:=zH ((HS.out.keep ae).more ae.size);have bQ:=La ae cj.out;have au:=zH bQ;have cM:=ae.size;have q4:=zh bQ 4 rfl;have q5:=zh bQ 5 rfl
 by_cases h1:tE=0
 case neg=>
  have hR:=zH (ai.out h1);go_wp2_with fail;go_ret;exact⟨zm hR.out.symm,B2.out⟩
 case pos=>
 subst h1;have F2:=zH (aj.out (by simp));have F3:=zH (ax.out (by simp));have F4:=zH (cK.out (by simp));have F5:=zH (fA.out (by simp));go_wp2_with fail;refine(HD.out w2 fX.out).mono ?_;rintro e w3 ⟨rfl,ak⟩;have B3:=zH (B2.out.trans (ak.mono (by omega)));have bQ:=La ak au.out;have q0:=zh bQ 0 rfl;have q4:=zh bQ 4 rfl;have q6:=zh bQ 6 rfl;clear ak bQ HD q5
 by_cases h2:aE=0
 case neg=>
  have hR:=zH (F2.out h2);have e0:(aE != 0)=Av:=by simpa using h2
  clear F2 F3 F4 F5 h2;go_wp2_with fail;go_ret;exact⟨zm hR.out.symm,B3.out⟩
 case pos=>
 subst h2;clear F2;have G3:=zH (F3.out (by simp));have G4:=zH (F4.out (by simp));have G5:=zH (F5.out (by simp));clear F3 F4 F5
 by_cases h3:p.t.n=p.a.n
 case neg=>
  have hR:=zH (G3.out h3);have e0:(p.t.n != p.a.n)=Av:=by simpa using h3
  clear G3 G4 G5;go_wp2_with fail
  all_goals
   go_ret;exact⟨zm hR.out.symm,B3.out⟩
 case pos=>
 have K4:=zH (G4.out h3);have K5:=zH (G5.out h3);rw[h3] at q0
 by_cases h4:p.k<0\/6<p.k
 . have hR:=zH (K4.out h4)
   by_cases h5:p.k<0
   . clear h4
     go_wp2_with fail
     all_goals first | (exfalso;omega) | skip
     go_ret;exact⟨zm hR.out.symm,B3.out⟩
   have h6:6<p.k:=by omega
   go_wp2_with fail
   all_goals first | (exfalso;omega) | skip
   go_ret;exact⟨zm hR.out.symm,B3.out⟩
 have hR:=zH (K5.out h4);have h5:¬p.k<0:=by omega
 have h6:¬6<p.k:=by omega
 go_wp2_with fail
 all_goals first | (exfalso;omega) | skip
 go_ret;exact⟨zm hR.out.symm,B3.out⟩
theorem gL(p:Pb)(hf:Qz p)(A:Bb)(kc:Nat)(SV:Bb)(ks:Nat)(w:Ba)(hA:CAt w w.heap.size A p.t.cases)(hS:SAt w w.heap.size SV p.a.sts) :
  An Al 96 #[.agg (p.vs A kc SV ks)] w fun e w'=>e=Ak (O U (zZ p))/\Am w.heap.size w w':=by
 have HT:=zH (fun (w':Ba) (h:CAt w' w'.heap.size A p.t.cases)=>QQ p.t A kc hf.1 w' h);have HD:=zH (fun (w':Ba) (h:SAt w' w'.heap.size SV p.a.sts)=>QY p.a hf.2 SV ks w' h);have ai:=zH (@vZ p);have aj:=zH (@wu p);have ax:=zH (@X5 p);have cK:=zH (@X6 p);have fA:=zH (@Q3 p);obtain⟨E,hE⟩:=Kj (zZ p);rw[hE] at ai aj ax cK fA ⊢;obtain⟨tE,Vq⟩:=Kj (xp p.t);rw[Vq] at ai aj ax cK fA HT;obtain⟨aE,haE⟩:=Kj (ql p.a);rw[haE] at aj ax cK fA HD;unfold Pb.vs;obtain⟨w1,ab⟩:=Kj (w.alloc (Ag (p.vs A kc SV ks) 29));have bj:=zx w (Ag (p.vs A kc SV ks) 29);have aw:Am w.heap.size w w1:=by rw[<-ab];exact zW w _
 have eh:w1.heap.size=w.heap.size+1:=by rw[<-ab];simp
 rw[ab] at bj;unfold Pb.vs at ab bj;have cj:=zH bj;have bW:=zH aw;have HA:=zH ((hA.keep aw).more (by omega:w.heap.size<=w1.heap.size));have HS:=zH ((hS.keep aw).more (by omega:w.heap.size<=w1.heap.size));have ag:=zH ab;have q0:=zh bj 0 rfl;clear hA hS ab aw bj;go_enter func96,ntmps96;go_wp2_with fail;rw[ag.out];go_wp2_with fail;refine(HT.out w1 HA.out).mono ?_;rintro e w2 ⟨rfl,ae⟩;have B2:=zH (bW.out.trans (ae.mono (by omega)));have fX:=zH ((HS.out.keep ae).more ae.size);have bQ:=La ae cj.out;have au:=zH bQ;have cM:=ae.size;have q4:=zh bQ 4 rfl;have q5:=zh bQ 5 rfl
 by_cases h1:tE=0
 case neg=>
  have hR:=zH (ai.out h1);go_wp2_with fail;go_ret;exact⟨zm hR.out.symm,B2.out⟩
 case pos=>
 subst h1;have F2:=zH (aj.out (by simp));have F3:=zH (ax.out (by simp));have F4:=zH (cK.out (by simp));have F5:=zH (fA.out (by simp));go_wp2_with fail;refine(HD.out w2 fX.out).mono ?_;rintro e w3 ⟨rfl,ak⟩;have B3:=zH (B2.out.trans (ak.mono (by omega)));have bQ:=La ak au.out;have q0:=zh bQ 0 rfl;have q4:=zh bQ 4 rfl;have q6:=zh bQ 6 rfl;clear ak bQ HD q5
 by_cases h2:aE=0
 case neg=>
  have hR:=zH (F2.out h2);have e0:(aE != 0)=Av:=by simpa using h2
  clear F2 F3 F4 F5 h2;go_wp2_with fail;go_ret;exact⟨zm hR.out.symm,B3.out⟩
 case pos=>
 subst h2;clear F2;have G3:=zH (F3.out (by simp));have G4:=zH (F4.out (by simp));have G5:=zH (F5.out (by simp));clear F3 F4 F5
 by_cases h3:p.t.n=p.a.n
 case neg=>
  have hR:=zH (G3.out h3);have e0:(p.t.n != p.a.n)=Av:=by simpa using h3
  clear G3 G4 G5;go_wp2_with fail
  all_goals
   go_ret;exact⟨zm hR.out.symm,B3.out⟩
 case pos=>
 have K4:=zH (G4.out h3);have K5:=zH (G5.out h3);rw[h3] at q0
 by_cases h4:p.k<0\/6<p.k
 . have hR:=zH (K4.out h4)
   by_cases h5:p.k<0
   . clear h4
     go_wp2_with fail
     all_goals first | (exfalso;omega) | skip
     go_ret;exact⟨zm hR.out.symm,B3.out⟩
   have h6:6<p.k:=by omega
   go_wp2_with fail
   all_goals first | (exfalso;omega) | skip
   go_ret;exact⟨zm hR.out.symm,B3.out⟩
 have hR:=zH (K5.out h4);have h5:¬p.k<0:=by omega
 have h6:¬6<p.k:=by omega
 go_wp2_with fail
 all_goals first | (exfalso;omega) | skip
 go_ret;exact⟨zm hR.out.symm,B3.out⟩
def Y0(p:Pb):Prop:=LowT p.t/\LowA p.a
def LowX(x:Exn):Prop:=x.word.length<=17592186044416/\x.views.length<=17592186044416/\∀v∈x.views,v.length<=17592186044416
theorem exn_eq{x y:Exn}(h1:x.c=y.c)(h2:x.word=y.word)(h3:x.views=y.views):x=y:=by cases x;cases y;simp_all
end
section
open Go.RowKit
def kJ(vs:List Vw)(v:Vw):Int:=if v∈vs then (vs.idxOf v:Int) else -1
theorem Jv{vs:List Vw}{v:Vw}{k:Nat}(hk:k<vs.length)(hv:vs[k]=v)(hn:v∉vs.take k):kJ vs v=k:=by
 have hm:v∈vs:=hv▸Lh hk;unfold kJ;rw[Lj hm];have h1:vs=vs.take k++vs.drop k:=(PR k vs).symm;rw[h1,NI,Lg hn];have h2:vs.drop k=v::vs.drop (k+1):=by rw[<-hv];exact Lz hk
 rw[h2,List.idxOf_cons_self];simp;omega
theorem idxE_none{vs:List Vw}{v:Vw}(hn:v∉vs):kJ vs v=-1:=by unfold kJ;rw[Lg hn]
theorem Ju{vs:List Vw}{v:Vw}(hv:v∈vs):0<=kJ vs v:=by unfold kJ;rw[Lj hv];omega
theorem Qd{vs:List Vw}{v:Vw}{k:Nat}(hk:k<vs.length)(hv:vs[k]≠v)(hn:v∉vs.take k):v∉vs.take (k+1):=by
 rw[Ls hk,LX,not_or];exact⟨hn,by simpa using fun e=>hv e.symm⟩
theorem index_any(n:Int)(A:Bb)(cap:Nat)(vs:List Vw)(v:Vw)(w:Ba)(B:Nat)(hB:B<=w.heap.size)(hA:VAt w B A vs)(hl:vs.length<=2199023255552) :
  An Al 160 #[Ai #[O U n,I A vs.length cap],.agg v.cells] w fun e w'=>e=Ak (O U (kJ vs v))/\Am w.heap.size w w':=by
 have HB:=uj w;have HE:As (∀k (hk:k<vs.length) (X:Ba),(binOp .eql 133 (.agg vs[k].cells) (.agg v.cells)).run Al X=.ok (Ah (decide (vs[k]=v))) X):=fun k hk X=>eql_view vs[k] v X
 unfold Vw.cells at HE ⊢;go_enter func160,ntmps160;go_wp2
 go_loopw [5] (fun i wr=>∃k m:Nat,k<=vs.length/\i=O U k/\wr=((w.alloc (Ag #[O U n,I A vs.length cap] 36)).alloc (Ag #[O U v.p,O U v.r,O U v.i,O U v.h0,O U v.h1,O U v.h2,O U v.h3,O U v.h4] 133)).drewN m/\As (v∉vs.take k)) (fun i _=>vs.length-(Ar i).toNat)
 case atStart=>exact⟨0,0,by omega,rfl,rfl,by show v∉vs.take 0;simp⟩
 obtain⟨k,m,hk,rfl,rfl,aZ⟩:=hrel
 by_cases hlt:k<vs.length
 . obtain⟨b,off,rfl,aF,c0,c1,c2,c3,c4,c5,c6,c7⟩:=hA.row k hlt
   have ae:b<w.heap.size:=by omega
   have nG:=HE.out k hlt
   by_cases hv:vs[k]=v
   . have tU:∀X:Ba,_:=fun X=>(nG X).trans (by rw[Lw hv])
     have hz:As (kJ vs v=k):=Jv hlt hv aZ.out;clear nG hv;go_wp2;go_quiet (fail);go_wp2;go_ret;exact⟨zm hz.out.symm,by repeat (first | exact HB _ _ | refine yy ?_ _)⟩
   have tU:∀X:Ba,_:=fun X=>(nG X).trans (by rw[Lv hv])
   have hz:As (v∉vs.take (k+1)):=Qd hlt hv aZ.out;go_wp2;go_quiet (fail);go_wp2
   go_roundw
   case rel=>exact⟨k+1,_,by omega,by go_num,rfl,hz⟩
   simp[Ar];omega
 have hz:As (kJ vs v=-1):=idxE_none (by have:=aZ.out;rwa[NQ (by omega)] at this);go_wp2;go_ret;exact⟨zm hz.out.symm,by repeat (first | exact HB _ _ | refine yy ?_ _)⟩
theorem kA{α:Type}{vs us:List α}{k:Nat}(hk:k<vs.length)(en:k<us.length)(h:vs[k]≠us[k]):vs≠us:=by
 rintro rfl;exact h rfl
theorem kF{α:Type}{vs us:List α}(hl:vs.length=us.length)(h:vs.take vs.length=us.take vs.length):vs=us:=by
 rw[LK] at h;rw[h,hl,LK]
theorem wi{α:Type}{vs us:List α}{k:Nat}(hk:k<vs.length)(en:k<us.length)(h:vs.take k=us.take k)(he:vs[k]=us[k]):vs.take (k+1)=us.take (k+1):=by
 rw[Ls hk,Ls en,h,he]
end
section
open Go.RowKit
attribute [local go_sem] Oper.semAt_some
def Sy.vs_(s:Sy)(A:Bb)(kc:Nat)(SV:Bb)(ks:Nat)(AV:Bb)(kv:Nat)(AX:Bb)(kx:Nat):Array Au:=
 #[O U s.p.t.n,O U s.p.t.ins,O U s.p.t.outs,I A s.p.t.cases.length kc,O U s.p.a.n,I SV s.p.a.sts.length ks,O U s.p.k,O U s.n,I AV s.vs.length kv,I AX s.xs.length kx]
structure LowS(s:Sy):Prop where
 fp:Y0 s.p
 fv:s.vs.length<=2199023255552
 fx:s.xs.length<=2199023255552
 fe:∀x∈s.xs,LowX x
structure SyAt(w:Ba)(B:Nat)(A SV AV AX:Bb)(s:Sy):Prop where
 fc:CAt w B A s.p.t.cases
 fs:SAt w B SV s.p.a.sts
 fv:VAt w B AV s.vs
 fx:XAt w B AX s.xs
theorem SyAt.keep{w w':Ba}{B:Nat}{A SV AV AX:Bb}{s:Sy}(h:SyAt w B A SV AV AX s)(hb:Am B w w'):SyAt w' B A SV AV AX s:=⟨h.fc.keep hb,h.fs.keep hb,h.fv.keep hb,h.fx.keep hb⟩
theorem SyAt.more{w:Ba}{B B':Nat}{A SV AV AX:Bb}{s:Sy}(h:SyAt w B A SV AV AX s)(hB:B<=B'):SyAt w B' A SV AV AX s:=⟨h.fc.more hB,h.fs.more hB,h.fv.more hB,h.fx.more hB⟩
theorem SyAt.up{w w':Ba}{A SV AV AX:Bb}{s:Sy}(h:SyAt w w.heap.size A SV AV AX s)(hb:Am w.heap.size w w'):SyAt w' w'.heap.size A SV AV AX s:=(h.keep hb).more hb.size
theorem sy_eq{a b:Sy}(h1:a.p=b.p)(h2:a.n=b.n/\a.vs=b.vs)(h3:a.xs=b.xs):a=b:=by cases a;cases b;simp_all
end
section
open Go.ChangeShapes Go.WideShapes Go.ChangeAt Go.RowKit Go.Deep
section
variable {H:Type} {enc:TypeId×Au->H} {P:Program} {W:Ba} {base:Nat} {spare:Nat->Bool} {aN:Bool}
def qm(P:Program)(t:TypeId)(d:DataW H):Prop:=(d.weights P t).all (·<=reachBytes)=Av
theorem qa{fs:Array Field}{t:TypeId}{DA:List (DataW H)}(ht:P.underlying t=J (.struct fs))(h:qm P t (.agg DA)){j:Nat}{f:Field}{d:DataW H}(hf:fs[j]?=J f)(hd:DA[j]?=J d):qm P f.type d:=by
 unfold qm at h ⊢;refine Nf.2 fun n hn=>Nf.1 h n ?_
 simp only[DataW.weights,ht];exact DataW.weights_mem_each (j:=j) (by simp[hf]) hd n hn
theorem jE{e:TypeId}:∀ {ds:List (DataW H)} {d:DataW H},d∈ds->∀n∈d.weights P e,n∈DataW.weightsAll P e ds
 | d0::ds,d,hd,n,hn=>by
  simp only[DataW.weightsAll,List.mem_append];rcases L9.1 hd with rfl | hd
  . exact Or.inl hn
  . exact Or.inr (jE hd n hn)
theorem Yz{t e:TypeId}{el sp:List (DataW H)}(ht:P.underlying t=J (.slice e))(h:qm P t (.slice el sp)):el.length*P.bytesOf e<=reachBytes/\∀d∈el,qm P e d:=by
 unfold qm at h;have h1:=Nf.1 h;simp only[DataW.weights,ht] at h1;constructor
 . have h2:=h1 _ (Sa ..)
   have h3:(el.length+sp.length)*P.bytesOf e<=reachBytes:=by simpa using h2
   exact Lu (RQ _ (Nat.le_add_right _ _)) h3
 intro d hd;exact Nf.2 fun n hn=>h1 n (PF _ (PG _ (jE hd n hn)))
theorem jg{α:Type}[Inhabited α]{t e:TypeId}{fuel:Nat}{cs:List Au}{x:DataW H×List MemPlace}{s:Nat}(L:List Au->α->Prop)(ht:P.underlying t=J (.slice e))(hs:P.cellsOf e=s)(h1:0<s)
  (rd:∀(m:Nat) (cs:List Au) (y:DataW H×List MemPlace),DataW.trod enc P W base spare aN m e cs=J y->qm P e y.1->∃a,L cs a)
  (h:DataW.trod enc P W base spare aN fuel t cs=J x) (hw:qm P t x.1) :
  ∃(A:Bb) (iw:List α) (cap:Nat),cs=[I A iw.length cap]/\iw.length<=cap/\cap<=maxLen/\iw.length*P.bytesOf e<=reachBytes /\
   (0<iw.length->∃b off,A=J ⟨b,off,Z⟩/\b<W.heap.size/\∀(i:Nat) (hi:i<iw.length),∃cs,L cs iw[i]/\∀(k:Nat) (y:Au),cs[k]?=J y->W.cell? ⟨b,off+i*s+k,Z⟩=J y):=by
 rcases open_slice ht h with ⟨rfl,_⟩ | ⟨a,len,cap,m,n',D,Pl,rfl,_,hlc,iJ,hm,sa,hi⟩
 . exact⟨Z,[],0,rfl,Ld _,Ni _,by simp,fun h=>absurd h (by simp)⟩
 have V8:len<=m:=by rw[hm];split<;>omega
 rw[sa] at hw;obtain⟨hb,aZ⟩:=Yz ht hw
 have oS:∀i,i<len->∃(a':α) (cs:List Au),cs.length=s/\L cs a'/\∀(k:Nat) (y:Au),cs[k]?=J y->W.cell? (a.add (i*s+k))=J y:=fun i hlt=>by
  obtain⟨rf,hc,Vr⟩:=hi i (by omega);rw[hs] at hc;obtain⟨_,aA,aI⟩:=World.cells?_some hc;obtain⟨u,hu⟩:=rd _ _ _ Vr (aZ _ (LS.2 ⟨i,PO.2 hlt,rfl⟩));refine⟨u,rf,aA,hu,fun k y hk=>?_⟩;have en:k<s:=by rw[<-aA];exact(Lq.1 hk).1
  rw[<-Go.Deep.add_add,aI k en,hk]
 obtain⟨iw,CX,has⟩:∃iw:List α,iw.length=len/\∀i (hi:i<iw.length),∃cs:List Au,cs.length=s/\L cs iw[i]/\∀(k:Nat) (y:Au),cs[k]?=J y->W.cell? (a.add (i*s+k))=J y:=by
  refine⟨(List.range len).map fun i=>if h:i<len then Classical.choose (oS i h) else default,by simp,fun i hi=>?_⟩;have iV:i<len:=by simpa using hi
  simp only[List.getElem_map,List.getElem_range,iV,dite_true];exact Pi (oS i iV)
 subst CX;have cN:iw.length*P.bytesOf e<=reachBytes:=by simpa using hb
 refine⟨J a,iw,cap,rfl,hlc,iJ,cN,fun h0=>?_⟩;obtain⟨c0,oQ,_,FS⟩:=has 0 h0;have Eo:=FS 0 _ (Li (by omega));obtain⟨b,off,ET⟩:=a;have tH:ET=Z:=by simpa[Addr.add] using World.cell?_spot Eo
 subst tH;refine⟨b,off,rfl,?_,fun i hi=>?_⟩
 . have:=N4 W _ Eo
   simpa[Addr.add] using this
 obtain⟨c1,_,hL,hc1⟩:=has i hi;refine⟨c1,hL,fun k y hk=>?_⟩;have:=hc1 k y hk;rw[add_plain] at this;rw[<-PJ] at this;exact this
end
section
variable {H:Type} {enc:TypeId×Au->H} {W:Ba} {base:Nat} {spare:Nat->Bool} {aN:Bool}
theorem cellsIs:Al.cellsOf 50=1:=by kernel_rfl
theorem JN:Al.cellsOf 69=1:=by kernel_rfl
theorem cellsCs:Al.cellsOf 71=3:=by kernel_rfl
theorem cellsCss:Al.cellsOf 22=1:=by kernel_rfl
theorem cellsTk:Al.cellsOf 24=4:=by kernel_rfl
theorem cellsGr:Al.cellsOf 74=6:=by kernel_rfl
theorem cellsRd:Al.cellsOf 76=7:=by kernel_rfl
theorem cellsMv:Al.cellsOf 78=8:=by kernel_rfl
theorem cellsMl:Al.cellsOf 79=1:=by kernel_rfl
theorem cellsMls:Al.cellsOf 25=1:=by kernel_rfl
theorem cellsAd:Al.cellsOf 27=2:=by kernel_rfl
theorem cellsPb:Al.cellsOf 29=7:=by kernel_rfl
theorem bytesI8:Al.bytesOf 3=8:=by kernel_rfl
theorem bytesIs:Al.bytesOf 50=24:=by kernel_rfl
theorem bytesCs:Al.bytesOf 71=72:=by kernel_rfl
theorem bytesMv:Al.bytesOf 78=64:=by kernel_rfl
theorem bytesMl:Al.bytesOf 79=24:=by kernel_rfl
/-- A slice of integers. -/
theorem rd_ints{m:Nat}{cs:List Au}{y:DataW H×List MemPlace}(h:DataW.trod enc Al W base spare aN m 50 cs=J y)(hw:qm Al 50 y.1) :
  ∃(A:Bb) (xs:List Int) (c:Nat),cs=[I A xs.length c]/\xs.length<=17592186044416/\IAt W W.heap.size A xs:=by
 obtain⟨A,xs,c,e,_,_,hb,hA⟩:=jg (α:=Int) (fun cs i=>cs=[O U i]) Nn xe (by decide) (fun m cs y h _=>by obtain⟨i,e,_⟩:=Nc LE h;exact⟨i,e⟩) h hw;refine⟨A,xs,c,e,?_,fun h0=>?_⟩
 . rw[bytesI8] at hb;unfold reachBytes at hb;omega
 obtain⟨b,off,e,hlt,hc⟩:=hA h0;refine⟨b,off,e,hlt,fun i hi=>?_⟩;obtain⟨cs,rfl,h2⟩:=hc i hi;simpa using h2 0 _ rfl
/-- A slice of slices of integers. -/
theorem QX{m:Nat}{cs:List Au}{y:DataW H×List MemPlace}(h:DataW.trod enc Al W base spare aN m 69 cs=J y)(hw:qm Al 69 y.1) :
  ∃(A:Bb) (xs:List (List Int)) (c:Nat),cs=[I A xs.length c]/\xs.length<=17592186044416/\(∀v∈xs,v.length<=17592186044416)/\LAt W W.heap.size A xs:=by
 obtain⟨A,xs,c,e,_,_,hb,hA⟩:=jg (α:=List Int) (fun cs v=>∃A c,cs=[I A v.length c]/\v.length<=17592186044416/\IAt W W.heap.size A v) underlying69 cellsIs (by decide)
  (fun m cs y h hw=>by obtain⟨A,xs,c,e,h1,h2⟩:=rd_ints h hw;exact⟨xs,A,c,e,h1,h2⟩) h hw
 refine⟨A,xs,c,e,?_,?_,fun h0=>?_⟩
 . rw[bytesIs] at hb;unfold reachBytes at hb;omega
 . intro v hv
   obtain⟨i,hi,rfl⟩:=LT hv;obtain⟨b,off,_,_,hc⟩:=hA (by omega);obtain⟨cs,⟨A,c,_,h1,_⟩,_⟩:=hc i hi;exact h1
 obtain⟨b,off,e,hlt,hc⟩:=hA h0;refine⟨b,off,e,hlt,fun i hi=>?_⟩;obtain⟨cs,⟨A,c,rfl,_,h3⟩,h2⟩:=hc i hi;exact⟨A,c,by simpa using h2 0 _ rfl,h3⟩
/-- A case. -/
theorem rd_case{m:Nat}{cs:List Au}{y:DataW H×List MemPlace}(h:DataW.trod enc Al W base spare aN m 71 cs=J y)(hw:qm Al 71 y.1) :
  ∃x:Cs,LowC x/\∃v0 v1 v2,cs=[v0,v1,v2]/\CsV W W.heap.size v0 v1 v2 x:=by
 obtain⟨xs,n,rfl,rfl,hl,np,hf⟩:=N5 Rm h;rw[cellsCs] at hl;have pE:xs.length=3:=np
 match cs,hl with
 | [c0,c1,c2],_=>
  have f0:=hf 0 _ rfl;have f1:=hf 1 _ rfl;have f2:=hf 2 _ rfl
  match xs,pE with
  | [x0,x1,x2],_=>
   have g0:DataW.trod enc Al W base spare aN n 50 [c0]=J x0:=by simpa[cellsIs] using f0
   have g1:DataW.trod enc Al W base spare aN n 69 [c1]=J x1:=by simpa[JN] using f1
   have g2:DataW.trod enc Al W base spare aN n 69 [c2]=J x2:=by simpa[JN] using f2
   have w0:qm Al 50 x0.1:=qa Rm hw (j:=0) rfl rfl;have w1:qm Al 69 x1.1:=qa Rm hw (j:=1) rfl rfl;have w2:qm Al 69 x2.1:=qa Rm hw (j:=2) rfl rfl;obtain⟨A0,y0,k0,e0,l0,r0⟩:=rd_ints g0 w0;obtain⟨A1,y1,k1,e1,l1,m1,r1⟩:=QX g1 w1;obtain⟨A2,y2,k2,e2,l2,m2,r2⟩:=QX g2 w2
   cases e0;cases e1;cases e2
   exact⟨⟨y0,y1,y2⟩,⟨l0,l1,l2,m1,m2⟩,_,_,_,rfl,⟨A0,k0,rfl,r0⟩,⟨A1,k1,rfl,r1⟩,⟨A2,k2,rfl,r2⟩⟩
/-- A slice of cases. -/
theorem rd_cases{m:Nat}{cs:List Au}{y:DataW H×List MemPlace}(h:DataW.trod enc Al W base spare aN m 22 cs=J y)(hw:qm Al 22 y.1) :
  ∃(A:Bb) (xs:List Cs) (c:Nat),cs=[I A xs.length c]/\xs.length<=17592186044416/\(∀v∈xs,LowC v)/\CAt W W.heap.size A xs:=by
 obtain⟨A,xs,c,e,_,_,hb,hA⟩:=jg (α:=Cs) (fun cs x=>LowC x/\∃v0 v1 v2,cs=[v0,v1,v2]/\CsV W W.heap.size v0 v1 v2 x) Rq cellsCs (by decide)
  (fun m cs y h hw=>rd_case h hw) h hw
 refine⟨A,xs,c,e,?_,?_,fun h0=>?_⟩
 . rw[bytesCs] at hb;unfold reachBytes at hb;omega
 . intro v hv
   obtain⟨i,hi,rfl⟩:=LT hv;obtain⟨b,off,_,_,hc⟩:=hA (by omega);obtain⟨cs,⟨h1,_⟩,_⟩:=hc i hi;exact h1
 obtain⟨b,off,e,hlt,hc⟩:=hA h0;refine⟨b,off,e,hlt,fun i hi=>?_⟩;obtain⟨cs,⟨_,v0,v1,v2,rfl,h3⟩,h2⟩:=hc i hi;exact⟨v0,v1,v2,h2 0 _ rfl,h2 1 _ rfl,h2 2 _ rfl,h3⟩
/-- A round. -/
theorem rd_round{m:Nat}{cs:List Au}{y:DataW H×List MemPlace}(h:DataW.trod enc Al W base spare aN m 76 cs=J y):∃x:Rd,cs=x.cells.toList:=by
 obtain⟨xs,n,rfl,rfl,hl,np,hf⟩:=N5 underlying76 h;rw[cellsRd] at hl;have pE:xs.length=2:=np
 match cs,hl with
 | [c0,c1,c2,c3,c4,c5,c6],_=>
  have f0:=hf 0 _ rfl;have f1:=hf 1 _ rfl
  match xs,pE with
  | [x0,x1],_=>
   have g0:DataW.trod enc Al W base spare aN n 74 [c0,c1,c2,c3,c4,c5]=J x0:=by simpa[cellsGr] using f0
   have g1:DataW.trod enc Al W base spare aN n 3 [c6]=J x1:=by simpa[xe] using f1
   obtain⟨i6,e6,_,_⟩:=Nc LE g1;obtain⟨ys,k,rfl,rfl,_,lw,hg⟩:=N5 underlying74 g0;have Va:ys.length=2:=lw;have q0:=hg 0 _ rfl;have q1:=hg 1 _ rfl
   match ys,Va with
   | [y0,y1],_=>
    have r0:DataW.trod enc Al W base spare aN k 3 [c0]=J y0:=by simpa[xe] using q0
    have r1:DataW.trod enc Al W base spare aN k 72 [c1,c2,c3,c4,c5]=J y1:=by simpa[cells5] using q1
    obtain⟨i0,e0,_,_⟩:=Nc LE r0;obtain⟨zs,m,rfl,_,_,KE,hi⟩:=DataW.trod_array PE r1;have k0:=hi 0 (by decide);have k1:=hi 1 (by decide);have k2:=hi 2 (by decide);have k3:=hi 3 (by decide);have k4:=hi 4 (by decide)
    match zs,KE with
    | [z0,z1,z2,z3,z4],_=>
     have j0:DataW.trod enc Al W base spare aN m 3 [c1]=J z0:=by simpa[xe] using k0
     have j1:DataW.trod enc Al W base spare aN m 3 [c2]=J z1:=by simpa[xe] using k1
     have j2:DataW.trod enc Al W base spare aN m 3 [c3]=J z2:=by simpa[xe] using k2
     have j3:DataW.trod enc Al W base spare aN m 3 [c4]=J z3:=by simpa[xe] using k3
     have j4:DataW.trod enc Al W base spare aN m 3 [c5]=J z4:=by simpa[xe] using k4
     obtain⟨a0,b0,_,_⟩:=Nc LE j0;obtain⟨a1,b1,_,_⟩:=Nc LE j1;obtain⟨a2,b2,_,_⟩:=Nc LE j2;obtain⟨a3,b3,_,_⟩:=Nc LE j3;obtain⟨a4,b4,_,_⟩:=Nc LE j4
     cases e0;cases e6;cases b0;cases b1;cases b2;cases b3;cases b4
     exact⟨⟨i0,a0,a1,a2,a3,a4,i6⟩,rfl⟩
/-- A move. -/
theorem rd_move{m:Nat}{cs:List Au}{y:DataW H×List MemPlace}(h:DataW.trod enc Al W base spare aN m 78 cs=J y):∃x:Mv,cs=x.cells.toList:=by
 obtain⟨xs,n,rfl,rfl,hl,np,hf⟩:=N5 underlying78 h;rw[cellsMv] at hl;have pE:xs.length=2:=np
 match cs,hl with
 | [c0,c1,c2,c3,c4,c5,c6,c7],_=>
  have f0:=hf 0 _ rfl;have f1:=hf 1 _ rfl
  match xs,pE with
  | [x0,x1],_=>
   have g0:DataW.trod enc Al W base spare aN n 76 [c0,c1,c2,c3,c4,c5,c6]=J x0:=by simpa[cellsRd] using f0
   have g1:DataW.trod enc Al W base spare aN n 3 [c7]=J x1:=by simpa[xe] using f1
   obtain⟨r,e0⟩:=rd_round g0;obtain⟨i7,e7,_,_⟩:=Nc LE g1
   cases e7
   refine⟨⟨r,i7⟩,?_⟩;simp only[Rd.cells,List.cons.injEq] at e0;obtain⟨rfl,rfl,rfl,rfl,rfl,rfl,rfl,_⟩:=e0
   rfl
/-- A slice of moves. -/
theorem rd_moves{m:Nat}{cs:List Au}{y:DataW H×List MemPlace}(h:DataW.trod enc Al W base spare aN m 79 cs=J y)(hw:qm Al 79 y.1) :
  ∃(A:Bb) (xs:List Mv) (c:Nat),cs=[I A xs.length c]/\xs.length<=17592186044416/\MAt W W.heap.size A xs:=by
 obtain⟨A,xs,c,e,_,_,hb,hA⟩:=jg (α:=Mv) (fun cs x=>cs=x.cells.toList) Rl cellsMv (by decide) (fun m cs y h _=>rd_move h) h hw;refine⟨A,xs,c,e,?_,fun h0=>?_⟩
 . rw[bytesMv] at hb;unfold reachBytes at hb;omega
 obtain⟨b,off,e,hlt,hc⟩:=hA h0;refine⟨b,off,e,hlt,fun i hi k u hk=>?_⟩;obtain⟨cs,rfl,h2⟩:=hc i hi;exact h2 k u (by simpa using hk)
/-- A slice of slices of moves. -/
theorem rd_states{m:Nat}{cs:List Au}{y:DataW H×List MemPlace}(h:DataW.trod enc Al W base spare aN m 25 cs=J y)(hw:qm Al 25 y.1) :
  ∃(A:Bb) (xs:List (List Mv)) (c:Nat),cs=[I A xs.length c]/\xs.length<=17592186044416/\(∀v∈xs,v.length<=17592186044416)/\SAt W W.heap.size A xs:=by
 obtain⟨A,xs,c,e,_,_,hb,hA⟩:=jg (α:=List Mv) (fun cs v=>∃A c,cs=[I A v.length c]/\v.length<=17592186044416/\MAt W W.heap.size A v) Rp cellsMl (by decide)
  (fun m cs y h hw=>by obtain⟨A,xs,c,e,h1,h2⟩:=rd_moves h hw;exact⟨xs,A,c,e,h1,h2⟩) h hw
 refine⟨A,xs,c,e,?_,?_,fun h0=>?_⟩
 . rw[bytesMl] at hb;unfold reachBytes at hb;omega
 . intro v hv
   obtain⟨i,hi,rfl⟩:=LT hv;obtain⟨b,off,_,_,hc⟩:=hA (by omega);obtain⟨cs,⟨A,c,_,h1,_⟩,_⟩:=hc i hi;exact h1
 obtain⟨b,off,e,hlt,hc⟩:=hA h0;refine⟨b,off,e,hlt,fun i hi=>?_⟩;obtain⟨cs,⟨A,c,rfl,_,h3⟩,h2⟩:=hc i hi;exact⟨A,c,by simpa using h2 0 _ rfl,h3⟩
/-- A problem. -/
theorem rd_prob{m:Nat}{cs:List Au}{y:DataW H×List MemPlace}(h:DataW.trod enc Al W base spare aN m 29 cs=J y)(hw:qm Al 29 y.1) :
  ∃(p:Pb) (A:Bb) (kc:Nat) (SV:Bb) (ks:Nat),cs=(p.vs A kc SV ks).toList/\Y0 p/\CAt W W.heap.size A p.t.cases/\SAt W W.heap.size SV p.a.sts:=by
 obtain⟨xs,n,rfl,rfl,hl,np,hf⟩:=N5 Ro h;rw[cellsPb] at hl;have pE:xs.length=3:=np
 match cs,hl with
 | [c0,c1,c2,c3,c4,c5,c6],_=>
  have f0:=hf 0 _ rfl;have f1:=hf 1 _ rfl;have f2:=hf 2 _ rfl
  match xs,pE with
  | [x0,x1,x2],_=>
   have g0:DataW.trod enc Al W base spare aN n 24 [c0,c1,c2,c3]=J x0:=by simpa[cellsTk] using f0
   have g1:DataW.trod enc Al W base spare aN n 27 [c4,c5]=J x1:=by simpa[cellsAd] using f1
   have g2:DataW.trod enc Al W base spare aN n 3 [c6]=J x2:=by simpa[xe] using f2
   have w0:qm Al 24 x0.1:=qa Ro hw (j:=0) rfl rfl;have w1:qm Al 27 x1.1:=qa Ro hw (j:=1) rfl rfl;obtain⟨i6,e6,_,_⟩:=Nc LE g2;obtain⟨ys,k,rfl,oH,_,lw,hg⟩:=N5 underlying24 g0;rw[oH] at w0;have U':ys.length=4:=lw;have q0:=hg 0 _ rfl;have q1:=hg 1 _ rfl;have q2:=hg 2 _ rfl;have q3:=hg 3 _ rfl
   match ys,U' with
   | [y0,y1,y2,y3],_=>
    have r0:DataW.trod enc Al W base spare aN k 3 [c0]=J y0:=by simpa[xe] using q0
    have r1:DataW.trod enc Al W base spare aN k 3 [c1]=J y1:=by simpa[xe] using q1
    have r2:DataW.trod enc Al W base spare aN k 3 [c2]=J y2:=by simpa[xe] using q2
    have r3:DataW.trod enc Al W base spare aN k 22 [c3]=J y3:=by simpa[cellsCss] using q3
    have v3:qm Al 22 y3.1:=qa underlying24 w0 (j:=3) rfl rfl;obtain⟨i0,e0,_,_⟩:=Nc LE r0;obtain⟨i1,e1,_,_⟩:=Nc LE r1;obtain⟨i2,e2,_,_⟩:=Nc LE r2;obtain⟨A,us,kc,e3,lu,hu,hA⟩:=rd_cases r3 v3;obtain⟨zs,k',en,sa,_,KE,nC⟩:=N5 underlying27 g1;rw[sa] at w1;have U5:zs.length=2:=KE;have s0:=nC 0 _ rfl;have s1:=nC 1 _ rfl
    match zs,U5 with
    | [z0,z1],_=>
     have t0:DataW.trod enc Al W base spare aN k' 3 [c4]=J z0:=by simpa[xe] using s0
     have t1:DataW.trod enc Al W base spare aN k' 25 [c5]=J z1:=by simpa[cellsMls] using s1
     have u1:qm Al 25 z1.1:=qa underlying27 w1 (j:=1) rfl rfl;obtain⟨i4,e4,_,_⟩:=Nc LE t0;obtain⟨SV,ss,ks,e5,ls,hs,hS⟩:=rd_states t1 u1
     cases e0;cases e1;cases e2;cases e3;cases e4;cases e5;cases e6
     exact⟨⟨⟨i0,i1,i2,us⟩,⟨i4,ss⟩,i6⟩,A,kc,SV,ks,rfl,⟨⟨lu,hu⟩,ls,hs⟩,hA,hS⟩
/-- A problem that is handed over by value. -/
theorem X8{b0:Nat}{v:Au}{d:DataW H}{ps:List MemPlace}(hv:Value.okWide Al W .any b0 29 v)(h:DataW.Trod enc Al W base spare aN 29 v d ps)(hw:qm Al 29 d) :
  ∃(p:Pb) (A:Bb) (kc:Nat) (SV:Bb) (ks:Nat),v=.agg (p.vs A kc SV ks)/\Y0 p/\CAt W W.heap.size A p.t.cases/\SAt W W.heap.size SV p.a.sts:=by
 obtain⟨cs,rfl,_⟩:=okWide_struct Ro hv;obtain⟨fuel,hf⟩:=h;obtain⟨p,A,kc,SV,ks,e,h1,h2,h3⟩:=rd_prob hf hw;refine⟨p,A,kc,SV,ks,?_,h1,h2,h3⟩;have e':cs.toList=(p.vs A kc SV ks).toList:=e;rw[Array.toList_inj.1 e']
end
end
section
open Go.RowKit
structure Kd where
 e:TypeId
 s:TypeId
 size:Nat
 bytes:Nat
 z:Au
structure KdOk(P:Program)(K:Kd):Prop where
 under:P.underlying K.s=J (.slice K.e)
 info:(P.info? K.e).map (fun i=>(i.zero,i.size,i.bytes))=J (J K.z,K.size,K.bytes)
 zs:K.z.cells.size=K.size
 pos:0<K.size
 small:K.bytes<=1024
def Raw(w:Ba)(A:Bb)(n:Nat)(cs:List Au):Prop:=0<n->∃b off,A=J ⟨b,off,Z⟩/\b<w.heap.size/\∀(j:Nat) (u:Au),cs[j]?=J u->w.cell? ⟨b,off+j,Z⟩=J u
def OwnR(K:Kd)(w:Ba)(base:Nat)(v:Au)(n:Nat)(cs:List Au):Prop:=w.ownsRow base K.e K.size v n cs
section
variable {P:Program} {K:Kd} {w w':Ba} {base:Nat} {v:Au} {n:Nat} {cs:List Au}
theorem OwnR.nil(K:Kd)(w:Ba)(base:Nat):OwnR K w base (I Z 0 0) 0 []:=Rh w base _ _
theorem OwnR.kept{row:Option Nat}(h:OwnR K w base v n cs)(hg:w.grownBy w' row)(az:v.ownBlock=Z\/v.ownBlock≠row):OwnR K w' base v n cs:=Pw h hg az
theorem OwnR.alloc(h:OwnR K w base v n cs)(o:Obj):OwnR K (w.alloc o) base v n cs:=PH h o
theorem OwnR.lt(h:OwnR K w base v n cs):∀k,v.ownBlock=J k->base<=k/\k<w.heap.size:=Ry h
theorem OwnR.below{B:Nat}(h:OwnR K w base v n cs)(hb:Am B w w')(hB:w.heap.size<=B):OwnR K w' base v n cs:=
 Pw (row:=Z) h ⟨hb.os,hb.tape,hb.output,hb.size,fun k hk _=>hb.block k (by omega)⟩ (by cases v.ownBlock<;>simp)
theorem OwnR.low{base':Nat}(h:OwnR K w base v n cs)(hb:base'<=base):OwnR K w base' v n cs:=by
 refine⟨h.1,?_⟩;rcases h.2 with h2 | ⟨g,cap,cur,hv,hg,r⟩
 . exact Or.inl h2
 exact Or.inr ⟨g,cap,cur,hv,by omega,r⟩
theorem OwnR.form(h:OwnR K w base v n cs):∃A cap,v=I A n cap/\n<=cap/\cap<=maxLen/\(0<n->∃g,A=J ⟨g,0,Z⟩/\v.ownBlock=J g/\g<w.heap.size/\∀j u,cs[j]?=J u->w.cell? ⟨g,j,Z⟩=J u):=by
 rcases h.2 with ⟨rfl,h0⟩ | ⟨g,cap,cur,rfl,_,hg,cG,iJ,_⟩
 . exact⟨Z,0,by rw[h0],by omega,by omega,fun hn=>by omega⟩
 refine⟨_,_,rfl,cG,iJ,fun _=>⟨g,rfl,rfl,(Ln.1 hg).1,fun j u hu=>?_⟩⟩;have:=World.ownsRow.cells h (g:=g) rfl j u hu;rwa[show(⟨g,0,Z⟩:Addr).add j=⟨g,j,Z⟩ from by unfold Addr.add;split<;>simp_all] at this
theorem OwnR.ne{b:Nat}(h:OwnR K w base v n cs)(hb:b<base):v.ownBlock≠J b:=fun e=>by
 have:=(h.lt b e).1;omega
theorem OwnR.raw(h:OwnR K w base v n cs):∃A cap,v=I A n cap/\n<=cap/\cap<=maxLen/\Raw w A n cs:=by
 obtain⟨A,cap,e,h1,h2,h3⟩:=h.form;refine⟨A,cap,e,h1,h2,fun h0=>?_⟩;obtain⟨g,hA,_,hg,hc⟩:=h3 h0;exact⟨g,0,hA,hg,fun j u hu=>by rw[LI];exact hc j u hu⟩
theorem yT(ok:KdOk P K):∃i:TypeInfo,P.info? K.e=J i/\i.zero=J K.z/\i.size=K.size/\i.bytes=K.bytes:=by
 have h:=ok.info
 cases hi:P.info? K.e with
 | none=>rw[hi] at h;cases h
 | some i=>
  rw[hi] at h;simp only[Option.map_some,Option.some.injEq,Prod.mk.injEq] at h;exact⟨i,rfl,h.1,h.2.1,h.2.2⟩
theorem qP(ok:KdOk P K){o:Oper}{a:Act}{KK:Act->Ba->Prop}{Q:Exit->Act->Ba->Prop}{W:Ba}(s x:Operand)
  (ho:o.op=.call { callee:=.builtin .append,args:=#[s,x],argTypes:=#[K.s,K.s] }) (base:Nat) (V:Au) (n:Nat) (cs:List Au) (hs:a.eval s=V) (aU:OwnR K W base V n cs)
  (g:Nat) (lr:Array Au) (hx:a.eval x=I (J ⟨g,0,Z⟩) 1 1) (hg:W.heap[g]?=J (Ag lr K.e (0,0))) (hn:lr.size=K.size) (h1:∀u∈lr.toList,u.oneCell'=Av) (hl:n<=1000000000) (hb:base<=W.heap.size) (H:Nat) (hH:W.heap.size=H)
  (h:∀g' cap w1,OwnR K w1 base (I (J ⟨g',0,Z⟩) (n+1) cap) (n+1) (cs++lr.toList)->W.grownBy w1 V.ownBlock->(V.ownBlock=J g'\/g'=H)->g'<w1.heap.size->KK (a.put o.dst (I (J ⟨g',0,Z⟩) (n+1) cap)) w1):o.wp P a W KK Q:=by
 obtain⟨i0,hi,dx,ce,dI⟩:=yT ok
 refine wp_append_lies W s x K.s ho base K.e i0 K.z K.size K.bytes ok.under hi dx ce dI ok.zs ok.pos V n cs hs aU ⟨g,0,Z⟩ 1 1 lr.toList hx (by simp[hn])
  (RW hg) h1 (by omega) (by unfold maxLen;omega) ?_ hb H hH h
 have:=LU (show n+1<=1000000001 by omega) ok.small;omega
theorem yE(ok:KdOk P K){aq:Array Oper}{rest:List Oper}{o:Oper}{a:Act}{Q:Exit->Act->Ba->Prop}{W:Ba}(iI:o.guard=Z)(s x:Operand)
  (ho:o.op=.call { callee:=.builtin .append,args:=#[s,x],argTypes:=#[K.s,K.s] }) (base:Nat) (V:Au) (n:Nat) (cs:List Au) (hs:a.eval s=V) (aU:OwnR K W base V n cs)
  (g:Nat) (lr:Array Au) (hx:a.eval x=I (J ⟨g,0,Z⟩) 1 1) (hg:W.heap[g]?=J (Ag lr K.e (0,0))) (hn:lr.size=K.size) (h1:∀u∈lr.toList,u.oneCell'=Av) (hl:n<=1000000000) (hb:base<=W.heap.size) (H:Nat) (hH:W.heap.size=H)
  (h:∀g' cap w1,OwnR K w1 base (I (J ⟨g',0,Z⟩) (n+1) cap) (n+1) (cs++lr.toList)->W.grownBy w1 V.ownBlock->(V.ownBlock=J g'\/g'=H)->g'<w1.heap.size->wpList P aq Q rest (a.put o.dst (I (J ⟨g',0,Z⟩) (n+1) cap)) w1):wpList P aq Q (o::rest) a W:=
 Nu iI fun _ hK=>qP ok s x ho base V n cs hs aU g lr hx hg hn h1 hl hb H hH fun g' cap w1 h1 h2 h3 h4=>hK _ _ (h g' cap w1 h1 h2 h3 h4)
theorem step_appR(ok:KdOk P K){aq:Array Oper}{o:Oper}{a:Act}{KK:Act->Ba->Prop}{Q:Exit->Act->Ba->Prop}{E:Prop}{W:Ba}(iI:o.guard=Z)(s x:Operand)
  (ho:o.op=.call { callee:=.builtin .append,args:=#[s,x],argTypes:=#[K.s,K.s] }) (base:Nat) (V:Au) (n:Nat) (cs:List Au) (hs:a.eval s=V) (aU:OwnR K W base V n cs)
  (g:Nat) (lr:Array Au) (hx:a.eval x=I (J ⟨g,0,Z⟩) 1 1) (hg:W.heap[g]?=J (Ag lr K.e (0,0))) (hn:lr.size=K.size) (h1:∀u∈lr.toList,u.oneCell'=Av) (hl:n<=1000000000) (hb:base<=W.heap.size) (H:Nat) (hH:W.heap.size=H)
  (h:∀g' cap w1,OwnR K w1 base (I (J ⟨g',0,Z⟩) (n+1) cap) (n+1) (cs++lr.toList)->W.grownBy w1 V.ownBlock->(V.ownBlock=J g'\/g'=H)->g'<w1.heap.size->KK (a.put o.dst (I (J ⟨g',0,Z⟩) (n+1) cap)) w1) :
  if Region.wanted o (yielded aq a.tmps)=Av then Oper.wp P o a W KK Q else E:=by
 have hw:Region.wanted o (yielded aq a.tmps)=Av:=by simp[Region.wanted,iI]
 rw[Lj hw];exact qP ok s x ho base V n cs hs aU g lr hx hg hn h1 hl hb H hH h
theorem wp_fitR(ok:KdOk P K){o:Oper}{a:Act}{KK:Act->Ba->Prop}{Q:Exit->Act->Ba->Prop}{W:Ba}(s x:Operand)
  (ho:o.op=.call { callee:=.builtin .append,args:=#[s,x],argTypes:=#[K.s,K.s] }) (base g n cap:Nat) (cs:List Au) (hs:a.eval s=I (J ⟨g,0,Z⟩) n cap) (aU:OwnR K W base (I (J ⟨g,0,Z⟩) n cap) n cs)
  (h:Nat) (lr:Array Au) (hx:a.eval x=I (J ⟨h,0,Z⟩) 1 1) (hg:W.heap[h]?=J (Ag lr K.e (0,0))) (hn:lr.size=K.size) (h1:∀u∈lr.toList,u.oneCell'=Av) (cG:n+1<=cap)
  (hK:∀w1,OwnR K w1 base (I (J ⟨g,0,Z⟩) (n+1) cap) (n+1) (cs++lr.toList)->W.grownBy w1 (J g)->KK (a.put o.dst (I (J ⟨g,0,Z⟩) (n+1) cap)) w1):o.wp P a W KK Q:=by
 obtain⟨i0,hi,dx,ce,dI⟩:=yT ok;obtain⟨w',dm,r1,r2⟩:=run_append_fits (P:=P) W base K.s o.type K.e i0 K.size ok.under hi ce g n cap cs aU ⟨h,0,Z⟩ 1 1 lr.toList (by simp[hn]) (RW hg) h1 cG;unfold Oper.wp execOp;simp only[ho,resolve,invoke,builtin,Sem.run_bind,Sem.run_pure,Result.andThen_ok,List.map_toArray,List.map_cons,List.map_nil,hs,hx,dm];exact hK w' r1 r2
theorem wl(ok:KdOk P K)(A:Bb)(n cap c:Nat)(ty:TypeId)(W:Ba)(hn:n<=cap):(Builtin.append_ #[K.s,K.s] ty #[I A n cap,I Z 0 c]).run P W=.ok (I A n cap) W:=by
 obtain⟨i0,hi,dx,ce,dI⟩:=yT ok
 cases A with
 | none=>simp[Builtin.append_,run_underlying ok.under,sizeOf,typeInfo,hi,Builtin.lenOf,Builtin.firstCells,hn,Result.andThen]
 | some ad=>simp[Builtin.append_,run_underlying ok.under,sizeOf,typeInfo,hi,Builtin.lenOf,Builtin.firstCells,hn,Result.andThen,storeCells]
theorem run_appN(ok:KdOk P K)(W:Ba)(ty:TypeId)(base:Nat)(v:Au)(n:Nat)(cs:List Au)(aU:OwnR K W base v n cs)(A:Bb)(m c:Nat)(news:List Au)(hl:news.length=m*K.size)(hA:Raw W A m news)
  (h1:∀u∈news,u.oneCell'=Av) (hm:n+m<=1000000000) (hb:base<=W.heap.size) :
  ∃v' w',(Builtin.append_ #[K.s,K.s] ty #[v,I A m c]).run P W=.ok v' w'/\OwnR K w' base v' (n+m) (cs++news)/\W.grownBy w' v.ownBlock/\(v'.ownBlock=v.ownBlock\/v'.ownBlock=J W.heap.size):=by
 obtain⟨i0,hi,dx,ce,dI⟩:=yT ok
 cases A with
 | none=>
  have oo:m=0:=by
   rcases NC m with h | h
   . exact h
   . obtain⟨b,off,e,_⟩:=hA h;cases e
  subst oo;have H':news=[]:=LJ (by omega);subst H';obtain⟨A,cap,rfl,hc,_⟩:=aU.form;exact⟨_,W,wl ok A n cap c ty W hc,by simpa using aU,R9 _ _,.inl rfl⟩
 | some ad=>
  have bj:=LU hm ok.small
  obtain⟨v',w',hr,r1,r2,_,r4⟩:=run_append_own_at (P:=P) W base K.s ty K.e i0 K.z K.size K.bytes ok.under hi dx ce dI ok.zs ok.pos v n cs aU ad m c news hl (fun j u hj=>by
    have cc:j<m*K.size:=by rw[<-hl];exact(Lq.1 hj).1
    have oo:0<m:=by rcases NC m with h | h;(· subst h;omega);(· exact h)
    obtain⟨b,off,e,_,hc⟩:=hA oo
    cases e
    rw[show(⟨b,off,Z⟩:Addr).add j=⟨b,off+j,Z⟩ from by unfold Addr.add;split<;>simp_all]
    exact hc j u hj) h1 (by unfold maxLen;omega) (by omega) hb
  exact⟨v',w',hr,r1,r2,r4⟩
theorem wp_appN(ok:KdOk P K){o:Oper}{a:Act}{KK:Act->Ba->Prop}{Q:Exit->Act->Ba->Prop}{W:Ba}(s x:Operand)
  (ho:o.op=.call { callee:=.builtin .append,args:=#[s,x],argTypes:=#[K.s,K.s] }) (base:Nat) (v:Au) (n:Nat) (cs:List Au) (hs:a.eval s=v) (aU:OwnR K W base v n cs) (A:Bb) (m c:Nat) (news:List Au) (hx:a.eval x=I A m c)
  (hl:news.length=m*K.size) (hA:Raw W A m news) (h1:∀u∈news,u.oneCell'=Av) (hm:n+m<=1000000000) (hb:base<=W.heap.size)
  (h:∀v' w1,OwnR K w1 base v' (n+m) (cs++news)->W.grownBy w1 v.ownBlock->(v'.ownBlock=v.ownBlock\/v'.ownBlock=J W.heap.size)->KK (a.put o.dst v') w1):o.wp P a W KK Q:=by
 obtain⟨v',w',dm,r1,r2,r3⟩:=run_appN ok W o.type base v n cs aU A m c news hl hA h1 hm hb;unfold Oper.wp execOp;simp only[ho,resolve,invoke,builtin,Sem.run_bind,Sem.run_pure,Result.andThen_ok,List.map_toArray,List.map_cons,List.map_nil,hs,hx,dm];exact h v' w' r1 r2 r3
theorem QC(ok:KdOk P K){aq:Array Oper}{rest:List Oper}{o:Oper}{a:Act}{Q:Exit->Act->Ba->Prop}{W:Ba}(iI:o.guard=Z)(s x:Operand)
  (ho:o.op=.call { callee:=.builtin .append,args:=#[s,x],argTypes:=#[K.s,K.s] }) (base:Nat) (v:Au) (n:Nat) (cs:List Au) (hs:a.eval s=v) (aU:OwnR K W base v n cs) (A:Bb) (m c:Nat) (news:List Au) (hx:a.eval x=I A m c)
  (hl:news.length=m*K.size) (hA:Raw W A m news) (h1:∀u∈news,u.oneCell'=Av) (hm:n+m<=1000000000) (hb:base<=W.heap.size)
  (h:∀v' w1,OwnR K w1 base v' (n+m) (cs++news)->W.grownBy w1 v.ownBlock->(v'.ownBlock=v.ownBlock\/v'.ownBlock=J W.heap.size)->wpList P aq Q rest (a.put o.dst v') w1):wpList P aq Q (o::rest) a W:=
 Nu iI fun _ hK=>wp_appN ok s x ho base v n cs hs aU A m c news hx hl hA h1 hm hb fun v' w1 h1 h2 h3=>hK _ _ (h v' w1 h1 h2 h3)
theorem OwnR.of_block{g:Nat}{cur:Array Au}(h:w.heap[g]?=J (Ag cur K.e (0,0)))(hb:base<=g)(hc:cur.size=n*K.size)(hn:n<=maxLen):OwnR K w base (I (J ⟨g,0,Z⟩) n n) n cur.toList:=
 ⟨by simpa using hc,.inr ⟨g,n,cur,rfl,hb,h,Ld _,hn,hc,by rw[NQ (by simp[hc])]⟩⟩
theorem OwnR.pop{g m cap:Nat}{rf:List Au}(h:OwnR K w base (I (J ⟨g,0,Z⟩) (n+m) cap) (n+m) (cs++rf))(hl:cs.length=n*K.size):OwnR K w base (I (J ⟨g,0,Z⟩) n cap) n cs:=by
 refine⟨hl,.inr ?_⟩;rcases h.2 with ⟨e,_⟩ | ⟨g',ap,cur,e,hb,hg,cG,hm,hs,ht⟩
 . cases e
 injection e with e1 e2 e3
 injection e1 with e1
 injection e1 with e1
 subst e1;subst e3;refine⟨g,cap,cur,rfl,hb,hg,by omega,hm,hs,?_⟩;have h2:=congrArg (List.take (n*K.size)) ht;rw[List.take_take,Sn (by omega),<-hl,LK,RK (by rw[hl,Rr];omega)] at h2;rw[<-hl];exact h2
end
section
variable {S S':Nat->Prop} {w w':Ba} {A:Bb}
theorem qX{b o:Nat}{u:Au}(h:KeepB S w w')(hb:S b)(hc:w.cell? ⟨b,o,Z⟩=J u):w'.cell? ⟨b,o,Z⟩=J u:=by
 obtain⟨ob,ho,_⟩:=R5 hc;rw[LL (h.same b hb (Ln.1 ho).1)];exact hc
structure KeepC(S:Nat->Prop)(w w':Ba):Prop where
 size:w.heap.size<=w'.heap.size
 cell:∀k o v,S k->w.cell? ⟨k,o,Z⟩=J v->w'.cell? ⟨k,o,Z⟩=J v
theorem KeepC.of_cells(S:Nat->Prop)(hs:w.heap.size<=w'.heap.size)(h:∀(k:Nat) (o:Obj),w.heap[k]?=J o->o.isCells=Av->w'.heap[k]?=J o):KeepC S w w':=
 ⟨hs,fun k o v _ hc=>by
  obtain⟨ob,ho,dp⟩:=R5 hc;rw[LL ((h k ob ho dp).trans ho.symm)]
  exact hc⟩
def IAtS(S:Nat->Prop)(w:Ba)(A:Bb)(xs:List Int):Prop:=
 0<xs.length->∃b off,A=J ⟨b,off,Z⟩/\S b/\b<w.heap.size/\∀(i:Nat) (hi:i<xs.length),w.cell? ⟨b,off+i,Z⟩=J (O U xs[i])
theorem IAtS.keep{xs:List Int}(h:IAtS S w A xs)(hk:KeepB S w w'):IAtS S w' A xs:=fun h0=>by
 obtain⟨b,off,e,hs,hb,hc⟩:=h h0;exact⟨b,off,e,hs,LH hb hk.size,fun i hi=>qX hk hs (hc i hi)⟩
theorem IAtS.keepC{xs:List Int}(h:IAtS S w A xs)(hk:KeepC S w w'):IAtS S w' A xs:=fun h0=>by
 obtain⟨b,off,e,hs,hb,hc⟩:=h h0;exact⟨b,off,e,hs,LH hb hk.size,fun i hi=>hk.cell _ _ _ hs (hc i hi)⟩
theorem IAtS.mono{xs:List Int}(h:IAtS S w A xs)(hm:∀k,k<w.heap.size->S k->S' k):IAtS S' w A xs:=fun h0=>by
 obtain⟨b,off,e,hs,hb,hc⟩:=h h0;exact⟨b,off,e,hm b hb hs,hb,hc⟩
theorem IAtS.on{xs:List Int}(h:IAtS S w A xs)(hb:Am w.heap.size w w'):IAtS S w' A xs:=
 ((h.mono (S':=fun k=>S k/\k<w.heap.size) fun _ hk hs=>⟨hs,hk⟩).keep ⟨hb.size,fun k hk _=>hb.block k hk.2⟩).mono fun _ _ hs=>hs.1
theorem IAtS.iat{xs:List Int}(h:IAtS S w A xs):IAt w w.heap.size A xs:=fun h0=>by
 obtain⟨b,off,e,hs,hb,hc⟩:=h h0;exact⟨b,off,e,hb,hc⟩
theorem IAtS.of_iat{xs:List Int}{B:Nat}(h:IAt w B A xs)(hB:B<=w.heap.size)(hS:∀k,k<B->S k):IAtS S w A xs:=fun h0=>by
 obtain⟨b,off,e,hb,hc⟩:=h h0;exact⟨b,off,e,hS b hb,by omega,hc⟩
def RAtS(S:Nat->Prop)(w:Ba)(A:Bb)(rs:List Rd):Prop:=
 0<rs.length->∃b off,A=J ⟨b,off,Z⟩/\S b/\b<w.heap.size/\∀(i:Nat) (hi:i<rs.length) (k:Nat) (u:Au),rs[i].cells[k]?=J u->w.cell? ⟨b,off+i*7+k,Z⟩=J u
theorem RAtS.keep{xs:List Rd}(h:RAtS S w A xs)(hk:KeepB S w w'):RAtS S w' A xs:=fun h0=>by
 obtain⟨b,off,e,hs,hb,hc⟩:=h h0;exact⟨b,off,e,hs,LH hb hk.size,fun i hi k u hu=>qX hk hs (hc i hi k u hu)⟩
theorem RAtS.keepC{xs:List Rd}(h:RAtS S w A xs)(hk:KeepC S w w'):RAtS S w' A xs:=fun h0=>by
 obtain⟨b,off,e,hs,hb,hc⟩:=h h0;exact⟨b,off,e,hs,LH hb hk.size,fun i hi k u hu=>hk.cell _ _ _ hs (hc i hi k u hu)⟩
theorem RAtS.mono{xs:List Rd}(h:RAtS S w A xs)(hm:∀k,k<w.heap.size->S k->S' k):RAtS S' w A xs:=fun h0=>by
 obtain⟨b,off,e,hs,hb,hc⟩:=h h0;exact⟨b,off,e,hm b hb hs,hb,hc⟩
theorem RAtS.on{xs:List Rd}(h:RAtS S w A xs)(hb:Am w.heap.size w w'):RAtS S w' A xs:=
 ((h.mono (S':=fun k=>S k/\k<w.heap.size) fun _ hk hs=>⟨hs,hk⟩).keep ⟨hb.size,fun k hk _=>hb.block k hk.2⟩).mono fun _ _ hs=>hs.1
theorem RAtS.rat{xs:List Rd}(h:RAtS S w A xs):RAt w w.heap.size A xs:=fun h0=>by
 obtain⟨b,off,e,hs,hb,hc⟩:=h h0;exact⟨b,off,e,hb,hc⟩
theorem RAtS.nil(S:Nat->Prop)(w:Ba)(A:Bb):RAtS S w A []:=fun h=>absurd h (by simp)
def LAtS(S:Nat->Prop)(w:Ba)(A:Bb)(xss:List (List Int)):Prop:=
 0<xss.length->∃b off,A=J ⟨b,off,Z⟩/\S b/\b<w.heap.size/\∀(i:Nat) (hi:i<xss.length),∃A' c,w.cell? ⟨b,off+i,Z⟩=J (I A' xss[i].length c)/\IAtS S w A' xss[i]
theorem LAtS.keep{xs:List (List Int)}(h:LAtS S w A xs)(hk:KeepB S w w'):LAtS S w' A xs:=fun h0=>by
 obtain⟨b,off,e,hs,hb,hc⟩:=h h0;refine⟨b,off,e,hs,LH hb hk.size,fun i hi=>?_⟩;obtain⟨A',c,h1,h2⟩:=hc i hi;exact⟨A',c,qX hk hs h1,h2.keep hk⟩
theorem LAtS.keepC{xs:List (List Int)}(h:LAtS S w A xs)(hk:KeepC S w w'):LAtS S w' A xs:=fun h0=>by
 obtain⟨b,off,e,hs,hb,hc⟩:=h h0;refine⟨b,off,e,hs,LH hb hk.size,fun i hi=>?_⟩;obtain⟨A',c,h1,h2⟩:=hc i hi;exact⟨A',c,hk.cell _ _ _ hs h1,h2.keepC hk⟩
theorem LAtS.mono{xs:List (List Int)}(h:LAtS S w A xs)(hm:∀k,k<w.heap.size->S k->S' k):LAtS S' w A xs:=fun h0=>by
 obtain⟨b,off,e,hs,hb,hc⟩:=h h0;refine⟨b,off,e,hm b hb hs,hb,fun i hi=>?_⟩;obtain⟨A',c,h1,h2⟩:=hc i hi;exact⟨A',c,h1,h2.mono hm⟩
theorem LAtS.on{xs:List (List Int)}(h:LAtS S w A xs)(hb:Am w.heap.size w w'):LAtS S w' A xs:=
 ((h.mono (S':=fun k=>S k/\k<w.heap.size) fun _ hk hs=>⟨hs,hk⟩).keep ⟨hb.size,fun k hk _=>hb.block k hk.2⟩).mono fun _ _ hs=>hs.1
theorem LAtS.lat{xs:List (List Int)}(h:LAtS S w A xs):LAt w w.heap.size A xs:=fun h0=>by
 obtain⟨b,off,e,hs,hb,hc⟩:=h h0;refine⟨b,off,e,hb,fun i hi=>?_⟩;obtain⟨A',c,h1,h2⟩:=hc i hi;exact⟨A',c,h1,h2.iat⟩
theorem LAtS.of_lat{xs:List (List Int)}{B:Nat}(h:LAt w B A xs)(hB:B<=w.heap.size)(hS:∀k,k<B->S k):LAtS S w A xs:=fun h0=>by
 obtain⟨b,off,e,hb,hc⟩:=h h0;refine⟨b,off,e,hS b hb,by omega,fun i hi=>?_⟩;obtain⟨A',c,h1,h2⟩:=hc i hi;exact⟨A',c,h1,IAtS.of_iat h2 hB hS⟩
def MAtS(S:Nat->Prop)(w:Ba)(A:Bb)(ms:List Mv):Prop:=
 0<ms.length->∃b off,A=J ⟨b,off,Z⟩/\S b/\b<w.heap.size/\∀(i:Nat) (hi:i<ms.length) (k:Nat) (u:Au),ms[i].cells[k]?=J u->w.cell? ⟨b,off+i*8+k,Z⟩=J u
theorem MAtS.keep{xs:List Mv}(h:MAtS S w A xs)(hk:KeepB S w w'):MAtS S w' A xs:=fun h0=>by
 obtain⟨b,off,e,hs,hb,hc⟩:=h h0;exact⟨b,off,e,hs,LH hb hk.size,fun i hi k u hu=>qX hk hs (hc i hi k u hu)⟩
theorem MAtS.keepC{xs:List Mv}(h:MAtS S w A xs)(hk:KeepC S w w'):MAtS S w' A xs:=fun h0=>by
 obtain⟨b,off,e,hs,hb,hc⟩:=h h0;exact⟨b,off,e,hs,LH hb hk.size,fun i hi k u hu=>hk.cell _ _ _ hs (hc i hi k u hu)⟩
theorem MAtS.mono{xs:List Mv}(h:MAtS S w A xs)(hm:∀k,k<w.heap.size->S k->S' k):MAtS S' w A xs:=fun h0=>by
 obtain⟨b,off,e,hs,hb,hc⟩:=h h0;exact⟨b,off,e,hm b hb hs,hb,hc⟩
theorem MAtS.mat{xs:List Mv}(h:MAtS S w A xs):MAt w w.heap.size A xs:=fun h0=>by
 obtain⟨b,off,e,hs,hb,hc⟩:=h h0;exact⟨b,off,e,hb,hc⟩
theorem MAtS.of_mat{xs:List Mv}{B:Nat}(h:MAt w B A xs)(hB:B<=w.heap.size)(hS:∀k,k<B->S k):MAtS S w A xs:=fun h0=>by
 obtain⟨b,off,e,hb,hc⟩:=h h0;exact⟨b,off,e,hS b hb,by omega,hc⟩
end
structure Ct(α:Type) where
 K:Kd
 lies:(Nat->Prop)->Ba->List Au->α->Prop
structure CtOk{α:Type}(C:Ct α):Prop where
 len:∀ {S w cs x},C.lies S w cs x->cs.length=C.K.size
 one:∀ {S w cs x},C.lies S w cs x->∀u∈cs,u.oneCell'=Av
 keep:∀ {S w w' cs x},C.lies S w cs x->KeepB S w w'->C.lies S w' cs x
 keepC:∀ {S w w' cs x},C.lies S w cs x->KeepC S w w'->C.lies S w' cs x
 mono:∀ {S S' w cs x},C.lies S w cs x->(∀k,k<w.heap.size->S k->S' k)->C.lies S' w cs x
def OwnX{α:Type}(C:Ct α)(S:Nat->Prop)(w:Ba)(base:Nat)(v:Au)(xs:List α):Prop:=
 ∃aW:List (List Au),aW.length=xs.length/\OwnR C.K w base v xs.length aW.flatten/\∀(i:Nat) (h1:i<aW.length) (h2:i<xs.length),C.lies (fun k=>S k/\v.ownBlock≠J k) w aW[i] xs[i]
theorem ZD{s:Nat}:∀(aW:List (List Au)) (_:∀c∈aW,c.length=s) (i:Nat) (hi:i<aW.length) (k:Nat),k<s->aW.flatten[i*s+k]?=aW[i][k]?
 | c::aW,h,0,hi,k,hk=>by
  have:=h c (by simp);rw[Rt,LC (by omega)];simp
 | c::aW,h,i+1,hi,k,hk=>by
  have hc:=h c (by simp);have:=ZD aW (fun d hd=>h d (by simp[hd])) i (by simpa using hi) k hk;rw[Rt,Ly (by rw[hc,Rr];omega),hc,show(i+1)*s+k-s=i*s+k by rw[Rr];omega,this]
  rfl
section
variable {α:Type} {C:Ct α} {S S':Nat->Prop} {w w':Ba} {base:Nat} {v:Au} {xs:List α}
theorem OwnX.nil(C:Ct α)(S:Nat->Prop)(w:Ba)(base:Nat):OwnX C S w base (I Z 0 0) []:=⟨[],rfl,OwnR.nil _ _ _,fun i h1 _=>absurd h1 (by simp)⟩
theorem OwnX.lt(h:OwnX C S w base v xs):∀k,v.ownBlock=J k->base<=k/\k<w.heap.size:=by
 obtain⟨aW,_,h2,_⟩:=h;exact h2.lt
theorem OwnX.ne{b:Nat}(h:OwnX C S w base v xs)(hb:b<base):v.ownBlock≠J b:=fun e=>by
 have:=(h.lt b e).1;omega
theorem OwnX.kept(ok:CtOk C){row:Option Nat}(h:OwnX C S w base v xs)(hg:w.grownBy w' row)(az:v.ownBlock=Z\/v.ownBlock≠row)(hS:∀k,row=J k->¬S k\/v.ownBlock=J k):OwnX C S w' base v xs:=by
 obtain⟨aW,hl,h2,h3⟩:=h;refine⟨aW,hl,h2.kept hg az,fun i i1 i2=>ok.keep (h3 i i1 i2) (KeepB.of_grown hg fun k hk hs=>?_)⟩;rcases hS k hk with h | h
 . exact h hs.1
 exact hs.2 h
theorem OwnX.keep(ok:CtOk C)(h:OwnX C S w base v xs)(hk:KeepB S w w')(hv:∀k,v.ownBlock=J k->w'.heap[k]?=w.heap[k]?):OwnX C S w' base v xs:=by
 obtain⟨aW,hl,h2,h3⟩:=h;refine⟨aW,hl,?_,fun i i1 i2=>ok.keep (h3 i i1 i2) (hk.mono fun k hk=>hk.1)⟩;refine⟨h2.1,?_⟩;rcases h2.2 with hn | ⟨g,cap,cur,pF,hb,hg,rest⟩
 . exact .inl hn
 exact .inr ⟨g,cap,cur,pF,hb,(hv g (by rw[pF];rfl)).trans hg,rest⟩
theorem OwnX.turn(ok:CtOk C)(h:OwnX C S w base v xs)(hs:w.heap.size<=w'.heap.size)(hc:∀(k:Nat) (o:Obj),w.heap[k]?=J o->o.isCells=Av->w'.heap[k]?=J o):OwnX C S w' base v xs:=by
 obtain⟨aW,hl,h2,h3⟩:=h;refine⟨aW,hl,?_,fun i i1 i2=>ok.keepC (h3 i i1 i2) (KeepC.of_cells _ hs hc)⟩;refine⟨h2.1,?_⟩;rcases h2.2 with hn | ⟨g,cap,cur,pF,hb,hg,rest⟩
 . exact .inl hn
 exact .inr ⟨g,cap,cur,pF,hb,hc g _ hg rfl,rest⟩
theorem OwnX.below(ok:CtOk C){B:Nat}(h:OwnX C S w base v xs)(hb:Am B w w')(hB:w.heap.size<=B):OwnX C S w' base v xs:=
 h.keep ok ⟨hb.size,fun k _ hk=>hb.block k (by omega)⟩ (fun k hk=>hb.block k (by have:=(h.lt k hk).2;omega))
theorem OwnX.mono(ok:CtOk C)(h:OwnX C S w base v xs)(hm:∀k,k<w.heap.size->S k->S' k):OwnX C S' w base v xs:=by
 obtain⟨aW,hl,h2,h3⟩:=h;exact⟨aW,hl,h2,fun i i1 i2=>ok.mono (h3 i i1 i2) fun k hk hs=>⟨hm k hk hs.1,hs.2⟩⟩
theorem OwnX.low{base':Nat}(h:OwnX C S w base v xs)(hb:base'<=base):OwnX C S w base' v xs:=by
 obtain⟨aW,hl,h2,h3⟩:=h;exact⟨aW,hl,h2.low hb,h3⟩
theorem OwnX.app(ok:CtOk C){g' cap:Nat}{aW:List (List Au)}{x:α}{cs:List Au}(hl:aW.length=xs.length)(h3:∀(i:Nat) (h1:i<aW.length) (h2:i<xs.length),C.lies (fun k=>S k/\v.ownBlock≠J k) w aW[i] xs[i])
  (hx:C.lies (fun k=>S k/\v.ownBlock≠J k) w cs x) (hr:OwnR C.K w' base (I (J ⟨g',0,Z⟩) (xs.length+1) cap) (xs.length+1) (aW.flatten++cs)) (hg:w.grownBy w' v.ownBlock) (aI:v.ownBlock=J g'\/g'=w.heap.size) :
  OwnX C S w' base (I (J ⟨g',0,Z⟩) (xs.length+1) cap) (xs++[x]):=by
 have go:∀ {cs x},C.lies (fun k=>S k/\v.ownBlock≠J k) w cs x->C.lies (fun k=>S k/\(I (J ⟨g',0,Z⟩) (xs.length+1) cap).ownBlock≠J k) w' cs x:=fun h=>by
  have h1:=ok.mono (S':=fun k=>S k/\v.ownBlock≠J k/\g'≠k) h fun k hk hs=>⟨hs.1,hs.2,by
   rcases aI with e | e
   . rintro rfl;exact hs.2 e
   . omega⟩
  have h2:=ok.keep h1 (KeepB.of_grown hg fun k hk hs=>hs.2.1 hk);exact ok.mono h2 fun k _ hs=>⟨hs.1,fun e=>hs.2.2 (by simpa[Value.ownBlock] using e)⟩
 refine⟨aW++[cs],by simp[hl],by simpa using hr,fun i i1 i2=>?_⟩
 by_cases hi:i<aW.length
 . have h2:i<xs.length:=by omega
   rw[Pr hi,Pr h2];exact go (h3 i hi h2)
 have e1:i=aW.length:=by simp at i1;omega
 subst e1;rw[NU (Ld _),NU (by omega)];simpa[hl] using go hx
theorem OwnX.form(ok:CtOk C)(h:OwnX C S w base v xs):∃A cap,v=I A xs.length cap/\xs.length<=cap/\cap<=maxLen/\(0<xs.length->∃g,A=J ⟨g,0,Z⟩/\base<=g/\g<w.heap.size /\
  ∀(i:Nat) (h2:i<xs.length),∃cs,C.lies (fun k=>S k/\k≠g) w cs xs[i]/\∀j u,cs[j]?=J u->w.cell? ⟨g,i*C.K.size+j,Z⟩=J u):=by
 obtain⟨aW,hl,h2,h3⟩:=h;have hlt:=h2.lt;obtain⟨A,cap,rfl,hc,hm,hr⟩:=h2.form;refine⟨A,cap,rfl,hc,hm,fun h0=>?_⟩;obtain⟨g,rfl,hg,dC,aA⟩:=hr h0;refine⟨g,rfl,(hlt g hg).1,dC,fun i hi=>?_⟩;have Wv:i<aW.length:=by omega
 refine⟨aW[i],ok.mono (h3 i Wv hi) fun k _ hs=>⟨hs.1,fun e=>hs.2 (by rw[hg,e])⟩,fun j u hu=>?_⟩
 have bN:∀c∈aW,c.length=C.K.size:=fun c hc=>by
  obtain⟨m,hm,rfl⟩:=LT hc;exact ok.len (h3 m hm (by omega))
 have cc:j<C.K.size:=by
  have:=(Lq.1 hu).1;rw[bN _ (Lh Wv)] at this;exact this
 exact aA _ u (by rw[ZD aW bN i Wv j cc];exact hu)
end
end
section
open Go.RowKit
def Own(w:Ba)(base:Nat)(v:Au)(xs:List Int):Prop:=w.ownsRow base 3 1 v xs.length (xs.map (O U))
theorem Own.nil(w:Ba)(base:Nat):Own w base (I Z 0 0) []:=Rh w base _ 1
theorem Own.kept{w w':Ba}{base:Nat}{v:Au}{xs:List Int}{row:Option Nat}(h:Own w base v xs)(hg:w.grownBy w' row)(az:v.ownBlock=Z\/v.ownBlock≠row):Own w' base v xs:=Pw h hg az
theorem Own.alloc{w:Ba}{base:Nat}{v:Au}{xs:List Int}(h:Own w base v xs)(o:Obj):Own (w.alloc o) base v xs:=PH h o
theorem Own.below{w w':Ba}{base B:Nat}{v:Au}{xs:List Int}(h:Own w base v xs)(hb:Am B w w')(hB:w.heap.size<=B):Own w' base v xs:=
 Pw (row:=Z) h ⟨hb.os,hb.tape,hb.output,hb.size,fun k hk _=>hb.block k (by omega)⟩ (by cases v.ownBlock<;>simp)
theorem Own.shut{w w':Ba}{base B:Nat}{v:Au}{xs:List Int}(h:Own w base v xs)(hs:Shut B w w'):Own w' base v xs:=hs.own h
theorem Own.form{w:Ba}{base:Nat}{v:Au}{xs:List Int}(h:Own w base v xs):∃A cap,v=I A xs.length cap/\xs.length<=cap/\cap<=maxLen/\IAt w w.heap.size A xs:=by
 rcases h.2 with ⟨rfl,h0⟩ | ⟨g,cap,cur,rfl,_,_,cG,iJ,_⟩
 . have:xs=[]:=LJ h0
   subst this;exact⟨Z,0,rfl,Ld _,Ni _,IAt.nil _ _ _⟩
 exact⟨_,_,rfl,cG,iJ,IAt.of_own h⟩
theorem Own.low{w:Ba}{base base':Nat}{v:Au}{xs:List Int}(h:Own w base v xs)(hb:base'<=base):Own w base' v xs:=by
 refine⟨h.1,?_⟩;rcases h.2 with h2 | ⟨g,cap,cur,hv,hg,r⟩
 . exact Or.inl h2
 exact Or.inr ⟨g,cap,cur,hv,by omega,r⟩
theorem Own.lt{w:Ba}{base:Nat}{v:Au}{xs:List Int}(h:Own w base v xs):∀k,v.ownBlock=J k->base<=k/\k<w.heap.size:=Ry h
theorem Yp:(Al.info? 3).map (fun i=>(i.zero,i.size,i.bytes))=J (J (O U 0),1,8):=by kernel_rfl
theorem xd{w w':Ba}{o:Obj}{row:Option Nat}(h:(w.alloc o).grownBy w' row):w.grownBy w' row:=
 ⟨h.os,h.tape,h.output,Lu (by simp) h.size,fun k hk az=>(h.block k (by simp;omega) az).trans (Nj w o k hk)⟩
theorem jL{aq:Array Oper}{rest:List Oper}{o:Oper}{a:Act}{Q:Exit->Act->Ba->Prop}{W:Ba}(iI:o.guard=Z)(s x:Operand)
  (bZ:o.op=.call { callee:=.builtin .append,args:=#[s,x],argTypes:=#[50,50] }) (base:Nat) (v:Au) (xs:List Int) (u:Int) (hs:a.eval s=v) (aU:Own W base v xs)
  (hx:a.eval x=I (J ⟨W.heap.size,0,Z⟩) 1 1) (ay:xs.length<8796093022208) (hb:base<=W.heap.size)
  (h:∀v' w1,Own w1 base v' (xs++[u])->W.grownBy w1 v.ownBlock->Am base W w1->wpList Al aq Q rest (a.put o.dst v') w1) :
  wpList Al aq Q (o::rest) a (W.alloc (Ag #[O U u] 3)):=by
 obtain⟨i0,hi,dx,ce,dI⟩:=RH Yp
 refine Pk _ iI s x 50 bZ base 3 i0 (O U 0) 1 8 Nn hi dx ce dI rfl (by decide) v xs.length _ hs (PH aU _) ⟨W.heap.size,0,Z⟩ 1 1 [O U u] hx rfl (cell_one_new _ _ _)
  (by simp[Value.oneCell']) (by unfold maxLen;omega) (by omega) (by simp;omega) ?_
 intro v' w1 cA bK _;have hg:=xd bK;refine h v' w1 ?_ hg ((Ll base W).grown hg hb fun k hk=>(aU.lt k hk).1);unfold Own;rw[Lr,LF];exact cA
theorem vD{F:Fence}{n:Nat}{aq:Array Oper}{rest:List Oper}{o:Oper}{a:Act}{Q:Exit->Act->Ba->Prop}{W:Ba}(iI:o.guard=Z)(s x:Operand)
  (bZ:o.op=.call { callee:=.builtin .append,args:=#[s,x],argTypes:=#[50,50] }) (base:Nat) (v:Au) (xs:List Int) (u:Int) (hs:a.eval s=v) (aU:Own W base v xs)
  (hx:a.eval x=I (J ⟨W.heap.size,0,Z⟩) 1 1) (ay:xs.length<8796093022208) (hb:base<=W.heap.size)
  (h:∀v' w1,Own w1 base v' (xs++[u])->W.grownBy w1 v.ownBlock->Am base W w1->wpListIn F n Al aq Q rest (a.put o.dst v') w1) :
  wpListIn F n Al aq Q (o::rest) a (W.alloc (Ag #[O U u] 3)):=by
 obtain⟨i0,hi,dx,ce,dI⟩:=RH Yp
 refine wpListIn_append_own _ iI s x 50 bZ base 3 i0 (O U 0) 1 8 Nn hi dx ce dI rfl (by decide) v xs.length _ hs (PH aU _) ⟨W.heap.size,0,Z⟩ 1 1 [O U u] hx rfl (cell_one_new _ _ _)
  (by simp[Value.oneCell']) (by unfold maxLen;omega) (by omega) (by simp;omega) ?_
 intro v' w1 cA bK _;have hg:=xd bK;refine h v' w1 ?_ hg ((Ll base W).grown hg hb fun k hk=>(aU.lt k hk).1);unfold Own;rw[Lr,LF];exact cA
def RowAt(w:Ba)(g:Nat)(xs:List Int):Prop:=w.heap[g]?=J (Ag (xs.map (O U)).toArray 3 (0,0))
theorem RowAt.cell{w:Ba}{g:Nat}{xs:List Int}(h:RowAt w g xs)(k:Nat)(hk:k<xs.length):w.cell? ⟨g,k,Z⟩=J (O U xs[k]):=zh h k (by simp[hk])
theorem RowAt.froz{w:Ba}{g:Nat}{xs:List Int}(h:RowAt w g xs)(k:Nat):w.frozen? ⟨g,k,Z⟩=Aw:=zi h k
theorem RowAt.lt{w:Ba}{g:Nat}{xs:List Int}(h:RowAt w g xs):g<w.heap.size:=zj h
theorem RowAt.set{w:Ba}{g:Nat}{xs:List Int}(h:RowAt w g xs)(k:Nat)(u:Int):RowAt (w.setCell ⟨g,k,Z⟩ (O U u)) g (xs.set k u):=by
 unfold RowAt at *;rw[World.setCell,PT,Lj rfl,h];simp[List.map_set]
theorem zn(w:Ba)(c1:Array Au)(t1:TypeId):∃W0,w.alloc (Ag c1 t1)=W0/\W0.heap[w.heap.size]?=J (Ag c1 t1 (0,0))/\W0.heap.size=w.heap.size+1/\Am w.heap.size w W0:=
 ⟨_,rfl,zx _ _,by simp,zW w _⟩
theorem zV(w:Ba)(g k:Nat)(v':Au):w.grownBy (w.setCell ⟨g,k,Z⟩ v') (J g):=
 ⟨rfl,rfl,rfl,by simp[World.setCell],fun j _ hj=>Le w ⟨g,k,Z⟩ v' j (fun e=>hj (by rw[e]))⟩
def kRd:Kd:=⟨76,124,7,56,Ai #[O U 0,O U 0,O U 0,O U 0,O U 0,O U 0,O U 0]⟩
theorem Qo:KdOk Al kRd:=⟨Rb,by kernel_rfl,by rfl,by decide,by decide⟩
def kMv:Kd:=⟨78,79,8,64,Ai #[O U 0,O U 0,O U 0,O U 0,O U 0,O U 0,O U 0,O U 0]⟩
theorem kMv_ok:KdOk Al kMv:=⟨Rl,by kernel_rfl,by rfl,by decide,by decide⟩
def kWd:Kd:=⟨124,113,1,24,I Z 0 0⟩
theorem kWd_ok:KdOk Al kWd:=⟨underlying113,by kernel_rfl,by rfl,by decide,by decide⟩
def kIs:Kd:=⟨50,69,1,24,I Z 0 0⟩
theorem Qp:KdOk Al kIs:=⟨underlying69,by kernel_rfl,by rfl,by decide,by decide⟩
def kMl:Kd:=⟨79,25,1,24,I Z 0 0⟩
theorem kMl_ok:KdOk Al kMl:=⟨Rp,by kernel_rfl,by rfl,by decide,by decide⟩
def kCs:Kd:=⟨71,22,3,72,Ai #[I Z 0 0,I Z 0 0,I Z 0 0]⟩
theorem kCs_ok:KdOk Al kCs:=⟨Rq,by kernel_rfl,by rfl,by decide,by decide⟩
def kXn:Kd:=⟨128,37,3,56,Ai #[O U 0,I Z 0 0,I Z 0 0]⟩
theorem kXn_ok:KdOk Al kXn:=⟨underlying37,by kernel_rfl,by rfl,by decide,by decide⟩
def kIn:Kd:=⟨3,50,1,8,O U 0⟩
theorem ud:KdOk Al kIn:=⟨Nn,by kernel_rfl,by rfl,by decide,by decide⟩
def kVw:Kd:=⟨133,34,8,64,Ai #[O U 0,O U 0,O U 0,O U 0,O U 0,O U 0,O U 0,O U 0]⟩
theorem kVw_ok:KdOk Al kVw:=⟨Rn,by kernel_rfl,by rfl,by decide,by decide⟩
def RetR(K:Kd)(n:Nat)(cs:List Au)(w:Ba)(e:Ending)(w':Ba):Prop:=∃v,e=Ak v/\OwnR K w' w.heap.size v n cs/\Am w.heap.size w w'
theorem XG(A:Bb)(n cap:Nat)(cs:List Au)(w:Ba)(hl:cs.length=n*7)(hA:Raw w A n cs)(h1:∀u∈cs,u.oneCell'=Av)(hn:n<=1000000) :
  An Al 52 #[I A n cap] w (RetR kRd n cs w):=by
 have HT:=zH hA;have H1:=zH h1;have HL:=zH hl;have q:∀(w:Ba) (a:Bb) (n c n' c':Nat),(binOp .eql 124 (I a n c) (I Z n' c')).run Al w=.ok (Ah a.isNone) w:=fun w a n c n' c'=>Ph w _ _ a n c n' c' Rb
 obtain⟨i0,hi,dx,ce,dI⟩:=yT Qo
 cases A with
 | none=>
  have mV:n=0:=by
   rcases NC n with h | h
   . exact h
   . obtain⟨b,off,e,_⟩:=HT.out h;cases e
  subst mV;have bN:cs=[]:=LJ (by have:=HL.out;omega);subst bN;go_enter func52,ntmps52;go_wp2;go_ret;exact⟨_,rfl,OwnR.nil _ _ _,Ll _ _⟩
 | some ad=>
  have HC:As (∀(j:Nat) (u:Au),cs[j]?=J u->(w.alloc (Ag #[] 76)).cell? (ad.add j)=J u):=fun j u hj=>by
   have cc:j<n*7:=by rw[<-HL.out];exact(Lq.1 hj).1
   obtain⟨b,off,e,hlt,hc⟩:=HT.out (by omega)
   cases e
   rw[NR];exact Pq _ (hc j u hj)
  go_enter func52,ntmps52;go_wp2_with (at_builtin;refine Pk _ rfl _ _ 124 rfl w.heap.size 76 i0 _ 7 56 Rb hi dx ce dI rfl (by decide) _ _ _ rfl (Pv w #[] 0 (Ld _) (Ni _) rfl) ad n cap cs rfl HL.out HC.out H1.out ?qc4 ?qc5 ?qc6 ?_)
  case qc4=>unfold maxLen;omega
  case qc5=>omega
  case qc6=>simp
  intro v' w1 aU bK pN;go_wp2;go_ret;refine⟨v',rfl,aU,?_⟩;exact((Ll _ w).alloc (Ld _) _).grown bK (by simp) (by intro k hk;simp[Value.ownBlock] at hk;omega)
theorem clone_kCs(A:Bb)(n cap:Nat)(cs:List Au)(w:Ba)(hl:cs.length=n*3)(hA:Raw w A n cs)(h1:∀u∈cs,u.oneCell'=Av)(hn:n<=1000000) :
  An Al 87 #[I A n cap] w (RetR kCs n cs w):=by
 have HT:=zH hA;have H1:=zH h1;have HL:=zH hl;have q:∀(w:Ba) (a:Bb) (n c n' c':Nat),(binOp .eql 22 (I a n c) (I Z n' c')).run Al w=.ok (Ah a.isNone) w:=fun w a n c n' c'=>Ph w _ _ a n c n' c' Rq
 obtain⟨i0,hi,dx,ce,dI⟩:=yT kCs_ok
 cases A with
 | none=>
  have mV:n=0:=by
   rcases NC n with h | h
   . exact h
   . obtain⟨b,off,e,_⟩:=HT.out h;cases e
  subst mV;have bN:cs=[]:=LJ (by have:=HL.out;omega);subst bN;go_enter func87,ntmps87;go_wp2;go_ret;exact⟨_,rfl,OwnR.nil _ _ _,Ll _ _⟩
 | some ad=>
  have HC:As (∀(j:Nat) (u:Au),cs[j]?=J u->(w.alloc (Ag #[] 71)).cell? (ad.add j)=J u):=fun j u hj=>by
   have cc:j<n*3:=by rw[<-HL.out];exact(Lq.1 hj).1
   obtain⟨b,off,e,hlt,hc⟩:=HT.out (by omega)
   cases e
   rw[NR];exact Pq _ (hc j u hj)
  go_enter func87,ntmps87;go_wp2_with (at_builtin;refine Pk _ rfl _ _ 22 rfl w.heap.size 71 i0 _ 3 72 Rq hi dx ce dI rfl (by decide) _ _ _ rfl (Pv w #[] 0 (Ld _) (Ni _) rfl) ad n cap cs rfl HL.out HC.out H1.out ?qc4 ?qc5 ?qc6 ?_)
  case qc4=>unfold maxLen;omega
  case qc5=>omega
  case qc6=>simp
  intro v' w1 aU bK pN;go_wp2;go_ret;refine⟨v',rfl,aU,?_⟩;exact((Ll _ w).alloc (Ld _) _).grown bK (by simp) (by intro k hk;simp[Value.ownBlock] at hk;omega)
theorem clone_kMv(A:Bb)(n cap:Nat)(cs:List Au)(w:Ba)(hl:cs.length=n*8)(hA:Raw w A n cs)(h1:∀u∈cs,u.oneCell'=Av)(hn:n<=1000000) :
  An Al 90 #[I A n cap] w (RetR kMv n cs w):=by
 have HT:=zH hA;have H1:=zH h1;have HL:=zH hl;have q:∀(w:Ba) (a:Bb) (n c n' c':Nat),(binOp .eql 79 (I a n c) (I Z n' c')).run Al w=.ok (Ah a.isNone) w:=fun w a n c n' c'=>Ph w _ _ a n c n' c' Rl
 obtain⟨i0,hi,dx,ce,dI⟩:=yT kMv_ok
 cases A with
 | none=>
  have mV:n=0:=by
   rcases NC n with h | h
   . exact h
   . obtain⟨b,off,e,_⟩:=HT.out h;cases e
  subst mV;have bN:cs=[]:=LJ (by have:=HL.out;omega);subst bN;go_enter func90,ntmps90;go_wp2;go_ret;exact⟨_,rfl,OwnR.nil _ _ _,Ll _ _⟩
 | some ad=>
  have HC:As (∀(j:Nat) (u:Au),cs[j]?=J u->(w.alloc (Ag #[] 78)).cell? (ad.add j)=J u):=fun j u hj=>by
   have cc:j<n*8:=by rw[<-HL.out];exact(Lq.1 hj).1
   obtain⟨b,off,e,hlt,hc⟩:=HT.out (by omega)
   cases e
   rw[NR];exact Pq _ (hc j u hj)
  go_enter func90,ntmps90;go_wp2_with (at_builtin;refine Pk _ rfl _ _ 79 rfl w.heap.size 78 i0 _ 8 64 Rl hi dx ce dI rfl (by decide) _ _ _ rfl (Pv w #[] 0 (Ld _) (Ni _) rfl) ad n cap cs rfl HL.out HC.out H1.out ?qc4 ?qc5 ?qc6 ?_)
  case qc4=>unfold maxLen;omega
  case qc5=>omega
  case qc6=>simp
  intro v' w1 aU bK pN;go_wp2;go_ret;refine⟨v',rfl,aU,?_⟩;exact((Ll _ w).alloc (Ld _) _).grown bK (by simp) (by intro k hk;simp[Value.ownBlock] at hk;omega)
theorem clone_kMl(A:Bb)(n cap:Nat)(cs:List Au)(w:Ba)(hl:cs.length=n*1)(hA:Raw w A n cs)(h1:∀u∈cs,u.oneCell'=Av)(hn:n<=1000000) :
  An Al 89 #[I A n cap] w (RetR kMl n cs w):=by
 have HT:=zH hA;have H1:=zH h1;have HL:=zH hl;have q:∀(w:Ba) (a:Bb) (n c n' c':Nat),(binOp .eql 25 (I a n c) (I Z n' c')).run Al w=.ok (Ah a.isNone) w:=fun w a n c n' c'=>Ph w _ _ a n c n' c' Rp
 obtain⟨i0,hi,dx,ce,dI⟩:=yT kMl_ok
 cases A with
 | none=>
  have mV:n=0:=by
   rcases NC n with h | h
   . exact h
   . obtain⟨b,off,e,_⟩:=HT.out h;cases e
  subst mV;have bN:cs=[]:=LJ (by have:=HL.out;omega);subst bN;go_enter func89,ntmps89;go_wp2;go_ret;exact⟨_,rfl,OwnR.nil _ _ _,Ll _ _⟩
 | some ad=>
  have HC:As (∀(j:Nat) (u:Au),cs[j]?=J u->(w.alloc (Ag #[] 79)).cell? (ad.add j)=J u):=fun j u hj=>by
   have cc:j<n*1:=by rw[<-HL.out];exact(Lq.1 hj).1
   obtain⟨b,off,e,hlt,hc⟩:=HT.out (by omega)
   cases e
   rw[NR];exact Pq _ (hc j u hj)
  go_enter func89,ntmps89;go_wp2_with (at_builtin;refine Pk _ rfl _ _ 25 rfl w.heap.size 79 i0 _ 1 24 Rp hi dx ce dI rfl (by decide) _ _ _ rfl (Pv w #[] 0 (Ld _) (Ni _) rfl) ad n cap cs rfl HL.out HC.out H1.out ?qc4 ?qc5 ?qc6 ?_)
  case qc4=>unfold maxLen;omega
  case qc5=>omega
  case qc6=>simp
  intro v' w1 aU bK pN;go_wp2;go_ret;refine⟨v',rfl,aU,?_⟩;exact((Ll _ w).alloc (Ld _) _).grown bK (by simp) (by intro k hk;simp[Value.ownBlock] at hk;omega)
theorem XH(A:Bb)(n cap:Nat)(cs:List Au)(w:Ba)(hl:cs.length=n*1)(hA:Raw w A n cs)(h1:∀u∈cs,u.oneCell'=Av)(hn:n<=1000000) :
  An Al 80 #[I A n cap] w (RetR kIn n cs w):=by
 have HT:=zH hA;have H1:=zH h1;have HL:=zH hl;have q:∀(w:Ba) (a:Bb) (n c n' c':Nat),(binOp .eql 50 (I a n c) (I Z n' c')).run Al w=.ok (Ah a.isNone) w:=fun w a n c n' c'=>Ph w _ _ a n c n' c' Nn
 obtain⟨i0,hi,dx,ce,dI⟩:=yT ud
 cases A with
 | none=>
  have mV:n=0:=by
   rcases NC n with h | h
   . exact h
   . obtain⟨b,off,e,_⟩:=HT.out h;cases e
  subst mV;have bN:cs=[]:=LJ (by have:=HL.out;omega);subst bN;go_enter func80,ntmps80;go_wp2;go_ret;exact⟨_,rfl,OwnR.nil _ _ _,Ll _ _⟩
 | some ad=>
  have HC:As (∀(j:Nat) (u:Au),cs[j]?=J u->(w.alloc (Ag #[] 3)).cell? (ad.add j)=J u):=fun j u hj=>by
   have cc:j<n*1:=by rw[<-HL.out];exact(Lq.1 hj).1
   obtain⟨b,off,e,hlt,hc⟩:=HT.out (by omega)
   cases e
   rw[NR];exact Pq _ (hc j u hj)
  go_enter func80,ntmps80;go_wp2_with (at_builtin;refine Pk _ rfl _ _ 50 rfl w.heap.size 3 i0 _ 1 8 Nn hi dx ce dI rfl (by decide) _ _ _ rfl (Pv w #[] 0 (Ld _) (Ni _) rfl) ad n cap cs rfl HL.out HC.out H1.out ?qc4 ?qc5 ?qc6 ?_)
  case qc4=>unfold maxLen;omega
  case qc5=>omega
  case qc6=>simp
  intro v' w1 aU bK pN;go_wp2;go_ret;refine⟨v',rfl,aU,?_⟩;exact((Ll _ w).alloc (Ld _) _).grown bK (by simp) (by intro k hk;simp[Value.ownBlock] at hk;omega)
end
section
open Go.RowKit
def yQ(vs:List Rd):List Au:=vs.flatMap fun x=>x.cells.toList
theorem vM(vs us:List Rd):yQ (vs++us)=yQ vs++yQ us:=by simp[yQ]
theorem xJ(vs:List Rd):(yQ vs).length=vs.length*7:=by
 induction vs with
 | nil=>rfl
 | cons v vs ih=>simp only[yQ,List.flatMap_cons,List.length_append,List.length_cons] at *;rw[ih];simp[Rd.cells];omega
theorem wn:∀(vs:List Rd) (i:Nat) (hi:i<vs.length) (k:Nat),k<7->(yQ vs)[i*7+k]?=vs[i].cells[k]?
 | v::vs,0,hi,k,hk=>by
  simp only[yQ,List.flatMap_cons,List.getElem_cons_zero,Nat.zero_mul,Nat.zero_add];rw[LC (by simp[Rd.cells];omega)];simp
 | v::vs,i+1,hi,k,hk=>by
  have:=wn vs i (by simpa using hi) k hk;simp only[yQ,List.flatMap_cons,List.getElem_cons_succ] at *;rw[Ly (by simp[Rd.cells];omega),<-this]
  congr 1
  simp[Rd.cells];omega
theorem vY(vs:List Rd):∀u∈yQ vs,u.oneCell'=Av:=by
 intro u hu;obtain⟨v,_,hv⟩:=Nw.1 hu;simp only[Rd.cells,List.mem_cons,List.not_mem_nil,or_false] at hv;rcases hv with rfl | rfl | rfl | rfl | rfl | rfl | rfl<;>rfl
theorem Yb{w:Ba}{A:Bb}{vs:List Rd}(h:RAt w w.heap.size A vs):Raw w A vs.length (yQ vs):=fun h0=>by
 obtain⟨b,off,e,hlt,hc⟩:=h h0;refine⟨b,off,e,hlt,fun j u hj=>?_⟩;have hj8:j<vs.length*7:=by have:=(Lq.1 hj).1;rwa[xJ] at this
 have iV:j / 7<vs.length:=by omega
 have h8:j / 7*7+j % 7=j:=by omega
 rw[<-h8,wn vs (j / 7) iV (j % 7) (by omega)] at hj;have:=hc (j / 7) iV (j % 7) u hj;rwa[PJ,h8] at this
theorem vX{w:Ba}{base:Nat}{v:Au}{vs:List Rd}(h:OwnR kRd w base v vs.length (yQ vs)):∃A cap,v=I A vs.length cap/\vs.length<=cap/\cap<=maxLen/\RAtS (fun k=>base<=k) w A vs:=by
 have hlt:=h.lt;obtain⟨A,cap,rfl,hc,hm,hr⟩:=h.form;refine⟨A,cap,rfl,hc,hm,fun h0=>?_⟩;obtain⟨g,rfl,hg,dC,aA⟩:=hr h0;refine⟨g,0,rfl,(hlt g hg).1,dC,fun i hi k u hu=>?_⟩;have hk:k<7:=by have:=(Ln.1 hu).1;simpa[Rd.cells] using this
 rw[LI];exact aA _ u (by rw[wn vs i hi k hk];exact hu)
def kR(vs:List Mv):List Au:=vs.flatMap fun x=>x.cells.toList
theorem vP(vs:List Mv):(kR vs).length=vs.length*8:=by
 induction vs with
 | nil=>rfl
 | cons v vs ih=>simp only[kR,List.flatMap_cons,List.length_append,List.length_cons] at *;rw[ih];simp[Mv.cells];omega
theorem wM:∀(vs:List Mv) (i:Nat) (hi:i<vs.length) (k:Nat),k<8->(kR vs)[i*8+k]?=vs[i].cells[k]?
 | v::vs,0,hi,k,hk=>by
  simp only[kR,List.flatMap_cons,List.getElem_cons_zero,Nat.zero_mul,Nat.zero_add];rw[LC (by simp[Mv.cells];omega)];simp
 | v::vs,i+1,hi,k,hk=>by
  have:=wM vs i (by simpa using hi) k hk;simp only[kR,List.flatMap_cons,List.getElem_cons_succ] at *;rw[Ly (by simp[Mv.cells];omega),<-this]
  congr 1
  simp[Mv.cells];omega
theorem mcells_one(vs:List Mv):∀u∈kR vs,u.oneCell'=Av:=by
 intro u hu;obtain⟨v,_,hv⟩:=Nw.1 hu;simp only[Mv.cells,List.mem_cons,List.not_mem_nil,or_false] at hv;rcases hv with rfl | rfl | rfl | rfl | rfl | rfl | rfl | rfl<;>rfl
theorem mcells_raw{w:Ba}{A:Bb}{vs:List Mv}(h:MAt w w.heap.size A vs):Raw w A vs.length (kR vs):=fun h0=>by
 obtain⟨b,off,e,hlt,hc⟩:=h h0;refine⟨b,off,e,hlt,fun j u hj=>?_⟩;have hj8:j<vs.length*8:=by have:=(Lq.1 hj).1;rwa[vP] at this
 have iV:j / 8<vs.length:=by omega
 have h8:j / 8*8+j % 8=j:=by omega
 rw[<-h8,wM vs (j / 8) iV (j % 8) (by omega)] at hj;have:=hc (j / 8) iV (j % 8) u hj;rwa[PJ,h8] at this
theorem mcells_own{w:Ba}{base:Nat}{v:Au}{vs:List Mv}(h:OwnR kMv w base v vs.length (kR vs)):∃A cap,v=I A vs.length cap/\vs.length<=cap/\cap<=maxLen/\MAtS (fun k=>base<=k) w A vs:=by
 have hlt:=h.lt;obtain⟨A,cap,rfl,hc,hm,hr⟩:=h.form;refine⟨A,cap,rfl,hc,hm,fun h0=>?_⟩;obtain⟨g,rfl,hg,dC,aA⟩:=hr h0;refine⟨g,0,rfl,(hlt g hg).1,dC,fun i hi k u hu=>?_⟩;have hk:k<8:=by have:=(Ln.1 hu).1;simpa[Mv.cells] using this
 rw[LI];exact aA _ u (by rw[wM vs i hi k hk];exact hu)
def cIs:Ct (List Int):=⟨kIs,fun S w cs xs=>∃A c,cs=[I A xs.length c]/\IAtS S w A xs⟩
theorem yV:CtOk cIs where
 len:=fun ⟨A,c,e,_⟩=>by rw[e];rfl
 one:=fun ⟨A,c,e,_⟩ u hu=>by rw[e] at hu;simp at hu;subst hu;rfl
 keep:=fun ⟨A,c,e,h⟩ hk=>⟨A,c,e,h.keep hk⟩
 keepC:=fun ⟨A,c,e,h⟩ hk=>⟨A,c,e,h.keepC hk⟩
 mono:=fun ⟨A,c,e,h⟩ hm=>⟨A,c,e,h.mono hm⟩
def cWd:Ct (List Rd):=⟨kWd,fun S w cs xs=>∃A c,cs=[I A xs.length c]/\RAtS S w A xs/\xs.length<=c⟩
theorem qz:CtOk cWd where
 len:=fun ⟨A,c,e,_⟩=>by rw[e];rfl
 one:=fun ⟨A,c,e,_⟩ u hu=>by rw[e] at hu;simp at hu;subst hu;rfl
 keep:=fun ⟨A,c,e,h,hc⟩ hk=>⟨A,c,e,h.keep hk,hc⟩
 keepC:=fun ⟨A,c,e,h,hc⟩ hk=>⟨A,c,e,h.keepC hk,hc⟩
 mono:=fun ⟨A,c,e,h,hc⟩ hm=>⟨A,c,e,h.mono hm,hc⟩
def cMl:Ct (List Mv):=⟨kMl,fun S w cs xs=>∃A c,cs=[I A xs.length c]/\MAtS S w A xs⟩
theorem kG:CtOk cMl where
 len:=fun ⟨A,c,e,_⟩=>by rw[e];rfl
 one:=fun ⟨A,c,e,_⟩ u hu=>by rw[e] at hu;simp at hu;subst hu;rfl
 keep:=fun ⟨A,c,e,h⟩ hk=>⟨A,c,e,h.keep hk⟩
 keepC:=fun ⟨A,c,e,h⟩ hk=>⟨A,c,e,h.keepC hk⟩
 mono:=fun ⟨A,c,e,h⟩ hm=>⟨A,c,e,h.mono hm⟩
def cCs:Ct Cs:=⟨kCs,fun S w cs x=>∃A0 c0 A1 c1 A2 c2,cs=[I A0 x.inp.length c0,I A1 x.out.length c1,I A2 x.calm.length c2]/\IAtS S w A0 x.inp/\LAtS S w A1 x.out/\LAtS S w A2 x.calm⟩
theorem qg:CtOk cCs where
 len:=fun ⟨A0,c0,A1,c1,A2,c2,e,_⟩=>by rw[e];rfl
 one:=fun ⟨A0,c0,A1,c1,A2,c2,e,_⟩ u hu=>by rw[e] at hu;simp at hu;rcases hu with rfl | rfl | rfl<;>rfl
 keep:=fun ⟨A0,c0,A1,c1,A2,c2,e,h0,h1,h2⟩ hk=>⟨A0,c0,A1,c1,A2,c2,e,h0.keep hk,h1.keep hk,h2.keep hk⟩
 keepC:=fun ⟨A0,c0,A1,c1,A2,c2,e,h0,h1,h2⟩ hk=>⟨A0,c0,A1,c1,A2,c2,e,h0.keepC hk,h1.keepC hk,h2.keepC hk⟩
 mono:=fun ⟨A0,c0,A1,c1,A2,c2,e,h0,h1,h2⟩ hm=>⟨A0,c0,A1,c1,A2,c2,e,h0.mono hm,h1.mono hm,h2.mono hm⟩
section
variable {S:Nat->Prop} {w:Ba} {base:Nat} {v:Au}
theorem YI{xs:List (List Rd)}(h:OwnX cWd S w base v xs):∃A cap,v=I A xs.length cap/\xs.length<=cap/\cap<=maxLen/\WAt w w.heap.size A xs:=by
 obtain⟨A,cap,e,h1,h2,h3⟩:=h.form qz;refine⟨A,cap,e,h1,h2,fun h0=>?_⟩;obtain⟨g,rfl,_,hg,hc⟩:=h3 h0;refine⟨g,0,rfl,hg,fun i hi=>?_⟩;obtain⟨cs,⟨A',c',rfl,hl,_⟩,al⟩:=hc i hi;refine⟨A',c',?_,hl.rat⟩;have:=al 0 _ rfl;rw[LI];rwa[show i*cWd.K.size+0=i by show i*1+0=i;omega] at this
theorem JO{xs:List (List Int)}(h:OwnX cIs S w base v xs):∃A cap,v=I A xs.length cap/\xs.length<=cap/\cap<=maxLen/\LAtS (fun k=>S k\/base<=k) w A xs:=by
 obtain⟨A,cap,e,h1,h2,h3⟩:=h.form yV;refine⟨A,cap,e,h1,h2,fun h0=>?_⟩;obtain⟨g,rfl,hb,hg,hc⟩:=h3 h0;refine⟨g,0,rfl,.inr hb,hg,fun i hi=>?_⟩;obtain⟨cs,⟨A',c',rfl,hl⟩,al⟩:=hc i hi;refine⟨A',c',?_,hl.mono fun k _ hs=>.inl hs.1⟩;have:=al 0 _ rfl;rw[LI];rwa[show i*cIs.K.size+0=i by show i*1+0=i;omega] at this
theorem XM{xs:List (List Int)}(h:OwnX cIs S w base v xs):∃A cap,v=I A xs.length cap/\xs.length<=cap/\cap<=maxLen/\LAtS (fun k=>S k\/v.ownBlock=J k) w A xs:=by
 obtain⟨A,cap,e,h1,h2,h3⟩:=h.form yV;refine⟨A,cap,e,h1,h2,fun h0=>?_⟩;obtain⟨g,rfl,hb,hg,hc⟩:=h3 h0;refine⟨g,0,rfl,.inr (by rw[e];rfl),hg,fun i hi=>?_⟩;obtain⟨cs,⟨A',c',rfl,hl⟩,al⟩:=hc i hi;refine⟨A',c',?_,hl.mono fun k _ hs=>.inl hs.1⟩;have:=al 0 _ rfl;rw[LI];rwa[show i*cIs.K.size+0=i by show i*1+0=i;omega] at this
end
end
end Go.Proofs.YtkmbdfdaffmhjaaGreat
