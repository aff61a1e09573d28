/- Merged. -/
import Derived.Test.YtkledihebeidlaaGreatDoorWe
import Derived.Laws.MakeOwn
import Derived.Lib.FrozenHead2
import Derived.Lib.OthersKept
import Derived.Lib.Builder
import Derived.Lib.AppendStr
import Derived.Laws.Externs
import Derived.BigRegion
open Go.Proofs.Tryz
open Go.Value renaming int->O,slice->I,bool->Ai,agg->Aj,pointer->Ak
open Go.IntKind renaming i64->U
open Option renaming none->Z,some->J
open Go.Obj renaming cells->Ah
open Go.Ending renaming returned->Am
open Go.Proofs.Tryz renaming prog->An,underlying88->Rt
open Go.RowKit renaming Below->Ao,intOf->Aq,Hid->As
open Go renaming Calls->Ap,Value->Au
open Bool renaming true->Av,false->Ax
open Go.RowKit.Below renaming setCell->Ls
open List renaming filter_append->N4,filter_cons->P4
open Go.Oper renaming upon_value->RK
open Go.Lib renaming cell_of_heap->P5
namespace Go.Proofs.YtkledihebeidlaaGreatDoor
abbrev Ps:=@List.length_filter_le
abbrev RP:=@List.setIfInBounds_toArray
abbrev PV:=@List.length_filterMap_le
set_option maxRecDepth 100000
set_option maxHeartbeats 4000000
section
open Go.RowKit
attribute [local go_sem] Oper.semAt_some
theorem num_many{p:Pb}(h:zC p=0):4096<uE p↔4096<zK p:=by
 obtain⟨cK,_⟩:=zJ h;obtain⟨h1,_⟩:=yt cK;have e:zK p=p.t.cases.length*zG p.a p.k.toNat 0:=by unfold zK;rw[Pd]
 rw[e];exact QL 4096 p.t.cases.length (zG p.a p.k.toNat 0) h1
theorem wE(p:Pb)(hf:xY p)(A:Bb)(kc:Nat)(SV:Bb)(ks:Nat)(w:Ba)(hA:CAt w w.heap.size A p.t.cases)(hS:SAt w w.heap.size SV p.a.sts) :
  Ap An 56 #[.agg (p.vs A kc SV ks)] w (RetSys (zD p) w):=by
 have HC:=zH (fun (w':Ba) (h1:CAt w' w'.heap.size A p.t.cases) (h2:SAt w' w'.heap.size SV p.a.sts)=>ue p hf.1 A kc SV ks w' h1 h2)
 have HN:=zH (fun (w':Ba) (h0:zC p=0) (h:SAt w' w'.heap.size SV p.a.sts)=>
  gV p hf.1 (yq hf.1.2 (zJ h0).2.1).1 (yq hf.1.2 (zJ h0).2.1).2.1 p.k.toNat 4096 (by have:=(zJ h0).2.2.2.1;omega) (by have:=(zJ h0).2.2.2.2;omega) (by decide) A kc SV ks w' h)
 have HB:=zH (fun (h0:zC p=0) (df:zK p<=60) (w':Ba) (h1:CAt w' w'.heap.size A p.t.cases) (h2:SAt w' w'.heap.size SV p.a.sts)=>built_any p hf h0 df A kc SV ks w' h1 h2);have pP:=zH (@xm p);have ip:=zH (@yW p);have Eu:=zH (@xr p);have Ew:=zH (@num_many p);have iI:=zH hf.2;obtain⟨R,hR⟩:=Kh (zD p);rw[hR] at pP ip Eu ⊢;obtain⟨w1,ah,d0,d1,bI,aB⟩:=zZ w (p.vs A kc SV ks) #[O U 0,O U 0,O U 0,I Z 0 0,O U 0,I Z 0 0,O U 0,O U 0,I Z 0 0,I Z 0 0] 29 36;have NK:=zH hA;have HSW:=zH hS;have HA:=zH ((hA.keep aB).more aB.size);have HS:=zH ((hS.keep aB).more aB.size);unfold Pb.vs at ah d0 ⊢;have aq:=zH ah;have bu:=zH d0;have bQ:=zH d1;have dC:=zH aB;obtain⟨p0,p1,p2,p3,p4,p5,p6,_⟩:=Kf d0;obtain⟨E,hE⟩:=Kh (zC p);have oo:=zH hE;rw[hE] at HC pP;obtain⟨M,hM⟩:=Kh (p.t.cases.length*yz 4096 (zG p.a p.k.toNat 0));have mz:As (uE p=M):=hM;rw[hM] at HN;clear ah d0 d1 aB hA hS hf hR hE hM;go_enter func56,ntmps56;go_wp2_with fail;rw[aq.out];go_wp2_with fail;refine(HC.out w1 HA.out HS.out).mono ?_;rintro e w2 ⟨rfl,af⟩;have B2:=zH (dC.out.trans (af.mono (by omega)));have GD:=zH ((HA.out.keep af).more af.size);have dg:=zH ((HS.out.keep af).more af.size);have dX:=af.size;have d0:=La af bu.out;have d1:=La af bQ.out;have eS:=zH d0;have ay:=zH d1;clear af HC aq bu bQ HA HS p0 p1 p2 p3 p4 p5 p6
 obtain⟨p0,p1,p2,p3,p4,p5,p6,_⟩:=Kf d0
 by_cases h0:E=0
 case neg=>
  have hR:=zH (pP.out h0);have e0:(E != 0)=Av:=by simpa using h0
  have y0:=za d1 0 rfl;have f0:=zb d1 0;have y1:=za d1 1 rfl;have f1:=zb d1 1;have y2:=za d1 2 rfl;have f2:=zb d1 2;have y3:=za d1 3 rfl;have f3:=zb d1 3;have y4:=za d1 4 rfl;have f4:=zb d1 4;have y5:=za d1 5 rfl;have f5:=zb d1 5;have y6:=za d1 6 rfl;have f6:=zb d1 6;have y7:=za d1 7 rfl;have f7:=zb d1 7;have y8:=za d1 8 rfl;have f8:=zb d1 8;have y9:=za d1 9 rfl;have f9:=zb d1 9;obtain⟨k1,k2,k3⟩:=xq (O U 0) (O U 0) (O U 0) (I Z 0 0) (O U 0) (I Z 0 0) (O U 0) (O U 0) (I Z 0 0) (I Z 0 0) d1 B2.out (by omega:w.heap.size<=w.heap.size+1);obtain⟨WF,cZ⟩:=Kh (((((((((((w2.setCell ⟨w.heap.size+1,0,Z⟩ (O U 0)).setCell ⟨w.heap.size+1,1,Z⟩ (O U 0)).setCell ⟨w.heap.size+1,2,Z⟩ (O U 0)).setCell ⟨w.heap.size+1,3,Z⟩ (I Z 0 0)).setCell ⟨w.heap.size+1,4,Z⟩ (O U 0)).setCell ⟨w.heap.size+1,5,Z⟩ (I Z 0 0)).setCell ⟨w.heap.size+1,6,Z⟩ (O U 0)).setCell ⟨w.heap.size+1,7,Z⟩ (O U 0)).setCell ⟨w.heap.size+1,8,Z⟩ (I Z 0 0)).setCell ⟨w.heap.size+1,9,Z⟩ (I Z 0 0)));rw[cZ] at k1 k2 k3;have mA:=zH k1;have lj:=zH k2;have rZ:=zH k3;have lf:=zH cZ;clear k1 k2 k3 cZ;clear ip Eu Ew HN HB iI h0 d0 d1;go_wp2_with fail;rw[lf.out];obtain⟨z0,z1,z2,z3,z4,z5,z6,z7,z8,z9⟩:=yg mA.out
  refine Na (v:=.tuple #[Aj #[O U 0,O U 0,O U 0,I Z 0 0,O U 0,I Z 0 0,O U 0,O U 0,I Z 0 0,I Z 0 0],O U E]) (by simp[results,results56,go_sem,z0,z1,z2,z3,z4,z5,z6,z7,z8,z9]) rfl ?_;rw[hR.out];exact RetSys.zero _ lj.out
 case pos=>
 subst h0;clear pP;go_wp2_with fail;refine(HN.out w2 oo.out dg.out).mono ?_;rintro e w3 ⟨rfl,ap⟩;have B3:=zH (B2.out.trans (ap.mono (by omega)));have GC:=zH ((GD.out.keep ap).more ap.size);have ez:=zH ((dg.out.keep ap).more ap.size);have fE:=ap.size;have d0:=La ap eS.out;have d1:=La ap ay.out;have EP:=zH d0;have mD:=zH d1;clear ap HN eS ay GD dg p0 p1 p2 p3 p4 p5 p6
 by_cases hm:4096<M
 case pos=>
  have hR:=zH (ip.out oo.out ((Ew.out oo.out).1 (by rw[mz.out];exact hm)));have Vj:(4096:Int)<(M:Int):=by omega
  have y0:=za d1 0 rfl;have f0:=zb d1 0;have y1:=za d1 1 rfl;have f1:=zb d1 1;have y2:=za d1 2 rfl;have f2:=zb d1 2;have y3:=za d1 3 rfl;have f3:=zb d1 3;have y4:=za d1 4 rfl;have f4:=zb d1 4;have y5:=za d1 5 rfl;have f5:=zb d1 5;have y6:=za d1 6 rfl;have f6:=zb d1 6;have y7:=za d1 7 rfl;have f7:=zb d1 7;have y8:=za d1 8 rfl;have f8:=zb d1 8;have y9:=za d1 9 rfl;have f9:=zb d1 9;obtain⟨k1,k2,k3⟩:=xq (O U 0) (O U 0) (O U 0) (I Z 0 0) (O U 0) (I Z 0 0) (O U 0) (O U 0) (I Z 0 0) (I Z 0 0) d1 B3.out (by omega:w.heap.size<=w.heap.size+1);obtain⟨WF,cZ⟩:=Kh (((((((((((w3.setCell ⟨w.heap.size+1,0,Z⟩ (O U 0)).setCell ⟨w.heap.size+1,1,Z⟩ (O U 0)).setCell ⟨w.heap.size+1,2,Z⟩ (O U 0)).setCell ⟨w.heap.size+1,3,Z⟩ (I Z 0 0)).setCell ⟨w.heap.size+1,4,Z⟩ (O U 0)).setCell ⟨w.heap.size+1,5,Z⟩ (I Z 0 0)).setCell ⟨w.heap.size+1,6,Z⟩ (O U 0)).setCell ⟨w.heap.size+1,7,Z⟩ (O U 0)).setCell ⟨w.heap.size+1,8,Z⟩ (I Z 0 0)).setCell ⟨w.heap.size+1,9,Z⟩ (I Z 0 0)));rw[cZ] at k1 k2 k3;have mA:=zH k1;have lj:=zH k2;have rZ:=zH k3;have lf:=zH cZ;clear k1 k2 k3 cZ;clear ip Eu Ew HB iI d0 d1;go_wp2_with fail;rw[lf.out];obtain⟨z0,z1,z2,z3,z4,z5,z6,z7,z8,z9⟩:=yg mA.out
  refine Na (v:=.tuple #[Aj #[O U 0,O U 0,O U 0,I Z 0 0,O U 0,I Z 0 0,O U 0,O U 0,I Z 0 0,I Z 0 0],O U 17]) (by simp[results,results56,go_sem,z0,z1,z2,z3,z4,z5,z6,z7,z8,z9]) rfl ?_;rw[hR.out];exact RetSys.zero _ lj.out
 case neg=>
 have Br:¬(4096<zK p):=fun h=>hm (by rw[<-mz.out];exact(Ew.out oo.out).2 h)
 have df:zK p<=60:=by
  rcases iI.out oo.out with h | h
  . exact h
  exact absurd h Br
 have hR:=zH (Eu.out oo.out (by omega));have Vj:¬((4096:Int)<(M:Int)):=by omega
 have Ui:=zH (HB.out oo.out df w3 GC.out ez.out);have T6:=zH (ZB p oo.out df).1;obtain⟨p0,p1,p2,p3,p4,p5,p6,_⟩:=Kf d0;clear ip Eu Ew HB iI Br df d0 d1 mz;go_wp2_with fail
 all_goals first | (exfalso;omega) | skip
 refine Ui.out.mono ?_;rintro e w4 ⟨AV,kv,AE,ke,rfl,hV,hX,aU⟩;have B4:=zH (B3.out.trans (aU.mono (by omega)));have Mp:=zH hV;have Mk:=zH hX;have iQ:=aU.size;have d1:=La aU mD.out;have z':=zH d1;have GB:=zH ((GC.out.keep aU).more aU.size);have mx:=zH ((ez.out.keep aU).more aU.size);clear hV hX aU Ui EP mD p0 p1 p2 p3 p4 p5 p6 d1;obtain⟨W5,mq,b5,lA,dT⟩:=zt w4 #[O U p.t.n,O U p.t.ins,O U p.t.outs,I A p.t.cases.length kc,O U p.a.n,I SV p.a.sts.length ks,O U p.k,O U p.t.n,.slice AV (zo p (zk p)).1.length kv,.slice AE (zo p (zk p)).2.length ke] 36;have d1:=La dT z'.out;have B5:=zH (B4.out.trans (dT.mono (by omega)));have eT:=zH dT;have tI:=zH mq;obtain⟨x0,x1,x2,x3,x4,x5,x6,x7,x8,x9⟩:=yg b5;have hfv:¬((8192:Int)<((zo p (zk p)).1.length:Int)):=by have:=T6.out;omega
 clear mq dT b5;go_simp;rename_i eq;refine eq _ _ ?_;clear eq;refine LJ rfl fun K5 aV=>?_
 go_simp;refine aV _ _ ?_;clear aV K5;refine LJ rfl fun K5 aV=>?_
 go_simp;rw[tI.out];refine aV _ _ ?_;clear aV K5 tI;have y0:=za d1 0 rfl;have f0:=zb d1 0;have y1:=za d1 1 rfl;have f1:=zb d1 1;have y2:=za d1 2 rfl;have f2:=zb d1 2;have y3:=za d1 3 rfl;have f3:=zb d1 3;have y4:=za d1 4 rfl;have f4:=zb d1 4;have y5:=za d1 5 rfl;have f5:=zb d1 5;have y6:=za d1 6 rfl;have f6:=zb d1 6;have y7:=za d1 7 rfl;have f7:=zb d1 7;have y8:=za d1 8 rfl;have f8:=zb d1 8;have y9:=za d1 9 rfl;have f9:=zb d1 9;obtain⟨k1,k2,k3⟩:=xq (O U p.t.n) (O U p.t.ins) (O U p.t.outs) (I A p.t.cases.length kc) (O U p.a.n) (I SV p.a.sts.length ks) (O U p.k) (O U p.t.n) (.slice AV (zo p (zk p)).1.length kv) (.slice AE (zo p (zk p)).2.length ke) d1 B5.out (by omega:w.heap.size<=w.heap.size+1);obtain⟨WF,cZ⟩:=Kh (((((((((((W5.setCell ⟨w.heap.size+1,0,Z⟩ (O U p.t.n)).setCell ⟨w.heap.size+1,1,Z⟩ (O U p.t.ins)).setCell ⟨w.heap.size+1,2,Z⟩ (O U p.t.outs)).setCell ⟨w.heap.size+1,3,Z⟩ (I A p.t.cases.length kc)).setCell ⟨w.heap.size+1,4,Z⟩ (O U p.a.n)).setCell ⟨w.heap.size+1,5,Z⟩ (I SV p.a.sts.length ks)).setCell ⟨w.heap.size+1,6,Z⟩ (O U p.k)).setCell ⟨w.heap.size+1,7,Z⟩ (O U p.t.n)).setCell ⟨w.heap.size+1,8,Z⟩ (.slice AV (zo p (zk p)).1.length kv)).setCell ⟨w.heap.size+1,9,Z⟩ (.slice AE (zo p (zk p)).2.length ke)));rw[cZ] at k1 k2 k3;have mA:=zH k1;have lj:=zH k2;have rZ:=zH k3;have lf:=zH cZ;clear k1 k2 k3 cZ;clear d1;go_wp2_with fail;rw[lf.out]
 obtain⟨z0,z1,z2,z3,z4,z5,z6,z7,z8,z9⟩:=yg mA.out;refine Na (v:=.tuple #[Aj #[O U p.t.n,O U p.t.ins,O U p.t.outs,I A p.t.cases.length kc,O U p.a.n,I SV p.a.sts.length ks,O U p.k,O U p.t.n,.slice AV (zo p (zk p)).1.length kv,.slice AE (zo p (zk p)).2.length ke],O U 0]) (by simp[results,results56,go_sem,z0,z1,z2,z3,z4,z5,z6,z7,z8,z9]) rfl ?_;rw[hR.out];have cW:∀k,k≠w.heap.size+1->k<w4.heap.size->WF.heap[k]?=w4.heap[k]?:=fun k a b=>(rZ.out.2.1 k a).trans (eT.out.block k b)
 have hz:w4.heap.size<=WF.heap.size:=by have:=eT.out.size;have:=rZ.out.2.2;omega
 obtain⟨Ut,OG,eV,hT⟩:=(Mp.out.of_same fun k hk=>cW k (by have:=(Mp.out.lt' k hk).1;omega) (Mp.out.lt' k hk).2).form (by have:=T6.out;omega)
 cases eV
 obtain⟨N7,GO,eE,_,_,FL,_⟩:=kV (Mk.out.keep zy ⟨hz,fun k hs hl=>cW k (by omega) hl⟩ fun k hk=>cW k (by have:=(Mk.out.lt k hk).1;omega) (Mk.out.lt k hk).2)
 cases eE
 exact⟨A,kc,SV,ks,AV,kv,AE,ke,rfl,⟨(NK.out.keep lj.out).more lj.out.size,(HSW.out.keep lj.out).more lj.out.size,hT.rows,FL⟩,hT.lec,hT.lem,lj.out⟩
theorem rver_any(s:Sy)(hs:LowS s)(hf:xY s.p)(A SV AV AX:Bb)(kc ks kv kx:Nat)(w:Ba)(hS:SyAt w w.heap.size A SV AV AX s) :
  Ap An 23 #[.agg (s.vs_ A kc SV ks AV kv AX kx)] w fun e w'=>e=Am (O U (yX s))/\Ao w.heap.size w w':=by
 obtain⟨w1,ah⟩:=Kh (w.alloc (Ah (s.vs_ A kc SV ks AV kv AX kx) 36));have aI:=zh w (Ah (s.vs_ A kc SV ks AV kv AX kx) 36);have am:Ao w.heap.size w w1:=by rw[<-ah];exact zw w _
 have co:w1.heap.size=w.heap.size+1:=by rw[<-ah];simp
 rw[ah] at aI;have eR:=zH (hS.up am);have HB:=zH (wE s.p hf A kc SV ks w1 (hS.up am).fc (hS.up am).fs);have nF:=zH (qM hs.fp hf);have tY:=zH hs;have lg:As (yX s=if (zD s.p).2≠0 then (zD s.p).2 else if s=(zD s.p).1 then 0 else 3):=rfl
 have bD:=zH (fun (h:(zD s.p).2=0)=>(by
  by_cases h0:zC s.p=0
  case neg=>rw[xm h0] at h;exact absurd h h0
  case pos=>
   by_cases h1:4096<zK s.p
   . rw[yW h0 h1] at h;cases h
   . rw[xr h0 (by omega)];exact⟨rfl,rfl⟩:(zD s.p).1.p=s.p/\(zD s.p).1.n=s.p.t.n))
 unfold Sy.vs_ at ah aI ⊢;unfold Pb.vs at HB;have aq:=zH ah;have bK:=zH aI;have aY:=zH am;obtain⟨R,hR⟩:=Kh (zD s.p);rw[hR] at HB nF lg bD;obtain⟨r,hr⟩:=Kh (yX s);rw[hr] at lg ⊢;clear ah aI am hS hs hf hR hr;go_enter func23,ntmps23;go_wp2_with fail;rw[aq.out];go_wp2_with fail;refine HB.out.mono ?_;rintro e w2 ⟨A2,dM,da,dL,fY,iy,ix,lH,rfl,iD,eF,fD,af⟩;obtain⟨T,E⟩:=R;obtain⟨W3,bP,b3,fE,aZ⟩:=zt w2 (T.vs_ A2 dM da dL fY iy ix lH) 36;have ez:=zH (iD.up aZ);have bL:=zH (aY.out.trans ((Lc af aZ).mono (by omega)));have dX:=af.size;have d0:=Lb aZ (by omega:w.heap.size<w2.heap.size) (Lb af (by omega:w.heap.size<w1.heap.size) bK.out);have pE:=zH ((eR.out.up af).up aZ);unfold Sy.vs_ at bP b3 ⊢;have dV:=zH bP;have me:=zH b3;clear af iD eF fD aZ bP HB aq eR bK;dsimp only at lg bD nF ez;go_simp;rename_i eq;refine eq _ _ ?_;clear eq;refine LJ rfl fun K5 aV=>?_
 go_simp;refine aV _ _ ?_;clear aV K5;refine LJ rfl fun K5 aV=>?_
 go_simp;refine aV _ _ ?_;clear aV K5;refine LJ rfl fun K5 aV=>?_
 go_simp;refine aV _ _ ?_;clear aV K5;refine LJ rfl fun K5 aV=>?_
 go_simp;refine aV _ _ ?_;clear aV K5;refine LJ rfl fun K5 aV=>?_
 go_simp;rw[dV.out];refine aV _ _ ?_;clear aV K5
 by_cases h0:E=0
 case neg=>
  have e0:(E != 0)=Av:=by simpa using h0
  have hR:As (r=E):=lg.out.trans (Ln h0);clear lg bD h0 d0 b3;go_wp2_with fail;go_ret;exact⟨zc hR.out.symm,bL.out⟩
 case pos=>
 subst h0;obtain⟨DI,Kx⟩:=bD.out rfl;have tk:r=if s=T then 0 else 3:=lg.out.trans (Lj (by simp));have H3:As (s≠T->r=3):=fun h=>tk.trans (Lj h)
 have H0:As (s=T->r=0):=fun h=>tk.trans (Ln h)
 have Mr:=zH DI;have sc:=zH (@sy_eq s T);have Gh:=zH (Xq s T tY.out nF.out A SV AV AX A2 da fY ix kc ks kv kx dM dL iy lH W3 pE.out ez.out);have x0:W3.cell? ⟨w.heap.size,0,Z⟩=J (O U s.p.t.n):=za d0 0 rfl;have y0:W3.cell? ⟨w2.heap.size,0,Z⟩=J (O U T.p.t.n):=za b3 0 rfl;have x1:W3.cell? ⟨w.heap.size,1,Z⟩=J (O U s.p.t.ins):=za d0 1 rfl;have y1:W3.cell? ⟨w2.heap.size,1,Z⟩=J (O U T.p.t.ins):=za b3 1 rfl;have x2:W3.cell? ⟨w.heap.size,2,Z⟩=J (O U s.p.t.outs):=za d0 2 rfl;have y2:W3.cell? ⟨w2.heap.size,2,Z⟩=J (O U T.p.t.outs):=za b3 2 rfl;have x3:W3.cell? ⟨w.heap.size,3,Z⟩=J (I A s.p.t.cases.length kc):=za d0 3 rfl;have y3:W3.cell? ⟨w2.heap.size,3,Z⟩=J (I A2 T.p.t.cases.length dM):=za b3 3 rfl;have x4:W3.cell? ⟨w.heap.size,4,Z⟩=J (O U s.p.a.n):=za d0 4 rfl;have y4:W3.cell? ⟨w2.heap.size,4,Z⟩=J (O U T.p.a.n):=za b3 4 rfl;have x5:W3.cell? ⟨w.heap.size,5,Z⟩=J (I SV s.p.a.sts.length ks):=za d0 5 rfl;have y5:W3.cell? ⟨w2.heap.size,5,Z⟩=J (I da T.p.a.sts.length dL):=za b3 5 rfl;have x6:W3.cell? ⟨w.heap.size,6,Z⟩=J (O U s.p.k):=za d0 6 rfl;have y6:W3.cell? ⟨w2.heap.size,6,Z⟩=J (O U T.p.k):=za b3 6 rfl;have x7:W3.cell? ⟨w.heap.size,7,Z⟩=J (O U s.n):=za d0 7 rfl;have y7:W3.cell? ⟨w2.heap.size,7,Z⟩=J (O U T.n):=za b3 7 rfl
 have x8:W3.cell? ⟨w.heap.size,8,Z⟩=J (I AV s.vs.length kv):=za d0 8 rfl;have y8:W3.cell? ⟨w2.heap.size,8,Z⟩=J (I fY T.vs.length iy):=za b3 8 rfl;have x9:W3.cell? ⟨w.heap.size,9,Z⟩=J (I AX s.xs.length kx):=za d0 9 rfl;have y9:W3.cell? ⟨w2.heap.size,9,Z⟩=J (I ix T.xs.length lH):=za b3 9 rfl;unfold Sy.vs_ at Gh;clear DI Kx tk lg bD d0 b3 nF tY Mr sc;go_wp2_with fail;refine Gh.out.mono ?_;rintro e w4 ⟨rfl,aU⟩;have B4:=zH (bL.out.trans (aU.mono (by omega)));clear aU Gh x0 x1 x2 x3 x4 x5 x6 x7 x8 x9 y0 y1 y2 y3 y4 y5 y6 y7 y8 y9
 by_cases h2:s=T
 case neg=>
  have hR:=zH (H3.out h2);rw[Lm h2];clear H3 H0 h2;go_wp2_with fail;go_ret;exact⟨zc hR.out.symm,B4.out⟩
 have hR:=zH (H0.out h2);rw[Ll h2];clear H3 H0 h2;go_wp2_with fail;go_ret;exact⟨zc hR.out.symm,B4.out⟩
def xj(p:Pb):Bool:=xa p&&decide ((zD p).2=0)
theorem JE(p:Pb)(hl:uI p)(A:Bb)(kc:Nat)(SV:Bb)(ks:Nat)(w:Ba)(hA:CAt w w.heap.size A p.t.cases)(hS:SAt w w.heap.size SV p.a.sts) :
  Ap An 22 #[.agg (p.vs A kc SV ks)] w fun e w'=>e=Am (Ai (xj p))/\Ao w.heap.size w w':=by
 obtain⟨w1,ah⟩:=Kh (w.alloc (Ah (p.vs A kc SV ks) 29));have aI:=zh w (Ah (p.vs A kc SV ks) 29);have am:Ao w.heap.size w w1:=by rw[<-ah];exact zw w _
 have co:w1.heap.size=w.heap.size+1:=by rw[<-ah];simp
 rw[ah] at aI;have HF:=zH (few_any p hl A kc SV ks w1 ((hA.keep am).more am.size) ((hS.keep am).more am.size));have iu:=zH (fun (h:xa p=Av) (X:Ba) (hX:Ao w1.heap.size w1 X)=>wE p (few_x h).1 A kc SV ks X ((((hA.keep am).more am.size).keep hX).more hX.size) ((((hS.keep am).more am.size).keep hX).more hX.size));have iH:As (xj p=(xa p&&decide ((zD p).2=0))):=rfl;obtain⟨r,hr⟩:=Kh (xj p);rw[hr] at iH ⊢;obtain⟨R,hR⟩:=Kh (zD p);rw[hR] at iu iH;obtain⟨b,hb⟩:=Kh (xa p);rw[hb] at HF iu iH;unfold Pb.vs at ah aI HF iu ⊢;have aq:=zH ah;have bK:=zH aI;have aY:=zH am;have p5:=za aI 5 rfl;have p6:=za aI 6 rfl;clear ah aI am hA hS hl hr hR hb;go_enter func22,ntmps22;go_wp2_with fail;rw[aq.out];go_wp2_with fail;refine HF.out.mono ?_;rintro e w2 ⟨rfl,af⟩;have aW:=zH (aY.out.trans (af.mono (by omega)));have d0:=Lb af (by omega:w.heap.size<w1.heap.size) bK.out;have dX:=af.size
 cases b with
 | false=>
  have DM:As (r=Ax):=iH.out;clear iH iu HF p5 p6 d0 af bK aq;go_wp2_with fail;go_ret;exact⟨ze DM.out.symm,aW.out⟩
 | true=>
  have bL:=zH (iu.out rfl w2 af);have DM:As (r=decide (R.2=0)):=iH.out;clear p5 p6 af iu HF bK aq iH;obtain⟨p0,p1,p2,p3,p4,p5,p6,_⟩:=Kf d0;clear d0;go_wp2_with fail;refine bL.out.mono ?_;rintro e w3 ⟨A2,dM,da,dL,fY,iy,ix,lH,rfl,iD,eF,fD,ap⟩;obtain⟨T,E⟩:=R;have fP:=zH (aW.out.trans ((ap.trans (zw w3 (Ah (T.vs_ A2 dM da dL fY iy ix lH) 36) |>.mono ap.size)).mono (by omega)));unfold Sy.vs_ at fP ⊢;clear ap iD eF fD bL p5 p6;go_wp2_with fail;go_ret;exact⟨ze (by rw[DM.out];first | rfl | exact ZV Iff.rfl | (rw[Nr];simp)),fP.out⟩
end
section
def At(vs:List Vw)(i:Int)(v:Vw):Prop:=0<=i/\vs[i.toNat]?=J v
theorem At.mono{vs us:List Vw}{i:Int}{v:Vw}(h:At vs i v):At (vs++us) i v:=
 ⟨h.1,by rw[LX (Lo.1 h.2).1];exact h.2⟩
theorem At.lt{vs:List Vw}{i:Int}{v:Vw}(h:At vs i v):0<=i/\i<vs.length:=⟨h.1,by have:=(Lo.1 h.2).1;have:=h.1;omega⟩
theorem Yr(vs:List Vw)(v:Vw):∃us,(xu vs v).1=vs++us:=by
 unfold xu
 split
 . exact⟨[],by simp⟩
 exact⟨[v],rfl⟩
theorem putW_at(vs:List Vw)(v:Vw):At (xu vs v).1 (xu vs v).2 v:=by
 unfold xu
 split
 . rename_i h
   unfold qq;rw[Ln h];refine⟨by omega,?_⟩;have h1:=List.idxOf_lt_length_of_mem h;show vs[((vs.idxOf v:Nat):Int).toNat]?=_;rw[Lv,Lg h1,List.getElem_idxOf]
 refine⟨by omega,?_⟩;show(vs++[v])[((vs.length:Nat):Int).toNat]?=_;rw[Lv];simp
theorem putW_mem(vs:List Vw)(v:Vw):∀u∈(xu vs v).1,u∈vs\/u=v:=by
 unfold xu
 split
 . exact fun u h=>.inl h
 intro u h;rcases LS.1 h with h | h
 . exact .inl h
 exact .inr (NH.1 h)
theorem Xz{vs:List Vw}(v:Vw)(h:vs.Nodup):(xu vs v).1.Nodup:=by
 unfold xu
 split
 . exact h
 rename_i hn;exact List.nodup_append.2 ⟨h,by simp,fun a ha b hb=>by rw[NH] at hb;subst hb;exact fun e=>hn (e▸ha)⟩
theorem jU(f:Nat->Vw)(vs:List Vw):∀p,∃us,(zP f vs p).1=vs++us
 | 0=>⟨[],by simp[zP]⟩
 | p+1=>by
  obtain⟨u1,h1⟩:=jU f vs p;obtain⟨u2,h2⟩:=Yr (zP f vs p).1 (f p);exact⟨u1++u2,by rw[zP];dsimp only;rw[h2,h1,Ng]⟩
theorem QN(f:Nat->Vw)(vs:List Vw):∀n p,p<n->At (zP f vs n).1 ((zP f vs n).2.getD p 0) (f p)
 | n+1,p,h=>by
  rw[zP];dsimp only;have hl:=xe f vs n
  by_cases hp:p<n
  . rw[Le,LX (by omega),<-Le]
    obtain⟨u2,h2⟩:=Yr (zP f vs n).1 (f n);rw[h2];exact(QN f vs n p hp).mono
  . obtain rfl:p=n:=by omega
    rw[Le,LW (by omega),hl,NM];exact putW_at _ _
theorem wq(f:Nat->Vw)(vs:List Vw):∀n,∀u∈(zP f vs n).1,u∈vs\/∃p,p<n/\u=f p
 | 0,u,h=>.inl h
 | n+1,u,h=>by
  rw[zP] at h;rcases putW_mem _ _ u h with h | h
  . rcases wq f vs n u h with h | ⟨p,hp,e⟩
    . exact .inl h
    . exact .inr ⟨p,by omega,e⟩
  . exact .inr ⟨n,by omega,h⟩
theorem jx(f:Nat->Vw){vs:List Vw}(h:vs.Nodup):∀n,(zP f vs n).1.Nodup
 | 0=>h
 | n+1=>by rw[zP];exact Xz _ (jx f h n)
def kY(vs:List Vw)(n:Nat)(inp:List Int)(word:List Rd)(k:Nat):List Int:=(zm vs n inp word k).2.getD k []
def fV(vs:List Vw)(n:Nat)(inp:List Int)(word:List Rd):Nat->Nat->Vw
 | 0,p=>yw p (inp.getD p 0)
 | k+1,p=>yI (word.getD k default) (k+1) p (kY vs n inp word k)
section
variable (vs:List Vw) (n:Nat) (inp:List Int) (word:List Rd)
theorem vy:∀j,(∃us,(zm vs n inp word j).1=vs++us)/\∀k,k<=j->∃us,(zm vs n inp word j).1=(zm vs n inp word k).1++us
 | 0=>⟨by rw[zm];exact jU _ vs n,fun k hk=>⟨[],by obtain rfl:k=0:=(by omega);simp⟩⟩
 | j+1=>by
  obtain⟨⟨u1,h1⟩,h2⟩:=vy j;obtain⟨u3,h3⟩:=jU (fun p=>yI (word.getD j default) (j+1) p ((zm vs n inp word j).2.getD j [])) (zm vs n inp word j).1 n;have e:(zm vs n inp word (j+1)).1=(zm vs n inp word j).1++u3:=by rw[zm];exact h3
  refine⟨⟨u1++u3,by rw[e,h1,Ng]⟩,fun k hk=>?_⟩
  by_cases Im:k<=j
  . obtain⟨u4,h4⟩:=h2 k Im
    exact⟨u4++u3,by rw[e,h4,Ng]⟩
  . obtain rfl:k=j+1:=by omega
    exact⟨[],by simp⟩
theorem jC:∀j k,k<=j->(zm vs n inp word j).2.getD k []=kY vs n inp word k
 | 0,k,h=>by obtain rfl:k=0:=(by omega);rfl
 | j+1,k,h=>by
  by_cases Im:k<=j
  . rw[<-jC j k Im,zm,Le,LX (by rw[zY];omega),<-Le]
  . obtain rfl:k=j+1:=by omega
    rfl
theorem kk(k:Nat):(kY vs n inp word k).length=n:=by
 have h:k<(zm vs n inp word k).2.length:=by rw[zY];omega
 unfold kY;rw[Le,Lg h];exact qg vs n inp word k _ (Ld h)
theorem rowK_eq:∀k,∃us,(zm vs n inp word k).1=(zP (fV vs n inp word k) us n).1/\kY vs n inp word k=(zP (fV vs n inp word k) us n).2
 | 0=>⟨vs,rfl,rfl⟩
 | k+1=>⟨(zm vs n inp word k).1,rfl,by
   unfold kY;rw[zm,Le,LW (by rw[zY];omega),zY,NM]
   rfl⟩
theorem jY(j k p:Nat)(hk:k<=j)(hp:p<n):At (zm vs n inp word j).1 ((kY vs n inp word k).getD p 0) (fV vs n inp word k p):=by
 obtain⟨us,e1,e2⟩:=rowK_eq vs n inp word k;obtain⟨u4,h4⟩:=(vy vs n inp word j).2 k hk;rw[h4,e2,e1];exact(QN _ us n p hp).mono
theorem Yu:∀j,∀u∈(zm vs n inp word j).1,u∈vs\/∃k p,k<=j/\p<n/\u=fV vs n inp word k p
 | 0,u,h=>by
  rw[zm] at h;rcases wq _ vs n u h with h | ⟨p,hp,e⟩
  . exact .inl h
  . exact .inr ⟨0,p,Lh _,hp,e⟩
 | j+1,u,h=>by
  rw[zm] at h;rcases wq _ _ n u h with h | ⟨p,hp,e⟩
  . rcases Yu j u h with h | ⟨k,p,hk,hp,e⟩
    . exact .inl h
    . exact .inr ⟨k,p,by omega,hp,e⟩
  . exact .inr ⟨j+1,p,Lh _,hp,e⟩
theorem wG(h:vs.Nodup):∀j,(zm vs n inp word j).1.Nodup
 | 0=>by rw[zm];exact jx _ h n
 | j+1=>by rw[zm];exact jx _ (wG h j) n
end
structure XFin(p:Pb)(tab:List Vw)(c:Nat)(word:List Rd)(x:Exn)(vs:List Vw):Prop where
 hc:x.c=(c:Int)
 hw:x.word=word
 hv:x.views=(zm vs p.t.n.toNat (zW p c) word word.length).2
 ht:∃us,tab=(zm vs p.t.n.toNat (zW p c) word word.length).1++us
theorem wk(p:Pb)(l:List (Nat×List Rd)) :
  (∀i (h:i<l.length),∃x vs,(zo p l).2[i]?=J x/\XFin p (zo p l).1 l[i].1 l[i].2 x vs)/\(∀u∈(zo p l).1,∃y∈l,∃vs k q,k<=y.2.length/\q<p.t.n.toNat/\u=fV vs p.t.n.toNat (zW p y.1) y.2 k q/\∃us,(zo p l).1=(zm vs p.t.n.toNat (zW p y.1) y.2 y.2.length).1++us)/\(zo p l).1.Nodup:=by
 have key:∀n,n<=l.length ->
   (∀i (h:i<n) (hl:i<l.length),∃x vs,(zo p (l.take n)).2[i]?=J x/\XFin p (zo p (l.take n)).1 l[i].1 l[i].2 x vs)/\(∀u∈(zo p (l.take n)).1,∃y∈l,∃vs k q,k<=y.2.length/\q<p.t.n.toNat/\u=fV vs p.t.n.toNat (zW p y.1) y.2 k q/\∃us,(zo p (l.take n)).1=(zm vs p.t.n.toNat (zW p y.1) y.2 y.2.length).1++us)/\(zo p (l.take n)).1.Nodup:=by
  intro n
  induction n with
  | zero=>intro _;exact⟨fun i h=>absurd h (by omega),fun u h=>by simp[kj] at h,by simp[kj]⟩
  | succ n ih=>
   intro hn;obtain⟨h1,h2,h3⟩:=ih (by omega);have eG:n<l.length:=by omega
   have e:zo p (l.take (n+1))=((zm (zo p (l.take n)).1 p.t.n.toNat (zW p l[n].1) l[n].2 l[n].2.length).1,(zo p (l.take n)).2++[⟨l[n].1,l[n].2,(zm (zo p (l.take n)).1 p.t.n.toNat (zW p l[n].1) l[n].2 l[n].2.length).2⟩]):=by
    rw[Lu eG,xI]
   obtain⟨⟨u0,CA⟩,_⟩:=vy (zo p (l.take n)).1 p.t.n.toNat (zW p l[n].1) l[n].2 l[n].2.length;have aO:(zo p (l.take n)).2.length=n:=by rw[xP,Nd];omega
   rw[e];dsimp only;refine⟨fun i hi hl=>?_,fun u hu=>?_,wG _ _ _ _ h3 _⟩
   . by_cases bZ:i<n
     . obtain⟨x,vs,hx,⟨a,b,c,⟨us,mQ⟩⟩⟩:=h1 i bZ hl
       refine⟨x,vs,by rw[LX (by omega)];exact hx,a,b,c,us++u0,?_⟩;rw[CA,mQ,Ng]
     . obtain rfl:i=n:=by omega
       refine⟨_,(zo p (l.take i)).1,by rw[LW (by omega),aO,NM];rfl,rfl,rfl,rfl,[],by simp⟩
   . rcases Yu _ _ _ _ _ u hu with h | ⟨k,q,hk,hq,eu⟩
     . obtain⟨y,hy,vs,k,q,a,b,c,us,mQ⟩:=h2 u h
       exact⟨y,hy,vs,k,q,a,b,c,us++u0,by rw[CA,mQ,Ng]⟩
     . exact⟨l[n],Ld _,(zo p (l.take n)).1,k,q,hk,hq,eu,[],by simp⟩
 have h:=key l.length (Lh _);rw[LD] at h;exact⟨fun i hi=>h.1 i hi hi,h.2⟩
theorem own_bit{r:Rd}(h:yv r=0)(p:Nat)(hp:(p:Int)<r.n):(r.h p).toNat.testBit p=Av:=by
 unfold yv at h
 split at h
 . cases h
 rename_i hn
 have key:∀k,k<=5->yp r (5-k) k=0->∀q,k<=q->q<5->xy r.n q (r.h q)=0:=by
  intro k hk
  induction hm:5-k generalizing k with
  | zero=>intro _ q h1 h2;omega
  | succ m ih=>
   intro hz q h1 h2;unfold yp at hz
   split at hz
   . rename_i bt;exact absurd hz bt
   . rename_i bt
     by_cases e:q=k
     . subst e;simpa using bt
     . exact ih (k+1) (by omega) (by omega) hz q (by omega) h2
 have h1:=key 0 (by omega) h p (by omega) (by omega);unfold xy at h1;rw[Lj (by omega)] at h1
 split at h1
 . cases h1
 split at h1
 . assumption
 cases h1
theorem jS(r:Rd)(k p:Nat)(now:List Int)(q:Nat)(hq:q<5):(yI r k p now).h q=zM r p now q:=by
 match q,hq with
 | 0,_=>rfl
 | 1,_=>rfl
 | 2,_=>rfl
 | 3,_=>rfl
 | 4,_=>rfl
structure Fine(s:Sy)(K N:Nat):Prop where
 n:s.n=(N:Int)
 pn:s.p.t.n=(N:Int)
 k:s.p.k=(K:Int)
 n1:1<=N
 n5:N<=5
 k6:K<=6
 lv:s.vs.length<=2100
 lx:s.xs.length<=60
 word:∀x∈s.xs,x.word.length=K/\∀r∈x.word,zQ r=0/\r.n=(N:Int)
 views:∀x∈s.xs,x.views.length=K+1/\∀l∈x.views,l.length=N/\∀i∈l,0<=i/\i<s.vs.length
 vs:∀v∈s.vs,(∃q:Nat,v.p=(q:Int)/\q<N)/\(∃r:Nat,v.r=(r:Int)/\r<=K)/\(0<v.r->∃u,At s.vs (v.h v.p.toNat) u/\u.p=v.p/\u.r=v.r-1)
theorem gx{p:Pb}(hf:xY p)(h0:zC p=0)(df:zK p<=60):∃K N,Fine (zq p) K N:=by
 obtain⟨cK,dO,ia,cq,lO⟩:=zJ h0;obtain⟨h1,fU,na⟩:=yt cK;obtain⟨r1,r2⟩:=ZB p h0 df;obtain⟨K,hK⟩:=Lr cq;obtain⟨N,hN⟩:=Lr (show 0<=p.t.n by omega);have DO:p.t.n.toNat=N:=by omega
 obtain⟨f1,f2,f3⟩:=wk p (zk p)
 have fT:∀y∈zk p,y.2.length=K/\∀r∈y.2,zQ r=0/\r.n=(N:Int):=fun y hy=>by
  unfold zk at hy;obtain⟨d,_,hy⟩:=LR.1 hy;obtain⟨w',db,rfl⟩:=LA.1 hy;refine⟨by show w'.length=K;rw[yQ p.a _ 0 w' db];omega,fun r hr=>?_⟩;obtain⟨m,hm,rfl⟩:=qS p.a _ 0 w' db r hr;obtain⟨z1,z2,_⟩:=xv (yq hf.1.2 dO).1 m hm;exact⟨z1,by rw[z2,<-ia,hN]⟩
 have hx:∀x∈(zo p (zk p)).2,∃y∈zk p,∃vs,XFin p (zo p (zk p)).1 y.1 y.2 x vs:=fun x hx=>by
  obtain⟨i,hi,e⟩:=LU hx;rw[xP] at hi;obtain⟨x',vs,AH,hh⟩:=f1 i hi
  have:x=x':=by
   rw[Lg (by rw[xP];exact hi),e] at AH;exact N6 AH
  subst this;exact⟨_,Ld hi,vs,hh⟩
 refine⟨K,N,hN,hN,hK,by omega,by omega,by omega,r1,r2,fun x hm=>?_,fun x hm=>?_,fun v hv=>?_⟩
 . obtain⟨y,hy,vs,hh⟩:=hx x hm
   rw[hh.hw];exact fT y hy
 . obtain⟨y,hy,vs,hh⟩:=hx x hm
   obtain⟨cz,_⟩:=fT y hy;rw[hh.hv];refine⟨by rw[zY,cz],fun l hl=>?_⟩;obtain⟨k,hk,rfl⟩:=LU hl;rw[zY] at hk
   have e:(zm vs p.t.n.toNat (zW p y.1) y.2 y.2.length).2[k]'(by rw[zY];exact hk)=kY vs p.t.n.toNat (zW p y.1) y.2 k:=by
    rw[<-jC vs p.t.n.toNat (zW p y.1) y.2 y.2.length k (by omega),Le,Lg (by rw[zY];exact hk)];rfl
   rw[e];refine⟨by rw[kk,DO],fun i hi=>?_⟩;obtain⟨q,hq,rfl⟩:=LU hi;rw[kk] at hq;have ha:=jY vs p.t.n.toNat (zW p y.1) y.2 y.2.length k q (by omega) hq;obtain⟨us,mQ⟩:=hh.ht;have hb:=(ha.mono (us:=us));rw[<-mQ,Le,Lg (by rw[kk];exact hq)] at hb;exact hb.lt
 obtain⟨y,hy,vs,k,q,hk,hq,rfl,us,mQ⟩:=f2 v hv;obtain⟨cz,Cq⟩:=fT y hy
 cases k with
 | zero=>exact⟨⟨q,rfl,by omega⟩,⟨0,rfl,by omega⟩,fun h=>absurd h (by show ¬((0:Int)<0);omega)⟩
 | succ k=>
  refine⟨⟨q,rfl,by omega⟩,⟨k+1,rfl,by omega⟩,fun _=>⟨fV vs p.t.n.toNat (zW p y.1) y.2 k q,?_,?_,?_⟩⟩
  . have dv:k<y.2.length:=by omega
    have hg:y.2.getD k default=y.2[k]:=by rw[Le,Lg dv];rfl
    have oS:=Cq _ (Ld dv);have hb:=own_bit (qT oS.1).2.2.1 q (by rw[oS.2];omega)
    have e:(fV vs p.t.n.toNat (zW p y.1) y.2 (k+1) q).h ((fV vs p.t.n.toNat (zW p y.1) y.2 (k+1) q).p.toNat)=(kY vs p.t.n.toNat (zW p y.1) y.2 k).getD q 0:=by
     show(yI (y.2.getD k default) (k+1) q (kY vs p.t.n.toNat (zW p y.1) y.2 k)).h ((q:Int).toNat)=_;rw[Lv,jS _ _ _ _ _ (by omega),hg];unfold zM;rw[Ln ⟨by rw[kk];exact hq,hb⟩]
    rw[e];show At (zo p (zk p)).1 _ _;rw[mQ];exact(jY vs p.t.n.toNat (zW p y.1) y.2 y.2.length k q (by omega) hq).mono
  . cases k<;>rfl
  . cases k with
    | zero=>show(0:Int)=((0+1:Nat):Int)-1;rfl
    | succ k=>show((k+1:Nat):Int)=((k+1+1:Nat):Int)-1;omega
end
section
theorem hZ{α:Type}{l:List α}(h:l.Nodup){i j:Nat}(hi:i<l.length)(hj:j<l.length)(e:l[i]=l[j]):i=j:=by
 have hp:=Pe.1 h;rcases Nat.lt_trichotomy i j with g | g | g
 . exact absurd e (hp i j hi hj g)
 . exact g
 exact absurd e.symm (hp j i hj hi g)
def xw(x:Exn)(k q:Nat):Int:=(x.views.getD k []).getD q 0
structure Sees(s:Sy)(K N:Nat):Prop where
 nodup:s.vs.Nodup
 v0:∀x∈s.xs,∀q,q<N->At s.vs (xw x 0 q) (yw q ((zW s.p x.c.toNat).getD q 0))
 vk:∀x∈s.xs,∀k,k<K->∀q,q<N->At s.vs (xw x (k+1) q) (yI (x.word.getD k default) (k+1) q (x.views.getD k []))
 prs:s.xs.map (fun x=>(x.c.toNat,x.word))=zk s.p
 cs:∀x∈s.xs,∃c:Nat,x.c=(c:Int)/\c<s.p.t.cases.length/\x.word∈zn s.p.a K 0
theorem Z1{p:Pb}{tab:List Vw}{c:Nat}{word:List Rd}{x:Exn}{vs:List Vw}(h:XFin p tab c word x vs)(k:Nat)(hk:k<=word.length):x.views.getD k []=kY vs p.t.n.toNat (zW p c) word k:=by
 rw[h.hv];exact jC _ _ _ _ _ k hk
theorem QE{p:Pb}{tab:List Vw}{c:Nat}{word:List Rd}{x:Exn}{vs:List Vw}(h:XFin p tab c word x vs)(k q:Nat)(hk:k<=word.length)(hq:q<p.t.n.toNat):At tab (xw x k q) (fV vs p.t.n.toNat (zW p c) word k q):=by
 obtain⟨us,mQ⟩:=h.ht;unfold xw;rw[Z1 h k hk,mQ];exact(jY vs p.t.n.toNat (zW p c) word word.length k q hk hq).mono
theorem Qu{p:Pb}{K N:Nat}(hF:Fine (zq p) K N):Sees (zq p) K N:=by
 obtain⟨f1,f2,f3⟩:=wk p (zk p);have DO:p.t.n.toNat=N:=by have:p.t.n=(N:Int):=hF.pn;omega
 have eq:p.k.toNat=K:=by have:p.k=(K:Int):=hF.k;omega
 have fT:∀y∈zk p,y.2.length=K/\y.1<p.t.cases.length/\y.2∈zn p.a K 0:=fun y hy=>by
  unfold zk at hy;obtain⟨d,hd,hy⟩:=LR.1 hy;obtain⟨w',db,rfl⟩:=LA.1 hy;rw[eq] at db;exact⟨yQ p.a _ 0 w' db,by simpa using hd,db⟩
 have hx:∀x∈(zq p).xs,∃y∈zk p,∃vs,XFin p (zq p).vs y.1 y.2 x vs:=fun x hx=>by
  obtain⟨i,hi,e⟩:=LU hx;have sS:i<(zk p).length:=by rw[<-xP p (zk p)];exact hi
  obtain⟨x',vs,AH,hh⟩:=f1 i sS
  have:x=x':=by
   have h3:(zo p (zk p)).2[i]?=J x:=(Lg (l:=(zq p).xs) hi).trans (congrArg J e);exact N6 (h3.symm.trans AH)
  subst this;exact⟨_,Ld sS,vs,hh⟩
 refine⟨f3,fun x hm q hq=>?_,fun x hm k hk q hq=>?_,?_,fun x hm=>?_⟩
 . obtain⟨y,hy,vs,hh⟩:=hx x hm
   have h:=QE hh 0 q (Nu _) (by omega);rw[hh.hc,Lv];exact h
 . obtain⟨y,hy,vs,hh⟩:=hx x hm
   have hl:=(fT y hy).1;have h:=QE hh (k+1) q (by omega) (by omega);rw[Z1 hh k (by omega),hh.hw];exact h
 . show(zo p (zk p)).2.map _=zk p
   refine Pt (by rw[LG,xP]) fun i h1 h2=>?_
   obtain⟨x',vs,AH,hh⟩:=f1 i h2;rw[List.getElem_map];obtain⟨h3,h4⟩:=Lo.1 AH;rw[h4,hh.hc,hh.hw,Lv]
 obtain⟨y,hy,vs,hh⟩:=hx x hm;exact⟨y.1,hh.hc,(fT y hy).2.1,by rw[hh.hw];exact(fT y hy).2.2⟩
section
variable {s:Sy} {K N:Nat}
theorem Sees.pr(h:Sees s K N){x:Exn}(hx:x∈s.xs){k q:Nat}(hk:k<=K)(hq:q<N):∃v,At s.vs (xw x k q) v/\v.p=(q:Int)/\v.r=(k:Int):=by
 cases k with
 | zero=>exact⟨_,h.v0 x hx q hq,rfl,rfl⟩
 | succ k=>exact⟨_,h.vk x hx k (by omega) q hq,rfl,rfl⟩
end
end
section
section
variable {s:Sy} {K N:Nat}
theorem Fine.row(hF:Fine s K N){x:Exn}(hx:x∈s.xs){k:Nat}(hk:k<=K):(x.views.getD k []).length=N/\∀i∈x.views.getD k [],0<=i/\i<s.vs.length:=by
 obtain⟨hl,h⟩:=hF.views x hx;have fJ:k<x.views.length:=by omega
 rw[Le,Lg fJ];exact h _ (Ld fJ)
end
end
section
def Good(vs:List Vw)(v:Vw):Prop:=v.r=0\/∀q:Nat,q<5->v.h q=-1\/∃u,At vs (v.h q) u/\u.p=(q:Int)/\u.r=v.r-1
theorem Good.mono{vs us:List Vw}{v:Vw}(h:Good vs v):Good (vs++us) v:=by
 rcases h with h | h
 . exact .inl h
 refine .inr fun q hq=>?_
 rcases h q hq with h | ⟨u,h1,h2⟩
 . exact .inl h
 exact .inr ⟨u,h1.mono,h2⟩
def InvT(vs:List Vw):Prop:=∀i (h:i<vs.length),Good (vs.take i) vs[i]
theorem InvT.put{vs:List Vw}{v:Vw}(h:InvT vs)(hv:Good vs v):InvT (xu vs v).1:=by
 unfold xu
 split
 . exact h
 intro i hi;have sS:i<vs.length+1:=by simpa using hi
 by_cases e:i<vs.length
 . have h1:=h i e
   show Good ((vs++[v]).take i) (vs++[v])[i];rw[N1 (by omega),PW e];exact h1
 obtain rfl:i=vs.length:=by omega
 show Good ((vs++[v]).take vs.length) (vs++[v])[vs.length];rw[N1 (Lh _),LD,PJ (Lh _)];simpa using hv
theorem InvT.row{vs:List Vw}{f:Nat->Vw}(h:InvT vs):∀m,(∀p,p<m->Good vs (f p))->InvT (zP f vs m).1
 | 0,_=>h
 | m+1,hf=>by
  rw[zP];dsimp only;refine(h.row m fun p hp=>hf p (by omega)).put ?_;obtain⟨us,e⟩:=jU f vs m;rw[e];exact(hf m (by omega)).mono
theorem gc(vs:List Vw)(n:Nat)(inp:List Int)(word:List Rd)(k q:Nat):(fV vs n inp word k q).p=(q:Int)/\(fV vs n inp word k q).r=(k:Int):=by
 cases k with
 | zero=>exact⟨rfl,rfl⟩
 | succ k=>exact⟨rfl,rfl⟩
theorem fV_h(vs:List Vw)(n:Nat)(inp:List Int)(word:List Rd)(k q j:Nat)(hj:j<5):(fV vs n inp word (k+1) q).h j=-1\/(j<n/\(fV vs n inp word (k+1) q).h j=(kY vs n inp word k).getD j 0):=by
 show(yI (word.getD k default) (k+1) q (kY vs n inp word k)).h j=-1\/_;have e:(fV vs n inp word (k+1) q).h j=zM (word.getD k default) q (kY vs n inp word k) j:=jS _ _ _ _ j hj;rw[jS _ _ _ _ j hj,e];unfold zM
 split
 . rename_i h
   rw[kk] at h;exact .inr ⟨h.1,rfl⟩
 exact .inl rfl
theorem InvT.play{vs:List Vw}(n:Nat)(inp:List Int)(word:List Rd)(h:InvT vs):∀j,InvT (zm vs n inp word j).1
 | 0=>by rw[zm];exact h.row n fun p _=>.inl rfl
 | j+1=>by
  have ih:=h.play n inp word j;rw[zm];refine ih.row n fun p hp=>.inr fun q hq=>?_
  have hh:=fV_h vs n inp word j p q hq;have e:fV vs n inp word (j+1) p=yI (word.getD j default) (j+1) p ((zm vs n inp word j).2.getD j []):=rfl;rw[e] at hh;rcases hh with hh | ⟨h1,h2⟩
  . exact .inl hh
  . refine .inr ⟨fV vs n inp word j q,?_,(gc ..).1,?_⟩
    . rw[h2];exact jY vs n inp word j j q (Lh _) h1
    . rw[(gc ..).2];show(j:Int)=((j+1:Nat):Int)-1;omega
theorem InvT.run(p:Pb)(l:List (Nat×List Rd)):InvT (zo p l).1:=by
 have key:∀n,n<=l.length->InvT (zo p (l.take n)).1:=by
  intro n
  induction n with
  | zero=>intro _ i hi;simp[kj] at hi
  | succ n ih=>
   intro hn;rw[Lu (by omega),xI];exact(ih (by omega)).play _ _ _ _
 have h:=key l.length (Lh _);rwa[LD] at h
theorem vc{t:Tk}:∀ {q:Option Cs} {l:List Cs},xV t q l=0->∀c∈l,zr c.inp t.n t.ins=0
 | _,[],_,c,hc=>by cases hc
 | q,d::l,h,c,hc=>by
  rw[xV] at h
  split at h
  . rename_i h1;exact absurd h h1
  . rename_i h1
    rcases LT.1 hc with rfl | hc
    . have h2:xE t q c=0:=by simpa using h1
      unfold xE at h2
      split at h2
      . rename_i h3;exact absurd h2 h3
      . rename_i h3;simpa using h3
    . exact vc h c hc
theorem task_vec{t:Tk}(h:yA t=0):∀c∈t.cases,(c.inp.length:Int)=t.n/\∀i∈c.inp,0<=i/\i<8:=by
 unfold yA at h
 split at h
 . cases h
 rename_i hb
 split at h
 . cases h
 intro c hc;have h4:=vc (by unfold yM at h;rwa[LQ] at h) c hc;unfold zr at h4
 split at h4
 . cases h4
 rename_i h5
 split at h4
 . cases h4
 rename_i h6;refine⟨by simpa using h5,fun i hi=>?_⟩;have h7:¬yO t.ins i=Av:=fun e=>h6 (Ns.2 ⟨i,hi,e⟩)
 unfold yO at h7;have h8:¬(i<0\/t.ins<=i):=by simpa using h7
 omega
theorem YT{vs:List Vw}:∀ {l:List Nat},(l.Pairwise fun a b=>ut vs a b=Ax)->kH vs l=Av
 | [],_=>rfl
 | a::l,h=>by
  obtain⟨h1,h2⟩:=List.pairwise_cons.1 h;unfold kH;rw[YT h2,Bool.and_true,LH];exact fun b hb=>by rw[h1 b hb];rfl
theorem qy{vs:List Vw}{i:Int}{v:Vw}(h:At vs i v):zv vs i.toNat=v:=by
 unfold zv;rw[Le,h.2];rfl
theorem pastL_lt(vs:List Vw)(l:List Nat):(qt vs l).Pairwise (·<·):=(List.pairwise_lt_range (n:=vs.length)).filter _
theorem YZ{p:Pb}{K N:Nat}(h0:zC p=0)(hF:Fine (zq p) K N):Wf (zq p).n (zq p).vs:=by
 obtain⟨cK,dO,ia,cq,lO⟩:=zJ h0;have Hg:=task_vec cK;obtain⟨f1,f2,f3⟩:=wk p (zk p);have iT:InvT (zq p).vs:=InvT.run p (zk p);have hN:(zq p).n=(N:Int):=hF.n;have DO:p.t.n.toNat=N:=by have:p.t.n=(N:Int):=hF.pn;omega
 have h1N:=hF.n1;have h5N:=hF.n5;refine⟨by omega,by omega,fun i hi=>?_⟩;have hg:zv (zq p).vs i=(zq p).vs[i]:=qw hi;obtain⟨v,hv⟩:=Kh ((zq p).vs[i]);have nh:=iT i hi;rw[hv] at hg nh;have cB:v∈(zq p).vs:=by rw[<-hv];exact Ld hi
 obtain⟨⟨pv,CS,rg⟩,⟨rv,sz,oT⟩,an⟩:=hF.vs v cB;obtain⟨y,hy,dK,k,q,hk,hq,e,us,mQ⟩:=f2 v cB
 have Fd:∃c∈p.t.cases,zW p y.1=c.inp:=by
  unfold zk at hy;obtain⟨d,hd,hy⟩:=LR.1 hy;obtain⟨w',db,rfl⟩:=LA.1 hy;have Sa:d<p.t.cases.length:=by simpa using hd
  refine⟨p.t.cases[d],Ld Sa,?_⟩;show(p.t.cases.getD d default).inp=_;rw[Le,Lg Sa];rfl
 obtain⟨c,hc,IY⟩:=Fd;obtain⟨bh,ta⟩:=Hg c hc
 have bz:∀k' q',k'<=y.2.length->q'<N->At (zq p).vs ((kY dK p.t.n.toNat (zW p y.1) y.2 k').getD q' 0) (fV dK p.t.n.toNat (zW p y.1) y.2 k' q'):=fun k' q' a b=>by
  show At (zo p (zk p)).1 _ _;rw[mQ];exact(jY dK p.t.n.toNat (zW p y.1) y.2 y.2.length k' q' a (by omega)).mono
 have lU:yZ (zq p).n v=0:=by
  have fT:=gc dK p.t.n.toNat (zW p y.1) y.2 k q;rw[<-e] at fT;unfold yZ;rw[Lj,Lj,Lj]
  . intro hh
    rw[Ns] at hh;obtain⟨j,hj,hb⟩:=hh;have Bj:j<5:=by simpa using hj
    unfold qY at hb;have af:v.h j≠-1/\(v.r=0\/(zq p).n<=(j:Int)):=by simpa using hb
    cases k with
    | zero=>
     have:v.h j=-1:=by
      rw[e]
      match j,Bj with
      | 0,_=>rfl
      | 1,_=>rfl
      | 2,_=>rfl
      | 3,_=>rfl
      | 4,_=>rfl
     exact af.1 this
    | succ k=>
     have hh:=fV_h dK p.t.n.toNat (zW p y.1) y.2 k q j Bj;rw[<-e] at hh;rcases hh with hh | ⟨hh,_⟩
     . exact af.1 hh
     . rcases af.2 with h | h
       . have:=fT.2;omega
       . omega
  . rintro⟨h1,h2⟩
    apply h2;rw[e]
    cases k with
    | zero=>have:=fT.2;omega
    | succ k=>rfl
  unfold xn
  have h3:v.r=0->0<=v.i/\v.i<8:=fun hr=>by
   have cq:k=0:=by have:=fT.2;omega
   subst cq;rw[e];have f':q<c.inp.length:=by omega
   have h9:(zW p y.1).getD q 0=c.inp[q]:=by rw[IY,Le,Lg f'];rfl
   have BF:=ta _ (Ld f');rw[<-h9] at BF;exact BF
  have h6:=hF.k6;simp only[decide_eq_true_eq];omega
 have IZ:zR (zq p).n ((zq p).vs.take i) v=0:=by
  by_cases AT:v.r=0
  . unfold zR;rw[Ln (.inr AT)];exact lU
  have CZ:∀q,q<5->yh ((zq p).vs.take i) v q=0:=fun j hj=>by
   unfold yh;rcases nh with h | h
   . exact absurd h AT
   . rcases h j hj with h | ⟨u,h1,h2,h3⟩
     . rw[Ln h]
     . have ac:=h1.lt
       rw[Lj (by omega),Lj (by omega),qy h1,Lj (by omega)]
  unfold zR;rw[Lj (by intro h;rcases h with h | h;exact h lU;exact AT h),Lj (by rw[xJ.2 CZ];simp)];obtain⟨u,hu,_,_⟩:=an (by omega);rw[Lj (by have:=hu.1;omega),Ln]
  -- what is reached lies in one execution
  have mR:∀a,a<i->zv ((zq p).vs.take i) a=zv (zq p).vs a:=fun a ha=>vG ha
  let S:Nat->Prop:=fun a=>∃k' q':Nat,k'<=y.2.length/\q'<N/\((a:Nat):Int)=(kY dK p.t.n.toNat (zW p y.1) y.2 k').getD q' 0
  have Wi:uJ ((zq p).vs.take i):=fun a ha b hb=>by
   have dI:a<i/\a<(zq p).vs.length:=by rw[Nd] at ha;omega
   rw[mR a dI.1,qw dI.2] at hb;obtain⟨g1,j,hj,g2,rfl⟩:=qJ.1 hb;rcases iT a dI.2 with h | h
   . omega
   . rcases h j hj with h | ⟨u,h1,_⟩
     . omega
     . have:=h1.lt;rw[Nd] at this;omega
  have C':∀w k' q',k'<=y.2.length->q'<N->w=fV dK p.t.n.toNat (zW p y.1) y.2 k' q'->∀b,b∈zS w->S b:=fun w k' q' cY hq' ew b hb=>by
   obtain⟨g1,j,hj,g2,rfl⟩:=qJ.1 hb
   cases k' with
   | zero=>rw[ew] at g1;exact absurd g1 (by show ¬(0:Int)<0;omega)
   | succ k'=>
    have hh:=fV_h dK p.t.n.toNat (zW p y.1) y.2 k' q' j hj;rw[<-ew] at hh;rcases hh with hh | ⟨h1,h2⟩
    . omega
    . exact⟨k',j,by omega,by omega,by omega⟩
  have hS:∀a,a<((zq p).vs.take i).length->S a->∀b,b∈zS (zv ((zq p).vs.take i) a)->S b:=fun a ha Wo b hb=>by
   have dI:a<i:=by rw[Nd] at ha;omega
   obtain⟨k',q',h1,h2,h3⟩:=Wo;rw[mR a dI] at hb;refine C' _ k' q' h1 h2 ?_ b hb;have h4:=qy (bz k' q' h1 h2);rw[<-h3,Lv] at h4;exact h4
  have bZ:∀x,x∈qt ((zq p).vs.take i) (zS v)->S x/\x<i:=fun x hx=>by
   obtain⟨g1,c',Bw,AQ⟩:=Zb.1 hx;have Wn:=C' v k q hk (by omega) e c' Bw
   have IX:c'<((zq p).vs.take i).length:=by
    obtain⟨g1,j,hj,g2,rfl⟩:=qJ.1 Bw;rcases nh with h | h
    . exact absurd h AT
    . rcases h j hj with h | ⟨u,h1,_⟩
      . omega
      . have:=h1.lt;omega
   exact⟨jX Wi hS IX Wn AQ,by rw[Nd] at g1;omega⟩
  refine YT ?_;refine List.Pairwise.imp_of_mem (fun {a b} ha hb rz=>?_) (pastL_lt _ _);obtain⟨⟨k1,q1,a1,a2,a3⟩,a4⟩:=bZ a ha;obtain⟨⟨k2,q2,b1,b2,b3⟩,b4⟩:=bZ b hb;unfold ut;rw[decide_eq_false_iff_not];rintro⟨e1,e2⟩;rw[mR a a4,mR b b4] at e1 e2;have h4:=qy (bz k1 q1 a1 a2);rw[<-a3,Lv] at h4;have h5:=qy (bz k2 q2 b1 b2);rw[<-b3,Lv] at h5;rw[h4,h5,(gc ..).1,(gc ..).1] at e1;rw[h4,h5,(gc ..).2,(gc ..).2] at e2;obtain rfl:q1=q2:=by omega
  obtain rfl:k1=k2:=by omega
  rw[<-b3] at a3;omega
 unfold jV;rw[hg,Lj (by rw[IZ];simp),Lj];intro hm;obtain⟨a,ha,ea⟩:=LU hm;rw[List.getElem_take] at ea;have dI:a<i:=by rw[Nd] at ha;omega
 have dq:i<(zo p (zk p)).1.length:=hi;have:=hZ f3 (show a<(zo p (zk p)).1.length by omega) dq (ea.trans hv.symm);omega
end
section
open Go.RowKit
theorem qs{p:Pb}(h:xj p=Av):zD p=(zq p,0)/\yX (zq p)=0/\xY p/\zC p=0/\zK p<=60/\p.t.n<=3/\∃K N,Fine (zq p) K N/\Sees (zq p) K N:=by
 unfold xj at h;rw[L5] at h;obtain⟨h1,h2⟩:=h;obtain⟨hf,h3⟩:=few_x h1;have h4:(zD p).2=0:=LK h2
 have h0:zC p=0:=by
  by_cases h0:zC p=0
  . exact h0
  rw[xm h0] at h4;exact absurd h4 h0
 have hm:¬4096<zK p:=fun hm=>by rw[yW h0 hm] at h4;exact absurd h4 (by decide)
 have df:zK p<=60:=by
  rcases hf.2 h0 with h | h
  . exact h
  exact absurd h hm
 have hb:=xr h0 (by omega);obtain⟨cK,_⟩:=zJ h0;obtain⟨_,fU,na⟩:=yt cK;obtain⟨K,N,hF⟩:=gx hf h0 df;refine⟨hb,?_,hf,h0,df,by omega,K,N,hF,Qu hF⟩;unfold yX;have e:(zq p).p=p:=rfl;rw[e,hb,Lj (by simp),Ln rfl]
end
section
open Go.RowKit
attribute [local go_sem] Oper.semAt_some
theorem bld1_any(x:Int)(m kv:Nat)(AV:Bb)(c0 c1 c2 c3 c4 c5 c6 c7 c9:Au)(bm:Nat)(w:Ba)(hb:w.heap[bm]?=J (Ah #[c0,c1,c2,c3,c4,c5,c6,c7,I AV m kv,c9] 36 (0,0))) :
  Ap An 30 #[O U x,Ak (J ⟨bm,0,Z⟩)] w fun e w'=>e=Am (Ai (yO (m:Int) x))/\w=w':=by
 have H:As (yO (m:Int) x=decide (x<0\/(m:Int)<=x)):=rfl;have c8:=za hb 8 rfl;clear hb;go_enter func30,ntmps30;go_wp2
 all_goals
  go_ret;refine⟨ze ?_,rfl⟩;rw[H.out];simp
  try omega
theorem Qx(A:Bb)(c:Nat)(xs:List Int)(m kv:Nat)(AV:Bb)(c0 c1 c2 c3 c4 c5 c6 c7 c9:Au)(bm:Nat)(hl:xs.length<=17592186044416)(w:Ba)(hA:IAt w w.heap.size A xs)(hb:w.heap[bm]?=J (Ah #[c0,c1,c2,c3,c4,c5,c6,c7,I AV m kv,c9] 36 (0,0))) :
  Ap An 68 #[I A xs.length c,.func (.func 30) #[] #[Ak (J ⟨bm,0,Z⟩)]] w (ZX (xs.any (yO (m:Int))) w):=by
 have HA:=zH hA;have HV:=zH (fun x=>bld1_any x m kv AV c0 c1 c2 c3 c4 c5 c6 c7 c9 bm w hb);obtain⟨r,hr⟩:=Kh (xs.any (yO (m:Int)));rw[hr];have HR:As (r=(xs.drop 0).any (yO (m:Int))):=by rw[LQ];exact hr.symm
 clear hA hb hr;go_enter func68,ntmps68;go_wp2_with fail
 go_loop [8] (fun i=>∃k:Nat,k<=xs.length/\i=O U (k:Int)/\As (r=(xs.drop k).any (yO (m:Int)))) (fun i=>xs.length-(Aq i).toNat)
 case atStart=>exact⟨0,by omega,rfl,HR⟩
 obtain⟨k,hk,rfl,ai⟩:=hrel;clear HR
 by_cases ac:k<xs.length
 . obtain⟨b,o,rfl,dH,cc⟩:=HA.out.at_ k ac
   have hs:=qN (p:=yO (m:Int)) ac;obtain⟨x,hx⟩:=Kh (xs[k]);rw[hx] at cc hs;have HS:=zH hs;have HC:=zH (HV.out x);obtain⟨bo,bJ⟩:=Kh (yO (m:Int) x);rw[bJ] at HS HC;clear hs hx bJ;go_wp2_with fail;refine HC.out.mono ?_;rintro e w' ⟨rfl,rfl⟩
   cases bo with
   | true=>
    have hR:r=Av:=by rw[ai.out,HS.out];rfl
    subst hR;go_wp2_with fail;go_ret;exact⟨(k:Int),rfl,by simp,0,rfl⟩
   | false=>
    have cf:As (r=(xs.drop (k+1)).any (yO (m:Int))):=by rw[ai.out,HS.out];rfl
    clear HS HC;go_wp2_with fail
    go_round
    case rel=>exact⟨k+1,by omega,by go_num,cf⟩
    case measure=>simp[Aq];omega
 obtain rfl:k=xs.length:=by omega
 have hR:r=Ax:=ai.out.trans (kX rfl);subst hR;go_wp2_with fail;go_ret;exact⟨-1,rfl,by decide,0,rfl⟩
theorem Y1(A:Bb)(c:Nat)(xs:List Int)(m kv:Nat)(AV:Bb)(c0 c1 c2 c3 c4 c5 c6 c7 c9:Au)(bm:Nat)(hl:xs.length<=17592186044416)(w:Ba)(hA:IAt w w.heap.size A xs)(hb:w.heap[bm]?=J (Ah #[c0,c1,c2,c3,c4,c5,c6,c7,I AV m kv,c9] 36 (0,0))) :
  Ap An 29 #[I A xs.length c,.func (.func 30) #[] #[Ak (J ⟨bm,0,Z⟩)]] w fun e w'=>e=Am (Ai (xs.any (yO (m:Int))))/\∃n,w'=w.drewN n:=by
 have hc:=Qx A c xs m kv AV c0 c1 c2 c3 c4 c5 c6 c7 c9 bm hl w hA hb;obtain⟨r,hr⟩:=Kh (xs.any (yO (m:Int)));rw[hr] at hc ⊢;have HC:=zH hc;clear hc hA hb hr;go_enter func29,ntmps29;go_wp2_with fail;refine HC.out.mono ?_;rintro e w' ⟨i,rfl,hi,n,rfl⟩;have HI:=zH hi;clear hi HC;go_wp2_with fail;go_ret;exact⟨ze HI.out,_,rfl⟩
def vP(B0:Nat)(p:Pb)(w:Ba)(e:Ending)(w':Ba):Prop:=
 (xj p=Ax->e=Am (.tuple #[Aj #[O U 0,O U 0,O U 0,I Z 0 0,O U 0,I Z 0 0,O U 0,O U 0,I Z 0 0,I Z 0 0],Ai Ax,Ai Av])) /\
 (xj p=Av->∃A kc SV ks AV kv AX kx,e=Am (.tuple #[.agg ((zq p).vs_ A kc SV ks AV kv AX kx),Ai Av,Ai Av]) /\
  (∀W':Ba,w'.heap.size<=W'.heap.size->(∀k,(k<B0\/w.heap.size<=k)->k<w'.heap.size->W'.heap[k]?=w'.heap[k]?)->SyAt W' W'.heap.size A SV AV AX (zq p)/\XCap W' AX (zq p).xs)/\(zq p).vs.length<=kv/\kv<=maxLen)/\Ao w.heap.size w w'
theorem any_out{m:Nat}{l:List Int}(h:∀i∈l,0<=i/\i<(m:Int)):l.any (yO (m:Int))=Ax:=by
 rw[PT];intro ha;obtain⟨i,hi,hb⟩:=Ns.1 ha;have:=h i hi;unfold yO at hb;have h2:i<0\/(m:Int)<=i:=by simpa using hb
 omega
theorem Y3(p:Pb)(hl:uI p)(A:Bb)(kc:Nat)(SV:Bb)(ks:Nat)(w:Ba)(B0:Nat)(aX:B0<=w.heap.size)(hA:CAt w B0 A p.t.cases)(hS:SAt w B0 SV p.a.sts) :
  Ap An 10 #[.agg (p.vs A kc SV ks)] w (vP B0 p w):=by
 obtain⟨w1,ah,d0,d1,bI,aB⟩:=zZ w (p.vs A kc SV ks) #[O U 0,O U 0,O U 0,I Z 0 0,O U 0,I Z 0 0,O U 0,O U 0,I Z 0 0,I Z 0 0] 29 36;have eP:=((hA.more aX).keep aB).more aB.size;have nX:=((hS.more aX).keep aB).more aB.size;have HR:=zH (JE p hl A kc SV ks w1 eP nX);have SX:=hA.keep (aB.mono aX);have DL:=hS.keep (aB.mono aX);have fh:=zH aX;have iu:=zH (fun (hf:xY p) (X:Ba) (hX:Ao w1.heap.size w1 X)=>Y0 p hf A kc SV ks X B0 (Lx aX (Lx aB.size hX.size)) (SX.keep (hX.mono (Lx aX aB.size))) (DL.keep (hX.mono (Lx aX aB.size))));have iH:=zH (fun h=>qs (p:=p) h);have Ez:=zH (fun (hf:xY p)=>qM hl hf);have iG:=zH (fun (hs:LowS (zq p)) (hf:xY p) (A2 da AV AX:Bb) (dM dL kv kx:Nat) (X:Ba) (hX:SyAt X X.heap.size A2 da AV AX (zq p))=>rver_any (zq p) hs hf A2 da AV AX dM dL kv kx X hX);have lY:As (xj p=Ax->∀W,Ao w.heap.size w W->vP B0 p w (Am (.tuple #[Aj #[O U 0,O U 0,O U 0,I Z 0 0,O U 0,I Z 0 0,O U 0,O U 0,I Z 0 0,I Z 0 0],Ai Ax,Ai Av])) W):=fun h W hb=>⟨fun _=>rfl,fun h2=>(by rw[h] at h2;cases h2),hb⟩
 have Eh:As (xj p=Av->∀A kc SV ks AV kv AX kx W,(∀W':Ba,W.heap.size<=W'.heap.size->(∀k,(k<B0\/w.heap.size<=k)->k<W.heap.size->W'.heap[k]?=W.heap[k]?)->SyAt W' W'.heap.size A SV AV AX (zq p)/\XCap W' AX (zq p).xs)->(zq p).vs.length<=kv->kv<=maxLen->Ao w.heap.size w W->vP B0 p w (Am (.tuple #[.agg ((zq p).vs_ A kc SV ks AV kv AX kx),Ai Av,Ai Av])) W):=fun h A kc SV ks AV kv AX kx W h1 h2 h3 hb=>⟨fun h4=>(by rw[h] at h4;cases h4),fun _=>⟨A,kc,SV,ks,AV,kv,AX,kx,rfl,h1,h2,h3⟩,hb⟩
 obtain⟨RB,SG⟩:=Kh (vP B0 p w);rw[SG] at lY Eh ⊢;clear SG;unfold Pb.vs at ah d0 HR iu ⊢;have aq:=zH ah;have bu:=zH d0;have bQ:=zH d1;have dC:=zH aB;obtain⟨p0,p1,p2,p3,p4,p5,p6,_⟩:=Kf d0;obtain⟨r,hr⟩:=Kh (xj p);rw[hr] at HR lY Eh;have im:=zH hr;clear ah d0 d1 aB hA hS eP nX SX DL hr hl;go_enter func10,ntmps10;go_wp2_with fail;rw[aq.out];go_wp2_with fail;refine HR.out.mono ?_;rintro e w2 ⟨rfl,af⟩;have B2:=zH (dC.out.trans (af.mono (by omega)));have G2:=zH af;have dX:=af.size;have d0:=La af bu.out;have d1:=La af bQ.out;clear af HR aq p0 p1 p2 p3 p4 p5 p6
 cases r with
 | false=>
  clear iu iH Ez iG Eh;have y0:=za d1 0 rfl;have f0:=zb d1 0;have y1:=za d1 1 rfl;have f1:=zb d1 1;have y2:=za d1 2 rfl;have f2:=zb d1 2;have y3:=za d1 3 rfl;have f3:=zb d1 3;have y4:=za d1 4 rfl;have f4:=zb d1 4;have y5:=za d1 5 rfl;have f5:=zb d1 5;have y6:=za d1 6 rfl;have f6:=zb d1 6;have y7:=za d1 7 rfl;have f7:=zb d1 7;have y8:=za d1 8 rfl;have f8:=zb d1 8;have y9:=za d1 9 rfl;have f9:=zb d1 9;obtain⟨k1,k2,k3⟩:=xq (O U 0) (O U 0) (O U 0) (I Z 0 0) (O U 0) (I Z 0 0) (O U 0) (O U 0) (I Z 0 0) (I Z 0 0) d1 B2.out (by omega:w.heap.size<=w.heap.size+1);obtain⟨WF,cZ⟩:=Kh (((((((((((w2.setCell ⟨w.heap.size+1,0,Z⟩ (O U 0)).setCell ⟨w.heap.size+1,1,Z⟩ (O U 0)).setCell ⟨w.heap.size+1,2,Z⟩ (O U 0)).setCell ⟨w.heap.size+1,3,Z⟩ (I Z 0 0)).setCell ⟨w.heap.size+1,4,Z⟩ (O U 0)).setCell ⟨w.heap.size+1,5,Z⟩ (I Z 0 0)).setCell ⟨w.heap.size+1,6,Z⟩ (O U 0)).setCell ⟨w.heap.size+1,7,Z⟩ (O U 0)).setCell ⟨w.heap.size+1,8,Z⟩ (I Z 0 0)).setCell ⟨w.heap.size+1,9,Z⟩ (I Z 0 0)));rw[cZ] at k1 k2 k3;have mA:=zH k1;have lj:=zH k2;have rZ:=zH k3;have lf:=zH cZ;clear k1 k2 k3 cZ;clear d0 d1;go_wp2_with fail;rw[lf.out];obtain⟨z0,z1,z2,z3,z4,z5,z6,z7,z8,z9⟩:=yg mA.out
  refine Na (v:=.tuple #[Aj #[O U 0,O U 0,O U 0,I Z 0 0,O U 0,I Z 0 0,O U 0,O U 0,I Z 0 0,I Z 0 0],Ai Ax,Ai Av]) (by simp[results,results10,go_sem,z0,z1,z2,z3,z4,z5,z6,z7,z8,z9]) rfl ?_;exact lY.out (by simp) _ lj.out
 | true=>
 obtain⟨pm,mO,hf,h0,df,Be,K,N,hF,rC⟩:=iH.out im.out;have HB:=zH (iu.out hf w2 G2.out);have nA:=zH (iG.out (by have:=Ez.out hf;rw[pm] at this;exact this) hf);have M9:=zH hF;have TD:=zH rC;rw[pm] at HB;rw[mO] at nA;have dN:As (p.k=(K:Int)):=hF.k;have ia:As (p.t.n=(N:Int)):=hF.pn;have lO:=hF.k6;have HN5:=zH hF.n5;have bq:=zH rC.cs;have iB:=zH hF.word;have Fh:=zH hF.views;have oY:=hF.lx;have Bi:=hF.lv;have Fu:As ((zq p).p.t.cases.length=p.t.cases.length):=rfl;obtain⟨T,hT⟩:=Kh (zq p);have iF:=zH (Eh.out (by simp));rw[hT] at HB nA bq iB Fh oY Bi Fu iF;have rT:As (T.p=p):=by rw[<-hT];rfl
 clear lY Eh iH iu iG Ez pm mO hf h0 df Be hF rC hT;obtain⟨p0,p1,p2,p3,p4,p5,p6,_⟩:=Kf d0;have eS:=zH d0;have ay:=zH d1;have EA:As (w.heap.size+1<w2.heap.size):=zd d1;clear d0 d1;go_wp2_with fail;refine HB.out.mono ?_;rintro e w3 ⟨A2,dM,da,dL,AV,kv,AX,kx,rfl,tq,eF,fD,ap⟩;have SD:=(tq w3 (Lh _) (fun _ _ _=>rfl)).1;have HSF:=zH tq;clear tq;have B3:=zH (B2.out.trans (ap.mono (by omega)));have fE:=ap.size;have oh:=zH eF;have l5:=zH fD;have EP:=zH (La ap eS.out);have mD:=zH (La ap ay.out);obtain⟨W3,bP,b3,sh,aZ⟩:=zt w3 (T.vs_ A2 dM da dL AV kv AX kx) 36;have ez:=zH (SD.up aZ);have Uf:=zH (Lc B3.out aZ);have EW:=zH aZ;have e0:=Lb aZ (by have:=zd EP.out;omega) EP.out;have e1:=Lb aZ (by have:=zd mD.out;omega) mD.out;have Mm:=zH (nA.out A2 da AV AX dM dL kv kx W3 ez.out);unfold Sy.vs_ at bP b3 Mm ⊢;have dV:=zH bP;have me:=zH b3;have r8:=zH e0;have z':=zH e1;clear ap SD bP aZ eF fD HB EP mD eS ay p0 p1 p2 p3 p4 p5 p6 e0 e1;go_wp2_with fail;rw[dV.out];refine Mm.out.mono ?_;rintro e w4 ⟨rfl,aU⟩;have HC4:=zH (Lc Uf.out aU);have mx:=zH (ez.out.up aU);have Aa:=zH (La aU me.out);have M8:=zH (La aU r8.out);have EL:=zH (La aU z'.out);have d4:=Aa.out;have x2:=za d4 9 rfl
 have iQ:=aU.size;have Gm:As (w.heap.size+1<w3.heap.size):=by show _<_;have:=EA.out;omega
 have MU:As (w.heap.size+1<w2.heap.size):=EA;have Nv:As (∀k,k<w3.heap.size->w4.heap[k]?=w3.heap[k]?):=fun k hk=>(aU.block k (by have:=EW.out.size;omega)).trans (EW.out.block k hk)
 clear aU Mm Uf ez me r8 z' d4 nA;go_wp2_with fail
 go_loopw [31] (fun i wr=>∃k:Nat,k<=T.xs.length/\i=O U (k:Int)/\As (Ao w4.heap.size w4 wr)) (fun i _=>T.xs.length-(Aq i).toNat)
 case atStart=>exact⟨0,by omega,rfl,Lp _ _⟩
 obtain⟨k,hk,rfl,hb⟩:=hrel;have sn:w.heap.size+1<w4.heap.size:=zd EL.out;have AJ:w3.heap.size<w4.heap.size:=zd Aa.out;have UP:w.heap.size+1<w3.heap.size:=Gm.out;have e0:=Lb hb.out (by omega) M8.out;have e1:=Lb hb.out (by omega) EL.out;have e5:=Lb hb.out (by omega) Aa.out
 by_cases ac:k<T.xs.length
 case neg=>
  obtain rfl:k=T.xs.length:=by omega
  have y0:=za e1 0 rfl;have f0:=zb e1 0;have y1:=za e1 1 rfl;have f1:=zb e1 1;have y2:=za e1 2 rfl;have f2:=zb e1 2;have y3:=za e1 3 rfl;have f3:=zb e1 3;have y4:=za e1 4 rfl;have f4:=zb e1 4;have y5:=za e1 5 rfl;have f5:=zb e1 5;have y6:=za e1 6 rfl;have f6:=zb e1 6;have y7:=za e1 7 rfl;have f7:=zb e1 7;have y8:=za e1 8 rfl;have f8:=zb e1 8;have y9:=za e1 9 rfl;have f9:=zb e1 9;have z0':=za e5 0 rfl;have z1':=za e5 1 rfl;have z2':=za e5 2 rfl;have z3':=za e5 3 rfl;have z4':=za e5 4 rfl;have z5':=za e5 5 rfl;have z6':=za e5 6 rfl;have z7':=za e5 7 rfl;have z8':=za e5 8 rfl;have z9':=za e5 9 rfl;obtain⟨k1,k2,k3⟩:=xq (O U T.p.t.n) (O U T.p.t.ins) (O U T.p.t.outs) (I A2 T.p.t.cases.length dM) (O U T.p.a.n) (I da T.p.a.sts.length dL) (O U T.p.k) (O U T.n) (I AV T.vs.length kv) (I AX T.xs.length kx) e1 (Lc HC4.out hb.out) (by omega:w.heap.size<=w.heap.size+1)
  obtain⟨WF,cZ⟩:=Kh (((((((((((wr.setCell ⟨w.heap.size+1,0,Z⟩ (O U T.p.t.n)).setCell ⟨w.heap.size+1,1,Z⟩ (O U T.p.t.ins)).setCell ⟨w.heap.size+1,2,Z⟩ (O U T.p.t.outs)).setCell ⟨w.heap.size+1,3,Z⟩ (I A2 T.p.t.cases.length dM)).setCell ⟨w.heap.size+1,4,Z⟩ (O U T.p.a.n)).setCell ⟨w.heap.size+1,5,Z⟩ (I da T.p.a.sts.length dL)).setCell ⟨w.heap.size+1,6,Z⟩ (O U T.p.k)).setCell ⟨w.heap.size+1,7,Z⟩ (O U T.n)).setCell ⟨w.heap.size+1,8,Z⟩ (I AV T.vs.length kv)).setCell ⟨w.heap.size+1,9,Z⟩ (I AX T.xs.length kx)));rw[cZ] at k1 k2 k3;have mA:=zH k1;have lj:=zH k2;have rZ:=zH k3;have lf:=zH cZ;have cp:=MU.out;have UH:=hb.out.size;have cW:∀k,(k<w.heap.size\/w2.heap.size<=k)->k<w3.heap.size->WF.heap[k]?=w3.heap[k]?:=fun k h1 h2=>(rZ.out.2.1 k (by omega)).trans ((hb.out.block k (by omega)).trans (Nv.out k h2))
  have UG:w3.heap.size<=WF.heap.size:=by have:=rZ.out.2.2;omega
  clear k1 k2 k3 cZ e1 e5 e0;go_wp2_with fail;rw[lf.out];obtain⟨z0,z1,z2,z3,z4,z5,z6,z7,z8,z9⟩:=yg mA.out;refine Na (v:=.tuple #[Aj #[O U T.p.t.n,O U T.p.t.ins,O U T.p.t.outs,I A2 T.p.t.cases.length dM,O U T.p.a.n,I da T.p.a.sts.length dL,O U T.p.k,O U T.n,I AV T.vs.length kv,I AX T.xs.length kx],Ai Av,Ai Av]) (by simp[results,results10,go_sem,z0,z1,z2,z3,z4,z5,z6,z7,z8,z9]) rfl ?_;exact iF.out A2 dM da dL AV kv AX kx WF (fun W' hz hs=>HSF.out W' (Lx UG hz) fun k hk hl=>(hs k (hk.imp (fun h=>h.2) fun h=>by omega) (by omega)).trans (cW k (hk.imp (fun h=>by have:=fh.out;omega) id) hl)) oh.out l5.out lj.out
 case pos=>
 obtain⟨bx,ox,A1,c1,B2,c2,eX,aM,x0,x1,E9,nZ,tu⟩:=(mx.out.fx.keep hb.out).row k ac;subst eX;have lq:=Ld ac;obtain⟨cN,I6,bh,_⟩:=bq.out _ lq;obtain⟨ec,_⟩:=iB.out _ lq;obtain⟨cm,dh⟩:=Fh.out _ lq;rw[Fu.out] at bh;have Ay:=zH bh;obtain⟨x,hx⟩:=Kh (T.xs[k]);rw[hx] at x0 x1 E9 I6 ec cm dh tu;rw[I6] at x0;rw[ec] at x1;rw[cm] at E9;obtain⟨W5,mq,b5,OI,dT⟩:=zt wr #[O U (cN:Int),I A1 K c1,I B2 (K+1) c2] 42;have Gv:=zH (Lc hb.out dT);have EF:=zH (((tu.more (by have:=hb.out.size;omega:w4.heap.size<=wr.heap.size)).keep dT).more dT.size);have d0:=Lb dT (by have:=hb.out.size;omega) e0;have d5:=Lb dT (by have:=hb.out.size;omega) e5;have p0:=za d0 0 rfl;have p3:=za d0 3 rfl;have p6:=za d0 6 rfl;rw[ia.out] at p0;rw[dN.out] at p6;obtain⟨g0,g1,g2,_⟩:=Kc b5;have r0:=za e0 0 rfl;have r3:=za e0 3 rfl;have r6:=za e0 6 rfl;rw[ia.out] at r0;rw[dN.out] at r6;have iS:w.heap.size<wr.heap.size:=by have:=hb.out.size;omega
 have tI:=zH mq;have bu:=zH d0;have ER:=zH d5;have tJ:=zH dh;have dy:=zH cm;have cq:(0:Int)<=(k:Int):=by omega
 have cy:(k:Int)<(T.xs.length:Int):=by omega
 have td:¬((cN:Int)<0):=by omega
 have hc1:¬((p.t.cases.length:Int)<=(cN:Int)):=by have:=Ay.out;omega
 have hKw:IntKind.i64.wrap ((K:Int)+1)=((K+1:Nat):Int):=by rw[Lw];omega
 clear mq b5 dT tu nZ hx I6 bh ec cm dh lq d0 d5 e0 e1 e5;go_wp2_with fail;rw[tI.out];go_wp2_with fail;clear g0 g1 p0 p3 p6 r0 r3 r6 x0 x1 E9 tI
 go_loopw [68] (fun i wx=>∃j:Nat,j<=K+1/\i=O U (j:Int)/\As (Ao W5.heap.size W5 wx)) (fun i _=>K+1-(Aq i).toNat)
 case atStart=>exact⟨0,by omega,by simp,Lp _ _⟩
 obtain⟨j,hj,rfl,aM⟩:=hrel;have dW:=zH (Lc Gv.out aM.out)
 by_cases bg:j<K+1
 case neg=>
  obtain rfl:j=K+1:=by omega
  go_wp2_with fail
  go_roundw
  case rel=>exact⟨k+1,by omega,by go_num,dW⟩
  simp[Aq];omega
 obtain⟨bl,ol,A3,c3,eL,aA,y1,hI⟩:=(EF.out.keep aM.out).at_ j (by have:=dy.out;omega);subst eL;have VB:j<x.views.length:=by have:=dy.out;omega
 obtain⟨fb,oR⟩:=tJ.out _ (Ld VB);obtain⟨row,lB⟩:=Kh (x.views[j]);rw[lB] at y1 hI fb oR;have e0:=La aM.out bu.out;have e5:=La aM.out ER.out;have p0:=za e0 0 rfl;rw[ia.out] at p0;have oD:=zH (fun c0 c1 c2 DZ c4 c5 c6 c7 c9 (h:wr.heap[w3.heap.size]?=J (Ah #[c0,c1,c2,DZ,c4,c5,c6,c7,I AV T.vs.length kv,c9] 36 (0,0)))=>Y1 A3 c3 row T.vs.length kv AV c0 c1 c2 DZ c4 c5 c6 c7 c9 w3.heap.size (by have:=HN5.out;omega) wr (hI.more aM.out.size) h);have pM:=zH (oD.out _ _ _ _ _ _ _ _ _ e5);rw[any_out oR] at pM;rw[fb] at y1 pM;have rk:(0:Int)<=(j:Int):=by omega
 have pc:(j:Int)<((K+1:Nat):Int):=by omega
 clear oD fb oR hI e0 e5 lB;go_wp2_with fail;refine pM.out.mono ?_;rintro e w7 ⟨rfl,n,rfl⟩;have lm:=zH (zx aM.out n);clear pM;go_wp2_with fail
 go_roundw
 case rel=>exact⟨j+1,by omega,by go_num,lm⟩
 simp[Aq];omega
def exMv(p:Int):Mv:=⟨⟨2,p,3,0,0,0,0⟩,0⟩
def exC1:Cs:=⟨[0,0],[[0,0]],[]⟩
def exC2:Cs:=⟨[0,1],[[0,0]],[]⟩
def gd:Pb:=⟨⟨2,2,1,[exC1,exC2]⟩,⟨2,[[exMv 1,exMv 3]]⟩,1⟩
theorem YB(p:Int)(w:Ba):Ap An 69 #[O U p] w fun e w'=>e=Am (Aj #[O U 2,O U p,O U 3,O U 0,O U 0,O U 0,O U 0,O U 0])/\Ao w.heap.size w w':=by
 go_enter func69,ntmps69;go_wp2_with fail;refine Na (v:=Aj #[O U 2,O U p,O U 3,O U 0,O U 0,O U 0,O U 0,O U 0]) (by simp[results,results69,go_sem]) rfl ⟨rfl,?_⟩
 first
  | exact zw w _
  | (refine Below.setCell ?_ (Nat.le_refl _) _
     refine Ls ?_ (Lh _) _;refine Ls ?_ (Lh _) _;refine Ls ?_ (Lh _) _;refine Ls ?_ (Lh _) _;refine Ls ?_ (Lh _) _;refine Ls ?_ (Lh _) _;refine Ls ?_ (Lh _) _
     exact zw w _)
theorem JK{w X:Ba}{g B:Nat}{a0 a1 a2 a3 a4 a5 a6:Au}(v0 v1 v2 v3 v4 v5 v6:Au)(hg:X.heap[g]?=J (Ah #[a0,a1,a2,a3,a4,a5,a6] 29 (0,0)))(hB:Ao B w X)(h1:B<=g) :
  (((((((X.setCell ⟨g,0,Z⟩ v0).setCell ⟨g,1,Z⟩ v1).setCell ⟨g,2,Z⟩ v2).setCell ⟨g,3,Z⟩ v3).setCell ⟨g,4,Z⟩ v4).setCell ⟨g,5,Z⟩ v5).setCell ⟨g,6,Z⟩ v6).heap[g]?=J (Ah #[v0,v1,v2,v3,v4,v5,v6] 29 (0,0))/\Ao B w (((((((X.setCell ⟨g,0,Z⟩ v0).setCell ⟨g,1,Z⟩ v1).setCell ⟨g,2,Z⟩ v2).setCell ⟨g,3,Z⟩ v3).setCell ⟨g,4,Z⟩ v4).setCell ⟨g,5,Z⟩ v5).setCell ⟨g,6,Z⟩ v6)/\(∀k,k≠g->(((((((X.setCell ⟨g,0,Z⟩ v0).setCell ⟨g,1,Z⟩ v1).setCell ⟨g,2,Z⟩ v2).setCell ⟨g,3,Z⟩ v3).setCell ⟨g,4,Z⟩ v4).setCell ⟨g,5,Z⟩ v5).setCell ⟨g,6,Z⟩ v6).heap[k]?=X.heap[k]?)/\(((((((X.setCell ⟨g,0,Z⟩ v0).setCell ⟨g,1,Z⟩ v1).setCell ⟨g,2,Z⟩ v2).setCell ⟨g,3,Z⟩ v3).setCell ⟨g,4,Z⟩ v4).setCell ⟨g,5,Z⟩ v5).setCell ⟨g,6,Z⟩ v6).heap.size=X.heap.size:=by
 have k0:(X.setCell ⟨g,0,Z⟩ v0).heap[g]?=J (Ah #[v0,a1,a2,a3,a4,a5,a6] 29 (0,0)):=Lk _ g 0 _ _ v0 hg;have k1:((X.setCell ⟨g,0,Z⟩ v0).setCell ⟨g,1,Z⟩ v1).heap[g]?=J (Ah #[v0,v1,a2,a3,a4,a5,a6] 29 (0,0)):=Lk _ g 1 _ _ v1 k0;have k2:(((X.setCell ⟨g,0,Z⟩ v0).setCell ⟨g,1,Z⟩ v1).setCell ⟨g,2,Z⟩ v2).heap[g]?=J (Ah #[v0,v1,v2,a3,a4,a5,a6] 29 (0,0)):=Lk _ g 2 _ _ v2 k1;have k3:((((X.setCell ⟨g,0,Z⟩ v0).setCell ⟨g,1,Z⟩ v1).setCell ⟨g,2,Z⟩ v2).setCell ⟨g,3,Z⟩ v3).heap[g]?=J (Ah #[v0,v1,v2,v3,a4,a5,a6] 29 (0,0)):=Lk _ g 3 _ _ v3 k2;have k4:(((((X.setCell ⟨g,0,Z⟩ v0).setCell ⟨g,1,Z⟩ v1).setCell ⟨g,2,Z⟩ v2).setCell ⟨g,3,Z⟩ v3).setCell ⟨g,4,Z⟩ v4).heap[g]?=J (Ah #[v0,v1,v2,v3,v4,a5,a6] 29 (0,0)):=Lk _ g 4 _ _ v4 k3;have k5:((((((X.setCell ⟨g,0,Z⟩ v0).setCell ⟨g,1,Z⟩ v1).setCell ⟨g,2,Z⟩ v2).setCell ⟨g,3,Z⟩ v3).setCell ⟨g,4,Z⟩ v4).setCell ⟨g,5,Z⟩ v5).heap[g]?=J (Ah #[v0,v1,v2,v3,v4,v5,a6] 29 (0,0)):=Lk _ g 5 _ _ v5 k4;have k6:(((((((X.setCell ⟨g,0,Z⟩ v0).setCell ⟨g,1,Z⟩ v1).setCell ⟨g,2,Z⟩ v2).setCell ⟨g,3,Z⟩ v3).setCell ⟨g,4,Z⟩ v4).setCell ⟨g,5,Z⟩ v5).setCell ⟨g,6,Z⟩ v6).heap[g]?=J (Ah #[v0,v1,v2,v3,v4,v5,v6] 29 (0,0)):=Lk _ g 6 _ _ v6 k5;refine⟨k6,?_,fun k hk=>?_,by simp⟩
 . refine Ls (p:=⟨g,6,Z⟩) ?_ h1 _
   refine Ls (p:=⟨g,5,Z⟩) ?_ h1 _;refine Ls (p:=⟨g,4,Z⟩) ?_ h1 _;refine Ls (p:=⟨g,3,Z⟩) ?_ h1 _;refine Ls (p:=⟨g,2,Z⟩) ?_ h1 _;refine Ls (p:=⟨g,1,Z⟩) ?_ h1 _;refine Ls (p:=⟨g,0,Z⟩) ?_ h1 _;exact hB
 exact((Lf _ ⟨g,6,Z⟩ v6 k hk).trans ((Lf _ ⟨g,5,Z⟩ v5 k hk).trans ((Lf _ ⟨g,4,Z⟩ v4 k hk).trans ((Lf _ ⟨g,3,Z⟩ v3 k hk).trans ((Lf _ ⟨g,2,Z⟩ v2 k hk).trans ((Lf _ ⟨g,1,Z⟩ v1 k hk).trans (Lf _ ⟨g,0,Z⟩ v0 k hk)))))))
theorem xx{W:Ba}{b:Nat}{xs:List Int}{t:TypeId}(h:W.heap[b]?=J (Ah ((xs.map (O U)).toArray) t (0,0))):IAt W W.heap.size (J ⟨b,0,Z⟩) xs:=fun _=>
 ⟨b,0,rfl,zd h,fun i hi=>by rw[LM];exact za h i (by simp[hi])⟩
theorem QY{W:Ba}{b:Nat}{v:List Int}{A:Bb}{c:Nat}{t:TypeId}(h:W.heap[b]?=J (Ah #[I A v.length c] t (0,0)))(h2:IAt W W.heap.size A v):LAt W W.heap.size (J ⟨b,0,Z⟩) [v]:=fun _=>
 ⟨b,0,rfl,zd h,fun i hi=>by
  obtain rfl:i=0:=by simpa using hi
  exact⟨A,c,za h 0 rfl,h2⟩⟩
theorem YS(w:Ba):Ap An 31 #[] w fun e w'=>∃A kc SV ks,e=Am (.agg (gd.vs A kc SV ks))/\CAt w' w'.heap.size A gd.t.cases/\SAt w' w'.heap.size SV gd.a.sts/\Ao w.heap.size w w':=by
 go_enter func31,ntmps31;go_wp2_with fail;obtain⟨a0,Sn,e0,mi,de⟩:=zt w #[O U 0,O U 0,O U 0,I Z 0 0,O U 0,I Z 0 0,O U 0] 29;obtain⟨a1,dS,e1,bI,aC⟩:=zt a0 #[O U 0,O U 0] 3;obtain⟨a2,dI,e2,dX,af⟩:=zt a1 #[O U 0,O U 0] 3;obtain⟨a3,DA,e3,fE,ap⟩:=zt a2 #[I (J ⟨w.heap.size+1+1,0,Z⟩) 2 2] 49;obtain⟨a4,Dz,e4,iQ,aU⟩:=zt a3 #[O U 0,O U 1] 3;obtain⟨a5,Dy,e5,lA,cd⟩:=zt a4 #[O U 0,O U 0] 3;obtain⟨a6,Sm,e6,sx,dp⟩:=zt a5 #[I (J ⟨w.heap.size+1+1+1+1+1,0,Z⟩) 2 2] 49;obtain⟨a7,Sl,e7,fZ,eK⟩:=zt a6 #[I (J ⟨w.heap.size+1,0,Z⟩) 2 2,I (J ⟨w.heap.size+1+1+1,0,Z⟩) 1 1,I Z 0 0,I (J ⟨w.heap.size+1+1+1+1,0,Z⟩) 2 2,I (J ⟨w.heap.size+1+1+1+1+1+1,0,Z⟩) 1 1,I Z 0 0] 118;obtain⟨a8,Sk,e8,AN,fw⟩:=zt a7 #[O U 2,O U 2,O U 1,I (J ⟨w.heap.size+1+1+1+1+1+1+1,0,Z⟩) 2 2] 24;rw[Sn,dS,dI,DA,Dz,Dy,Sm,Sl,Sk];rw[mi] at e1;rw[mi] at bI;rw[bI] at e2;rw[bI] at dX;rw[dX] at e3;rw[dX] at fE;rw[fE] at e4;rw[fE] at iQ;rw[iQ] at e5;rw[iQ] at lA;rw[lA] at e6;rw[lA] at sx;rw[sx] at e7;rw[sx] at fZ;rw[fZ] at e8;rw[fZ] at AN
 have d0:a8.heap[w.heap.size]?=_:=Lb fw (by omega) (Lb eK (by omega) (Lb dp (by omega) (Lb cd (by omega) (Lb aU (by omega) (Lb ap (by omega) (Lb af (by omega) (Lb aC (by omega) (e0))))))));have d1:a8.heap[w.heap.size+1]?=_:=Lb fw (by omega) (Lb eK (by omega) (Lb dp (by omega) (Lb cd (by omega) (Lb aU (by omega) (Lb ap (by omega) (Lb af (by omega) (e1)))))));have d2:a8.heap[w.heap.size+1+1]?=_:=Lb fw (by omega) (Lb eK (by omega) (Lb dp (by omega) (Lb cd (by omega) (Lb aU (by omega) (Lb ap (by omega) (e2))))));have d3:a8.heap[w.heap.size+1+1+1]?=_:=Lb fw (by omega) (Lb eK (by omega) (Lb dp (by omega) (Lb cd (by omega) (Lb aU (by omega) (e3)))));have d4:a8.heap[w.heap.size+1+1+1+1]?=_:=Lb fw (by omega) (Lb eK (by omega) (Lb dp (by omega) (Lb cd (by omega) (e4))));have d5:a8.heap[w.heap.size+1+1+1+1+1]?=_:=Lb fw (by omega) (Lb eK (by omega) (Lb dp (by omega) (e5)));have d6:a8.heap[w.heap.size+1+1+1+1+1+1]?=_:=Lb fw (by omega) (Lb eK (by omega) (e6))
 have d7:a8.heap[w.heap.size+1+1+1+1+1+1+1]?=_:=Lb fw (by omega) (e7);have d8:a8.heap[w.heap.size+1+1+1+1+1+1+1+1]?=_:=e8;have lW:Ao w.heap.size w a8:=((((((((de).trans (aC.mono (by omega))).trans (af.mono (by omega))).trans (ap.mono (by omega))).trans (aU.mono (by omega))).trans (cd.mono (by omega))).trans (dp.mono (by omega))).trans (eK.mono (by omega))).trans (fw.mono (by omega));have D0:=zH d0;have D1:=zH d1;have D2:=zH d2;have D3:=zH d3;have D4:=zH d4;have D5:=zH d5;have D6:=zH d6;have D7:=zH d7;have D8:=zH d8;have HB8:=zH lW;clear Sn e0 de d0 dS e1 aC d1 dI e2 af d2 DA e3 ap d3 Dz e4 aU d4 Dy e5 cd d5 Sm e6 dp d6 Sl e7 eK d7 Sk e8 fw d8 lW;have Uo:=D8.out;refine zz [(0,Av),(1,Av),(3,Av),(2,Ax),(4,Ax),(5,Ax),(6,Ax),(7,Ax),(8,Ax),(9,Ax)] (fun W=>W.heap[w.heap.size+1+1+1+1+1+1+1+1]?=J (Ah #[O U 2,O U 2,O U 1,I (J ⟨w.heap.size+1+1+1+1+1+1+1,0,Z⟩) 2 2] 24 (0,0))) (by kernel_rfl) (by kernel_rfl) Uo ?_;clear Uo
 repeat
  apply zg rfl
  . rintro K' ae W y0
    have x0:W.cell? ⟨w.heap.size+1+1+1+1+1+1+1+1,0,Z⟩=J (O U 2):=za y0 0 rfl;have x1:W.cell? ⟨w.heap.size+1+1+1+1+1+1+1+1,1,Z⟩=J (O U 2):=za y0 1 rfl;have x2:W.cell? ⟨w.heap.size+1+1+1+1+1+1+1+1,2,Z⟩=J (O U 1):=za y0 2 rfl;have x3:W.cell? ⟨w.heap.size+1+1+1+1+1+1+1+1,3,Z⟩=J (I (J ⟨w.heap.size+1+1+1+1+1+1+1,0,Z⟩) 2 2):=za y0 3 rfl;clear y0;go_simp;exact ae
 refine zE rfl ?_;intro K' ae;go_simp;refine(YB 1 a8.drew).mono ?_;rintro e m1 ⟨rfl,sM⟩;have MQ:As (Ao a8.heap.size a8 m1):=(Lp _ a8).drew.trans sM;have bS:=MQ.out.size;refine ae _ _ (Lb MQ.out (by omega) D8.out) ?_;clear ae K' sM;refine zE rfl ?_;intro K' ae;go_simp;refine(YB 3 m1).mono ?_;rintro e m2 ⟨rfl,fI⟩;have tX:As (Ao a8.heap.size a8 m2):=MQ.out.trans (fI.mono bS);have cp:=tX.out.size;refine ae _ _ (Lb tX.out (by omega) D8.out) ?_;clear ae K' fI;refine zE rfl ?_;intro K' ae;go_simp;obtain⟨m3,Fs,c3,Hq,Kq⟩:=zt m2 #[O U 2,O U 1,O U 3,O U 0,O U 0,O U 0,O U 0,O U 0,O U 2,O U 3,O U 3,O U 0,O U 0,O U 0,O U 0,O U 0] 121;rw[Fs];have MP:As (Ao a8.heap.size a8 m3):=tX.out.trans (Kq.mono cp);have sh:=MP.out.size;refine ae _ _ (Lb MP.out (by omega) D8.out) ?_;clear ae K' Fs;refine zE rfl ?_;intro K' ae;go_simp;obtain⟨m4,sK,c4,U6,Dv⟩:=zt m3 #[I (J ⟨m2.heap.size,0,Z⟩) 2 2] 119;rw[sK];have tW:As (Ao a8.heap.size a8 m4):=MP.out.trans (Dv.mono sh);have UH:=tW.out.size;refine ae _ _ (Lb tW.out (by omega) D8.out) ?_;clear ae K' sK;refine zE rfl ?_;intro K' ae;go_simp;refine ae _ _ (Lb tW.out (by omega) D8.out) ?_;clear ae K';refine zE rfl ?_;intro K' ae;go_simp;refine ae _ _ (Lb tW.out (by omega) D8.out) ?_
 clear ae K';have d0:=Lb tW.out (by omega) D0.out;have y0:m4.cell? ⟨w.heap.size,0,Z⟩=J (O U 0):=za d0 0 rfl;have f0:=zb d0 0;have y1:m4.cell? ⟨w.heap.size,1,Z⟩=J (O U 0):=za d0 1 rfl;have f1:=zb d0 1;have y2:m4.cell? ⟨w.heap.size,2,Z⟩=J (O U 0):=za d0 2 rfl;have f2:=zb d0 2;have y3:m4.cell? ⟨w.heap.size,3,Z⟩=J (I Z 0 0):=za d0 3 rfl;have f3:=zb d0 3;have y4:m4.cell? ⟨w.heap.size,4,Z⟩=J (O U 0):=za d0 4 rfl;have f4:=zb d0 4;have y5:m4.cell? ⟨w.heap.size,5,Z⟩=J (I Z 0 0):=za d0 5 rfl;have f5:=zb d0 5;have y6:m4.cell? ⟨w.heap.size,6,Z⟩=J (O U 0):=za d0 6 rfl;have f6:=zb d0 6;have Nh:=zH d0;clear d0;refine xh rfl (by kernel_rfl) ?_;intro K' ae;go_simp;refine ae (fun _=>True) _ _ trivial ?_;refine ya ?_;clear ae K';obtain⟨k1,k2,k3,k4⟩:=JK (O U 2) (O U 2) (O U 1) (I (J ⟨w.heap.size+1+1+1+1+1+1+1,0,Z⟩) 2 2) (O U 2) (I (J ⟨m2.heap.size+1,0,Z⟩) 1 1) (O U 1) Nh.out (HB8.out.trans (tW.out.mono (by omega))) (Lh _);obtain⟨WF,cZ⟩:=Kh ((((((((m4.setCell ⟨w.heap.size,0,Z⟩ (O U 2)).setCell ⟨w.heap.size,1,Z⟩ (O U 2)).setCell ⟨w.heap.size,2,Z⟩ (O U 1)).setCell ⟨w.heap.size,3,Z⟩ (I (J ⟨w.heap.size+1+1+1+1+1+1+1,0,Z⟩) 2 2)).setCell ⟨w.heap.size,4,Z⟩ (O U 2)).setCell ⟨w.heap.size,5,Z⟩ (I (J ⟨m2.heap.size+1,0,Z⟩) 1 1)).setCell ⟨w.heap.size,6,Z⟩ (O U 1)))
 rw[cZ] at k1 k2 k3 k4 ⊢;have K1:=zH k1;have K2:=zH k2;have K3:=zH k3;have K4:=zH k4;clear k1 k2 k3 k4 cZ y0 y1 y2 y3 y4 y5 y6 f0 f1 f2 f3 f4 f5 f6;go_wp2_with fail;obtain⟨z0,z1,z2,z3,z4,z5,z6,_⟩:=Kf K1.out;refine Na (v:=Aj #[O U 2,O U 2,O U 1,I (J ⟨w.heap.size+1+1+1+1+1+1+1,0,Z⟩) 2 2,O U 2,I (J ⟨m2.heap.size+1,0,Z⟩) 1 1,O U 1]) (by simp[results,results31,go_sem,z0,z1,z2,z3,z4,z5,z6]) rfl ?_;have hk:∀k,k≠w.heap.size->k<a8.heap.size->WF.heap[k]?=a8.heap[k]?:=fun k h1 h2=>(K3.out k h1).trans (tW.out.block k h2)
 have g1:=(hk _ (by omega) (by omega)).trans D1.out;have g2:=(hk _ (by omega) (by omega)).trans D2.out;have g3:=(hk _ (by omega) (by omega)).trans D3.out;have g4:=(hk _ (by omega) (by omega)).trans D4.out;have g5:=(hk _ (by omega) (by omega)).trans D5.out;have g6:=(hk _ (by omega) (by omega)).trans D6.out;have g7:=(hk _ (by omega) (by omega)).trans D7.out;have g8:=(K3.out m2.heap.size (by omega)).trans (Lb Dv (by omega) c3);have c5:=c4;rw[Hq] at c5;have g9:=(K3.out (m2.heap.size+1) (by omega)).trans c5;have i1:=xx (xs:=[0,0]) g1;have i2:=xx (xs:=[0,0]) g2;have i4:=xx (xs:=[0,1]) g4;have i5:=xx (xs:=[0,0]) g5;have l3:=QY (v:=[0,0]) g3 i2;have l6:=QY (v:=[0,0]) g6 i5;refine⟨J ⟨w.heap.size+1+1+1+1+1+1+1,0,Z⟩,2,J ⟨m2.heap.size+1,0,Z⟩,1,rfl,fun _=>⟨_,0,rfl,zd g7,fun i hi=>?_⟩,fun _=>⟨_,0,rfl,zd g9,fun i hi=>?_⟩,K2.out⟩
 . have h2:i=0\/i=1:=by have:i<2:=hi;omega
   rcases h2 with rfl | rfl
   . exact⟨_,_,_,za g7 0 rfl,za g7 1 rfl,za g7 2 rfl,⟨_,2,rfl,i1⟩,⟨_,1,rfl,l3⟩,⟨Z,0,rfl,LAt.nil _ _ _⟩⟩
   exact⟨_,_,_,za g7 3 rfl,za g7 4 rfl,za g7 5 rfl,⟨_,2,rfl,i4⟩,⟨_,1,rfl,l6⟩,⟨Z,0,rfl,LAt.nil _ _ _⟩⟩
 have h2:i=0:=by have:i<1:=hi;omega
 subst h2;refine⟨_,2,za g9 0 rfl,fun _=>⟨_,0,rfl,zd g8,fun j hj k u hu=>?_⟩⟩;have h3:j=0\/j=1:=by have:j<2:=hj;omega
 have PM:k<8:=by
  rcases h3 with rfl | rfl
  . exact(Li.1 hu).1
  exact(Li.1 hu).1
 rcases h3 with rfl | rfl
 . refine za g8 (0+0*8+k) ?_
   rw[<-hu];have h8:k=0\/k=1\/k=2\/k=3\/k=4\/k=5\/k=6\/k=7:=by omega
   rcases h8 with rfl | rfl | rfl | rfl | rfl | rfl | rfl | rfl<;>rfl
 refine za g8 (0+1*8+k) ?_;rw[<-hu];have h8:k=0\/k=1\/k=2\/k=3\/k=4\/k=5\/k=6\/k=7:=by omega
 rcases h8 with rfl | rfl | rfl | rfl | rfl | rfl | rfl | rfl<;>rfl
def jo(N:Nat)(x:Exn):Int:=match x.word.getLast? with
 | none=>2^N-1
 | some r=>bits BinOp.andNot U (2^N-1) r.f
theorem Zc{N:Nat}{x:Exn}(h:x.word.length=0):jo N x=2^N-1:=by
 unfold jo;rw[LC h];rfl
theorem Zd{N:Nat}{x:Exn}{k:Nat}(h:x.word.length=k+1):jo N x=bits BinOp.andNot U (2^N-1) (x.word[k]'(by omega)).f:=by
 have e:x.word.getLast?=J (x.word[k]'(by omega)):=by
  rw[List.getLast?_eq_getElem?,show x.word.length-1=k by omega,Lg (by omega)]
 unfold jo;rw[e]
theorem QO{r:Rd}(h:zQ r=0):∃f:Nat,r.f=(f:Int)/\f<32:=xz (m:=⟨r,0⟩) h
theorem QD(N f:Nat)(h1:1<=N)(h5:N<=5)(hf:f<32):∃m:Nat,bits BinOp.andNot U (2^N-1) (f:Int)=(m:Int)/\m<32:=by
 have key:∀N:Nat,N<6->(kW fun f=>decide (0<=bits BinOp.andNot U ((2:Int)^N-1) (f:Int)/\bits BinOp.andNot U ((2:Int)^N-1) (f:Int)<32))=Av:=by decide +kernel
 have h:=LK (j5 (key N (by omega)) hf);exact⟨(bits BinOp.andNot U ((2:Int)^N-1) (f:Int)).toNat,by omega,by omega⟩
theorem YE{N:Nat}{x:Exn}(h1:1<=N)(h5:N<=5)(hx:∀r∈x.word,zQ r=0/\r.n=(N:Int)):∃m:Nat,jo N x=(m:Int)/\m<32:=by
 rcases L9 x.word.length with h | h
 . rw[Zc h]
   have key:∀N:Nat,N<6->(0:Int)<=2^N-1/\(2:Int)^N-1<32:=by decide
   obtain⟨a,b⟩:=key N (by omega);exact⟨((2:Int)^N-1).toNat,by omega,by omega⟩
 obtain⟨k,hk⟩:∃k,x.word.length=k+1:=⟨x.word.length-1,by omega⟩;rw[Zd hk];obtain⟨f,e,hf⟩:=QO (hx _ (Ld (by omega:k<x.word.length))).1;rw[e];exact QD N f h1 h5 hf
theorem uh(s:Sy)(K N:Nat)(hF:Fine s K N)(x:Exn)(hx:x∈s.xs)(A SV AV AX A1 A2:Bb)(kc ks kv kx a1 a2:Nat)(w:Ba)(hW:RAt w w.heap.size A1 x.word) :
  Ap An 107 #[.agg (s.vs_ A kc SV ks AV kv AX kx),Aj #[O U x.c,I A1 x.word.length a1,I A2 x.views.length a2]] w fun e w'=>e=Am (O U (jo N x))/\Ao w.heap.size w w':=by
 obtain⟨w1,ah,d0,d1,bI,hB⟩:=zZ w (s.vs_ A kc SV ks AV kv AX kx) #[O U x.c,I A1 x.word.length a1,I A2 x.views.length a2] 36 42;have cO:=(hW.keep hB).more hB.size;obtain⟨nz,hn⟩:=Kh s.n;have S0:(N=1/\nz=1)\/(N=2/\nz=2)\/(N=3/\nz=3)\/(N=4/\nz=4)\/(N=5/\nz=5):=by have:=hF.n1;have:=hF.n5;have:=hF.n;omega
 have lO:=hF.k6;obtain⟨ec,iM⟩:=hF.word x hx;unfold Sy.vs_ at ah d0 ⊢;rw[hn] at ah d0 ⊢;have aq:=zH ah;have HB:=zH hB;have x7:w1.cell? ⟨w.heap.size,7,Z⟩=J (O U nz):=za d0 7 rfl;have y1:w1.cell? ⟨w.heap.size+1,1,Z⟩=J (I A1 x.word.length a1):=za d1 1 rfl;obtain⟨M,hM⟩:=Kh (jo N x);rw[hM];have HM:=zH hM;clear hM hn ah d0 d1 hB hF hx;rcases L9 x.word.length with h0 | h0
 . have BQ:As (2^N-1=M):=(Zc h0).symm.trans HM.out
   have BG:¬((0:Int)<(x.word.length:Int)):=by omega
   clear HM iM ec cO hW;obtain⟨L,hL⟩:=Kh x.word.length;rw[hL] at BG y1 aq ⊢;clear hL h0;rcases S0 with ⟨rfl,rfl⟩ | ⟨rfl,rfl⟩ | ⟨rfl,rfl⟩ | ⟨rfl,rfl⟩ | ⟨rfl,rfl⟩
   all_goals
    go_enter func107,ntmps107;go_wp2_with fail;rw[aq.out];go_wp2_with fail
    all_goals first | (exfalso;omega) | skip
    go_ret;exact⟨zc (by rw[<-BQ.out];rfl),HB.out⟩
 obtain⟨k,hk⟩:∃k,x.word.length=k+1:=⟨x.word.length-1,by omega⟩;have BQ:As (bits BinOp.andNot U (2^N-1) (x.word[k]'(by omega)).f=M):=(Zd hk).symm.trans HM.out;obtain⟨b,o,eA,hb,t0,t1,t2,t3,t4,t5,r6⟩:=hW.row k (by omega);clear t0 t1 t2 t3 t4 t5;subst eA;obtain⟨f,ef,hf⟩:=QO (iM _ (Ld (by omega:k<x.word.length))).1;rw[ef] at r6 BQ;have lK:IntKind.i64.wrap (((k+1:Nat):Int)-1)=(k:Int):=by rw[Lw];omega
 rw[hk] at y1 aq ⊢;obtain⟨L,hL⟩:=Kh (k+1);rw[hL] at y1 aq lK ⊢;have hL0:(0:Int)<(L:Int):=by omega
 have hkL:(k:Int)<(L:Int):=by omega
 have cq:(0:Int)<=(k:Int):=by omega
 clear hL HM iM ec cO hW h0 hk ef y1 x7 aq HB;rcases S0 with ⟨rfl,rfl⟩ | ⟨rfl,rfl⟩ | ⟨rfl,rfl⟩ | ⟨rfl,rfl⟩ | ⟨rfl,rfl⟩
 all_goals
  go_enter func107,ntmps107;go_wp2_with fail
  all_goals first | (exfalso;omega) | skip
  go_ret;exact⟨zc BQ.out,xX w _ _⟩
def xb(s:Sy)(i:Int):Int:=if yX s≠0 then yX s else if i<0\/(s.vs.length:Int)<=i then 6 else 0
theorem Z5(s:Sy)(hs:LowS s)(hf:xY s.p)(i:Int)(A SV AV AX:Bb)(kc ks kv kx:Nat)(w:Ba)(hS:SyAt w w.heap.size A SV AV AX s) :
  Ap An 70 #[.agg (s.vs_ A kc SV ks AV kv AX kx),O U i] w fun e w'=>e=Am (O U (xb s i))/\Ao w.heap.size w w':=by
 obtain⟨w1,ah,d0,bI,hB⟩:=zt w (s.vs_ A kc SV ks AV kv AX kx) 36;have HV:=zH (Zy s hs hf A SV AV AX kc ks kv kx w1 (hS.up hB));have HE:As (xb s i=if yX s≠0 then yX s else if i<0\/(s.vs.length:Int)<=i then 6 else 0):=rfl;obtain⟨r,hr⟩:=Kh (xb s i);obtain⟨E,hE⟩:=Kh (yX s);rw[hE] at HV HE;rw[hr] at HE ⊢;unfold Sy.vs_ at ah d0 HV ⊢;have aq:=zH ah;have HB:=zH hB;have HD:=zH d0;obtain⟨p0,p1,p2,p3,p4,p5,p6,p7,p8,p9⟩:=yg d0;clear ah d0 hB hS hs hf hr hE;go_enter func70,ntmps70;go_wp2_with fail;rw[aq.out];go_wp2_with fail;refine HV.out.mono ?_;rintro e w2 ⟨rfl,af⟩;have aW:=zH (HB.out.trans (af.mono (by omega)));have d0:=Lb af (by omega:w.heap.size<w1.heap.size) HD.out;clear p0 p1 p2 p3 p4 p5 p6 p7 p8 p9 af HV aq;have p8:w2.cell? ⟨w.heap.size,8,Z⟩=J (I AV s.vs.length kv):=za d0 8 rfl;clear d0
 by_cases h0:E=0
 case neg=>
  have hR:As (r=E):=HE.out.trans (Ln h0);have e0:(E != 0)=Av:=by simpa using h0
  clear HE h0;go_wp2_with fail;go_ret;exact⟨zc hR.out.symm,aW.out⟩
 case pos=>
 subst h0;have hR:As (r=if i<0\/(s.vs.length:Int)<=i then 6 else 0):=HE.out.trans (Lj (by simp));clear HE
 by_cases h1:i<0
 . have fN:As (r=6):=hR.out.trans (Ln (.inl h1))
   clear hR;go_wp2_with fail
   all_goals first | (exfalso;omega) | skip
   all_goals
    go_ret;exact⟨zc fN.out.symm,aW.out⟩
 by_cases h2:(s.vs.length:Int)<=i
 . have fN:As (r=6):=hR.out.trans (Ln (.inr h2))
   clear hR;go_wp2_with fail
   all_goals first | (exfalso;omega) | skip
   all_goals
    go_ret;exact⟨zc fN.out.symm,aW.out⟩
 have fN:As (r=0):=hR.out.trans (Lj (by omega));clear hR;go_wp2_with fail
 all_goals first | (exfalso;omega) | skip
 all_goals
  go_ret;exact⟨zc fN.out.symm,aW.out⟩
def RetLE(xs:List Int)(n:Int)(w:Ba)(e:Ending)(w':Ba):Prop:=∃A c,e=Am (.tuple #[I A xs.length c,O U n])/\IAt w' w'.heap.size A xs/\Ao w.heap.size w w'
theorem uY{s:Sy}(hf:xY s.p)(h:yX s=0):s=zq s.p/\∃K N,Fine s K N:=by
 unfold yX at h
 by_cases h1:(zD s.p).2≠0
 . rw[Ln h1] at h;exact absurd h h1
 rw[Lj h1] at h
 by_cases h2:s=(zD s.p).1
 · have h0 : zC s.p = 0 := by
    by_cases h0:zC s.p=0
    . exact h0
    rw[xm h0] at h1;exact absurd h0 h1
   have hm:¬4096<zK s.p:=fun hm=>by rw[yW h0 hm] at h1;exact h1 (by decide)
   rw[xr h0 (by omega)] at h2;obtain⟨K,N,hF⟩:=gx hf h0 (by rcases hf.2 h0 with h | h;exact h;exact absurd h hm);exact⟨h2,K,N,by rw[h2];exact hF⟩
 rw[Lj h2] at h;cases h
def hasV(i:Int)(v:Vw)(x:Exn):Bool:=decide ((x.views.getD v.r.toNat []).getD v.p.toNat 0=i)
def xT(s:Sy)(i:Int)(v:Vw)(k:Nat):List Int:=((List.range k).filter fun e=>hasV i v (s.xs.getD e default)).map fun (e:Nat)=>(e:Int)
def havE(s:Sy)(i:Int):List Int:=if xb s i≠0 then [] else xT s i (s.vs.getD i.toNat default) s.xs.length
theorem havK_yes{s:Sy}{i:Int}{v:Vw}{k:Nat}(h:hasV i v (s.xs.getD k default)=Av):xT s i v (k+1)=xT s i v k++[(k:Int)]:=by
 unfold xT;rw[NF,N4,LI,P4,Ln h];rfl
theorem havK_no{s:Sy}{i:Int}{v:Vw}{k:Nat}(h:hasV i v (s.xs.getD k default)=Ax):xT s i v (k+1)=xT s i v k:=by
 unfold xT;rw[NF,N4,LI,P4,Lj (by rw[h];decide)];simp
theorem havK_len(s:Sy)(i:Int)(v:Vw)(k:Nat):(xT s i v k).length<=k:=by
 unfold xT;rw[LG];exact Lx (Ps _ _) (by simp)
theorem ZI{W:Ba}{D:Nat}{V:Au}{xs:List Int}(h:OwnR kIn W D V xs.length (xs.map (O U))):∃A c,V=I A xs.length c/\IAt W W.heap.size A xs:=by
 obtain⟨A,c,e,_,_,hc⟩:=h.form;refine⟨A,c,e,fun h0=>?_⟩;obtain⟨g,eA,_,hg,aP⟩:=hc h0;exact⟨g,0,eA,hg,fun i hi=>by rw[LM];exact aP i _ (by simp[hi])⟩
theorem Qc(s:Sy)(hs:LowS s)(hf:xY s.p)(i:Int)(A SV AV AX:Bb)(kc ks kv kx:Nat)(w:Ba)(hS:SyAt w w.heap.size A SV AV AX s) :
  Ap An 33 #[.agg (s.vs_ A kc SV ks AV kv AX kx),O U i] w (RetLE (havE s i) (xb s i) w):=by
 obtain⟨w1,ah,d0,bI,hB⟩:=zt w (s.vs_ A kc SV ks AV kv AX kx) 36;have HV:=zH (Z5 s hs hf i A SV AV AX kc ks kv kx w1 (hS.up hB));have eR:=zH (hS.up hB);have HH:As (havE s i=if xb s i≠0 then [] else xT s i (s.vs.getD i.toNat default) s.xs.length):=rfl;have HE:As (xb s i=if yX s≠0 then yX s else if i<0\/(s.vs.length:Int)<=i then 6 else 0):=rfl;have iG:=zH (fun h=>uY hf h);obtain⟨R,hR⟩:=Kh (havE s i);obtain⟨r,hr⟩:=Kh (xb s i);rw[hr] at HV HE HH ⊢;rw[hR] at HH ⊢;unfold Sy.vs_ at ah d0 HV ⊢;have aq:=zH ah;have HB:=zH hB;have HD:=zH d0;obtain⟨p0,p1,p2,p3,p4,p5,p6,p7,p8,p9⟩:=yg d0;clear ah d0 hB hS hr hR;go_enter func33,ntmps33;go_wp2_with fail;rw[aq.out];go_wp2_with fail;refine HV.out.mono ?_;rintro e w2 ⟨rfl,af⟩;have aW:=zH (HB.out.trans (af.mono (by omega)));have dg:=zH (eR.out.up af);have d0:=Lb af (by omega:w.heap.size<w1.heap.size) HD.out;have iJ:=zH d0;have dX:=af.size;clear p0 p1 p2 p3 p4 p5 p6 p7 p8 p9 af HV aq eR HD;have p8:w2.cell? ⟨w.heap.size,8,Z⟩=J (I AV s.vs.length kv):=za d0 8 rfl;have p9:w2.cell? ⟨w.heap.size,9,Z⟩=J (I AX s.xs.length kx):=za d0 9 rfl;clear d0
 by_cases h0:r=0
 case neg=>
  have hR:As (R=[]):=HH.out.symm.symm.trans (Ln h0);have e0:(r != 0)=Av:=by simpa using h0
  clear HH HE iG h0;go_wp2_with fail
  go_ret2
  rw[hR.out];exact⟨Z,0,rfl,fun h=>absurd h (by simp),aW.out⟩
 case pos=>
 subst h0
 have mP:yX s=0:=by
  by_cases h:yX s=0
  . exact h
  have:=HE.out;rw[Ln h] at this;exact absurd this.symm h
 have hi:¬(i<0\/(s.vs.length:Int)<=i):=fun h=>by
  have:=HE.out;rw[Lj (by simpa using mP),Ln h] at this;cases this
 obtain⟨CH,K,N,hF⟩:=iG.out mP;clear CH;obtain⟨iN,rfl⟩:=Lr (show 0<=i by omega);have pd:iN<s.vs.length:=by omega
 have nr:R=xT s iN (s.vs.getD ((iN:Int).toNat) default) s.xs.length:=HH.out.trans (Lj (by simp));obtain⟨v,hv⟩:=Kh (s.vs[iN]);have OR:s.vs.getD ((iN:Int).toNat) default=v:=by rw[Lv,Le,Lg pd,<-hv];rfl
 rw[OR] at nr;obtain⟨⟨q,mN,AU⟩,⟨rn,dh,U8⟩,an⟩:=hF.vs v (by rw[<-hv];exact Ld pd);clear an;obtain⟨bv,ov,eA,Sh,v0,v1,v2,v3,v4,v5,v6,v7⟩:=dg.out.fv.row iN pd;subst eA;rw[hv] at v0 v1 v2 v3 v4 v5 v6 v7;obtain⟨W3,bP,b3,fE,aZ⟩:=zt w2 v.cells 100;unfold Vw.cells at bP b3;rw[mN] at v0 bP b3;rw[dh] at v1 bP b3;have dV:=zH bP;have bL:=zH (aW.out.trans (aZ.mono (by omega)));have ez:=zH (dg.out.up aZ);have d0:=Lb aZ (by omega:w.heap.size<w2.heap.size) iJ.out;have me:=zH d0;have Gc:=zH b3;have x9:W3.cell? ⟨w.heap.size,9,Z⟩=J (I AX s.xs.length kx):=za d0 9 rfl;have im:=zH nr;have HF:=zH hF;have Mo:=zH mN;have tJ:=zH dh;have oY:=hF.lx;have Fg:w.heap.size<w2.heap.size:=by omega
 have sT:(0:Int)<=(iN:Int):=by omega
 have IF:(iN:Int)<(s.vs.length:Int):=by omega
 clear HH HE iG bP aZ d0 b3 mP hi nr hv OR mN dh hF hf hs aW dg iJ;go_wp2_with fail;rw[dV.out];clear v0 v1 v2 v3 v4 v5 v6 v7 p8 p9 x9 dV
 go_loopw [8,26] (fun o i wr=>∃k:Nat,k<=s.xs.length/\i=O U (k:Int)/\As (OwnR kIn wr W3.heap.size o (xT s iN v k).length ((xT s iN v k).map (O U)))/\As (Ao W3.heap.size W3 wr)) (fun _ i _=>s.xs.length-(Aq i).toNat)
 case atStart=>exact⟨0,by omega,rfl,OwnR.nil _ _ _,Lp _ _⟩
 obtain⟨k,hk,rfl,HO,hb⟩:=hrel
 by_cases ac:k<s.xs.length
 case neg=>
  obtain rfl:k=s.xs.length:=by omega
  obtain⟨AO,ko,eO,hI⟩:=ZI HO.out;rw[eO];have HI:=zH hI;clear eO hI HO;go_wp2_with fail
  go_ret2
  rw[im.out];exact⟨AO,ko,rfl,HI.out,bL.out.trans (hb.out.mono (by omega))⟩
 obtain⟨AO,ko,eO,_,_,_⟩:=HO.out.form;subst eO;obtain⟨bx,ox,A1,c1,A2,c2,eA,aM,y0,y1,y2,_,hL⟩:=(ez.out.fx.keep hb.out).row k ac;subst eA;obtain⟨x,hx⟩:=Kh (s.xs[k]);have FA:s.xs.getD k default=x:=by rw[Le,Lg ac,<-hx];rfl
 obtain⟨cm,dh⟩:=HF.out.views _ (Ld ac);rw[hx] at y0 y1 y2 hL cm dh;have fb:rn<x.views.length:=by omega
 obtain⟨bl,ol,A3,c3,eA,aA,v0,hI⟩:=hL.at_ rn fb;subst eA;have be:=dh _ (Ld fb);have f':q<(x.views[rn]).length:=by omega
 obtain⟨bi,oi,eA,pl,u0⟩:=hI.at_ q f';subst eA;obtain⟨row,lB⟩:=Kh (x.views[rn]);rw[lB] at v0 be;obtain⟨y,hy⟩:=Kh ((x.views[rn])[q]);rw[hy] at u0
 have De:hasV iN v (s.xs.getD k default)=decide (y=(iN:Int)):=by
  unfold hasV;rw[FA,Mo.out,tJ.out,Lv,Lv,Le (l:=x.views),Lg fb];show decide ((x.views[rn]).getD q 0=_)=_;rw[Le,Lg f',<-hy];rfl
 have bn:=hb.out.size;obtain⟨W4,pt,b4,iQ,cU⟩:=zt wr #[O U x.c,I A1 x.word.length c1,I (J ⟨bl,ol,Z⟩) x.views.length c2] 42;have fP:=zH (hb.out.trans (cU.mono bn));have Ga:=zH pt;have pF:=zH (HO.out.below cU (Lh _));have z2:=za b4 2 rfl;have z3:=(cU.cell (p:=⟨bl,ol+rn,Z⟩) (by show bl<_;omega)).trans v0;have z4:=(cU.cell (p:=⟨bi,oi+q,Z⟩) (by show bi<_;omega)).trans u0;have e3:=La fP.out Gc.out;have z0:W4.cell? ⟨w2.heap.size,0,Z⟩=J (O U (q:Int)):=za e3 0 rfl;have z1:W4.cell? ⟨w2.heap.size,1,Z⟩=J (O U (rn:Int)):=za e3 1 rfl;have Dn:bx<wr.heap.size:=by omega
 have cq:(0:Int)<=(k:Int):=by omega
 have cy:(k:Int)<(s.xs.length:Int):=by omega
 have AT:(0:Int)<=(rn:Int):=by omega
 have sz:(rn:Int)<(x.views.length:Int):=by omega
 have lL:(0:Int)<=(q:Int):=by omega
 have rc:(q:Int)<(row.length:Int):=by rw[<-lB];omega
 have cC:=havK_len s iN v k;have ED:=zH cC;have T4:=zH De;clear hL hI cm dh be f' lB hy FA hx pt b4 cU v0 u0 e3 HO hb De cC;go_wp2_with fail;rw[Ga.out];go_wp2_with fail
 by_cases lp:y=(iN:Int)
 . have e0:(y==(iN:Int))=Av:=by simpa using lp
   have fX:As (xT s iN v (k+1)=xT s iN v k++[(k:Int)]):=havK_yes (T4.out.trans (Ll lp));clear lp;go_quiet (fail);obtain⟨X,hX⟩:=Kh (W4.drewN nq);rw[hX];have dA:As (Ao W3.heap.size W3 X):=by rw[<-hX];exact zx fP.out nq
   have Ev:As (OwnR kIn X W3.heap.size (.slice AO (xT s iN v k).length ko) (xT s iN v k).length ((xT s iN v k).map (O U))):=by rw[<-hX];exact pF.out
   have tO:=zH (Ev.out.alloc (Ah #[O U k] 3));have ou:=zH (zh X (Ah #[O U k] 3));have oC:As (W3.heap.size<=(X.alloc (Ah #[O U k] 3)).heap.size):=by show _<=_;have:=dA.out.size;simp;omega
   have rX:As ((xT s iN v k).length<=1000000000):=by show _<=_;have:=ED.out;omega
   have EE:As ((xT s iN v (k+1)).length=(xT s iN v k).length+1):=by show _=_;rw[fX.out];simp
   clear hX z0 z1 z2 z3 z4 e0;go_wp2_with (at_builtin;refine yo wQ rfl (.tmp 43) (.tmp 45) rfl W3.heap.size (.slice AO (xT s iN v k).length ko) (xT s iN v k).length ((xT s iN v k).map (O U)) rfl tO.out X.heap.size #[O U k] rfl ou.out rfl (by simp[Value.oneCell']) rX.out oC.out _ rfl ?_;intro g' cap AF dY dj ch eh;have rR:=zH dY;have u':As (Ao W3.heap.size W3 AF):=((dA.out.trans ((zw X _).mono dA.out.size)).grown dj (by exact oC.out) (fun k hk=>(Ev.out.lt k hk).1));clear dY dj ch eh)
   go_roundw
   case rel=>exact⟨k+1,by omega,by go_num,by rw[EE.out,fX.out,LI];exact rR.out,u'.out⟩
   simp[Aq];omega
 have e0:(y==(iN:Int))=Ax:=by simpa using lp
 have fX:As (xT s iN v (k+1)=xT s iN v k):=havK_no (T4.out.trans (Lm lp));clear lp;go_quiet (fail);go_wp2_with fail
 go_roundw
 case rel=>exact⟨k+1,by omega,by go_num,by rw[fX.out];exact pF.out,zx fP.out nq⟩
 simp[Aq];omega
def FrI(D:Nat)(A:Bb)(n:Nat):Prop:=0<n->∃g o q,A=J ⟨g,o,q⟩/\D<=g
theorem FrI.mono{D D':Nat}{A:Bb}{n:Nat}(h:FrI D A n)(hd:D'<=D):FrI D' A n:=fun h0=>by
 obtain⟨g,o,q,e,hg⟩:=h h0;exact⟨g,o,q,e,Lx hd hg⟩
theorem own_fr{K:Kd}{w:Ba}{aa:Nat}{v:Au}{n:Nat}{cs:List Au}(h:OwnR K w aa v n cs){A:Bb}{cap:Nat}(e:v=I A n cap):FrI aa A n:=fun hn=>by
 rcases h.2 with ⟨rfl,h0⟩ | ⟨g,aF,cur,rfl,hb,hg,du,iV,_⟩
 . omega
 . cases e;exact⟨g,0,Z,rfl,hb⟩
def yy(bs:List Bool):Array Au:=(bs.map Ai).toArray
theorem Zu(bs:List Bool)(i:Nat)(b:Bool):(yy bs).setIfInBounds i (Ai b)=yy (bs.set i b):=by
 unfold yy;rw[RP,List.map_set]
theorem kI(bs:List Bool)(i:Nat)(h:i<bs.length):(yy bs)[i]?=J (Ai bs[i]):=by
 unfold yy;simp[h]
def zU(m:Nat)(row:List Int)(bs:List Bool):Nat->List Bool
 | 0=>bs
 | q+1=>if m.testBit q=Av then (zU m row bs q).set (row.getD q 0).toNat Av else zU m row bs q
theorem qQ(m:Nat)(row:List Int)(bs:List Bool):∀q,(zU m row bs q).length=bs.length
 | 0=>rfl
 | q+1=>by unfold zU;split<;>simp[qQ m row bs q]
def yP(s:Sy)(K N:Nat):Nat->List Bool
 | 0=>List.replicate s.vs.length Ax
 | k+1=>zU (jo N (s.xs.getD k default)).toNat ((s.xs.getD k default).views.getD K []) (yP s K N k) N
theorem kf(s:Sy)(K N:Nat):∀k,(yP s K N k).length=s.vs.length
 | 0=>by simp[yP]
 | k+1=>by rw[yP,qQ,kf s K N k]
def yH(s:Sy)(K N:Nat)(bC:Nat->Bool)(j:Nat):List Int:=((List.range j).filter fun i=>(yP s K N s.xs.length).getD i Ax&&bC i).map fun (i:Nat)=>(i:Int)
def uD(s:Sy)(K N:Nat)(bC:Nat->Bool):List Int:=yH s K N bC s.vs.length
theorem Yl{s:Sy}{K N:Nat}{bC:Nat->Bool}{j:Nat}(h:((yP s K N s.xs.length).getD j Ax&&bC j)=Av):yH s K N bC (j+1)=yH s K N bC j++[(j:Int)]:=by
 unfold yH;rw[NF,N4,LI,P4,Ln h];rfl
theorem QQ{s:Sy}{K N:Nat}{bC:Nat->Bool}{j:Nat}(h:((yP s K N s.xs.length).getD j Ax&&bC j)=Ax):yH s K N bC (j+1)=yH s K N bC j:=by
 unfold yH;rw[NF,N4,LI,P4,Lj (by rw[h];decide)];simp
theorem Ym(s:Sy)(K N:Nat)(bC:Nat->Bool)(j:Nat):(yH s K N bC j).length<=j:=by
 unfold yH;rw[LG];exact Lx (Ps _ _) (by simp)
def kBo:Kd:=⟨4,56,1,1,Ai Ax⟩
theorem kBo_ok:KdOk An kBo:=⟨underlying56,by kernel_rfl,by rfl,by decide,by decide⟩
theorem XP(n:Nat):madeCells #[Ai Ax] (n*1)=yy (List.replicate n Ax):=by
 unfold madeCells yy;apply Array.ext
 . simp
 intro i h1 h2;simp[Nat.mod_one]
theorem jE(n:Nat)(hn:n<=100000)(W:Ba):(Instr.makeSlice 56 (O U n) (O U n)).run An W=.ok (I (J ⟨W.heap.size,0,Z⟩) n n) (W.alloc (Ah (yy (List.replicate n Ax)) 4)):=by
 obtain⟨i0,hi,cH,bS,cp⟩:=yF kBo_ok;have hb:i0.bytes=1:=cp;have hs:i0.size=1:=bS;have h:=run_make (P:=An) W 56 4 i0 (Ai Ax) underlying56 hi cH U U (n:Int) (n:Int) (by omega) (Int.le_refl _) (by rw[hb];omega) (by omega);rw[h,hs];simp only[Int.toNat_natCast];rw[show(Ai Ax).cells=#[Ai Ax] from rfl,XP]
theorem relA_any(s:Sy)(K N:Nat)(hF:Fine s K N)(bC:Nat->Bool)(A SV AV AX:Bb)(kc ks kv kx:Nat)(w:Ba)(hS:SyAt w w.heap.size A SV AV AX s)
  (DV:∀(i:Nat) (X:Ba),i<s.vs.length->Ao w.heap.size w X->Ap An 72 #[O U (i:Int)] X fun e w'=>e=Am (Ai (bC i))/\Ao X.heap.size X w') :
  Ap An 71 #[.agg (s.vs_ A kc SV ks AV kv AX kx),.func (.func 72) #[] #[]] w fun e w'=>∃AO ko,e=Am (.slice AO (uD s K N bC).length ko)/\IAt w' w'.heap.size AO (uD s K N bC)/\FrI w.heap.size AO (uD s K N bC).length/\Ao w.heap.size w w':=by
 obtain⟨w1,ah,d0,d1,bI,hB⟩:=zZ w (s.vs_ A kc SV ks AV kv AX kx) (yy (List.replicate s.vs.length Ax)) 36 4;have lE:=zH hS;have NL:=zH DV;have HF:=zH hF;have dF:=jE s.vs.length (by have:=hF.lv;omega);unfold Sy.vs_ at ah d0 ⊢;have dN:=hF.k;rw[dN] at ah d0 ⊢;have aq:=zH ah;have HB:=zH hB;have bu:=zH d0;have bQ:=zH d1;have oY:=hF.lx;have Bi:=hF.lv;have lO:=hF.k6;have na:=hF.n5;clear ah d0 d1 hB hS DV hF dN;go_enter func71,ntmps71;go_wp2_with fail;rw[aq.out]
 go_loopw [22] (fun i wr=>∃k:Nat,k<=s.xs.length/\i=O U (k:Int)/\As (wr.heap[w.heap.size+1]?=J (Ah (yy (yP s K N k)) 4 (0,0)))/\As (wr.heap[w.heap.size]?=w1.heap[w.heap.size]?)/\As (Ao w.heap.size w wr)) (fun i _=>s.xs.length-(Aq i).toNat)
 case atStart=>exact⟨0,by omega,rfl,bQ.out,rfl,HB.out⟩
 obtain⟨k,hk,rfl,HY,HS,ce⟩:=hrel;have sv:w.heap.size+1<wr.heap.size:=zd HY.out;have d0:=HS.out.trans bu.out
 by_cases ac:k<s.xs.length
 case neg=>
  obtain rfl:k=s.xs.length:=by omega
  clear aq HB bQ;go_wp2_with fail;obtain⟨w5,rfl⟩:∃x,x=wr:=⟨_,rfl⟩;have cz:=kf s K N s.xs.length;obtain⟨yl,si⟩:=Kh (yP s K N s.xs.length);rw[si] at HY cz;have Md:=zH si;have rK:=zH cz;clear si cz
  go_loopw [11,54] (fun o i wx=>∃j:Nat,j<=s.vs.length/\i=O U (j:Int)/\As (OwnR kIn wx w5.heap.size o (yH s K N bC j).length ((yH s K N bC j).map (O U)))/\As (Ao w5.heap.size w5 wx)) (fun _ i _=>s.vs.length-(Aq i).toNat)
  case atStart=>exact⟨0,by omega,rfl,OwnR.nil _ _ _,Lp _ _⟩
  obtain⟨j,hj,rfl,HO,hb⟩:=hrel
  by_cases bg:j<s.vs.length
  case neg=>
   obtain rfl:j=s.vs.length:=by omega
   obtain⟨AO,ko,eO,hI⟩:=ZI HO.out;rw[eO];have HI:=zH hI;have pK:=zH ((own_fr HO.out eO).mono ce.out.size);clear eO hI HO;go_wp2_with fail;go_ret;exact⟨AO,ko,rfl,HI.out,pK.out,ce.out.trans (hb.out.mono (by omega))⟩
  obtain⟨AO,ko,eO,mg,AK,Hj⟩:=HO.out.form;subst eO;clear mg AK Hj;have bn:=hb.out.size;have rj:j<yl.length:=by have:=rK.out;omega
  have y0:wr.cell? ⟨w.heap.size+1,j,Z⟩=J (Ai yl[j]):=za (Lb hb.out (by omega) HY.out) j (kI yl j rj);have lC:(yP s K N s.xs.length).getD j Ax=yl[j]:=by rw[Md.out,Le,Lg rj];rfl
  have rk:(0:Int)<=(j:Int):=by omega
  have pc:(j:Int)<(s.vs.length:Int):=by omega
  have ir:=zH (@QQ s K N bC j);have lh:=zH (@Yl s K N bC j);rw[lC] at ir lh;have ED:=zH (Ym s K N bC j);have pN:=zH (NL.out j wr bg (ce.out.trans (hb.out.mono (by omega))));obtain⟨yb,Cu⟩:=Kh (yl[j]);rw[Cu] at y0 ir lh;clear lC Cu
  cases yb with
  | false=>
   have fX:As (yH s K N bC (j+1)=yH s K N bC j):=ir.out rfl;clear ir lh pN;go_wp2_with fail
   go_roundw
   case rel=>exact⟨j+1,by omega,by go_num,by rw[fX.out];exact HO.out,hb.out⟩
   case measure=>simp[Aq];omega
  | true=>
   go_wp2_with fail;refine pN.out.mono ?_;rintro e w6 ⟨rfl,dp⟩;have dW:=zH (hb.out.trans (dp.mono bn));have mb:=zH (HO.out.below dp (Lh _));clear dp pN y0;obtain⟨ab,rz⟩:=Kh (bC j);rw[rz] at ir lh;rw[rz];clear rz
   cases ab with
   | false=>
    have fX:As (yH s K N bC (j+1)=yH s K N bC j):=ir.out rfl;clear ir lh;go_wp2_with fail
    go_roundw
    case rel=>exact⟨j+1,by omega,by go_num,by rw[fX.out];exact mb.out,dW.out⟩
    case measure=>simp[Aq];omega
   | true=>
    have fX:As (yH s K N bC (j+1)=yH s K N bC j++[(j:Int)]):=lh.out rfl;have tO:=zH (mb.out.alloc (Ah #[O U j] 3));have ou:=zH (zh w6 (Ah #[O U j] 3));have oC:As (w5.heap.size<=(w6.alloc (Ah #[O U j] 3)).heap.size):=by show _<=_;have:=dW.out.size;simp;omega
    have rX:As ((yH s K N bC j).length<=1000000000):=by show _<=_;have:=ED.out;omega
    have EE:As ((yH s K N bC (j+1)).length=(yH s K N bC j).length+1):=by show _=_;rw[fX.out];simp
    clear ir lh;go_wp2_with (at_builtin;refine yo wQ rfl (.tmp 65) (.tmp 67) rfl w5.heap.size (.slice AO (yH s K N bC j).length ko) (yH s K N bC j).length ((yH s K N bC j).map (O U)) rfl tO.out w6.heap.size #[O U j] rfl ou.out rfl (by simp[Value.oneCell']) rX.out oC.out _ rfl ?_;intro g' cap AF dY dj ch eh;have rR:=zH dY;have u':As (Ao w5.heap.size w5 AF):=((dW.out.trans ((zw w6 _).mono dW.out.size)).grown dj (by exact oC.out) (fun k hk=>(mb.out.lt k hk).1));clear dY dj ch eh)
    go_roundw
    case rel=>exact⟨j+1,by omega,by go_num,by rw[EE.out,fX.out,LI];exact rR.out,u'.out⟩
    case measure=>simp[Aq];omega
 obtain⟨bx,ox,A1,c1,A2,c2,eA,aM,y0,y1,y2,DD,hL⟩:=(lE.out.fx.keep ce.out).row k ac;subst eA;have lq:=Ld ac;obtain⟨cm,dh⟩:=HF.out.views _ lq;obtain⟨m,hm,sL⟩:=YE HF.out.n1 HF.out.n5 (HF.out.word _ lq).2
 have cV:yP s K N (k+1)=zU m (s.xs[k].views.getD K []) (yP s K N k) N:=by
  rw[yP,Le,Lg ac];show zU (jo N s.xs[k]).toNat (s.xs[k].views.getD K []) _ N=_;rw[hm,Lv]
 obtain⟨W3,bP,b3,fE,aZ⟩:=zt wr #[O U s.xs[k].c,I A1 s.xs[k].word.length c1,I A2 s.xs[k].views.length c2] 42;have ma:=zH (fun kc ks kv kx=>uh s K N HF.out s.xs[k] lq A SV AV (J ⟨bx,ox,Z⟩) A1 A2 kc ks kv kx c1 c2 W3 (((DD.more (by omega)).keep aZ).more aZ.size));rw[hm] at ma;obtain⟨x,hx⟩:=Kh (s.xs[k]);rw[hx] at y0 y1 y2 hL cm dh cV bP b3 ma;unfold Sy.vs_ at ma;rw[HF.out.k] at ma;have tv:K<x.views.length:=by omega
 obtain⟨bl,ol,A3,c3,eA,aA,v0,hI⟩:=hL.at_ K tv;subst eA;have be:=dh _ (Ld tv);have cS:x.views.getD K []=x.views[K]:=by rw[Le,Lg tv];rfl
 obtain⟨row,lB⟩:=Kh (x.views[K]);rw[cS,lB] at cV;rw[lB] at v0 hI be;obtain⟨fb,oR⟩:=be;have dV:=zH bP;have bL:=zH aZ;have iF:=zH b3;have d3:=Lb aZ (by omega:w.heap.size<wr.heap.size) d0;have me:=zH d3;have le:=zH (Lb aZ sv HY.out);have Mf:=zH cV;have MF:=zH oR;have ff:=zH hI;have nB:=zH v0;have Fg:w.heap.size<wr.heap.size:=by omega
 have Dn:bx<wr.heap.size:=by omega
 have cq:(0:Int)<=(k:Int):=by omega
 have cy:(k:Int)<(s.xs.length:Int):=by omega
 have p9:wr.cell? ⟨w.heap.size,9,Z⟩=J (I (J ⟨bx,ox,Z⟩) s.xs.length kx):=za d0 9 rfl;obtain⟨p0,p1,p2,p3,p4,p5,_⟩:=Kg d0;have p6:wr.cell? ⟨w.heap.size,6,Z⟩=J (O U (K:Int)):=za d0 6 rfl;have p7:=za d0 7 rfl;have p8:=za d0 8 rfl;clear bP b3 aZ hL hI v0 lB cS hx lq cm dh hm cV oR DD d3 d0 HY;go_wp2_with fail;rw[dV.out];refine(ma.out _ _ _ _).mono ?_;rintro e w4 ⟨rfl,aU⟩;have iQ:=aU.size;have fP:=zH (ce.out.trans ((bL.out.trans (aU.mono (by omega))).mono (by omega)));have d4:=Lb aU (by omega:w.heap.size<W3.heap.size) me.out;have b4:=La aU iF.out;have Mg:=zH (Lb aU (by omega:w.heap.size+1<W3.heap.size) le.out);have Aa:=zH d4;have M6:=zH ((ff.out.keep (bL.out.mono (by omega))).keep (aU.mono (by omega)));clear p0 p1 p2 p3 p4 p5 p6 p7 p8 p9;have p6:w4.cell? ⟨w.heap.size,6,Z⟩=J (O U (K:Int)):=za d4 6 rfl;have z2:w4.cell? ⟨wr.heap.size,2,Z⟩=J (I (J ⟨bl,ol,Z⟩) x.views.length c2):=za b4 2 rfl;have v4:w4.cell? ⟨bl,ol+K,Z⟩=J (I A3 row.length c3):=(aU.cell (p:=⟨bl,ol+K,Z⟩) (by show bl<_;omega)).trans ((bL.out.cell (p:=⟨bl,ol+K,Z⟩) (by show bl<_;omega)).trans nB.out);have Ww:(0:Int)<=(K:Int):=by omega
 have Wv:(K:Int)<(x.views.length:Int):=by omega
 clear aU d4 b4 ma dV le iF ff nB y0 y1 y2;go_wp2_with fail;clear p6 z2 v4;have my:=zH fb;have Kr:w.heap.size+1<w4.heap.size:=by omega
 obtain⟨wp,rfl⟩:∃x,x=wr:=⟨_,rfl⟩
 go_loopw [37] (fun i wx=>∃q:Nat,q<=N/\i=O U (q:Int)/\As (wx.heap[w.heap.size+1]?=J (Ah (yy (zU m row (yP s K N k) q)) 4 (0,0)))/\As (Wrote (fun b=>b=w.heap.size+1) w4 wx)) (fun i _=>N-(Aq i).toNat)
 case atStart=>exact⟨0,by omega,rfl,Mg.out,Wrote.refl _ _⟩
 obtain⟨q,hq,rfl,HQ,nx⟩:=hrel;have Hl:=nx.out.size;have dA:As (Ao w.heap.size w4 wr):=nx.out.below (by omega) (fun b h1 h2=>by have h3:b=w.heap.size+1:=h2;omega)
 by_cases AU:q<N
 case neg=>
  obtain rfl:q=N:=by omega
  have Ht:¬((q:Int)<(row.length:Int)):=by omega
  have Me:As (wr.heap[w.heap.size+1]?=J (Ah (yy (yP s K q (k+1))) 4 (0,0))):=by show _=_;rw[Mf.out];exact HQ.out
  have Mz:As (wr.heap[w.heap.size]?=w1.heap[w.heap.size]?):=(nx.out.block _ (by omega) (fun h=>by have h3:w.heap.size=w.heap.size+1:=h;omega)).trans (Aa.out.trans bu.out.symm);clear HQ;go_wp2_with fail
  go_roundw
  case rel=>exact⟨k+1,by omega,by go_num,Me,Mz,fP.out.trans dA.out⟩
  simp[Aq];omega
 have Ht:(q:Int)<(row.length:Int):=by omega
 have f':q<row.length:=by omega
 obtain⟨br,GK,eA,ii,u0⟩:=M6.out.at_ q f';subst eA;have u1:=(dA.out.cell (p:=⟨br,GK+q,Z⟩) ii).trans u0;have lp:=MF.out _ (Ld f');obtain⟨y,hy⟩:=Kh (row[q]);rw[hy] at u1 lp;obtain⟨yN,rfl⟩:=Lr lp.1;have lC:(row.getD q 0).toNat=yN:=by rw[Le,Lg f',hy];rfl
 have cz:yN<(zU m row (yP s K N k) q).length:=by rw[qQ,kf];omega
 obtain⟨yb,c0⟩:∃yb,wr.cell? ⟨w.heap.size+1,yN,Z⟩=J (Ai yb):=⟨_,za HQ.out yN (kI _ _ cz)⟩;have f0:=zb HQ.out yN;have iX:=gz sL (show q<5 by omega);have lL:(0:Int)<=(q:Int):=by omega
 have AZ:(q:Int)<5:=by omega
 have lN:(0:Int)<=(m:Int):=by omega
 have GW:(0:Int)<=(yN:Int):=by omega
 have GV:(yN:Int)<(s.vs.length:Int):=by omega
 clear u0 hy lp
 by_cases dx:m.testBit q=Av
 . rw[dx] at iX
   have tH:As (zU m row (yP s K N k) (q+1)=(zU m row (yP s K N k) q).set yN Av):=by show _=_;rw[zU,Ln dx,lC]
   have MI:As ((wr.setCell ⟨w.heap.size+1,yN,Z⟩ (Ai Av)).heap[w.heap.size+1]?=J (Ah (yy (zU m row (yP s K N k) (q+1))) 4 (0,0))):=by show _=_;rw[Lk wr _ yN _ _ _ HQ.out,Zu,tH.out]
   have Ei:As (Wrote (fun b=>b=w.heap.size+1) w4 (wr.setCell ⟨w.heap.size+1,yN,Z⟩ (Ai Av))):=nx.out.trans (kK wr (w.heap.size+1) yN _) (fun _ _ h=>h);clear dx lC cz;go_wp2_with fail
   go_roundw
   case rel=>exact⟨q+1,by omega,by go_num,MI,Ei⟩
   simp[Aq];omega
 have Dr:m.testBit q=Ax:=by simpa using dx
 rw[Dr] at iX;have tH:As (zU m row (yP s K N k) (q+1)=zU m row (yP s K N k) q):=by show _=_;rw[zU,Lj dx]
 clear dx Dr lC cz;go_wp2_with fail
 go_roundw
 case rel=>exact⟨q+1,by omega,by go_num,by rw[tH.out];exact HQ.out,nx.out⟩
 simp[Aq];omega
theorem relC_any(s:Sy)(K N:Nat)(hF:Fine s K N)(bC:Nat->Bool)(g1 g2:Nat)(A SV AV AX:Bb)(kc ks kv kx:Nat)(w:Ba)(hS:SyAt w w.heap.size A SV AV AX s)
  (DV:∀(i:Nat) (X:Ba),i<s.vs.length->Ao w.heap.size w X->Ap An 73 #[O U (i:Int),Ak (J ⟨g1,0,Z⟩),Ak (J ⟨g2,0,Z⟩)] X fun e w'=>e=Am (Ai (bC i))/\Ao X.heap.size X w') :
  Ap An 71 #[.agg (s.vs_ A kc SV ks AV kv AX kx),.func (.func 73) #[] #[Ak (J ⟨g1,0,Z⟩),Ak (J ⟨g2,0,Z⟩)]] w fun e w'=>∃AO ko,e=Am (.slice AO (uD s K N bC).length ko)/\IAt w' w'.heap.size AO (uD s K N bC)/\FrI w.heap.size AO (uD s K N bC).length/\Ao w.heap.size w w':=by
 obtain⟨w1,ah,d0,d1,bI,hB⟩:=zZ w (s.vs_ A kc SV ks AV kv AX kx) (yy (List.replicate s.vs.length Ax)) 36 4;have lE:=zH hS;have NL:=zH DV;have HF:=zH hF;have dF:=jE s.vs.length (by have:=hF.lv;omega);unfold Sy.vs_ at ah d0 ⊢;have dN:=hF.k;rw[dN] at ah d0 ⊢;have aq:=zH ah;have HB:=zH hB;have bu:=zH d0;have bQ:=zH d1;have oY:=hF.lx;have Bi:=hF.lv;have lO:=hF.k6;have na:=hF.n5;clear ah d0 d1 hB hS DV hF dN;go_enter func71,ntmps71;go_wp2_with fail;rw[aq.out]
 go_loopw [22] (fun i wr=>∃k:Nat,k<=s.xs.length/\i=O U (k:Int)/\As (wr.heap[w.heap.size+1]?=J (Ah (yy (yP s K N k)) 4 (0,0)))/\As (wr.heap[w.heap.size]?=w1.heap[w.heap.size]?)/\As (Ao w.heap.size w wr)) (fun i _=>s.xs.length-(Aq i).toNat)
 case atStart=>exact⟨0,by omega,rfl,bQ.out,rfl,HB.out⟩
 obtain⟨k,hk,rfl,HY,HS,ce⟩:=hrel;have sv:w.heap.size+1<wr.heap.size:=zd HY.out;have d0:=HS.out.trans bu.out
 by_cases ac:k<s.xs.length
 case neg=>
  obtain rfl:k=s.xs.length:=by omega
  clear aq HB bQ;go_wp2_with fail;obtain⟨w5,rfl⟩:∃x,x=wr:=⟨_,rfl⟩;have cz:=kf s K N s.xs.length;obtain⟨yl,si⟩:=Kh (yP s K N s.xs.length);rw[si] at HY cz;have Md:=zH si;have rK:=zH cz;clear si cz
  go_loopw [11,54] (fun o i wx=>∃j:Nat,j<=s.vs.length/\i=O U (j:Int)/\As (OwnR kIn wx w5.heap.size o (yH s K N bC j).length ((yH s K N bC j).map (O U)))/\As (Ao w5.heap.size w5 wx)) (fun _ i _=>s.vs.length-(Aq i).toNat)
  case atStart=>exact⟨0,by omega,rfl,OwnR.nil _ _ _,Lp _ _⟩
  obtain⟨j,hj,rfl,HO,hb⟩:=hrel
  by_cases bg:j<s.vs.length
  case neg=>
   obtain rfl:j=s.vs.length:=by omega
   obtain⟨AO,ko,eO,hI⟩:=ZI HO.out;rw[eO];have HI:=zH hI;have pK:=zH ((own_fr HO.out eO).mono ce.out.size);clear eO hI HO;go_wp2_with fail;go_ret;exact⟨AO,ko,rfl,HI.out,pK.out,ce.out.trans (hb.out.mono (by omega))⟩
  obtain⟨AO,ko,eO,mg,AK,Hj⟩:=HO.out.form;subst eO;clear mg AK Hj;have bn:=hb.out.size;have rj:j<yl.length:=by have:=rK.out;omega
  have y0:wr.cell? ⟨w.heap.size+1,j,Z⟩=J (Ai yl[j]):=za (Lb hb.out (by omega) HY.out) j (kI yl j rj);have lC:(yP s K N s.xs.length).getD j Ax=yl[j]:=by rw[Md.out,Le,Lg rj];rfl
  have rk:(0:Int)<=(j:Int):=by omega
  have pc:(j:Int)<(s.vs.length:Int):=by omega
  have ir:=zH (@QQ s K N bC j);have lh:=zH (@Yl s K N bC j);rw[lC] at ir lh;have ED:=zH (Ym s K N bC j);have pN:=zH (NL.out j wr bg (ce.out.trans (hb.out.mono (by omega))));obtain⟨yb,Cu⟩:=Kh (yl[j]);rw[Cu] at y0 ir lh;clear lC Cu
  cases yb with
  | false=>
   have fX:As (yH s K N bC (j+1)=yH s K N bC j):=ir.out rfl;clear ir lh pN;go_wp2_with fail
   go_roundw
   case rel=>exact⟨j+1,by omega,by go_num,by rw[fX.out];exact HO.out,hb.out⟩
   case measure=>simp[Aq];omega
  | true=>
   go_wp2_with fail;refine pN.out.mono ?_;rintro e w6 ⟨rfl,dp⟩;have dW:=zH (hb.out.trans (dp.mono bn));have mb:=zH (HO.out.below dp (Lh _));clear dp pN y0;obtain⟨ab,rz⟩:=Kh (bC j);rw[rz] at ir lh;rw[rz];clear rz
   cases ab with
   | false=>
    have fX:As (yH s K N bC (j+1)=yH s K N bC j):=ir.out rfl;clear ir lh;go_wp2_with fail
    go_roundw
    case rel=>exact⟨j+1,by omega,by go_num,by rw[fX.out];exact mb.out,dW.out⟩
    case measure=>simp[Aq];omega
   | true=>
    have fX:As (yH s K N bC (j+1)=yH s K N bC j++[(j:Int)]):=lh.out rfl;have tO:=zH (mb.out.alloc (Ah #[O U j] 3));have ou:=zH (zh w6 (Ah #[O U j] 3));have oC:As (w5.heap.size<=(w6.alloc (Ah #[O U j] 3)).heap.size):=by show _<=_;have:=dW.out.size;simp;omega
    have rX:As ((yH s K N bC j).length<=1000000000):=by show _<=_;have:=ED.out;omega
    have EE:As ((yH s K N bC (j+1)).length=(yH s K N bC j).length+1):=by show _=_;rw[fX.out];simp
    clear ir lh;go_wp2_with (at_builtin;refine yo wQ rfl (.tmp 65) (.tmp 67) rfl w5.heap.size (.slice AO (yH s K N bC j).length ko) (yH s K N bC j).length ((yH s K N bC j).map (O U)) rfl tO.out w6.heap.size #[O U j] rfl ou.out rfl (by simp[Value.oneCell']) rX.out oC.out _ rfl ?_;intro g' cap AF dY dj ch eh;have rR:=zH dY;have u':As (Ao w5.heap.size w5 AF):=((dW.out.trans ((zw w6 _).mono dW.out.size)).grown dj (by exact oC.out) (fun k hk=>(mb.out.lt k hk).1));clear dY dj ch eh)
    go_roundw
    case rel=>exact⟨j+1,by omega,by go_num,by rw[EE.out,fX.out,LI];exact rR.out,u'.out⟩
    case measure=>simp[Aq];omega
 obtain⟨bx,ox,A1,c1,A2,c2,eA,aM,y0,y1,y2,DD,hL⟩:=(lE.out.fx.keep ce.out).row k ac;subst eA;have lq:=Ld ac;obtain⟨cm,dh⟩:=HF.out.views _ lq;obtain⟨m,hm,sL⟩:=YE HF.out.n1 HF.out.n5 (HF.out.word _ lq).2
 have cV:yP s K N (k+1)=zU m (s.xs[k].views.getD K []) (yP s K N k) N:=by
  rw[yP,Le,Lg ac];show zU (jo N s.xs[k]).toNat (s.xs[k].views.getD K []) _ N=_;rw[hm,Lv]
 obtain⟨W3,bP,b3,fE,aZ⟩:=zt wr #[O U s.xs[k].c,I A1 s.xs[k].word.length c1,I A2 s.xs[k].views.length c2] 42;have ma:=zH (fun kc ks kv kx=>uh s K N HF.out s.xs[k] lq A SV AV (J ⟨bx,ox,Z⟩) A1 A2 kc ks kv kx c1 c2 W3 (((DD.more (by omega)).keep aZ).more aZ.size));rw[hm] at ma;obtain⟨x,hx⟩:=Kh (s.xs[k]);rw[hx] at y0 y1 y2 hL cm dh cV bP b3 ma;unfold Sy.vs_ at ma;rw[HF.out.k] at ma;have tv:K<x.views.length:=by omega
 obtain⟨bl,ol,A3,c3,eA,aA,v0,hI⟩:=hL.at_ K tv;subst eA;have be:=dh _ (Ld tv);have cS:x.views.getD K []=x.views[K]:=by rw[Le,Lg tv];rfl
 obtain⟨row,lB⟩:=Kh (x.views[K]);rw[cS,lB] at cV;rw[lB] at v0 hI be;obtain⟨fb,oR⟩:=be;have dV:=zH bP;have bL:=zH aZ;have iF:=zH b3;have d3:=Lb aZ (by omega:w.heap.size<wr.heap.size) d0;have me:=zH d3;have le:=zH (Lb aZ sv HY.out);have Mf:=zH cV;have MF:=zH oR;have ff:=zH hI;have nB:=zH v0;have Fg:w.heap.size<wr.heap.size:=by omega
 have Dn:bx<wr.heap.size:=by omega
 have cq:(0:Int)<=(k:Int):=by omega
 have cy:(k:Int)<(s.xs.length:Int):=by omega
 have p9:wr.cell? ⟨w.heap.size,9,Z⟩=J (I (J ⟨bx,ox,Z⟩) s.xs.length kx):=za d0 9 rfl;obtain⟨p0,p1,p2,p3,p4,p5,_⟩:=Kg d0;have p6:wr.cell? ⟨w.heap.size,6,Z⟩=J (O U (K:Int)):=za d0 6 rfl;have p7:=za d0 7 rfl;have p8:=za d0 8 rfl;clear bP b3 aZ hL hI v0 lB cS hx lq cm dh hm cV oR DD d3 d0 HY;go_wp2_with fail;rw[dV.out];refine(ma.out _ _ _ _).mono ?_;rintro e w4 ⟨rfl,aU⟩;have iQ:=aU.size;have fP:=zH (ce.out.trans ((bL.out.trans (aU.mono (by omega))).mono (by omega)));have d4:=Lb aU (by omega:w.heap.size<W3.heap.size) me.out;have b4:=La aU iF.out;have Mg:=zH (Lb aU (by omega:w.heap.size+1<W3.heap.size) le.out);have Aa:=zH d4;have M6:=zH ((ff.out.keep (bL.out.mono (by omega))).keep (aU.mono (by omega)));clear p0 p1 p2 p3 p4 p5 p6 p7 p8 p9;have p6:w4.cell? ⟨w.heap.size,6,Z⟩=J (O U (K:Int)):=za d4 6 rfl;have z2:w4.cell? ⟨wr.heap.size,2,Z⟩=J (I (J ⟨bl,ol,Z⟩) x.views.length c2):=za b4 2 rfl;have v4:w4.cell? ⟨bl,ol+K,Z⟩=J (I A3 row.length c3):=(aU.cell (p:=⟨bl,ol+K,Z⟩) (by show bl<_;omega)).trans ((bL.out.cell (p:=⟨bl,ol+K,Z⟩) (by show bl<_;omega)).trans nB.out);have Ww:(0:Int)<=(K:Int):=by omega
 have Wv:(K:Int)<(x.views.length:Int):=by omega
 clear aU d4 b4 ma dV le iF ff nB y0 y1 y2;go_wp2_with fail;clear p6 z2 v4;have my:=zH fb;have Kr:w.heap.size+1<w4.heap.size:=by omega
 obtain⟨wp,rfl⟩:∃x,x=wr:=⟨_,rfl⟩
 go_loopw [37] (fun i wx=>∃q:Nat,q<=N/\i=O U (q:Int)/\As (wx.heap[w.heap.size+1]?=J (Ah (yy (zU m row (yP s K N k) q)) 4 (0,0)))/\As (Wrote (fun b=>b=w.heap.size+1) w4 wx)) (fun i _=>N-(Aq i).toNat)
 case atStart=>exact⟨0,by omega,rfl,Mg.out,Wrote.refl _ _⟩
 obtain⟨q,hq,rfl,HQ,nx⟩:=hrel;have Hl:=nx.out.size;have dA:As (Ao w.heap.size w4 wr):=nx.out.below (by omega) (fun b h1 h2=>by have h3:b=w.heap.size+1:=h2;omega)
 by_cases AU:q<N
 case neg=>
  obtain rfl:q=N:=by omega
  have Ht:¬((q:Int)<(row.length:Int)):=by omega
  have Me:As (wr.heap[w.heap.size+1]?=J (Ah (yy (yP s K q (k+1))) 4 (0,0))):=by show _=_;rw[Mf.out];exact HQ.out
  have Mz:As (wr.heap[w.heap.size]?=w1.heap[w.heap.size]?):=(nx.out.block _ (by omega) (fun h=>by have h3:w.heap.size=w.heap.size+1:=h;omega)).trans (Aa.out.trans bu.out.symm);clear HQ;go_wp2_with fail
  go_roundw
  case rel=>exact⟨k+1,by omega,by go_num,Me,Mz,fP.out.trans dA.out⟩
  simp[Aq];omega
 have Ht:(q:Int)<(row.length:Int):=by omega
 have f':q<row.length:=by omega
 obtain⟨br,GK,eA,ii,u0⟩:=M6.out.at_ q f';subst eA;have u1:=(dA.out.cell (p:=⟨br,GK+q,Z⟩) ii).trans u0;have lp:=MF.out _ (Ld f');obtain⟨y,hy⟩:=Kh (row[q]);rw[hy] at u1 lp;obtain⟨yN,rfl⟩:=Lr lp.1;have lC:(row.getD q 0).toNat=yN:=by rw[Le,Lg f',hy];rfl
 have cz:yN<(zU m row (yP s K N k) q).length:=by rw[qQ,kf];omega
 obtain⟨yb,c0⟩:∃yb,wr.cell? ⟨w.heap.size+1,yN,Z⟩=J (Ai yb):=⟨_,za HQ.out yN (kI _ _ cz)⟩;have f0:=zb HQ.out yN;have iX:=gz sL (show q<5 by omega);have lL:(0:Int)<=(q:Int):=by omega
 have AZ:(q:Int)<5:=by omega
 have lN:(0:Int)<=(m:Int):=by omega
 have GW:(0:Int)<=(yN:Int):=by omega
 have GV:(yN:Int)<(s.vs.length:Int):=by omega
 clear u0 hy lp
 by_cases dx:m.testBit q=Av
 . rw[dx] at iX
   have tH:As (zU m row (yP s K N k) (q+1)=(zU m row (yP s K N k) q).set yN Av):=by show _=_;rw[zU,Ln dx,lC]
   have MI:As ((wr.setCell ⟨w.heap.size+1,yN,Z⟩ (Ai Av)).heap[w.heap.size+1]?=J (Ah (yy (zU m row (yP s K N k) (q+1))) 4 (0,0))):=by show _=_;rw[Lk wr _ yN _ _ _ HQ.out,Zu,tH.out]
   have Ei:As (Wrote (fun b=>b=w.heap.size+1) w4 (wr.setCell ⟨w.heap.size+1,yN,Z⟩ (Ai Av))):=nx.out.trans (kK wr (w.heap.size+1) yN _) (fun _ _ h=>h);clear dx lC cz;go_wp2_with fail
   go_roundw
   case rel=>exact⟨q+1,by omega,by go_num,MI,Ei⟩
   simp[Aq];omega
 have Dr:m.testBit q=Ax:=by simpa using dx
 rw[Dr] at iX;have tH:As (zU m row (yP s K N k) (q+1)=zU m row (yP s K N k) q):=by show _=_;rw[zU,Lj dx]
 clear dx Dr lC cz;go_wp2_with fail
 go_roundw
 case rel=>exact⟨q+1,by omega,by go_num,by rw[tH.out];exact HQ.out,nx.out⟩
 simp[Aq];omega
def qn(vs:List Vw)(r:Int):Nat->Int->Int
 | 0,l=>l
 | n+1,l=>if r<(vs.getD l.toNat default).r then qn vs r n ((vs.getD l.toNat default).h (vs.getD l.toNat default).p.toNat) else l
def clB(vs:List Vw)(i later:Int):Bool:=decide (qn vs (vs.getD i.toNat default).r 7 later=i)
theorem Jk(s:Sy)(K N:Nat)(hF:Fine s K N)(n:Int)(AV:Bb)(kv i l0:Nat)(hi:i<s.vs.length)(iS:l0<s.vs.length)(w:Ba)(hV:VAt w w.heap.size AV s.vs) :
  Ap An 74 #[Aj #[O U n,I AV s.vs.length kv],O U (i:Int),O U (l0:Int)] w fun e w'=>e=Am (Ai (clB s.vs i l0))/\Ao w.heap.size w w':=by
 obtain⟨w1,ah,d0,bI,hB⟩:=zt w #[O U n,I AV s.vs.length kv] 33;have oh:=zH ((hV.keep hB).more hB.size);have HF:=zH hF;obtain⟨vi,Fj⟩:=Kh (s.vs[i]);have Bo:s.vs.getD ((i:Int).toNat) default=vi:=by rw[Lv,Le,Lg hi,Fj];rfl
 have HC:As (clB s.vs i l0=decide (qn s.vs vi.r 7 l0=(i:Int))):=by show _=_;unfold clB;rw[Bo]
 obtain⟨R,hR⟩:=Kh (clB s.vs i l0);rw[hR] at HC ⊢;have aq:=zH ah;have HB:=zH hB;have HD:=zH d0;have Bi:=hF.lv;obtain⟨⟨qi,mN,AU⟩,⟨ri,dh,U8⟩,an⟩:=hF.vs vi (by rw[<-Fj];exact Ld hi);have lO:=hF.k6;have na:=hF.n5;have HVI:=zH Fj;have tJ:=zH dh
 have mU:∃m:Nat,(s.vs.getD ((l0:Int).toNat) default).r<m/\qn s.vs vi.r 7 l0=qn s.vs vi.r m l0:=⟨7,by
  rw[Lv,Le,Lg iS];obtain⟨_,⟨r,hr,ai⟩,_⟩:=hF.vs s.vs[l0] (Ld iS);show(s.vs[l0]).r<_
  omega,rfl⟩
 have dz:=zH mU;clear ah d0 hB hV hF Fj Bo hR an mU dh mN;go_enter func74,ntmps74;go_wp2_with fail;rw[aq.out]
 go_loopw [2] (fun c wr=>∃l:Nat,l<s.vs.length/\c=O U (l:Int)/\As (∃m:Nat,(s.vs.getD ((l:Int).toNat) default).r<m/\qn s.vs vi.r 7 l0=qn s.vs vi.r m l)/\As (Ao w1.heap.size w1 wr)) (fun c _=>((s.vs.getD (Aq c).toNat default).r).toNat)
 case atStart=>exact⟨l0,iS,rfl,dz.out,Lp _ _⟩
 obtain⟨l,hl,rfl,HM,hb⟩:=hrel;obtain⟨v,hv⟩:=Kh (s.vs[l]);have cJ:s.vs.getD ((l:Int).toNat) default=v:=by rw[Lv,Le,Lg hl,hv];rfl
 obtain⟨⟨q,mN,Va⟩,⟨r,dh,U7⟩,an⟩:=HF.out.vs v (by rw[<-hv];exact Ld hl);obtain⟨m,hm,bh⟩:=HM.out;rw[cJ] at hm;have bn:=hb.out.size;have d0:=Lb hb.out (by omega:w.heap.size<w1.heap.size) HD.out;have x1:wr.cell? ⟨w.heap.size,1,Z⟩=J (I AV s.vs.length kv):=za d0 1 rfl;have Tw:=zH (oh.out.keep hb.out);obtain⟨b,o,eA,Sh,c0,c1,c2,c3,c4,c5,c6,c7⟩:=Tw.out.row l hl;obtain⟨b',o',Te,VZ,e0,e1,e2,e3,e4,e5,e6,e7⟩:=Tw.out.row i hi;rw[eA] at Te
 cases Te
 subst eA;rw[hv] at c0 c1 c2 c3 c4 c5 c6 c7;rw[HVI.out] at e1;rw[mN] at c0;rw[dh] at c1;rw[tJ.out] at e1;have sT:(0:Int)<=(i:Int):=by omega
 have IF:(i:Int)<(s.vs.length:Int):=by omega
 have Vo:(0:Int)<=(l:Int):=by omega
 have dP:(l:Int)<(s.vs.length:Int):=by omega
 clear d0 e0 e2 e3 e4 e5 e6 e7
 by_cases Dg:ri<r
 case neg=>
  have sV:¬((ri:Int)<(r:Int)):=by omega
  have DM:As (R=decide ((l:Int)=(i:Int))):=HC.out.trans (by
   rw[bh]
   cases m with
   | zero=>rfl
   | succ m=>rw[qn,cJ,Lj (by rw[dh,tJ.out];exact sV)])
  clear cJ hm bh an hv mN dh HM;go_wp2_with fail;go_quiet (fail);go_wp2_with fail;go_ret;exact⟨ze (by rw[DM.out];first | rfl | (rw[Nr];simp)),HB.out.trans ((zx hb.out nq).mono (by omega))⟩
 have sV:(ri:Int)<(r:Int):=by omega
 obtain⟨u,⟨CA,mg⟩,sr,US⟩:=an (by rw[dh];omega);obtain⟨l',nd⟩:=Lr CA;have IG:v.h v.p.toNat=v.h q:=by rw[mN];rfl
 rw[IG] at nd mg;rw[nd,Lv] at mg;obtain⟨aL,UT⟩:=Lo.1 mg;have pg:s.vs.getD ((l':Int).toNat) default=u:=by rw[Lv,Le,mg];rfl
 have HN:As (∃m:Nat,(s.vs.getD ((l':Int).toNat) default).r<m/\qn s.vs vi.r 7 l0=qn s.vs vi.r m l'):=by
  obtain⟨m',rfl⟩:∃m',m=m'+1:=⟨m-1,by omega⟩;refine⟨m',by rw[pg];omega,?_⟩;rw[bh,qn,cJ,Ln (by rw[dh,tJ.out];exact sV),IG,nd]
 have HMS:As (((s.vs.getD ((l':Int).toNat) default).r).toNat<((s.vs.getD ((l:Int).toNat) default).r).toNat):=by show _<_;rw[cJ,pg];omega
 have lL:(0:Int)<=(q:Int):=by omega
 have AZ:(q:Int)<5:=by omega
 have HHL:=zH nd;have HQH:=zH (Vw.cells_h v q (by omega));have Mo:=zH mN;have Mn:=zH dh;have cD:b<wr.heap.size:=by omega
 have Fg:w.heap.size<wr.heap.size:=by omega
 clear cJ hm bh an hv mN dh HM pg UT mg sr US CA IG nd;go_wp2_with fail;go_quiet (fail);obtain⟨X,hX⟩:=Kh (wr.drewN nq);rw[hX];have dA:As (Ao w1.heap.size w1 X):=by rw[<-hX];exact zx hb.out nq
 have x1':X.cell? ⟨w.heap.size,1,Z⟩=J (I (J ⟨b,o,Z⟩) s.vs.length kv):=by rw[<-hX];exact x1
 have c0':X.cell? ⟨b,o+l*8,Z⟩=J (O U (q:Int)):=by rw[<-hX];exact c0
 have Z':X.cell? ⟨b,o+l*8+1,Z⟩=J (O U (r:Int)):=by rw[<-hX];exact c1
 have Lt:X.cell? ⟨b,o+l*8+2,Z⟩=J (O U v.i):=by rw[<-hX];exact c2
 have DZ:X.cell? ⟨b,o+l*8+3,Z⟩=J (O U v.h0):=by rw[<-hX];exact c3
 have c4':X.cell? ⟨b,o+l*8+4,Z⟩=J (O U v.h1):=by rw[<-hX];exact c4
 have c5':X.cell? ⟨b,o+l*8+5,Z⟩=J (O U v.h2):=by rw[<-hX];exact c5
 have c6':X.cell? ⟨b,o+l*8+6,Z⟩=J (O U v.h3):=by rw[<-hX];exact c6
 have c7':X.cell? ⟨b,o+l*8+7,Z⟩=J (O U v.h4):=by rw[<-hX];exact c7
 have iZ:b<X.heap.size:=by rw[<-hX];exact cD
 have hwX:w.heap.size<X.heap.size:=by rw[<-hX];exact Fg
 clear hX;obtain⟨W5,mq,b5,lA,dT⟩:=zt X #[O U (q:Int),O U (r:Int),O U v.i,O U v.h0,O U v.h1,O U v.h2,O U v.h3,O U v.h4] 100;have tI:=zH mq;have eT:As (Ao w1.heap.size w1 W5):=Lc dA.out dT
 have z2:(#[O U (q:Int),O U (r:Int),O U v.i,O U v.h0,O U v.h1,O U v.h2,O U v.h3,O U v.h4]:Array Au)[3+q]?=J (O U (l':Int)):=by
  rw[<-HHL.out]
  have e:(v.cells:Array Au)=#[O U (q:Int),O U (r:Int),O U v.i,O U v.h0,O U v.h1,O U v.h2,O U v.h3,O U v.h4]:=by
   unfold Vw.cells;rw[Mo.out,Mn.out]
  rw[<-e];exact HQH.out
 have z1:(X.alloc (Ah #[O U (q:Int),O U (r:Int),O U v.i,O U v.h0,O U v.h1,O U v.h2,O U v.h3,O U v.h4] 100)).cell? ⟨X.heap.size,3+q,Z⟩=J (O U (l':Int)):=by rw[mq];exact za b5 (3+q) z2
 clear mq b5 dT;go_wp2_with fail;rw[tI.out]
 go_roundw
 case rel=>exact⟨l',aL,rfl,HN.out,eT.out⟩
 exact HMS.out
theorem relT_any(i:Nat)(w:Ba):Ap An 72 #[O U (i:Int)] w fun e w'=>e=Am (Ai Av)/\Ao w.heap.size w w':=by
 go_enter func72,ntmps72;go_wp2_with fail;go_ret;exact⟨rfl,Lp _ _⟩
theorem conF_any(s:Sy)(K N:Nat)(hF:Fine s K N)(A SV AV AX:Bb)(kc ks kv kx:Nat)(i j:Nat)(hi:i<s.vs.length)(hj:j<s.vs.length)(g1 g2:Nat)(w:Ba)(hV:VAt w w.heap.size AV s.vs)
  (h1:w.heap[g1]?=J (Ah (s.vs_ A kc SV ks AV kv AX kx) 36 (0,0))) (h2:w.heap[g2]?=J (Ah #[O U (i:Int)] 3 (0,0))) :
  Ap An 73 #[O U (j:Int),Ak (J ⟨g1,0,Z⟩),Ak (J ⟨g2,0,Z⟩)] w fun e w'=>e=Am (Ai (clB s.vs i j))/\Ao w.heap.size w w':=by
 have HC:=zH (Jk s K N hF s.n AV kv i j hi hj w hV);have x7:w.cell? ⟨g1,7,Z⟩=J (O U s.n):=za h1 7 rfl;have x8:w.cell? ⟨g1,8,Z⟩=J (I AV s.vs.length kv):=za h1 8 rfl;have x0:w.cell? ⟨g2,0,Z⟩=J (O U (i:Int)):=za h2 0 rfl;clear h1 h2 hF hV;go_enter func73,ntmps73;go_wp2_with fail;refine HC.out.mono ?_;rintro e w2 ⟨rfl,af⟩;have HB:=zH af;clear af HC;go_wp2_with fail;go_ret;exact⟨rfl,HB.out⟩
def QP(s:Sy):List Int:=if yX s≠0 then [] else uD s s.p.k.toNat s.n.toNat (fun _=>Av)
def clE(s:Sy)(i:Int):List Int:=if xb s i≠0 then [] else uD s s.p.k.toNat s.n.toNat (fun j=>clB s.vs i j)
theorem ZE(s:Sy)(hs:LowS s)(hf:xY s.p)(A SV AV AX:Bb)(kc ks kv kx:Nat)(w:Ba)(hS:SyAt w w.heap.size A SV AV AX s) :
  Ap An 34 #[.agg (s.vs_ A kc SV ks AV kv AX kx)] w (RetLE (QP s) (yX s) w):=by
 obtain⟨w1,ah,d0,bI,hB⟩:=zt w (s.vs_ A kc SV ks AV kv AX kx) 36;have HV:=zH (Zy s hs hf A SV AV AX kc ks kv kx w1 (hS.up hB));have eR:=zH (hS.up hB);have HH:As (QP s=if yX s≠0 then [] else uD s s.p.k.toNat s.n.toNat (fun _=>Av)):=rfl;have iG:=zH (fun h=>uY hf h);obtain⟨R,hR⟩:=Kh (QP s);obtain⟨r,hr⟩:=Kh (yX s);rw[hr] at HV HH iG ⊢;rw[hR] at HH ⊢;have im:=zH (fun (K N:Nat) (hF:Fine s K N) (W:Ba) (hW:SyAt W W.heap.size A SV AV AX s)=>relA_any s K N hF (fun _=>Av) A SV AV AX kc ks kv kx W hW (fun i X _ _=>relT_any i X));unfold Sy.vs_ at ah d0 HV im ⊢;have aq:=zH ah;have HB:=zH hB;have HD:=zH d0;obtain⟨p0,p1,p2,p3,p4,p5,p6,p7,p8,p9⟩:=yg d0;clear ah d0 hB hS hr hR hs hf;go_enter func34,ntmps34;go_wp2_with fail;rw[aq.out];go_wp2_with fail;refine HV.out.mono ?_;rintro e w2 ⟨rfl,af⟩;have aW:=zH (HB.out.trans (af.mono (by omega)));have dg:=zH (eR.out.up af);have d0:=Lb af (by omega:w.heap.size<w1.heap.size) HD.out;clear p0 p1 p2 p3 p4 p5 p6 p7 p8 p9 af HV aq eR HD
 by_cases h0:r=0
 case neg=>
  have hR:As (R=[]):=HH.out.trans (Ln h0);have e0:(r != 0)=Av:=by simpa using h0
  clear HH iG h0 d0 im;go_wp2_with fail
  go_ret2
  rw[hR.out];exact⟨Z,0,rfl,fun h=>absurd h (by simp),aW.out⟩
 case pos=>
 subst h0;obtain⟨CH,K,N,hF⟩:=iG.out rfl;clear CH;have nr:R=uD s s.p.k.toNat s.n.toNat (fun _=>Av):=HH.out.trans (Lj (by simp));rw[hF.k,hF.n,Lv,Lv] at nr;have cf:=zH nr;have HC:=zH (im.out K N hF w2 dg.out);obtain⟨p0,p1,p2,p3,p4,p5,p6,p7,p8,p9⟩:=yg d0;clear HH iG nr hF im d0 dg;go_wp2_with fail;refine HC.out.mono ?_;rintro e w3 ⟨AO,ko,rfl,hI,_,ap⟩;have HI:=zH hI;have bL:=zH (Lc aW.out ap);clear hI ap HC p0 p1 p2 p3 p4 p5 p6 p7 p8 p9;go_wp2_with fail
 go_ret2
 rw[cf.out];exact⟨AO,ko,rfl,HI.out,bL.out⟩
def RetLEF(xs:List Int)(n:Int)(w:Ba)(e:Ending)(w':Ba):Prop:=∃A c,e=Am (.tuple #[I A xs.length c,O U n])/\IAt w' w'.heap.size A xs/\FrI w.heap.size A xs.length/\Ao w.heap.size w w'
theorem uF(s:Sy)(hs:LowS s)(hf:xY s.p)(i:Int)(A SV AV AX:Bb)(kc ks kv kx:Nat)(w:Ba)(hS:SyAt w w.heap.size A SV AV AX s) :
  Ap An 35 #[.agg (s.vs_ A kc SV ks AV kv AX kx),O U i] w (RetLEF (clE s i) (xb s i) w):=by
 obtain⟨w1,ah,d0,d1,bI,hB⟩:=zZ w (s.vs_ A kc SV ks AV kv AX kx) #[O U i] 36 3;have HV:=zH (Z5 s hs hf i A SV AV AX kc ks kv kx w1 (hS.up hB));have eR:=zH (hS.up hB);have HH:As (clE s i=if xb s i≠0 then [] else uD s s.p.k.toNat s.n.toNat (fun j=>clB s.vs i j)):=rfl;have HE:As (xb s i=if yX s≠0 then yX s else if i<0\/(s.vs.length:Int)<=i then 6 else 0):=rfl;have iG:=zH (fun h=>uY hf h);obtain⟨R,hR⟩:=Kh (clE s i);obtain⟨r,hr⟩:=Kh (xb s i);rw[hr] at HV HE HH ⊢;rw[hR] at HH ⊢
 have im:=zH (fun (K N iN:Nat) (hF:Fine s K N) (hi:iN<s.vs.length) (W:Ba) (hW:SyAt W W.heap.size A SV AV AX s) (g1 g2:Nat) (eJ:W.heap[g1]?=J (Ah (s.vs_ A kc SV ks AV kv AX kx) 36 (0,0))) (ig:W.heap[g2]?=J (Ah #[O U (iN:Int)] 3 (0,0)))=>
  relC_any s K N hF (fun j=>clB s.vs iN j) g1 g2 A SV AV AX kc ks kv kx W hW (fun j X hj hX=>conF_any s K N hF A SV AV AX kc ks kv kx iN j hi hj g1 g2 X ((hW.fv.keep hX).more hX.size) (La hX eJ) (La hX ig)))
 unfold Sy.vs_ at ah d0 HV im ⊢;have aq:=zH ah;have HB:=zH hB;have HD:=zH d0;have bQ:=zH d1;obtain⟨p0,p1,p2,p3,p4,p5,p6,p7,p8,p9⟩:=yg d0;have q0:=za d1 0 rfl;clear ah d0 d1 hB hS hr hR hs hf;go_enter func35,ntmps35;go_wp2_with fail;rw[aq.out];go_wp2_with fail;refine HV.out.mono ?_;rintro e w2 ⟨rfl,af⟩;have aW:=zH (HB.out.trans (af.mono (by omega)));have dg:=zH (eR.out.up af);have d0:=Lb af (by omega:w.heap.size<w1.heap.size) HD.out;have d1:=Lb af (by omega:w.heap.size+1<w1.heap.size) bQ.out;clear p0 p1 p2 p3 p4 p5 p6 p7 p8 p9 q0 af HV aq eR HD bQ
 by_cases h0:r=0
 case neg=>
  have hR:As (R=[]):=HH.out.trans (Ln h0);have e0:(r != 0)=Av:=by simpa using h0
  clear HH iG h0 d0 d1 im HE;go_wp2_with fail
  go_ret2
  rw[hR.out];exact⟨Z,0,rfl,fun h=>absurd h (by simp),fun h=>absurd h (by simp),aW.out⟩
 case pos=>
 subst h0
 have mP:yX s=0:=by
  by_cases h:yX s=0
  . exact h
  have:=HE.out;rw[Ln h] at this;exact absurd this.symm h
 have hi:¬(i<0\/(s.vs.length:Int)<=i):=fun h=>by
  have:=HE.out;rw[Lj (by simpa using mP),Ln h] at this;cases this
 obtain⟨CH,K,N,hF⟩:=iG.out mP;clear CH;obtain⟨iN,rfl⟩:=Lr (show 0<=i by omega);have nr:R=uD s s.p.k.toNat s.n.toNat (fun j=>clB s.vs iN j):=HH.out.trans (Lj (by simp));rw[hF.k,hF.n,Lv,Lv] at nr;have cf:=zH nr;have HC:=zH (im.out K N iN hF (by omega) w2 dg.out (w.heap.size) (w.heap.size+1) d0 d1);obtain⟨p0,p1,p2,p3,p4,p5,p6,p7,p8,p9⟩:=yg d0;clear HH iG nr hF im d0 d1 dg mP hi HE;go_wp2_with fail;refine HC.out.mono ?_;rintro e w3 ⟨AO,ko,rfl,hI,RZ,ap⟩;have HI:=zH hI;have bL:=zH (Lc aW.out ap);have pK:=zH (RZ.mono aW.out.size);clear hI RZ ap HC p0 p1 p2 p3 p4 p5 p6 p7 p8 p9;go_wp2_with fail
 go_ret2
 rw[cf.out];exact⟨AO,ko,rfl,HI.out,pK.out,bL.out⟩
theorem ge(s:Sy)(hs:LowS s)(hf:xY s.p)(i:Int)(A SV AV AX:Bb)(kc ks kv kx:Nat)(w:Ba)(hS:SyAt w w.heap.size A SV AV AX s) :
  Ap An 35 #[.agg (s.vs_ A kc SV ks AV kv AX kx),O U i] w (RetLE (clE s i) (xb s i) w):=
 (uF s hs hf i A SV AV AX kc ks kv kx w hS).mono fun _ _ ⟨A,c,e,hI,_,hb⟩=>⟨A,c,e,hI,hb⟩
end
section
open Go.RowKit
theorem jR:(An.info? 91).map (·.size)=J 2:=by kernel_rfl
theorem JR:(An.info? 5).map (fun i=>(i.zero,i.size,i.bytes))=J (J (.int .u8 0),1,1):=by kernel_rfl
theorem ZP:liesAt An An.depth 91 (2 / An.cellsOf 91) 0 91 1=Av:=by kernel_rfl
def BldAt(B b:Nat)(l:List UInt8)(w:Ba):Prop:=Lib.IsBuilderF 91 5 B b (Lib.byteCells l) w
def Kept(b:Nat)(w w':Ba):Prop:=Lib.OthersKept 5 (J b) w w'
theorem QB(b:Nat)(w:Ba)(h0:w.cell? ⟨b,0,Z⟩=J (Ak (J ⟨b,0,Z⟩))) :
  Ap An 108 #[Ak (J ⟨b,0,Z⟩)] w fun e w'=>e=Am (.tuple #[])/\w'=w:=by
 obtain⟨j,hj,_⟩:=Option.map_eq_some_iff.1 jR;go_enter func108,ntmps108;go_wp2;rw[Lib.run_neq_ptr_same w _ Rt hj];go_wp2
 go_end0
 exact⟨rfl,rfl⟩
theorem Y6(b:Nat)(w:Ba)(h0:w.cell? ⟨b,0,Z⟩=J (Ak Z))(CF:w.shape? b=J (91,2))(VN:w.frozen? ⟨b,0,Z⟩=Ax) :
  Ap An 108 #[Ak (J ⟨b,0,Z⟩)] w fun e w'=>e=Am (.tuple #[])/\w'=w.setCell ⟨b,0,Z⟩ (Ak (J ⟨b,0,Z⟩)):=by
 obtain⟨j,hj,Iq⟩:=Option.map_eq_some_iff.1 jR;go_enter func108,ntmps108;go_wp2;rw[Lib.run_to_unsafe w ⟨b,0,Z⟩ Rt underlying215 hj (by rw[Iq];decide) CF (Nat.zero_lt_succ 1)];simp only[Result.andThen];rw[RK];go_wp2;rw[run_callFunc_extern func135 (by kernel_rfl) (by kernel_rfl) (by kernel_rfl) (e:=Extern.AbiNoEscape.same) (by kernel_rfl)];rw[Lib.run_noEscape];simp only[Result.andThen];rw[RK];go_wp2;rw[Lib.run_from_unsafe w ⟨b,0,Z⟩ underlying215 Rt hj CF ZP];simp only[Result.andThen];rw[RK];go_wp2
 go_end0
 exact⟨rfl,rfl⟩
theorem bcopy_any(B b:Nat)(bs:List Au)(w:Ba)(h:Lib.IsBuilderF 91 5 B b bs w) :
  Ap An 108 #[Ak (J ⟨b,0,Z⟩)] w fun e w'=>e=Am (.tuple #[])/\(Lib.BuilderAtF 91 5 B b (Ak (J ⟨b,0,Z⟩)) bs w'/\Ao B w w'/\Lib.OthersKept 5 (J b) w w'):=by
 rcases h with h | h
 . refine(Y6 b w h.cell0 h.shape h.frozen0).mono ?_
   rintro e w' ⟨rfl,rfl⟩;exact⟨rfl,h.used _,(Lp B w).setCell (p:=⟨b,0,Z⟩) h.1 _,(Lib.OthersKept.refl _ _ w).setCell ⟨b,0,Z⟩ rfl _⟩
 refine(QB b w h.cell0).mono ?_;rintro e w' ⟨rfl,rfl⟩;exact⟨rfl,h,Lp B _,Lib.OthersKept.refl _ _ _⟩
theorem Qt(B b:Nat)(l:List UInt8)(s:ByteArray)(w:Ba)(h:BldAt B b l w)(aO:l.length+s.size<=140737488355328)(hBw:B<=w.heap.size) :
  Ap An 75 #[Ak (J ⟨b,0,Z⟩),.string s] w fun e w'=>e=Am (.tuple #[O U s.size,.nilIface])/\BldAt B b (l++s.data.toList) w'/\Ao B w w'/\Kept b w w':=by
 obtain⟨i0,hi,cH,bS,cp⟩:=PD JR;have aL:(Lib.byteCells l).length=l.length:=by simp[Lib.byteCells]
 have fA:=zH aL;clear aL;unfold BldAt at h;have HB:=zH h;clear h;go_enter func75,ntmps75;go_wp2_with (go_at_call 108;refine(bcopy_any B b _ _ HB.out).mono ?_);rintro e w1 ⟨rfl,h1,aC,cy⟩;obtain⟨hB,v,aN,an,bt⟩:=h1;have c0:w1.cell? ⟨b,0,Z⟩=J (Ak (J ⟨b,0,Z⟩)):=by rw[P5 aN];rfl
 have c1:w1.cell? ⟨b,1,Z⟩=J v:=by rw[P5 aN];rfl
 go_wp2_with (at_builtin;refine Lib.wpList_append_own_stringF _ rfl _ _ 89 9 rfl B 5 i0 underlying89 underlying9 hi cH bS cp _ _ _ rfl an s rfl ?c3 ?c4 ?c5 ?_)
 case c3=>rw[fA.out];unfold maxLen;omega
 case c4=>rw[fA.out];omega
 case c5=>have:=aC.size;omega
 intro v' w2 cM aJ _
 have ac:b<w1.heap.size:=by
  rcases Nat.lt_or_ge b w1.heap.size with h' | h'
  . exact h'
  simp[Array.getElem?_eq_none h'] at aN
 have af:w2.heap[b]?=J (Ah #[Ak (J ⟨b,0,Z⟩),v] 91 (0,0)):=by
  rw[aJ.block b ac (fun e=>bt e.symm)];exact aN
 have d0:w2.cell? ⟨b,0,Z⟩=J (Ak (J ⟨b,0,Z⟩)):=by rw[P5 af];rfl
 have d1:w2.cell? ⟨b,1,Z⟩=J v:=by rw[P5 af];rfl
 have f1:w2.frozen? ⟨b,1,Z⟩=Ax:=Lib.frozen_of_heap af 1
 obtain⟨ao,n',cap,rfl⟩:∃ao n' cap,v'=I ao n' cap:=by
  rcases cM.2 with ⟨hv,_⟩ | ⟨g,cap,cur,fz,hv,_⟩
  . exact⟨_,_,_,hv⟩
  exact⟨_,_,_,hv⟩
 go_wp2
 go_ret2
 refine⟨rfl,?_,?_,(cy.grown aJ (Lib.ownsRowF_kind an)).setCell ⟨b,1,Z⟩ rfl _⟩
 . have e:Lib.byteCells (l++s.data.toList)=Lib.byteCells l++Lib.strCells s:=by simp[Lib.byteCells,Lib.strCells]
   unfold BldAt;rw[e];exact Or.inr (Lib.BuilderAtF.put (T:=91) (e:=5) hB af (bs':=Lib.byteCells l++Lib.strCells s) (by simpa[Lib.strCells_length] using cM) (by decide))
 exact(aC.grown aJ (by have:=aC.size;omega) (fun k hk=>(an.lt k hk).1)).setCell (p:=⟨b,1,Z⟩) hB _
theorem qL(B b:Nat)(l:List UInt8)(s:ByteArray)(w:Ba)(h:BldAt B b l w)(aO:l.length+s.size<=140737488355328)(hBw:B<=w.heap.size) :
  Ap An 75 #[Ak (J ⟨b,0,Z⟩),.string s] w fun e w'=>∃k:Int,e=Am (.tuple #[O U k,.nilIface])/\BldAt B b (l++s.data.toList) w'/\Ao B w w'/\Kept b w w':=
 (Qt B b l s w h aO hBw).mono fun _ _ h=>⟨_,h⟩
theorem BldAt.fresh(w:Ba):BldAt w.heap.size w.heap.size [] (w.alloc (Ah #[Ak Z,I Z 0 0] 91)):=
 Or.inl ⟨Lh _,I Z 0 0,zh _ _,⟨rfl,Or.inl ⟨rfl,rfl⟩⟩,by simp[Value.ownBlock]⟩
theorem BldAt.same{B b:Nat}{l:List UInt8}{w w':Ba}(h:BldAt B b l w)(hs:∀(k:Nat) (o:Obj),w.heap[k]?=J o->o.isCells=Av->w'.heap[k]?=J o):BldAt B b l w':=by
 have key:∀p,Lib.BuilderAtF 91 5 B b p (Lib.byteCells l) w->Lib.BuilderAtF 91 5 B b p (Lib.byteCells l) w':=by
  rintro p ⟨hB,v,hb,⟨hl,ho⟩,bt⟩;refine⟨hB,v,hs _ _ hb rfl,⟨hl,?_⟩,bt⟩;rcases ho with ho | ⟨g,cap,cur,fz,hv,h1,h2,h3⟩
  . exact Or.inl ho
  exact Or.inr ⟨g,cap,cur,fz,hv,h1,hs _ _ h2 rfl,h3⟩
 exact h.elim (fun h=>Or.inl (key _ h)) (fun h=>Or.inr (key _ h))
theorem BldAt.lt{B b:Nat}{l:List UInt8}{w:Ba}(h:BldAt B b l w):B<=b/\b<w.heap.size:=by
 rcases h with h | h<;>exact⟨h.1,h.lt⟩
theorem BldAt.alloc{B b:Nat}{l:List UInt8}{w:Ba}(h:BldAt B b l w)(o:Obj):BldAt B b l (w.alloc o):=h.same fun _ _ hk _=>zB hk o
theorem BldAt.drew{B b:Nat}{l:List UInt8}{w:Ba}(h:BldAt B b l w):BldAt B b l w.drew:=h
theorem BldAt.set{B b g:Nat}{l:List UInt8}{w:Ba}{cs:Array Au}{t:TypeId}(h:BldAt B b l w)(hg:w.heap[g]?=J (Ah cs t (0,0)))(ht:t≠5)(hb:g≠b)(k:Nat)(u:Au):BldAt B b l (w.setCell ⟨g,k,Z⟩ u):=by
 have key:∀p,Lib.BuilderAtF 91 5 B b p (Lib.byteCells l) w->Lib.BuilderAtF 91 5 B b p (Lib.byteCells l) (w.setCell ⟨g,k,Z⟩ u):=by
  rintro p ⟨hB,v,aN,⟨hl,ho⟩,bt⟩;refine⟨hB,v,(Lf _ _ _ _ (fun e=>hb e.symm)).trans aN,⟨hl,?_⟩,bt⟩;rcases ho with ho | ⟨g',cap,cur,fz,hv,h1,h2,h3⟩
  . exact Or.inl ho
  refine Or.inr ⟨g',cap,cur,fz,hv,h1,(Lf _ _ _ _ (fun e=>?_)).trans h2,h3⟩;have e':g'=g:=e;subst e';rw[hg] at h2
  cases h2
  exact ht rfl
 exact h.elim (fun h=>Or.inl (key _ h)) (fun h=>Or.inr (key _ h))
structure WrIn(B b gs:Nat)(l:List UInt8)(sg:UInt8)(w2 W:Ba):Prop where
 bld:BldAt B b l W
 sign:W.heap[gs]?=J (Ah #[.string ⟨#[sg]⟩] 9 (0,0))
 below:Ao B w2 W
 rest:∀(k:Nat) (o:Obj),w2.heap[k]?=J o->k≠b->k≠gs->(∀c fz,o≠.cells c 5 fz)->W.heap[k]?=J o
theorem WrIn.turn{B b gs:Nat}{l:List UInt8}{sg:UInt8}{w2 W W':Ba}{row:Option Nat}(h:WrIn B b gs l sg w2 W)(hB:B<=w2.heap.size)(hg:W.grownBy W' row)(hr:∀r,row=J r->w2.heap.size<=r/\∃o:Obj,W.heap[r]?=J o/\o.isCells=Ax):WrIn B b gs l sg w2 W' where
 bld:=h.bld.same fun k o hk ho=>(LO hg (fun r e=>(hr r e).2) hk ho).trans hk
 sign:=(LO hg (fun r e=>(hr r e).2) h.sign rfl).trans h.sign
 below:=h.below.grown hg (by have:=h.below.size;omega) fun r e=>by have:=(hr r e).1;omega
 rest:=fun k o hk h1 h2 h3=>by
  have h4:=h.rest k o hk h1 h2 h3;refine(hg.block k (zd h4) fun e=>?_).trans h4;have:=(hr k e.symm).1;have:=zd hk;omega
end
section
def ascN(n:Nat)(p:Nat->Bool):List Nat:=(List.range n).filter p
def zF(l:List Nat):List Int:=l.map fun k:Nat=>(k:Int)
def asc(n:Nat)(p:Nat->Bool):List Int:=zF (ascN n p)
theorem kR{l:List Nat}{k:Nat}:((k:Int)∈zF l)↔k∈l:=by
 unfold zF;rw[LA];constructor
 . rintro⟨a,ha,e⟩
   have:a=k:=by omega
   subst this;exact ha
 intro h;exact⟨k,h,rfl⟩
theorem QC(n:Nat)(p:Nat->Bool):(asc n p).length<=n:=by
 unfold asc zF ascN;rw[LG];exact Lx (Ps _ _) (by simp)
theorem zI(l:List Nat):(zF l).length=l.length:=by simp[zF]
theorem past_len(vs:List Vw)(l:List Nat):(zF (qt vs l)).length<=vs.length:=QC _ _
end
section
open Go.RowKit
theorem Z7(w:Ba)(c1 c2:Array Au)(t1 t2:TypeId):∃W0,(w.alloc (Ah c1 t1)).alloc (Ah c2 t2)=W0/\W0.heap[w.heap.size]?=J (Ah c1 t1 (0,0))/\W0.heap[w.heap.size+1]?=J (Ah c2 t2 (0,0))/\W0.heap.size=w.heap.size+2/\Ao w.heap.size w W0:=
 ⟨_,rfl,zB (zh _ _) _,by have:=zh (w.alloc (Ah c1 t1)) (Ah c2 t2);rwa[LZ] at this,by simp,xX w _ _⟩
theorem Wf.row_ok{n:Int}{vs:List Vw}(h:Wf n vs){i:Nat}(hi:i<vs.length):zR n (vs.take i) (zv vs i)=0:=(ZD (h.2.2 i hi)).1
theorem Wf.kid{n:Int}{vs:List Vw}(h:Wf n vs){i c:Nat}(hi:i<vs.length)(hc:c∈zS (zv vs i)):c<i/\(zv vs c).r=(zv vs i).r-1:=by
 have h1:=h.acyc i hi c hc;have h2:=kid_ok (h.row_ok hi) hc;rw[vG h1] at h2;exact⟨h1,h2.2⟩
theorem Wf.begv{n:Int}{vs:List Vw}(h:Wf n vs){i:Nat}(hi:i<vs.length):yZ n (zv vs i)=0:=(kU (h.row_ok hi)).1
end
section
def dgt(x:Int):UInt8:=UInt8.ofNat (48+x.toNat)
def sep:UInt8->List (List UInt8)->List UInt8
 | _,[]=>[]
 | s,x::xs=>s::(x++sep 44 xs)
theorem Yb:∀(s:UInt8) (l:List (List UInt8)) (x:List UInt8),sep s (l++[x])=sep s l++((if l=[] then s else 44)::x)
 | s,[],x=>by simp[sep]
 | s,y::l,x=>by
  have:=Yb 44 l x;simp only[List.cons_append,sep,this,List.append_assoc]
  by_cases h:l=[]<;>simp[h]
theorem jw:∀(s:UInt8) (l:List (List UInt8)) (m:Nat),(∀x,x∈l->x.length<=m)->(sep s l).length<=l.length*(m+1)
 | _,[],_,_=>by simp[sep]
 | s,x::l,m,h=>by
  have h1:=h x (by simp);have h2:=jw 44 l m fun y hy=>h y (by simp[hy])
  simp only[sep,List.length_cons,List.length_append];rw[Pz];omega
def vf(vs:List Vw):Nat->Nat->List UInt8
 | 0,_=>[]
 | f+1,i=>if (zv vs i).r=0 then [dgt (zv vs i).p,58,dgt (zv vs i).i] else dgt (zv vs i).p::(sep 40 ((zS (zv vs i)).map (vf vs f))++[41])
def zi(vs:List Vw)(i:Nat):List UInt8:=vf vs (i+1) i
theorem Z3{vs:List Vw}(ha:uJ vs):∀(i f:Nat),i<vs.length->i<f->vf vs f i=zi vs i:=by
 intro i
 induction i using Nat.strongRecOn with
 | _ i ih=>
  intro f hi hf;obtain⟨g,rfl⟩:∃g,f=g+1:=⟨f-1,by omega⟩;unfold zi;simp only[vf]
  split
  . rfl
  . congr 3
    apply Ph;intro c hc;have:=ha i hi c hc;rw[ih c this g (by omega) (by omega),ih c this i (by omega) this]
theorem qR{vs:List Vw}{i:Nat}(hr:(zv vs i).r=0):zi vs i=[dgt (zv vs i).p,58,dgt (zv vs i).i]:=by
 unfold zi vf;rw[Ln hr]
theorem qr{vs:List Vw}(ha:uJ vs){i:Nat}(hi:i<vs.length)(hr:(zv vs i).r≠0):zi vs i=dgt (zv vs i).p::(sep 40 ((zS (zv vs i)).map (zi vs))++[41]):=by
 unfold zi;rw[vf,Lj hr]
 congr 3
 apply Ph;intro c hc;have:=ha i hi c hc;exact Z3 ha c i (by omega) this
theorem JQ(v:Vw):(zS v).length<=5:=by
 unfold zS yn yf;rw[LG]
 split
 . exact Lx (PV _ _) (by simp)
 simp
def Xc:Nat->Nat
 | 0=>3
 | r+1=>2+5*(Xc r+1)
theorem Jn{a b:Nat}(h:a<=b):Xc a<=Xc b:=by
 induction b with
 | zero => obtain rfl : a = 0 := by omega
           exact Lh _
 | succ b ih=>
  by_cases e:a=b+1
  . subst e;exact Lh _
  . have:=ih (by omega)
    simp only[Xc];omega
theorem Wf.own_kid{n:Int}{vs:List Vw}(h:Wf n vs){i:Nat}(hi:i<vs.length)(hr:(zv vs i).r≠0):((zv vs i).h (zv vs i).p.toNat).toNat∈zS (zv vs i):=by
 have hb:=qX (h.begv hi);obtain⟨h1,h2⟩:=kU (h.row_ok hi);obtain⟨hl,hg,_⟩:=h2 hr;have O5:(zv vs i).p.toNat<5:=by have:=h.2.1;omega
 have:=wO (hl _ O5) hg;exact qJ.2 ⟨by omega,_,O5,this.1,rfl⟩
def yR(m:Nat):Nat->Nat
 | 0=>3
 | r+1=>2+m*(yR m r+1)
theorem vU{m:Nat}(h:1<=m):∀r,3<=yR m r
 | 0=>Lh _
 | r+1=>by
  have h1:=vU h r;have h2:1*(yR m r+1)<=m*(yR m r+1):=NJ _ h;simp only[yR];omega
def gE(vs:List Vw)(m:Nat):Prop:=1<=m/\∀c,c<vs.length->(zS (zv vs c)).length<=m
theorem kids_le5(vs:List Vw):gE vs 5:=⟨by decide,fun _ _=>JQ _⟩
theorem uX:∀r,yR 5 r=Xc r
 | 0=>rfl
 | r+1=>by simp only[yR,Xc,uX r]
theorem ju{n:Int}{vs:List Vw}(h:Wf n vs){m:Nat}(hm:gE vs m):∀i,i<vs.length->(zi vs i).length<=yR m (zv vs i).r.toNat:=by
 intro i
 induction i using Nat.strongRecOn with
 | _ i ih=>
  intro hi
  by_cases hr:(zv vs i).r=0
  . rw[qR hr,hr];simp[yR]
  . have hb:=qX (h.begv hi)
    obtain⟨r,AQ⟩:∃r,(zv vs i).r.toNat=r+1:=⟨(zv vs i).r.toNat-1,by omega⟩;rw[qr h.acyc hi hr,AQ];have h5:=hm.2 i hi
    have:=jw 40 ((zS (zv vs i)).map (zi vs)) (yR m r) (by
     intro x hx;obtain⟨c,hc,rfl⟩:=LA.1 hx;obtain⟨k1,k2⟩:=h.kid hi hc;have:=ih c k1 (by omega)
     rwa[show(zv vs c).r.toNat=r from by omega] at this)
    rw[LG] at this;have h2:(zS (zv vs i)).length*(yR m r+1)<=m*(yR m r+1):=NJ _ h5;simp only[List.length_cons,List.length_append,List.length_nil,yR];omega
end
section
open Go.RowKit
theorem vH{vs:List Vw}:∀ {l:List Nat},kH vs l=Av↔∀a b,b<a->a<l.length->ut vs (l.getD b 0) (l.getD a 0)=Ax
 | []=>by simp[kH]
 | x::l=>by
  have ih:=vH (vs:=vs) (l:=l);simp only[kH,Bool.and_eq_true,List.all_eq_true,Bool.not_eq_true',ih];constructor
  . rintro⟨h1,h2⟩ a b hb ha
    cases a with
    | zero=>omega
    | succ a=>
     simp at ha
     cases b with
     | zero=>
      simp only[List.getD_cons_zero,List.getD_cons_succ];refine h1 _ ?_;rw[Le,Lg ha];exact Ld ha
     | succ b=>
      simp only[List.getD_cons_succ];exact h2 a b (by omega) ha
  . intro h
    refine⟨fun y hy=>?_,fun a b hb ha=>?_⟩
    . obtain⟨j,hj,rfl⟩:=Nz.1 hy
      have:=h (j+1) 0 (by omega) (by simp;omega);simpa[hj] using this
    . have:=h (a+1) (b+1) (by omega) (by simp;omega)
      simpa using this
theorem keep10{W0 X:Ba}{B g b o0 o1 o2 o3 o4 o5 o6 o7:Nat}{u0 u1 u2 u3 u4 u5 u6 u7 u8 u9:Au}(hb:Ao B W0 X)(hg:g<B)(aI:b<B)
  (h:W0.cell? ⟨g,0,Z⟩=J u0/\W0.cell? ⟨g,1,Z⟩=J u1/\W0.cell? ⟨b,o0,Z⟩=J u2/\W0.cell? ⟨b,o1,Z⟩=J u3/\W0.cell? ⟨b,o2,Z⟩=J u4 /\
   W0.cell? ⟨b,o3,Z⟩=J u5/\W0.cell? ⟨b,o4,Z⟩=J u6/\W0.cell? ⟨b,o5,Z⟩=J u7/\W0.cell? ⟨b,o6,Z⟩=J u8/\W0.cell? ⟨b,o7,Z⟩=J u9) :
  X.cell? ⟨g,0,Z⟩=J u0/\X.cell? ⟨g,1,Z⟩=J u1/\X.cell? ⟨b,o0,Z⟩=J u2/\X.cell? ⟨b,o1,Z⟩=J u3/\X.cell? ⟨b,o2,Z⟩=J u4 /\
   X.cell? ⟨b,o3,Z⟩=J u5/\X.cell? ⟨b,o4,Z⟩=J u6/\X.cell? ⟨b,o5,Z⟩=J u7/\X.cell? ⟨b,o6,Z⟩=J u8/\X.cell? ⟨b,o7,Z⟩=J u9:=by
 obtain⟨h0,h1,h2,h3,h4,h5,h6,h7,h8,h9⟩:=h;exact⟨(hb.cell hg).trans h0,(hb.cell hg).trans h1,(hb.cell aI).trans h2,(hb.cell aI).trans h3,(hb.cell aI).trans h4,(hb.cell aI).trans h5,(hb.cell aI).trans h6,(hb.cell aI).trans h7,(hb.cell aI).trans h8,(hb.cell aI).trans h9⟩
theorem gj(v:Vw):zF (zS v)=(yn v).map (·.2):=by
 unfold zF zS;rw[N3];refine Ph fun x hx=>?_
 obtain⟨_,q,_,rfl,h0⟩:=qj.1 hx;simp;omega
end
end Go.Proofs.YtkledihebeidlaaGreatDoor
