/- Merged. -/
import Derived.Test.YtkledihebeidlaaGreatDoorXe
import Derived.BigRegion
import Derived.Laws.MakeOwn
open Go.Proofs.Tryz
open Go.Value renaming int->O,slice->I,bool->Ah,agg->Ai,pointer->Aj
open Go.IntKind renaming i64->U
open Option renaming none->Z,some->J,ne_none_iff_exists'->R9
open Go.Obj renaming cells->Ag
open Go.Ending renaming returned->Ak
open Go.Proofs.Tryz renaming prog->Al,func66->RY,ntmps66->RF,func134->RH,ntmps134->Rw
open Go.RowKit renaming Below->Am,intOf->Ao,Hid->Ap
open Go renaming Calls->An,Value->Aq
open Bool renaming true->Ar,false->As,or_eq_true->Pm
open List renaming getElem_map->RT
namespace Go.Proofs.YtkledihebeidlaaGreatDoor
abbrev NW:=@List.length_filter_le
abbrev RZ:=@Nat.two_pow_pos
abbrev Pr:=@Nat.testBit_lt_two_pow
abbrev Rz:=@List.pairwise_cons
abbrev PT:=@Go.Proofs.Tryz.underlying52
abbrev PZ:=@List.take_add_one
set_option maxRecDepth 100000
set_option maxHeartbeats 4000000
section
open Go.RowKit
attribute [local go_sem] Oper.semAt_some
theorem num_many{p:Pb}(h:zD p=0):4096<gi p↔4096<zP p:=by
 obtain⟨dF,_⟩:=zM h;obtain⟨h1,_⟩:=yG dF;have e:zP p=p.t.cases.length*zQ p.a p.k.toNat 0:=by unfold zP;rw[Ps]
 rw[e];exact QK 4096 p.t.cases.length (zQ p.a p.k.toNat 0) h1
theorem uY(p:Pb)(hf:wZ p)(A:Bb)(kc:Nat)(SV:Bb)(ks:Nat)(w:Ba)(hA:CAt w w.heap.size A p.t.cases)(hS:SAt w w.heap.size SV p.a.sts) :
  An Al 56 #[.agg (p.vs A kc SV ks)] w (RetSys (zK p) w):=by
 have HC:=zH (fun (w':Ba) (h1:CAt w' w'.heap.size A p.t.cases) (h2:SAt w' w'.heap.size SV p.a.sts)=>vW p hf.1 A kc SV ks w' h1 h2)
 have HN:=zH (fun (w':Ba) (h0:zD p=0) (h:SAt w' w'.heap.size SV p.a.sts)=>
  gM p hf.1 (yD hf.1.2 (zM h0).2.1).1 (yD hf.1.2 (zM h0).2.1).2.1 p.k.toNat 4096 (by have:=(zM h0).2.2.2.1;omega) (by have:=(zM h0).2.2.2.2;omega) (by decide) A kc SV ks w' h)
 have HB:=zH (fun (h0:zD p=0) (dq:zP p<=60) (w':Ba) (h1:CAt w' w'.heap.size A p.t.cases) (h2:SAt w' w'.heap.size SV p.a.sts)=>built_any p hf h0 dq A kc SV ks w' h1 h2);have pi:=zH (@xN p);have fO:=zH (@xr p);have CX:=zH (@qh p);have CZ:=zH (@num_many p);have ic:=zH hf.2;obtain⟨R,hR⟩:=Kh (zK p);rw[hR] at pi fO CX ⊢;obtain⟨w1,af,d0,d1,aW,ay⟩:=yx w (p.vs A kc SV ks) #[O U 0,O U 0,O U 0,I Z 0 0,O U 0,I Z 0 0,O U 0,O U 0,I Z 0 0,I Z 0 0] 29 36;have Iv:=zH hA;have VF:=zH hS;have HA:=zH ((hA.keep ay).more ay.size);have HS:=zH ((hS.keep ay).more ay.size);unfold Pb.vs at af d0 ⊢;have au:=zH af;have aX:=zH d0;have bH:=zH d1;have cd:=zH ay;obtain⟨p0,p1,p2,p3,p4,p5,p6,_⟩:=Kf d0;obtain⟨E,hE⟩:=Kh (zD p);have nB:=zH hE;rw[hE] at HC pi;obtain⟨M,hM⟩:=Kh (p.t.cases.length*yA 4096 (zQ p.a p.k.toNat 0));have i8:Ap (gi p=M):=hM;rw[hM] at HN;clear af d0 d1 ay hA hS hf hR hE hM;go_enter func56,ntmps56;go_wp2_with fail;rw[au.out];go_wp2_with fail;refine(HC.out w1 HA.out HS.out).mono ?_;rintro e w2 ⟨rfl,ae⟩;have B2:=zH (cd.out.trans (ae.mono (by omega)));have y':=zH ((HA.out.keep ae).more ae.size);have d':=zH ((HS.out.keep ae).more ae.size);have dk:=ae.size;have d0:=La ae aX.out;have d1:=La ae bH.out;have ie:=zH d0;have aA:=zH d1;clear ae HC au aX bH HA HS p0 p1 p2 p3 p4 p5 p6
 obtain⟨p0,p1,p2,p3,p4,p5,p6,_⟩:=Kf d0
 by_cases h0:E=0
 case neg=>
  have hR:=zH (pi.out h0);have e0:(E != 0)=Ar:=by simpa using h0
  have y0:=za d1 0 rfl;have f0:=zb d1 0;have y1:=za d1 1 rfl;have f1:=zb d1 1;have y2:=za d1 2 rfl;have f2:=zb d1 2;have y3:=za d1 3 rfl;have f3:=zb d1 3;have y4:=za d1 4 rfl;have f4:=zb d1 4;have y5:=za d1 5 rfl;have f5:=zb d1 5;have y6:=za d1 6 rfl;have f6:=zb d1 6;have y7:=za d1 7 rfl;have f7:=zb d1 7;have y8:=za d1 8 rfl;have f8:=zb d1 8;have y9:=za d1 9 rfl;have f9:=zb d1 9;obtain⟨k1,k2,k3⟩:=qq (O U 0) (O U 0) (O U 0) (I Z 0 0) (O U 0) (I Z 0 0) (O U 0) (O U 0) (I Z 0 0) (I Z 0 0) d1 B2.out (by omega:w.heap.size<=w.heap.size+1);obtain⟨WF,cK⟩:=Kh (((((((((((w2.setCell ⟨w.heap.size+1,0,Z⟩ (O U 0)).setCell ⟨w.heap.size+1,1,Z⟩ (O U 0)).setCell ⟨w.heap.size+1,2,Z⟩ (O U 0)).setCell ⟨w.heap.size+1,3,Z⟩ (I Z 0 0)).setCell ⟨w.heap.size+1,4,Z⟩ (O U 0)).setCell ⟨w.heap.size+1,5,Z⟩ (I Z 0 0)).setCell ⟨w.heap.size+1,6,Z⟩ (O U 0)).setCell ⟨w.heap.size+1,7,Z⟩ (O U 0)).setCell ⟨w.heap.size+1,8,Z⟩ (I Z 0 0)).setCell ⟨w.heap.size+1,9,Z⟩ (I Z 0 0)));rw[cK] at k1 k2 k3;have C7:=zH k1;have pc:=zH k2;have Ey:=zH k3;have fz:=zH cK;clear k1 k2 k3 cK;clear fO CX CZ HN HB ic h0 d0 d1;go_wp2_with fail;rw[fz.out];obtain⟨z0,z1,z2,z3,z4,z5,z6,z7,z8,z9⟩:=qe C7.out
  refine LP (v:=.tuple #[Ai #[O U 0,O U 0,O U 0,I Z 0 0,O U 0,I Z 0 0,O U 0,O U 0,I Z 0 0,I Z 0 0],O U E]) (by simp[results,results56,go_sem,z0,z1,z2,z3,z4,z5,z6,z7,z8,z9]) rfl ?_;rw[hR.out];exact RetSys.zero _ pc.out
 case pos=>
 subst h0;clear pi;go_wp2_with fail;refine(HN.out w2 nB.out d'.out).mono ?_;rintro e w3 ⟨rfl,ak⟩;have B3:=zH (B2.out.trans (ak.mono (by omega)));have u':=zH ((y'.out.keep ak).more ak.size);have nA:=zH ((d'.out.keep ak).more ak.size);have le:=ak.size;have d0:=La ak ie.out;have d1:=La ak aA.out;have Io:=zH d0;have nG:=zH d1;clear ak HN ie aA y' d' p0 p1 p2 p3 p4 p5 p6
 by_cases hm:4096<M
 case pos=>
  have hR:=zH (fO.out nB.out ((CZ.out nB.out).1 (by rw[i8.out];exact hm)));have ST:(4096:Int)<(M:Int):=by omega
  have y0:=za d1 0 rfl;have f0:=zb d1 0;have y1:=za d1 1 rfl;have f1:=zb d1 1;have y2:=za d1 2 rfl;have f2:=zb d1 2;have y3:=za d1 3 rfl;have f3:=zb d1 3;have y4:=za d1 4 rfl;have f4:=zb d1 4;have y5:=za d1 5 rfl;have f5:=zb d1 5;have y6:=za d1 6 rfl;have f6:=zb d1 6;have y7:=za d1 7 rfl;have f7:=zb d1 7;have y8:=za d1 8 rfl;have f8:=zb d1 8;have y9:=za d1 9 rfl;have f9:=zb d1 9;obtain⟨k1,k2,k3⟩:=qq (O U 0) (O U 0) (O U 0) (I Z 0 0) (O U 0) (I Z 0 0) (O U 0) (O U 0) (I Z 0 0) (I Z 0 0) d1 B3.out (by omega:w.heap.size<=w.heap.size+1);obtain⟨WF,cK⟩:=Kh (((((((((((w3.setCell ⟨w.heap.size+1,0,Z⟩ (O U 0)).setCell ⟨w.heap.size+1,1,Z⟩ (O U 0)).setCell ⟨w.heap.size+1,2,Z⟩ (O U 0)).setCell ⟨w.heap.size+1,3,Z⟩ (I Z 0 0)).setCell ⟨w.heap.size+1,4,Z⟩ (O U 0)).setCell ⟨w.heap.size+1,5,Z⟩ (I Z 0 0)).setCell ⟨w.heap.size+1,6,Z⟩ (O U 0)).setCell ⟨w.heap.size+1,7,Z⟩ (O U 0)).setCell ⟨w.heap.size+1,8,Z⟩ (I Z 0 0)).setCell ⟨w.heap.size+1,9,Z⟩ (I Z 0 0)));rw[cK] at k1 k2 k3;have C7:=zH k1;have pc:=zH k2;have Ey:=zH k3;have fz:=zH cK;clear k1 k2 k3 cK;clear fO CX CZ HB ic d0 d1;go_wp2_with fail;rw[fz.out];obtain⟨z0,z1,z2,z3,z4,z5,z6,z7,z8,z9⟩:=qe C7.out
  refine LP (v:=.tuple #[Ai #[O U 0,O U 0,O U 0,I Z 0 0,O U 0,I Z 0 0,O U 0,O U 0,I Z 0 0,I Z 0 0],O U 17]) (by simp[results,results56,go_sem,z0,z1,z2,z3,z4,z5,z6,z7,z8,z9]) rfl ?_;rw[hR.out];exact RetSys.zero _ pc.out
 case neg=>
 have tA:¬(4096<zP p):=fun h=>hm (by rw[<-i8.out];exact(CZ.out nB.out).2 h)
 have dq:zP p<=60:=by
  rcases ic.out nB.out with h | h
  . exact h
  exact absurd h tA
 have hR:=zH (CX.out nB.out (by omega));have ST:¬((4096:Int)<(M:Int)):=by omega
 have OQ:=zH (HB.out nB.out dq w3 u'.out nA.out);have OB:=zH (Zy p nB.out dq).1;obtain⟨p0,p1,p2,p3,p4,p5,p6,_⟩:=Kf d0;clear fO CX CZ HB ic tA dq d0 d1 i8;go_wp2_with fail
 all_goals first | (exfalso;omega) | skip
 refine OQ.out.mono ?_;rintro e w4 ⟨AV,kv,AE,ke,rfl,hV,hX,bK⟩;have B4:=zH (B3.out.trans (bK.mono (by omega)));have Hg:=zH hV;have He:=zH hX;have fW:=bK.size;have d1:=La bK nG.out;have Wl:=zH d1;have t9:=zH ((u'.out.keep bK).more bK.size);have iZ:=zH ((nA.out.keep bK).more bK.size);clear hV hX bK OQ Io nG p0 p1 p2 p3 p4 p5 p6 d1;obtain⟨W5,iV,b5,mb,lB⟩:=zq w4 #[O U p.t.n,O U p.t.ins,O U p.t.outs,I A p.t.cases.length kc,O U p.a.n,I SV p.a.sts.length ks,O U p.k,O U p.t.n,.slice AV (zl p (zj p)).1.length kv,.slice AE (zl p (zj p)).2.length ke] 36;have d1:=La lB Wl.out;have B5:=zH (B4.out.trans (lB.mono (by omega)));have ed:=zH lB;have CL:=zH iV;obtain⟨x0,x1,x2,x3,x4,x5,x6,x7,x8,x9⟩:=qe b5;have hfv:¬((8192:Int)<((zl p (zj p)).1.length:Int)):=by have:=OB.out;omega
 clear iV lB b5;go_simp;rename_i iD;refine iD _ _ ?_;clear iD;refine Nd rfl fun K5 cf=>?_
 go_simp;refine cf _ _ ?_;clear cf K5;refine Nd rfl fun K5 cf=>?_
 go_simp;rw[CL.out];refine cf _ _ ?_;clear cf K5 CL;have y0:=za d1 0 rfl;have f0:=zb d1 0;have y1:=za d1 1 rfl;have f1:=zb d1 1;have y2:=za d1 2 rfl;have f2:=zb d1 2;have y3:=za d1 3 rfl;have f3:=zb d1 3;have y4:=za d1 4 rfl;have f4:=zb d1 4;have y5:=za d1 5 rfl;have f5:=zb d1 5;have y6:=za d1 6 rfl;have f6:=zb d1 6;have y7:=za d1 7 rfl;have f7:=zb d1 7;have y8:=za d1 8 rfl;have f8:=zb d1 8;have y9:=za d1 9 rfl;have f9:=zb d1 9;obtain⟨k1,k2,k3⟩:=qq (O U p.t.n) (O U p.t.ins) (O U p.t.outs) (I A p.t.cases.length kc) (O U p.a.n) (I SV p.a.sts.length ks) (O U p.k) (O U p.t.n) (.slice AV (zl p (zj p)).1.length kv) (.slice AE (zl p (zj p)).2.length ke) d1 B5.out (by omega:w.heap.size<=w.heap.size+1);obtain⟨WF,cK⟩:=Kh (((((((((((W5.setCell ⟨w.heap.size+1,0,Z⟩ (O U p.t.n)).setCell ⟨w.heap.size+1,1,Z⟩ (O U p.t.ins)).setCell ⟨w.heap.size+1,2,Z⟩ (O U p.t.outs)).setCell ⟨w.heap.size+1,3,Z⟩ (I A p.t.cases.length kc)).setCell ⟨w.heap.size+1,4,Z⟩ (O U p.a.n)).setCell ⟨w.heap.size+1,5,Z⟩ (I SV p.a.sts.length ks)).setCell ⟨w.heap.size+1,6,Z⟩ (O U p.k)).setCell ⟨w.heap.size+1,7,Z⟩ (O U p.t.n)).setCell ⟨w.heap.size+1,8,Z⟩ (.slice AV (zl p (zj p)).1.length kv)).setCell ⟨w.heap.size+1,9,Z⟩ (.slice AE (zl p (zj p)).2.length ke)));rw[cK] at k1 k2 k3;have C7:=zH k1;have pc:=zH k2;have Ey:=zH k3;have fz:=zH cK;clear k1 k2 k3 cK;clear d1;go_wp2_with fail;rw[fz.out]
 obtain⟨z0,z1,z2,z3,z4,z5,z6,z7,z8,z9⟩:=qe C7.out;refine LP (v:=.tuple #[Ai #[O U p.t.n,O U p.t.ins,O U p.t.outs,I A p.t.cases.length kc,O U p.a.n,I SV p.a.sts.length ks,O U p.k,O U p.t.n,.slice AV (zl p (zj p)).1.length kv,.slice AE (zl p (zj p)).2.length ke],O U 0]) (by simp[results,results56,go_sem,z0,z1,z2,z3,z4,z5,z6,z7,z8,z9]) rfl ?_;rw[hR.out];have dj:∀k,k≠w.heap.size+1->k<w4.heap.size->WF.heap[k]?=w4.heap[k]?:=fun k a b=>(Ey.out.2.1 k a).trans (ed.out.block k b)
 have hz:w4.heap.size<=WF.heap.size:=by have:=ed.out.size;have:=Ey.out.2.2;omega
 obtain⟨OY,Kk,eV,hT⟩:=(Hg.out.of_same fun k hk=>dj k (by have:=(Hg.out.lt' k hk).1;omega) (Hg.out.lt' k hk).2).form (by have:=OB.out;omega)
 cases eV
 obtain⟨IE,EU,eE,_,_,DW,_⟩:=kP (He.out.keep zx ⟨hz,fun k hs hl=>dj k (by omega) hl⟩ fun k hk=>dj k (by have:=(He.out.lt k hk).1;omega) (He.out.lt k hk).2)
 cases eE
 exact⟨A,kc,SV,ks,AV,kv,AE,ke,rfl,⟨(Iv.out.keep pc.out).more pc.out.size,(VF.out.keep pc.out).more pc.out.size,hT.rows,DW⟩,hT.lec,hT.lem,pc.out⟩
theorem rver_any(s:Sy)(hs:LowS s)(hf:wZ s.p)(A SV AV AX:Bb)(kc ks kv kx:Nat)(w:Ba)(hS:SyAt w w.heap.size A SV AV AX s) :
  An Al 23 #[.agg (s.vs_ A kc SV ks AV kv AX kx)] w fun e w'=>e=Ak (O U (Jo s))/\Am w.heap.size w w':=by
 obtain⟨w1,af⟩:=Kh (w.alloc (Ag (s.vs_ A kc SV ks AV kv AX kx) 36));have aL:=ze w (Ag (s.vs_ A kc SV ks AV kv AX kx) 36);have an:Am w.heap.size w w1:=by rw[<-af];exact zw w _
 have cj:w1.heap.size=w.heap.size+1:=by rw[<-af];simp
 rw[af] at aL;have oU:=zH (hS.up an);have HB:=zH (uY s.p hf A kc SV ks w1 (hS.up an).fc (hS.up an).fs);have Ew:=zH (Zo hs.fp hf);have Ev:=zH hs;have lO:Ap (Jo s=if (zK s.p).2≠0 then (zK s.p).2 else if s=(zK s.p).1 then 0 else 3):=rfl
 have bI:=zH (fun (h:(zK s.p).2=0)=>(by
  by_cases h0:zD s.p=0
  case neg=>rw[xN h0] at h;exact absurd h h0
  case pos=>
   by_cases h1:4096<zP s.p
   . rw[xr h0 h1] at h;cases h
   . rw[qh h0 (by omega)];exact⟨rfl,rfl⟩:(zK s.p).1.p=s.p/\(zK s.p).1.n=s.p.t.n))
 unfold Sy.vs_ at af aL ⊢;unfold Pb.vs at HB;have au:=zH af;have bL:=zH aL;have aV:=zH an;obtain⟨R,hR⟩:=Kh (zK s.p);rw[hR] at HB Ew lO bI;obtain⟨r,hr⟩:=Kh (Jo s);rw[hr] at lO ⊢;clear af aL an hS hs hf hR hr;go_enter func23,ntmps23;go_wp2_with fail;rw[au.out];go_wp2_with fail;refine HB.out.mono ?_;rintro e w2 ⟨A2,fh,fw,fg,Do,AG,Dn,AF,rfl,Ea,AP,Fh,ae⟩;obtain⟨T,E⟩:=R;obtain⟨W3,dV,b3,le,dZ⟩:=zq w2 (T.vs_ A2 fh fw fg Do AG Dn AF) 36;have nA:=zH (Ea.up dZ);have cx:=zH (aV.out.trans ((Lc ae dZ).mono (by omega)));have dk:=ae.size;have d0:=Lb dZ (by omega:w.heap.size<w2.heap.size) (Lb ae (by omega:w.heap.size<w1.heap.size) bL.out);have Hr:=zH ((oU.out.up ae).up dZ);unfold Sy.vs_ at dV b3 ⊢;have Eo:=zH dV;have t5:=zH b3;clear ae Ea AP Fh dZ dV HB au oU bL;dsimp only at lO bI Ew nA;go_simp;rename_i iD;refine iD _ _ ?_;clear iD;refine Nd rfl fun K5 cf=>?_
 go_simp;refine cf _ _ ?_;clear cf K5;refine Nd rfl fun K5 cf=>?_
 go_simp;refine cf _ _ ?_;clear cf K5;refine Nd rfl fun K5 cf=>?_
 go_simp;refine cf _ _ ?_;clear cf K5;refine Nd rfl fun K5 cf=>?_
 go_simp;refine cf _ _ ?_;clear cf K5;refine Nd rfl fun K5 cf=>?_
 go_simp;rw[Eo.out];refine cf _ _ ?_;clear cf K5
 by_cases h0:E=0
 case neg=>
  have e0:(E != 0)=Ar:=by simpa using h0
  have hR:Ap (r=E):=lO.out.trans (Lm h0);clear lO bI h0 d0 b3;go_wp2_with fail;go_ret;exact⟨zc hR.out.symm,cx.out⟩
 case pos=>
 subst h0;obtain⟨Ms,TZ⟩:=bI.out rfl;have Gr:r=if s=T then 0 else 3:=lO.out.trans (Lk (by simp));have H3:Ap (s≠T->r=3):=fun h=>Gr.trans (Lk h)
 have H0:Ap (s=T->r=0):=fun h=>Gr.trans (Lm h)
 have VA:=zH Ms;have Dc:=zH (@sy_eq s T);have pZ:=zH (Xx s T Ev.out Ew.out A SV AV AX A2 fw Do Dn kc ks kv kx fh fg AG AF W3 Hr.out nA.out);have x0:W3.cell? ⟨w.heap.size,0,Z⟩=J (O U s.p.t.n):=za d0 0 rfl;have y0:W3.cell? ⟨w2.heap.size,0,Z⟩=J (O U T.p.t.n):=za b3 0 rfl;have x1:W3.cell? ⟨w.heap.size,1,Z⟩=J (O U s.p.t.ins):=za d0 1 rfl;have y1:W3.cell? ⟨w2.heap.size,1,Z⟩=J (O U T.p.t.ins):=za b3 1 rfl;have x2:W3.cell? ⟨w.heap.size,2,Z⟩=J (O U s.p.t.outs):=za d0 2 rfl;have y2:W3.cell? ⟨w2.heap.size,2,Z⟩=J (O U T.p.t.outs):=za b3 2 rfl;have x3:W3.cell? ⟨w.heap.size,3,Z⟩=J (I A s.p.t.cases.length kc):=za d0 3 rfl;have y3:W3.cell? ⟨w2.heap.size,3,Z⟩=J (I A2 T.p.t.cases.length fh):=za b3 3 rfl;have x4:W3.cell? ⟨w.heap.size,4,Z⟩=J (O U s.p.a.n):=za d0 4 rfl;have y4:W3.cell? ⟨w2.heap.size,4,Z⟩=J (O U T.p.a.n):=za b3 4 rfl;have x5:W3.cell? ⟨w.heap.size,5,Z⟩=J (I SV s.p.a.sts.length ks):=za d0 5 rfl;have y5:W3.cell? ⟨w2.heap.size,5,Z⟩=J (I fw T.p.a.sts.length fg):=za b3 5 rfl;have x6:W3.cell? ⟨w.heap.size,6,Z⟩=J (O U s.p.k):=za d0 6 rfl;have y6:W3.cell? ⟨w2.heap.size,6,Z⟩=J (O U T.p.k):=za b3 6 rfl;have x7:W3.cell? ⟨w.heap.size,7,Z⟩=J (O U s.n):=za d0 7 rfl;have y7:W3.cell? ⟨w2.heap.size,7,Z⟩=J (O U T.n):=za b3 7 rfl
 have x8:W3.cell? ⟨w.heap.size,8,Z⟩=J (I AV s.vs.length kv):=za d0 8 rfl;have y8:W3.cell? ⟨w2.heap.size,8,Z⟩=J (I Do T.vs.length AG):=za b3 8 rfl;have x9:W3.cell? ⟨w.heap.size,9,Z⟩=J (I AX s.xs.length kx):=za d0 9 rfl;have y9:W3.cell? ⟨w2.heap.size,9,Z⟩=J (I Dn T.xs.length AF):=za b3 9 rfl;unfold Sy.vs_ at pZ;clear Ms TZ Gr lO bI d0 b3 Ew Ev VA Dc;go_wp2_with fail;refine pZ.out.mono ?_;rintro e w4 ⟨rfl,bK⟩;have B4:=zH (cx.out.trans (bK.mono (by omega)));clear bK pZ x0 x1 x2 x3 x4 x5 x6 x7 x8 x9 y0 y1 y2 y3 y4 y5 y6 y7 y8 y9
 by_cases h2:s=T
 case neg=>
  have hR:=zH (H3.out h2);rw[Lr h2];clear H3 H0 h2;go_wp2_with fail;go_ret;exact⟨zc hR.out.symm,B4.out⟩
 have hR:=zH (H0.out h2);rw[Lo h2];clear H3 H0 h2;go_wp2_with fail;go_ret;exact⟨zc hR.out.symm,B4.out⟩
def xh(p:Pb):Bool:=xx p&&decide ((zK p).2=0)
theorem JD(p:Pb)(hl:gC p)(A:Bb)(kc:Nat)(SV:Bb)(ks:Nat)(w:Ba)(hA:CAt w w.heap.size A p.t.cases)(hS:SAt w w.heap.size SV p.a.sts) :
  An Al 22 #[.agg (p.vs A kc SV ks)] w fun e w'=>e=Ak (Ah (xh p))/\Am w.heap.size w w':=by
 obtain⟨w1,af⟩:=Kh (w.alloc (Ag (p.vs A kc SV ks) 29));have aL:=ze w (Ag (p.vs A kc SV ks) 29);have an:Am w.heap.size w w1:=by rw[<-af];exact zw w _
 have cj:w1.heap.size=w.heap.size+1:=by rw[<-af];simp
 rw[af] at aL;have HF:=zH (few_any p hl A kc SV ks w1 ((hA.keep an).more an.size) ((hS.keep an).more an.size));have mQ:=zH (fun (h:xx p=Ar) (X:Ba) (hX:Am w1.heap.size w1 X)=>uY p (Ze h).1 A kc SV ks X ((((hA.keep an).more an.size).keep hX).more hX.size) ((((hS.keep an).more an.size).keep hX).more hX.size));have lQ:Ap (xh p=(xx p&&decide ((zK p).2=0))):=rfl;obtain⟨r,hr⟩:=Kh (xh p);rw[hr] at lQ ⊢;obtain⟨R,hR⟩:=Kh (zK p);rw[hR] at mQ lQ;obtain⟨b,hb⟩:=Kh (xx p);rw[hb] at HF mQ lQ;unfold Pb.vs at af aL HF mQ ⊢;have au:=zH af;have bL:=zH aL;have aV:=zH an;have p5:=za aL 5 rfl;have p6:=za aL 6 rfl;clear af aL an hA hS hl hr hR hb;go_enter func22,ntmps22;go_wp2_with fail;rw[au.out];go_wp2_with fail;refine HF.out.mono ?_;rintro e w2 ⟨rfl,ae⟩;have aN:=zH (aV.out.trans (ae.mono (by omega)));have d0:=Lb ae (by omega:w.heap.size<w1.heap.size) bL.out;have dk:=ae.size
 cases b with
 | false=>
  have Gs:Ap (r=As):=lQ.out;clear lQ mQ HF p5 p6 d0 ae bL au;go_wp2_with fail;go_ret;exact⟨zg Gs.out.symm,aN.out⟩
 | true=>
  have cx:=zH (mQ.out rfl w2 ae);have Gs:Ap (r=decide (R.2=0)):=lQ.out;clear p5 p6 ae mQ HF bL au lQ;obtain⟨p0,p1,p2,p3,p4,p5,p6,_⟩:=Kf d0;clear d0;go_wp2_with fail;refine cx.out.mono ?_;rintro e w3 ⟨A2,fh,fw,fg,Do,AG,Dn,AF,rfl,Ea,AP,Fh,ak⟩;obtain⟨T,E⟩:=R;have eB:=zH (aN.out.trans ((ak.trans (zw w3 (Ag (T.vs_ A2 fh fw fg Do AG Dn AF) 36) |>.mono ak.size)).mono (by omega)));unfold Sy.vs_ at eB ⊢;clear ak Ea AP Fh cx p5 p6;go_wp2_with fail;go_ret;exact⟨zg (by rw[Gs.out];first | rfl | exact ZX Iff.rfl | (rw[NH];simp)),eB.out⟩
end
section
open Go.RowKit Go.Shelf
structure NonB(B:Nat)(w W:Ba):Prop where
 below:Am B w W
 same:∀(k:Nat) (o:Obj),w.heap[k]?=J o->o.isCells=As->W.heap[k]?=J o
theorem NonB.refl(B:Nat)(w:Ba):NonB B w w:=⟨Ln _ _,fun _ _ h _=>h⟩
theorem NonB.trans{B:Nat}{w W X:Ba}(h:NonB B w W)(k:NonB B W X):NonB B w X:=⟨h.below.trans k.below,fun i o hi ho=>k.same i o (h.same i o hi ho) ho⟩
theorem NonB.of_grown{B:Nat}{w W:Ba}{row:Option Nat}(hg:w.grownBy W row)(hB:B<=w.heap.size)(hr:∀r,row=J r->B<=r/\∀o,w.heap[r]?=J o->o.isCells=Ar):NonB B w W:=
 ⟨(Ln B w).grown hg hB fun k hk=>(hr k hk).1,fun k o hk ho=>(hg.block k (Lf.1 hk).1 (fun e=>by have:=(hr k e.symm).2 o hk;rw[ho] at this;cases this)).trans hk⟩
theorem NonB.turn{B:Nat}{w W X:Ba}{row:Option Nat}(h:NonB B w W)(hg:W.grownBy X row)(hB:B<=w.heap.size)(hr:∀r,row=J r->w.heap.size<=r):NonB B w X:=
 ⟨h.below.grown hg (by have:=h.below.size;omega) (fun k hk=>by have:=hr k hk;omega),fun k o hk ho=>(hg.block k (Lf.1 (h.same k o hk ho)).1 (fun e=>by have:=hr k e.symm;have:=(Lf.1 hk).1;omega)).trans (h.same k o hk ho)⟩
theorem own_type{w:Ba}{base:Nat}{v:Aq}{xs:List Int}(h:Own w base v xs){k:Nat}{cs:Array Aq}{t:TypeId}(hk:w.heap[k]?=J (Ag cs t (0,0)))(ht:t≠3):v.ownBlock≠J k:=by
 intro e;rcases h.2 with ⟨rfl,_⟩ | ⟨g,cap,cur,rfl,_,hg,_⟩
 . cases e
 simp only[Value.ownBlock,Option.some.injEq] at e;subst e;rw[hk] at hg
 cases hg
 exact ht rfl
theorem own_cells{w:Ba}{base:Nat}{v:Aq}{xs:List Int}(h:Own w base v xs):∀r,v.ownBlock=J r->base<=r/\∀o,w.heap[r]?=J o->o.isCells=Ar:=by
 intro r hr;refine⟨(h.lt r hr).1,fun o ho=>?_⟩;rcases h.2 with ⟨rfl,_⟩ | ⟨g,cap,cur,rfl,_,hg,_⟩
 . cases hr
 simp only[Value.ownBlock,Option.some.injEq] at hr;subst hr;rw[hg] at ho
 cases ho
 rfl
theorem set_box{w:Ba}{g:Nat}{v:Aq}{t:TypeId}(h:w.heap[g]?=J (Ag #[v] t (0,0)))(v':Aq) :
  (w.setCell ⟨g,0,Z⟩ v').heap[g]?=J (Ag #[v'] t (0,0))/\(w.setCell ⟨g,0,Z⟩ v').heap.size=w.heap.size/\∀k,k≠g->(w.setCell ⟨g,0,Z⟩ v').heap[k]?=w.heap[k]?:=by
 refine⟨?_,by simp[World.setCell],fun k hk=>Ld w ⟨g,0,Z⟩ v' k hk⟩;rw[World.setCell,Pe,Lm rfl,h]
 rfl
theorem grown_set{w:Ba}{g:Nat}{v:Aq}{t:TypeId}(_h:w.heap[g]?=J (Ag #[v] t (0,0)))(v':Aq):w.grownBy (w.setCell ⟨g,0,Z⟩ v') (J g):=
 ⟨rfl,rfl,rfl,by simp[World.setCell],fun k _ hk=>Ld w ⟨g,0,Z⟩ v' k (fun e=>hk (by rw[e]))⟩
theorem Marks.keep{B:Nat}{w W:Ba}{ds:List Deferred}(h:Marks B ds w)(hk:∀k:Nat,w.heap[k]?=J (Obj.deferred (J []))->W.heap[k]?=J (Obj.deferred (J []))):Marks B ds W:=by
 obtain⟨rs,rfl,hd,hr⟩:=h;exact⟨rs,rfl,hd,fun r h=>⟨(hr r h).1,hk r (hr r h).2⟩⟩
structure BoxIn(B g:Nat)(xs:List Int)(w2 W:Ba):Prop where
 box:∃P c,W.heap[g]?=J (Ag #[I P xs.length c] 49 (0,0))/\Own W B (I P xs.length c) xs
 non:NonB B w2 W
 rest:∀(k:Nat) (cs:Array Aq) (t:TypeId),w2.heap[k]?=J (Ag cs t (0,0))->t≠3->k≠g->W.heap[k]?=J (Ag cs t (0,0))
theorem BoxIn.start{B g:Nat}{xs:List Int}{w2:Ba}{P:Bb}{c:Nat}(hb:w2.heap[g]?=J (Ag #[I P xs.length c] 49 (0,0)))(ho:Own w2 B (I P xs.length c) xs):BoxIn B g xs w2 w2:=
 ⟨⟨P,c,hb,ho⟩,NonB.refl _ _,fun _ _ _ h _ _=>h⟩
theorem BoxIn.turn{B g:Nat}{xs:List Int}{w2 W W':Ba}{row:Option Nat}(h:BoxIn B g xs w2 W)(hB:B<=w2.heap.size)(hg:W.grownBy W' row)(hr:∀r,row=J r->w2.heap.size<=r/\∃o:Obj,W.heap[r]?=J o/\o.isCells=As):BoxIn B g xs w2 W':=by
 obtain⟨⟨P,c,hb,ho⟩,hn,fH⟩:=h;refine⟨⟨P,c,(LI hg (fun r e=>(hr r e).2) hb rfl).trans hb,ho.kept hg ?_⟩,hn.turn hg hB fun r e=>(hr r e).1,fun k cs t hk ht mo=>(LI hg (fun r e=>(hr r e).2) (fH k cs t hk ht mo) rfl).trans (fH k cs t hk ht mo)⟩
 by_cases e:(I P xs.length c).ownBlock=Z
 . exact .inl e
 obtain⟨r,e⟩:=R9.1 e;right;rw[e];intro e2;obtain⟨o,oh,bW⟩:=(hr r e2.symm).2;have:=(own_cells ho r e).2 o oh;rw[this] at bW;cases bW
theorem BoxIn.push{B g:Nat}{xs:List Int}{w2 W w1:Ba}{P:Bb}{c:Nat}{v':Aq}{u:Int}{K:Nat->Prop}(h:BoxIn B g xs w2 W)(hB:B<=g)(hK:∀k,K k->k<B)(hb:W.heap[g]?=J (Ag #[I P xs.length c] 49 (0,0)))
  (ho:Own W B (I P xs.length c) xs) (oh:Own w1 B v' (xs++[u])) (hg:W.grownBy w1 (I P xs.length c).ownBlock) :
  KeepsFrom w2.heap.size W (w1.setCell ⟨g,0,Z⟩ v')/\KeepB K W (w1.setCell ⟨g,0,Z⟩ v')/\BoxIn B g (xs++[u]) w2 (w1.setCell ⟨g,0,Z⟩ v'):=by
 have tP:B<=W.heap.size:=by have:=(Lf.1 hb).1;omega
 have eO:w1.heap[g]?=J (Ag #[I P xs.length c] 49 (0,0)):=(hg.block g (Lf.1 hb).1 (fun e=>own_type ho hb (by decide) e.symm)).trans hb;obtain⟨x6,O0,xo⟩:=set_box eO v';have nn:=grown_set eO v';have n1:NonB B W w1:=NonB.of_grown hg tP (own_cells ho);have n2:NonB B w1 (w1.setCell ⟨g,0,Z⟩ v'):=NonB.of_grown nn (by have:=hg.size;omega) (fun r e=>by cases e;exact⟨hB,fun o ho=>by rw[eO] at ho;cases ho;rfl⟩);have n3:=n1.trans n2
 have rest:∀(k:Nat) (cs:Array Aq) (t:TypeId),w2.heap[k]?=J (Ag cs t (0,0))->t≠3->k≠g->(w1.setCell ⟨g,0,Z⟩ v').heap[k]?=J (Ag cs t (0,0)):=fun k cs t hk ht mo=>by
  have h1:=h.rest k cs t hk ht mo;rw[xo k mo];exact(hg.block k (Lf.1 h1).1 (fun e=>own_type ho h1 ht e.symm)).trans h1
 refine⟨⟨n3.below.size,fun k o _ hk ho=>n3.same k o hk ho⟩,KeepB.of_below n3.below hK,?_,h.non.trans n3,rest⟩;have bW:=oh.kept nn (.inr (own_type oh eO (by decide)));obtain⟨A2,c2,rfl,h1,h2,_⟩:=bW.form;exact⟨A2,c2,x6,bW⟩
end
section
open Go.RowKit Go.Shelf
attribute [local go_sem] Oper.semAt_some
theorem ZW(s:Int)(w:Ba):An Al 166 #[O U s] w fun e w'=>
  e=Ak (.func (.func 177) #[] #[Aj (J ⟨w.heap.size,0,Z⟩)])/\w.alloc (Ag #[O U s] 3)=w':=by
 go_enter func166,ntmps166;go_wp2;go_ret;exact⟨rfl,rfl⟩
theorem and_u64(x:Nat)(hx:x<32)(h0:x≠0):bits .and .u64 (x:Int) ((x:Int)-1)=((x &&& (x-1):Nat):Int):=by
 rcases lt32 hx with rfl | rfl | rfl | rfl | rfl | rfl | rfl | rfl | rfl | rfl | rfl | rfl | rfl | rfl | rfl | rfl | rfl | rfl | rfl | rfl | rfl | rfl | rfl | rfl | rfl | rfl | rfl | rfl | rfl | rfl | rfl | rfl
 all_goals first | exact absurd rfl h0 | decide +kernel
theorem wM(s:Nat)(hs:s<32)(bx:Nat)(w:Ba)(hb:w.heap[bx]?=J (Ag #[O U s] 3))(hT:Tab w) :
  Xf Al 177 #[Aj (J ⟨bx,0,Z⟩)] (fun x:Int=>#[O U x]) (fun k=>k=bx\/k=2) (qV (xa s)) w:=fun n hn l Af Jx W hW hJ Ee hY h0=>by
 have aI:bx<w.heap.size:=(Lf.1 hb).1;have ce:W.heap[bx]?=J (Ag #[O U s] 3):=(hW.block bx aI).trans hb;have c0:W.cell? ⟨bx,0,Z⟩=J (O U s):=za ce 0 rfl
 have h1:2<w.heap.size:=by
  have:=hT 1 (by omega) (by omega);have:=Po w _ this;exact this
 have Cl:Tab W:=hT.keep hW (by omega);have HY:=zH hY;have VC:=zH Cl;have dk:(s:Int)<18446744073709551616:=by omega
 clear hY hT Cl;refine P4 func177 rfl trivial ?_ rfl;simp only[ntmps177,List.size_toArray,List.length_cons,List.length_nil,Nat.reduceAdd,Nat.reduceSub,Array.replicate_succ,Array.replicate_zero,List.push_toArray,List.append_toArray,List.nil_append,List.cons_append];gi_wp2
 gi_loopw [3] (fun p wr=>∃r:Nat,r<32/\p=.int .u64 r/\∃pre:List { x:Int // x∈qV (xa s) },pre.map (·.1)++qV (xa r)=qV (xa s)/\Af pre wr/\Tab wr) (fun p _=>(Ao p).toNat)
 case atStart=>exact⟨s,hs,rfl,[],by simp,h0,VC.out⟩
 case round=>
  obtain⟨r,hr,rfl,pre,hp,dW,oI⟩:=hrel;clear c0 h0 ce hW hb
  by_cases hz:r=0
  . subst hz
    have Hp:=zH hp;clear hp;gi_wp2_with fail
    go_end0
    exact⟨⟨_,rfl⟩,.inl ⟨pre,by have:=Hp.out;rwa[bits_zero,intL_nil,L7] at this,dW⟩⟩
  . obtain⟨b1,b2,b3,b4⟩:=Zp hr hz
    have e0:((r:Int) != 0)=Ar:=by simp;omega
    have TU:=and_u64 r hr hz;rw[b1,JW] at hp;have hm:(low r:Int)∈qV (xa s):=by rw[<-hp];simp
    have aM:pre.length<(qV (xa s)).length:=by
     have:=congrArg List.length hp;simp only[List.length_append,List.length_map,List.length_cons] at this;omega
    obtain⟨fn,tmps,assign,body,hy,hR⟩:=HY.out pre ⟨(low r:Int),hm⟩ _ dW aM;dsimp only at hy;have Hp:=zH hp;have HR:=zH hR;have Kz:=tz_any r hr hz wr oI;have Vy:=zH Kz;have pq:1<=r:=by omega
    clear hp hR b1 hz Kz;gi_wp2_with fail;refine⟨trivial,((Re (n:=n-1)).2 Vy.out).mono ?_⟩;rintro e w' ⟨rfl,rfl⟩;gi_wp2_with fail;refine HR.out.mono ?_;rintro e W3 (⟨rfl,oK,eo⟩ | ⟨rfl,fa⟩)
    . have oq:2<wr.heap.size:=Po wr _ (oI 1 (by omega) (by omega))
      have tL:Tab W3:=fun j hj h0=>(LU (eo.same 2 (.inr rfl) oq)).trans (oI j hj h0)
      have CP:=zH tL;clear tL oI;gi_wp2_with fail
      go_roundw
      case rel=>exact⟨_,b3,rfl,_,by rw[LN,L1];exact Hp.out,oK,CP.out⟩
      case measure=>simp[Ao];omega
    . gi_wp2_with fail
      refine LP (PE rfl _ _ _) rfl ?_;refine⟨⟨_,rfl⟩,.inr ⟨_,?_,fa⟩⟩;rw[LN];exact⟨qV (xa (r &&& (r-1))),(L1 _ _ _).trans Hp.out⟩
theorem BoxIn.drewN{B g:Nat}{xs:List Int}{w2 W:Ba}(h:BoxIn B g xs w2 W)(m:Nat):BoxIn B g xs w2 (W.drewN m):=
 ⟨h.box,⟨zF h.non.below m,h.non.same⟩,h.rest⟩
theorem every_any(x:Int)(w:Ba):An Al 167 #[O U x] w fun e w'=>e=Ak (Ah Ar)/\∃m,w'=w.drewN m:=by
 go_enter func167,ntmps167;go_wp2;go_ret;exact⟨rfl,0,rfl⟩
theorem gq(gf:Nat)(lb:Array Aq)(eg:Enters Al gf)(kf:Nat)(kb:Array Aq)(ek:Enters Al kf)(K:Nat->Prop)(xs:List Int)(p:Int->Bool)(aM:xs.length<=1000)(w:Ba)(hK:∀k,K k->k<w.heap.size)
  (dy:∀W,Am w.heap.size w W->Xf Al gf lb (fun x:Int=>#[O U x]) K xs W)
  (nc:∀x,x∈xs->∀W,Am w.heap.size w W->An Al kf (#[O U x]++kb) W fun e w'=>e=Ak (Ah (p x))/\∃m,w'=W.drewN m) :
  An Al 165 #[.func (.func gf) #[] lb,.func (.func kf) #[] kb] w (ZZ (xs.filter p) w):=by
 refine yb func165 rfl ?_;simp only[ntmps165,List.size_toArray,List.length_cons,List.length_nil,Nat.reduceAdd,Nat.reduceSub,Array.replicate_succ,Array.replicate_zero,List.push_toArray,List.append_toArray,List.nil_append,List.cons_append];have HS:=zH dy;have HO:=zH nc;clear dy nc;go_wp2_with fail;obtain⟨w2,ch⟩:∃w2,w2=(w.alloc (Ag #[.func (.func kf) #[] kb] 80)).alloc (Ag #[I Z 0 0] 49):=⟨_,rfl⟩;have hB:Am w.heap.size w w2:=by rw[ch];exact xk _ _ _
 have ce:w2.heap[w.heap.size]?=J (Ag #[.func (.func kf) #[] kb] 80 (0,0)):=by rw[ch];exact zC (ze _ _) _
 have aH:w2.heap[w.heap.size+1]?=J (Ag #[I Z 0 0] 49 (0,0)):=by
  rw[ch];have:=ze (w.alloc (Ag #[.func (.func kf) #[] kb] 80)) (Ag #[I Z 0 0] 49);rwa[LS] at this
 have bk:w2.heap.size=w.heap.size+2:=by rw[ch];simp
 have B2:BoxIn w.heap.size (w.heap.size+1) [] w2 w2:=BoxIn.start aH (Own.nil _ _);rw[<-ch];clear ch;have hq:=HS.out w2 hB;have HB:=zH hB;have H0:=zH ce;clear hB ce aH
 refine kg rfl eg hq (fun k hk=>by have:=hK k hk;omega) (fun _=>rfl)
  (fun (pre:List { x:Int // x∈xs }) W=>BoxIn w.heap.size (w.heap.size+1) ((pre.map Subtype.val).filter p) w2 W) (fun _ _ _=>False) (fun _ _ _ _ h hg hr=>h.turn (by omega) hg hr) (fun _ _ _ _ _ h _ _=>h)
  B2 ?a1 ?assign ?body ?done ?stop
 case assign=>
  intro l x W K hK;gi_wp2;exact hK
 case body=>
  intro l pre x W hI aa;obtain⟨ys,dv⟩:=Kh ((pre.map Subtype.val).filter p)
  have fT:ys.length<=1000:=by
   rw[<-dv];refine LE (NW _ _) ?_;simp;omega
  have dh:((pre++[x]).map Subtype.val).filter p=if p x.1=Ar then ys++[x.1] else ys:=by
   rw[LN,PO,dv]
   by_cases hp:p x.1=Ar
   . simp[hp]
   simp[hp]
  rw[dv] at hI;obtain⟨P2,c2,bZ,bW⟩:=hI.box;have q6:=za bZ 0 rfl;have h0:=hI.rest _ _ _ H0.out (by decide) (by omega);have q0:=za h0 0 rfl;have aD:=HB.out.trans hI.non.below;have nc:=HO.out x.1 x.2 W aD;have HK:=zH nc;have mJ:=zH hI;have sT:=zH bW;have aN:=zH bZ;have Eq:=zH dh;clear hI bW bZ dh h0 aD nc dv;gi_wp2_with fail;refine⟨trivial,?_⟩;rw[ek];refine⟨fun _=>by omega,(R6 l ((Re (n:=6)).2 HK.out)).mono ?_⟩;rintro e w' ⟨rfl,m,rfl⟩;obtain⟨X,hX⟩:∃X,X=W.drewN m:=⟨_,rfl⟩;have mJ:Ap (BoxIn w.heap.size (w.heap.size+1) ys w2 X):=by rw[hX];exact zH (mJ.out.drewN m)
  have sT:Ap (Own X w.heap.size (I P2 ys.length c2) ys):=by rw[hX];exact zH (sT.out.drewN m)
  have aN:Ap (X.heap[w.heap.size+1]?=J (Ag #[I P2 ys.length c2] 49 (0,0))):=by rw[hX];exact zH aN.out
  have ME:Ap (KeepsFrom w2.heap.size W X):=by rw[hX];exact zH ⟨Lh _,fun _ _ _ h _=>h⟩
  have MF:Ap (KeepB K W X):=by rw[hX];exact zH (KeepB.drewN K W m)
  have q6:=za aN.out 0 rfl;rw[<-hX];clear hX
  by_cases hp:p x.1=Ar
  . rw[hp]
    have dk:=Eq.out;rw[Lm hp] at dk;have d':=zH dk;clear dk
    gi_wp2_with (gi_at_builtin; go_must (refine qv rfl _ _ rfl w.heap.size (I P2 ys.length c2) _ x.1 rfl sT.out rfl (by omega) (by have := zd aN.out; omega) ?_); intro v' w3 aY mv ak
                 have iX:=(mv.block (w.heap.size+1) (zd aN.out) (fun e=>own_type sT.out aN.out (by decide) e.symm)).trans aN.out;have q7:=za iX 0 rfl;have f7:=zb iX 0;have l7:=zd iX;obtain⟨A3,k3,rfl,Cz,tR,_⟩:=aY.form;have mH:=zH aY;have ta:=zH mv
                 clear iX aY mv ak)
    obtain⟨r1,r2,r3⟩:=mJ.out.push (by omega) hK aN.out sT.out mH.out ta.out;simp only[List.length_append,List.length_cons,List.length_nil,Nat.zero_add] at r1 r2 r3;exact⟨ME.out.trans r1,MF.out.trans r2,by dsimp only;rw[d'.out];exact r3⟩
  have tp:p x.1=As:=by simpa using hp
  rw[tp];have dk:=Eq.out;rw[Lk hp] at dk;have d':=zH dk;clear dk;gi_wp2_with fail;exact⟨ME.out,MF.out,by dsimp only;rw[d'.out];exact mJ.out⟩
 case done=>
  intro D ys W hD dv hI dD;rw[dv] at hI;obtain⟨P2,c2,bZ,bW⟩:=hI.box;have q6:=za bZ 0 rfl;have mJ:=zH hI;have sT:=zH bW;have aN:=zH bZ;clear hI bW bZ;go_wp2_with fail;refine yd (B:=w.heap.size) (((Marks.nil w.heap.size w2)).cons (mJ.out.non.same · _ · rfl) HB.out.size (by omega) dD) (v:=.slice P2 (xs.filter p).length c2) (fun W=>by kernel_rfl) ?_;intro W hS;exact⟨_,rfl,sT.out.shut hS,(HB.out.trans mJ.out.non.below).trans hS.below⟩
 intro D c pre W _ _ h;exact h.elim
end
section
open Go.RowKit
theorem Y8(s:Nat)(k:Nat):(kH s k).length<=k:=by
 unfold kH;exact LE (NW _ _) (by simp)
def RetIntsE(xs:List Int)(k:Int)(w:Ba)(e:Ending)(w':Ba):Prop:=∃v,e=Ak (.tuple #[v,O U k])/\Own w' w.heap.size v xs/\Am w.heap.size w w'
def memL(n s:Int):List Int:=if yt n s=0 then qV (xa s.toNat) else []
theorem ZV(l:List Int):l.filter (fun _=>Ar)=l:=by simp
theorem YG(n s:Int)(w:Ba)(hT:Tab w)(h2:3<=w.heap.size):An Al 150 #[O U n,O U s] w (RetIntsE (memL n s) (yt n s) w):=by
 have H:Ap (memL n s=if yt n s=0 then qV (xa s.toNat) else []):=rfl;have hc:=Zj n s w;have nc:=@Y1 n s;have HT:=zH hT;clear hT;obtain⟨k,hk⟩:=Kh (yt n s);rw[hk] at hc nc H ⊢;clear hk;go_enter func150,ntmps150;go_wp2_with fail;refine hc.mono ?_;rintro e w' ⟨rfl,rfl⟩
 by_cases h0:k=0
 . subst h0
   have HM:=zH (H.out.trans (Lm rfl));clear H;obtain⟨m,t,rfl,rfl,_,_,_,tR⟩:=nc rfl;go_wp2_with fail;refine(ZW t w).mono ?_;rintro e W ⟨rfl,hW⟩;have hb:=ze w (Ag #[O U t] 3);have hB:Am w.heap.size w W:=by rw[<-hW];exact zw _ _
   have aW:W.heap.size=w.heap.size+1:=by rw[<-hW];simp
   rw[hW] at hb
   have iR:=gq 177 #[Aj (J ⟨w.heap.size,0,Z⟩)] (Pg func177 (by kernel_rfl) rfl) 167 #[]
    (Pg func167 (by kernel_rfl) rfl) (fun k=>k=w.heap.size\/k=2) (qV (xa t)) (fun _=>Ar) (by rw[qs];have:=Y8 t 5;unfold kH at this;unfold xa;omega) W
    (by rintro k (rfl | rfl)<;>omega) (fun W' my=>wM t tR _ W' (vG hb my (by omega)) ((HT.out.keep hB h2).keep my (by omega))) (fun x _ W' _=>every_any x W')
   rw[ZV] at iR;have HB:=zH hB;clear hB hb hW;go_wp2_with fail;refine iR.mono ?_;rintro e w' ⟨v,rfl,ap,hb⟩;have HO:=zH ap;have aN:=zH hb;clear ap hb;go_wp2_with fail
   go_ret2
   obtain⟨q1,q2⟩:=own_push HO.out aN.out HB.out;exact⟨_,rfl,by rw[HM.out];exact q1,q2⟩
 have HM:=zH (H.out.trans (Lk h0));clear H;go_wp2_with fail
 go_ret2
 exact⟨_,rfl,by rw[HM.out];exact Own.nil _ _,Ln _ _⟩
end
section
def At(vs:List Vw)(i:Int)(v:Vw):Prop:=0<=i/\vs[i.toNat]?=J v
theorem At.mono{vs us:List Vw}{i:Int}{v:Vw}(h:At vs i v):At (vs++us) i v:=
 ⟨h.1,by rw[L3 (Ll.1 h.2).1];exact h.2⟩
theorem At.lt{vs:List Vw}{i:Int}{v:Vw}(h:At vs i v):0<=i/\i<vs.length:=⟨h.1,by have:=(Ll.1 h.2).1;have:=h.1;omega⟩
theorem At.same{vs:List Vw}{i:Int}{v u:Vw}(h:At vs i v)(h2:At vs i u):v=u:=NA (h.2.symm.trans h2.2)
theorem Yr(vs:List Vw)(v:Vw):∃us,(xu vs v).1=vs++us:=by
 unfold xu
 split
 . exact⟨[],by simp⟩
 exact⟨[v],rfl⟩
theorem putW_at(vs:List Vw)(v:Vw):At (xu vs v).1 (xu vs v).2 v:=by
 unfold xu
 split
 . rename_i h
   unfold qp;rw[Lm h];refine⟨by omega,?_⟩;have h1:=List.idxOf_lt_length_of_mem h;show vs[((vs.idxOf v:Nat):Int).toNat]?=_;rw[Lu,Lj h1,List.getElem_idxOf]
 refine⟨by omega,?_⟩;show(vs++[v])[((vs.length:Nat):Int).toNat]?=_;rw[Lu];simp
theorem putW_mem(vs:List Vw)(v:Vw):∀u∈(xu vs v).1,u∈vs\/u=v:=by
 unfold xu
 split
 . exact fun u h=>.inl h
 intro u h;rcases LM.1 h with h | h
 . exact .inl h
 exact .inr (Nq.1 h)
theorem XK{vs:List Vw}(v:Vw)(h:vs.Nodup):(xu vs v).1.Nodup:=by
 unfold xu
 split
 . exact h
 rename_i hn;exact List.nodup_append.2 ⟨h,by simp,fun a ha b hb=>by rw[Nq] at hb;subst hb;exact fun e=>hn (e▸ha)⟩
theorem jK(f:Nat->Vw)(vs:List Vw):∀p,∃us,(zT f vs p).1=vs++us
 | 0=>⟨[],by simp[zT]⟩
 | p+1=>by
  obtain⟨u1,h1⟩:=jK f vs p;obtain⟨u2,h2⟩:=Yr (zT f vs p).1 (f p);exact⟨u1++u2,by rw[zT];dsimp only;rw[h2,h1,L1]⟩
theorem QM(f:Nat->Vw)(vs:List Vw):∀n p,p<n->At (zT f vs n).1 ((zT f vs n).2.getD p 0) (f p)
 | n+1,p,h=>by
  rw[zT];dsimp only;have hl:=xd f vs n
  by_cases hp:p<n
  . rw[Lg,L3 (by omega),<-Lg]
    obtain⟨u2,h2⟩:=Yr (zT f vs n).1 (f n);rw[h2];exact(QM f vs n p hp).mono
  . obtain rfl:p=n:=by omega
    rw[Lg,LW (by omega),hl,NP];exact putW_at _ _
theorem uU(f:Nat->Vw)(vs:List Vw):∀n,∀u∈(zT f vs n).1,u∈vs\/∃p,p<n/\u=f p
 | 0,u,h=>.inl h
 | n+1,u,h=>by
  rw[zT] at h;rcases putW_mem _ _ u h with h | h
  . rcases uU f vs n u h with h | ⟨p,hp,e⟩
    . exact .inl h
    . exact .inr ⟨p,by omega,e⟩
  . exact .inr ⟨n,by omega,h⟩
theorem jk(f:Nat->Vw){vs:List Vw}(h:vs.Nodup):∀n,(zT f vs n).1.Nodup
 | 0=>h
 | n+1=>by rw[zT];exact XK _ (jk f h n)
def kQ(vs:List Vw)(n:Nat)(inp:List Int)(word:List Rd)(k:Nat):List Int:=(zi vs n inp word k).2.getD k []
def fV(vs:List Vw)(n:Nat)(inp:List Int)(word:List Rd):Nat->Nat->Vw
 | 0,p=>yw p (inp.getD p 0)
 | k+1,p=>yM (word.getD k default) (k+1) p (kQ vs n inp word k)
section
variable (vs:List Vw) (n:Nat) (inp:List Int) (word:List Rd)
theorem vm:∀j,(∃us,(zi vs n inp word j).1=vs++us)/\∀k,k<=j->∃us,(zi vs n inp word j).1=(zi vs n inp word k).1++us
 | 0=>⟨by rw[zi];exact jK _ vs n,fun k hk=>⟨[],by obtain rfl:k=0:=(by omega);simp⟩⟩
 | j+1=>by
  obtain⟨⟨u1,h1⟩,h2⟩:=vm j;obtain⟨u3,h3⟩:=jK (fun p=>yM (word.getD j default) (j+1) p ((zi vs n inp word j).2.getD j [])) (zi vs n inp word j).1 n;have e:(zi vs n inp word (j+1)).1=(zi vs n inp word j).1++u3:=by rw[zi];exact h3
  refine⟨⟨u1++u3,by rw[e,h1,L1]⟩,fun k hk=>?_⟩
  by_cases FH:k<=j
  . obtain⟨u4,h4⟩:=h2 k FH
    exact⟨u4++u3,by rw[e,h4,L1]⟩
  . obtain rfl:k=j+1:=by omega
    exact⟨[],by simp⟩
theorem jr:∀j k,k<=j->(zi vs n inp word j).2.getD k []=kQ vs n inp word k
 | 0,k,h=>by obtain rfl:k=0:=(by omega);rfl
 | j+1,k,h=>by
  by_cases FH:k<=j
  . rw[<-jr j k FH,zi,Lg,L3 (by rw[ye];omega),<-Lg]
  . obtain rfl:k=j+1:=by omega
    rfl
theorem kk(k:Nat):(kQ vs n inp word k).length=n:=by
 have h:k<(zi vs n inp word k).2.length:=by rw[ye];omega
 unfold kQ;rw[Lg,Lj h];exact qk vs n inp word k _ (Le h)
theorem rowK_eq:∀k,∃us,(zi vs n inp word k).1=(zT (fV vs n inp word k) us n).1/\kQ vs n inp word k=(zT (fV vs n inp word k) us n).2
 | 0=>⟨vs,rfl,rfl⟩
 | k+1=>⟨(zi vs n inp word k).1,rfl,by
   unfold kQ;rw[zi,Lg,LW (by rw[ye];omega),ye,NP]
   rfl⟩
theorem jO(j k p:Nat)(hk:k<=j)(hp:p<n):At (zi vs n inp word j).1 ((kQ vs n inp word k).getD p 0) (fV vs n inp word k p):=by
 obtain⟨us,e1,e2⟩:=rowK_eq vs n inp word k;obtain⟨u4,h4⟩:=(vm vs n inp word j).2 k hk;rw[h4,e2,e1];exact(QM _ us n p hp).mono
theorem Yx:∀j,∀u∈(zi vs n inp word j).1,u∈vs\/∃k p,k<=j/\p<n/\u=fV vs n inp word k p
 | 0,u,h=>by
  rw[zi] at h;rcases uU _ vs n u h with h | ⟨p,hp,e⟩
  . exact .inl h
  . exact .inr ⟨0,p,Lh _,hp,e⟩
 | j+1,u,h=>by
  rw[zi] at h;rcases uU _ _ n u h with h | ⟨p,hp,e⟩
  . rcases Yx j u h with h | ⟨k,p,hk,hp,e⟩
    . exact .inl h
    . exact .inr ⟨k,p,by omega,hp,e⟩
  . exact .inr ⟨j+1,p,Lh _,hp,e⟩
theorem we(h:vs.Nodup):∀j,(zi vs n inp word j).1.Nodup
 | 0=>by rw[zi];exact jk _ h n
 | j+1=>by rw[zi];exact jk _ (we h j) n
end
structure XFin(p:Pb)(tab:List Vw)(c:Nat)(word:List Rd)(x:Exn)(vs:List Vw):Prop where
 hc:x.c=(c:Int)
 hw:x.word=word
 hv:x.views=(zi vs p.t.n.toNat (yf p c) word word.length).2
 ht:∃us,tab=(zi vs p.t.n.toNat (yf p c) word word.length).1++us
theorem uR(p:Pb)(l:List (Nat×List Rd)) :
  (∀i (h:i<l.length),∃x vs,(zl p l).2[i]?=J x/\XFin p (zl p l).1 l[i].1 l[i].2 x vs)/\(∀u∈(zl p l).1,∃y∈l,∃vs k q,k<=y.2.length/\q<p.t.n.toNat/\u=fV vs p.t.n.toNat (yf p y.1) y.2 k q/\∃us,(zl p l).1=(zi vs p.t.n.toNat (yf p y.1) y.2 y.2.length).1++us)/\(zl p l).1.Nodup:=by
 have key:∀n,n<=l.length ->
   (∀i (h:i<n) (hl:i<l.length),∃x vs,(zl p (l.take n)).2[i]?=J x/\XFin p (zl p (l.take n)).1 l[i].1 l[i].2 x vs)/\(∀u∈(zl p (l.take n)).1,∃y∈l,∃vs k q,k<=y.2.length/\q<p.t.n.toNat/\u=fV vs p.t.n.toNat (yf p y.1) y.2 k q/\∃us,(zl p (l.take n)).1=(zi vs p.t.n.toNat (yf p y.1) y.2 y.2.length).1++us)/\(zl p (l.take n)).1.Nodup:=by
  intro n
  induction n with
  | zero=>intro _;exact⟨fun i h=>absurd h (by omega),fun u h=>by simp[kj] at h,by simp[kj]⟩
  | succ n ih=>
   intro hn;obtain⟨h1,h2,h3⟩:=ih (by omega);have dS:n<l.length:=by omega
   have e:zl p (l.take (n+1))=((zi (zl p (l.take n)).1 p.t.n.toNat (yf p l[n].1) l[n].2 l[n].2.length).1,(zl p (l.take n)).2++[⟨l[n].1,l[n].2,(zi (zl p (l.take n)).1 p.t.n.toNat (yf p l[n].1) l[n].2 l[n].2.length).2⟩]):=by
    rw[Ls dS,xH]
   obtain⟨⟨u0,Ky⟩,_⟩:=vm (zl p (l.take n)).1 p.t.n.toNat (yf p l[n].1) l[n].2 l[n].2.length;have aM:(zl p (l.take n)).2.length=n:=by rw[xR,Ng];omega
   rw[e];dsimp only;refine⟨fun i hi hl=>?_,fun u hu=>?_,we _ _ _ _ h3 _⟩
   . by_cases bP:i<n
     . obtain⟨x,vs,hx,⟨a,b,c,⟨us,lY⟩⟩⟩:=h1 i bP hl
       refine⟨x,vs,by rw[L3 (by omega)];exact hx,a,b,c,us++u0,?_⟩;rw[Ky,lY,L1]
     . obtain rfl:i=n:=by omega
       refine⟨_,(zl p (l.take i)).1,by rw[LW (by omega),aM,NP];rfl,rfl,rfl,rfl,[],by simp⟩
   . rcases Yx _ _ _ _ _ u hu with h | ⟨k,q,hk,hq,eu⟩
     . obtain⟨y,hy,vs,k,q,a,b,c,us,lY⟩:=h2 u h
       exact⟨y,hy,vs,k,q,a,b,c,us++u0,by rw[Ky,lY,L1]⟩
     . exact⟨l[n],Le _,(zl p (l.take n)).1,k,q,hk,hq,eu,[],by simp⟩
 have h:=key l.length (Lh _);rw[LC] at h;exact⟨fun i hi=>h.1 i hi hi,h.2⟩
theorem own_bit{r:Rd}(h:zS r=0)(p:Nat)(hp:(p:Int)<r.n):(r.h p).toNat.testBit p=Ar:=by
 unfold zS at h
 split at h
 . cases h
 rename_i hn
 have key:∀k,k<=5->zX r (5-k) k=0->∀q,k<=q->q<5->yB r.n q (r.h q)=0:=by
  intro k hk
  induction hm:5-k generalizing k with
  | zero=>intro _ q h1 h2;omega
  | succ m ih=>
   intro hz q h1 h2;unfold zX at hz
   split at hz
   . rename_i bj;exact absurd hz bj
   . rename_i bj
     by_cases e:q=k
     . subst e;simpa using bj
     . exact ih (k+1) (by omega) (by omega) hz q (by omega) h2
 have h1:=key 0 (by omega) h p (by omega) (by omega);unfold yB at h1;rw[Lk (by omega)] at h1
 split at h1
 . cases h1
 split at h1
 . assumption
 cases h1
theorem kL(r:Rd)(k p:Nat)(now:List Int)(q:Nat)(hq:q<5):(yM r k p now).h q=zE r p now q:=by
 match q,hq with
 | 0,_=>rfl
 | 1,_=>rfl
 | 2,_=>rfl
 | 3,_=>rfl
 | 4,_=>rfl
structure Fine(s:Sy)(K N:Nat):Prop where
 n:s.n=(N:Int)
 pn:s.p.t.n=(N:Int)
 k:s.p.k=(K:Int)
 n1:1<=N
 n5:N<=5
 k6:K<=6
 lv:s.vs.length<=2100
 lx:s.xs.length<=60
 word:∀x∈s.xs,x.word.length=K/\∀r∈x.word,zJ r=0/\r.n=(N:Int)
 views:∀x∈s.xs,x.views.length=K+1/\∀l∈x.views,l.length=N/\∀i∈l,0<=i/\i<s.vs.length
 vs:∀v∈s.vs,(∃q:Nat,v.p=(q:Int)/\q<N)/\(∃r:Nat,v.r=(r:Int)/\r<=K)/\(0<v.r->∃u,At s.vs (v.h v.p.toNat) u/\u.p=v.p/\u.r=v.r-1)
theorem QA{p:Pb}(hf:wZ p)(h0:zD p=0)(dq:zP p<=60):∃K N,Fine (zA p) K N:=by
 obtain⟨dF,iM,od,cW,iu⟩:=zM h0;obtain⟨h1,dT,nd⟩:=yG dF;obtain⟨r1,r2⟩:=Zy p h0 dq;obtain⟨K,hK⟩:=Lq cW;obtain⟨N,hN⟩:=Lq (show 0<=p.t.n by omega);have sv:p.t.n.toNat=N:=by omega
 obtain⟨f1,f2,f3⟩:=uR p (zj p)
 have fi:∀y∈zj p,y.2.length=K/\∀r∈y.2,zJ r=0/\r.n=(N:Int):=fun y hy=>by
  unfold zj at hy;obtain⟨d,_,hy⟩:=Nm.1 hy;obtain⟨w',dw,rfl⟩:=LZ.1 hy;refine⟨by show w'.length=K;rw[yP p.a _ 0 w' dw];omega,fun r hr=>?_⟩;obtain⟨m,hm,rfl⟩:=qQ p.a _ 0 w' dw r hr;obtain⟨z1,z2,_⟩:=yS (yD hf.1.2 iM).1 m hm;exact⟨z1,by rw[z2,<-od,hN]⟩
 have hx:∀x∈(zl p (zj p)).2,∃y∈zj p,∃vs,XFin p (zl p (zj p)).1 y.1 y.2 x vs:=fun x hx=>by
  obtain⟨i,hi,e⟩:=Nf hx;rw[xR] at hi;obtain⟨x',vs,tg,hh⟩:=f1 i hi
  have:x=x':=by
   rw[Lj (by rw[xR];exact hi),e] at tg;exact NA tg
  subst this;exact⟨_,Le hi,vs,hh⟩
 refine⟨K,N,hN,hN,hK,by omega,by omega,by omega,r1,r2,fun x hm=>?_,fun x hm=>?_,fun v hv=>?_⟩
 . obtain⟨y,hy,vs,hh⟩:=hx x hm
   rw[hh.hw];exact fi y hy
 . obtain⟨y,hy,vs,hh⟩:=hx x hm
   obtain⟨fT,_⟩:=fi y hy;rw[hh.hv];refine⟨by rw[ye,fT],fun l hl=>?_⟩;obtain⟨k,hk,rfl⟩:=Nf hl;rw[ye] at hk
   have e:(zi vs p.t.n.toNat (yf p y.1) y.2 y.2.length).2[k]'(by rw[ye];exact hk)=kQ vs p.t.n.toNat (yf p y.1) y.2 k:=by
    rw[<-jr vs p.t.n.toNat (yf p y.1) y.2 y.2.length k (by omega),Lg,Lj (by rw[ye];exact hk)];rfl
   rw[e];refine⟨by rw[kk,sv],fun i hi=>?_⟩;obtain⟨q,hq,rfl⟩:=Nf hi;rw[kk] at hq;have ha:=jO vs p.t.n.toNat (yf p y.1) y.2 y.2.length k q (by omega) hq;obtain⟨us,lY⟩:=hh.ht;have hb:=(ha.mono (us:=us));rw[<-lY,Lg,Lj (by rw[kk];exact hq)] at hb;exact hb.lt
 obtain⟨y,hy,vs,k,q,hk,hq,rfl,us,lY⟩:=f2 v hv;obtain⟨fT,AJ⟩:=fi y hy
 cases k with
 | zero=>exact⟨⟨q,rfl,by omega⟩,⟨0,rfl,by omega⟩,fun h=>absurd h (by show ¬((0:Int)<0);omega)⟩
 | succ k=>
  refine⟨⟨q,rfl,by omega⟩,⟨k+1,rfl,by omega⟩,fun _=>⟨fV vs p.t.n.toNat (yf p y.1) y.2 k q,?_,?_,?_⟩⟩
  . have cP:k<y.2.length:=by omega
    have hg:y.2.getD k default=y.2[k]:=by rw[Lg,Lj cP];rfl
    have nZ:=AJ _ (Le cP);have hb:=own_bit (xI nZ.1).2.2.1 q (by rw[nZ.2];omega)
    have e:(fV vs p.t.n.toNat (yf p y.1) y.2 (k+1) q).h ((fV vs p.t.n.toNat (yf p y.1) y.2 (k+1) q).p.toNat)=(kQ vs p.t.n.toNat (yf p y.1) y.2 k).getD q 0:=by
     show(yM (y.2.getD k default) (k+1) q (kQ vs p.t.n.toNat (yf p y.1) y.2 k)).h ((q:Int).toNat)=_;rw[Lu,kL _ _ _ _ _ (by omega),hg];unfold zE;rw[Lm ⟨by rw[kk];exact hq,hb⟩]
    rw[e];show At (zl p (zj p)).1 _ _;rw[lY];exact(jO vs p.t.n.toNat (yf p y.1) y.2 y.2.length k q (by omega) hq).mono
  . cases k<;>rfl
  . cases k with
    | zero=>show(0:Int)=((0+1:Nat):Int)-1;rfl
    | succ k=>show((k+1:Nat):Int)=((k+1+1:Nat):Int)-1;omega
end
section
theorem gW{α:Type}{l:List α}(h:l.Nodup){i j:Nat}(hi:i<l.length)(hj:j<l.length)(e:l[i]=l[j]):i=j:=by
 have hp:=Pi.1 h;rcases Nat.lt_trichotomy i j with g | g | g
 . exact absurd e (hp i j hi hj g)
 . exact g
 exact absurd e.symm (hp j i hj hi g)
def xw(x:Exn)(k q:Nat):Int:=(x.views.getD k []).getD q 0
structure Sees(s:Sy)(K N:Nat):Prop where
 nodup:s.vs.Nodup
 v0:∀x∈s.xs,∀q,q<N->At s.vs (xw x 0 q) (yw q ((yf s.p x.c.toNat).getD q 0))
 vk:∀x∈s.xs,∀k,k<K->∀q,q<N->At s.vs (xw x (k+1) q) (yM (x.word.getD k default) (k+1) q (x.views.getD k []))
 prs:s.xs.map (fun x=>(x.c.toNat,x.word))=zj s.p
 cs:∀x∈s.xs,∃c:Nat,x.c=(c:Int)/\c<s.p.t.cases.length/\x.word∈zn s.p.a K 0
theorem Z2{p:Pb}{tab:List Vw}{c:Nat}{word:List Rd}{x:Exn}{vs:List Vw}(h:XFin p tab c word x vs)(k:Nat)(hk:k<=word.length):x.views.getD k []=kQ vs p.t.n.toNat (yf p c) word k:=by
 rw[h.hv];exact jr _ _ _ _ _ k hk
theorem QE{p:Pb}{tab:List Vw}{c:Nat}{word:List Rd}{x:Exn}{vs:List Vw}(h:XFin p tab c word x vs)(k q:Nat)(hk:k<=word.length)(hq:q<p.t.n.toNat):At tab (xw x k q) (fV vs p.t.n.toNat (yf p c) word k q):=by
 obtain⟨us,lY⟩:=h.ht;unfold xw;rw[Z2 h k hk,lY];exact(jO vs p.t.n.toNat (yf p c) word word.length k q hk hq).mono
theorem Qz{p:Pb}{K N:Nat}(hF:Fine (zA p) K N):Sees (zA p) K N:=by
 obtain⟨f1,f2,f3⟩:=uR p (zj p);have sv:p.t.n.toNat=N:=by have:p.t.n=(N:Int):=hF.pn;omega
 have iD:p.k.toNat=K:=by have:p.k=(K:Int):=hF.k;omega
 have fi:∀y∈zj p,y.2.length=K/\y.1<p.t.cases.length/\y.2∈zn p.a K 0:=fun y hy=>by
  unfold zj at hy;obtain⟨d,hd,hy⟩:=Nm.1 hy;obtain⟨w',dw,rfl⟩:=LZ.1 hy;rw[iD] at dw;exact⟨yP p.a _ 0 w' dw,by simpa using hd,dw⟩
 have hx:∀x∈(zA p).xs,∃y∈zj p,∃vs,XFin p (zA p).vs y.1 y.2 x vs:=fun x hx=>by
  obtain⟨i,hi,e⟩:=Nf hx;have iQ:i<(zj p).length:=by rw[<-xR p (zj p)];exact hi
  obtain⟨x',vs,tg,hh⟩:=f1 i iQ
  have:x=x':=by
   have h3:(zl p (zj p)).2[i]?=J x:=(Lj (l:=(zA p).xs) hi).trans (congrArg J e);exact NA (h3.symm.trans tg)
  subst this;exact⟨_,Le iQ,vs,hh⟩
 refine⟨f3,fun x hm q hq=>?_,fun x hm k hk q hq=>?_,?_,fun x hm=>?_⟩
 . obtain⟨y,hy,vs,hh⟩:=hx x hm
   have h:=QE hh 0 q (Nn _) (by omega);rw[hh.hc,Lu];exact h
 . obtain⟨y,hy,vs,hh⟩:=hx x hm
   have hl:=(fi y hy).1;have h:=QE hh (k+1) q (by omega) (by omega);rw[Z2 hh k (by omega),hh.hw];exact h
 . show(zl p (zj p)).2.map _=zj p
   refine Pu (by rw[LT,xR]) fun i h1 h2=>?_
   obtain⟨x',vs,tg,hh⟩:=f1 i h2;rw[RT];obtain⟨h3,h4⟩:=Ll.1 tg;rw[h4,hh.hc,hh.hw,Lu]
 obtain⟨y,hy,vs,hh⟩:=hx x hm;exact⟨y.1,hh.hc,(fi y hy).2.1,by rw[hh.hw];exact(fi y hy).2.2⟩
section
variable {s:Sy} {K N:Nat}
theorem At.inj{vs:List Vw}(hn:vs.Nodup){i j:Int}{v:Vw}(h1:At vs i v)(h2:At vs j v):i=j:=by
 obtain⟨a1,b1⟩:=Ll.1 h1.2;obtain⟨a2,b2⟩:=Ll.1 h2.2;have:=gW hn a1 a2 (b1.trans b2.symm);have:=h1.1;have:=h2.1;omega
theorem Sees.same(h:Sees s K N){i j:Int}{v u:Vw}(h1:At s.vs i v)(h2:At s.vs j u):i=j↔v=u:=
 ⟨fun e=>by subst e;exact h1.same h2,fun e=>by subst e;exact h1.inj h.nodup h2⟩
end
end
section
theorem wC{r:Rd}(h:zS r=0)(p:Nat)(hp:p<5):yB r.n p (r.h p)=0:=by
 unfold zS at h
 split at h
 . cases h
 have key : ∀ k, k <= 5 -> zX r (5 - k) k = 0 -> ∀ q, k <= q -> q < 5 -> yB r.n q (r.h q) = 0 := by
  intro k hk
  induction hm:5-k generalizing k with
  | zero=>intro _ q h1 h2;omega
  | succ m ih=>
   intro hz q h1 h2;unfold zX at hz
   split at hz
   . rename_i bj;exact absurd hz bj
   . rename_i bj
     by_cases e:q=k
     . subst e;simpa using bj
     . exact ih (k+1) (by omega) (by omega) hz q (by omega) h2
 exact key 0 (by omega) h p (by omega) hp
theorem qL{r:Rd}{N:Nat}(h:zJ r=0)(hn:r.n=(N:Int))(h5:N<=5){q:Nat}(hq:q<N):∃m:Nat,r.h q=(m:Int)/\m<2^N/\m.testBit q=Ar:=by
 have h1:=wC (xI h).2.2.1 q (by omega);unfold yB at h1;rw[Lk (by omega)] at h1
 split at h1
 . cases h1
 rename_i hb
 split at h1
 . rename_i ht
   rw[hn,Lu] at hb;obtain⟨m,hm⟩:=Lq (show 0<=r.h q by omega);rw[hm] at hb ht ⊢;have hp:=RZ N;exact⟨m,rfl,by omega,by simpa using ht⟩
 cases h1
theorem xJ{r:Rd}{now:List Int}{q m j:Nat}(hm:r.h q=(m:Int)):zE r q now j=if j<now.length/\m.testBit j=Ar then now.getD j 0 else -1:=by
 unfold zE;rw[hm,Lu]
theorem Qi{r r':Rd}{now eM:List Int}{q N m m':Nat}(hl:now.length=N)(KT:eM.length=N)(hp:∀i∈now,0<=i)(tp:∀i∈eM,0<=i)(hm:r.h q=(m:Int))(nf:r'.h q=(m':Int))(hN:m<2^N)(hN':m'<2^N)(h5:N<=5) :
  (∀j,j<5->zE r q now j=zE r' q eM j)↔(m=m'/\∀j,j<N->m.testBit j=Ar->now.getD j 0=eM.getD j 0):=by
 have Bm:∀ {l:List Int} {j:Nat},(∀i∈l,0<=i)->j<l.length->0<=l.getD j 0:=fun {l j} h hj=>by
  rw[Lg,Lj hj];exact h _ (Le hj)
 constructor
 . intro h
   have hb:∀j,j<N->m.testBit j=m'.testBit j:=fun j hj=>by
    have h1:=h j (by omega);rw[xJ hm,xJ nf] at h1;have g1:=Bm hp (by omega:j<now.length);have g2:=Bm tp (by omega:j<eM.length)
    cases e1:m.testBit j<;>cases e2:m'.testBit j
    . rfl
    . rw[Lk (by rw[e1];simp),Lm ⟨by omega,e2⟩] at h1;omega
    . rw[Lm ⟨by omega,e1⟩,Lk (by rw[e2];simp)] at h1;omega
    . rfl
   refine⟨Nat.eq_of_testBit_eq fun j=>?_,fun j hj ht=>?_⟩
   . by_cases hj:j<N
     . exact hb j hj
     have na:2^N<=2^j:=Nj (by omega) (by omega);rw[Pr (by omega),Pr (by omega)]
   have h1:=h j (by omega);rw[xJ hm,xJ nf,Lm ⟨by omega,ht⟩,Lm ⟨by omega,by rw[<-hb j hj];exact ht⟩] at h1;exact h1
 rintro⟨rfl,h⟩ j hj;rw[xJ hm,xJ nf]
 by_cases c:j<N/\m.testBit j=Ar
 . rw[Lm ⟨by omega,c.2⟩,Lm ⟨by omega,c.2⟩,h j c.1 c.2]
 rw[Lk (by rw[hl];exact c),Lk (by rw[KT];exact c)]
theorem seen_eq{r r':Rd}{k q:Nat}{now eM:List Int}:yM r k q now=yM r' k q eM↔∀j,j<5->zE r q now j=zE r' q eM j:=by
 constructor
 . intro h j hj
   rw[<-kL r k q now j hj,<-kL r' k q eM j hj,h]
 intro h;unfold yM;rw[h 0 (by omega),h 1 (by omega),h 2 (by omega),h 3 (by omega),h 4 (by omega)]
section
variable {s:Sy} {K N:Nat}
theorem Fine.row(hF:Fine s K N){x:Exn}(hx:x∈s.xs){k:Nat}(hk:k<=K):(x.views.getD k []).length=N/\∀i∈x.views.getD k [],0<=i/\i<s.vs.length:=by
 obtain⟨hl,h⟩:=hF.views x hx;have dz:k<x.views.length:=by omega
 rw[Lg,Lj dz];exact h _ (Le dz)
theorem Fine.round(hF:Fine s K N){x:Exn}(hx:x∈s.xs){k:Nat}(hk:k<K):zJ (x.word.getD k default)=0/\(x.word.getD k default).n=(N:Int):=by
 obtain⟨hl,h⟩:=hF.word x hx;have dz:k<x.word.length:=by omega
 rw[Lg,Lj dz];exact h _ (Le dz)
theorem Xu(hF:Fine s K N)(h:Sees s K N){x y:Exn}(hx:x∈s.xs)(hy:y∈s.xs){k q:Nat}(hk:k<K)(hq:q<N) :
  xw x (k+1) q=xw y (k+1) q↔((x.word.getD k default).h q=(y.word.getD k default).h q/\∀j,j<N->((x.word.getD k default).h q).toNat.testBit j=Ar->xw x k j=xw y k j):=by
 rw[h.same (h.vk x hx k hk q hq) (h.vk y hy k hk q hq),seen_eq];obtain⟨l1,p1⟩:=hF.row hx (by omega:k<=K);obtain⟨l2,p2⟩:=hF.row hy (by omega:k<=K);obtain⟨r1,n1⟩:=hF.round hx hk;obtain⟨r2,n2⟩:=hF.round hy hk;obtain⟨m,hm,KO,_⟩:=qL r1 n1 hF.n5 hq;obtain⟨m',nf,Fy,_⟩:=qL r2 n2 hF.n5 hq;rw[Qi l1 l2 (fun i hi=>(p1 i hi).1) (fun i hi=>(p2 i hi).1) hm nf KO Fy hF.n5,hm,nf,Lu];unfold xw;constructor
 . rintro⟨rfl,g⟩;exact⟨rfl,g⟩
 rintro⟨e,g⟩;exact⟨by omega,g⟩
end
end
section
def Good(vs:List Vw)(v:Vw):Prop:=v.r=0\/∀q:Nat,q<5->v.h q=-1\/∃u,At vs (v.h q) u/\u.p=(q:Int)/\u.r=v.r-1
theorem Good.mono{vs us:List Vw}{v:Vw}(h:Good vs v):Good (vs++us) v:=by
 rcases h with h | h
 . exact .inl h
 refine .inr fun q hq=>?_
 rcases h q hq with h | ⟨u,h1,h2⟩
 . exact .inl h
 exact .inr ⟨u,h1.mono,h2⟩
def InvT(vs:List Vw):Prop:=∀i (h:i<vs.length),Good (vs.take i) vs[i]
theorem InvT.put{vs:List Vw}{v:Vw}(h:InvT vs)(hv:Good vs v):InvT (xu vs v).1:=by
 unfold xu
 split
 . exact h
 intro i hi;have iQ:i<vs.length+1:=by simpa using hi
 by_cases e:i<vs.length
 . have h1:=h i e
   show Good ((vs++[v]).take i) (vs++[v])[i];rw[NL (by omega),P5 e];exact h1
 obtain rfl:i=vs.length:=by omega
 show Good ((vs++[v]).take vs.length) (vs++[v])[vs.length];rw[NL (Lh _),LC,PP (Lh _)];simpa using hv
theorem InvT.row{vs:List Vw}{f:Nat->Vw}(h:InvT vs):∀m,(∀p,p<m->Good vs (f p))->InvT (zT f vs m).1
 | 0,_=>h
 | m+1,hf=>by
  rw[zT];dsimp only;refine(h.row m fun p hp=>hf p (by omega)).put ?_;obtain⟨us,e⟩:=jK f vs m;rw[e];exact(hf m (by omega)).mono
theorem wL(vs:List Vw)(n:Nat)(inp:List Int)(word:List Rd)(k q:Nat):(fV vs n inp word k q).p=(q:Int)/\(fV vs n inp word k q).r=(k:Int):=by
 cases k with
 | zero=>exact⟨rfl,rfl⟩
 | succ k=>exact⟨rfl,rfl⟩
theorem fV_h(vs:List Vw)(n:Nat)(inp:List Int)(word:List Rd)(k q j:Nat)(hj:j<5):(fV vs n inp word (k+1) q).h j=-1\/(j<n/\(fV vs n inp word (k+1) q).h j=(kQ vs n inp word k).getD j 0):=by
 show(yM (word.getD k default) (k+1) q (kQ vs n inp word k)).h j=-1\/_;have e:(fV vs n inp word (k+1) q).h j=zE (word.getD k default) q (kQ vs n inp word k) j:=kL _ _ _ _ j hj;rw[kL _ _ _ _ j hj,e];unfold zE
 split
 . rename_i h
   rw[kk] at h;exact .inr ⟨h.1,rfl⟩
 exact .inl rfl
theorem InvT.play{vs:List Vw}(n:Nat)(inp:List Int)(word:List Rd)(h:InvT vs):∀j,InvT (zi vs n inp word j).1
 | 0=>by rw[zi];exact h.row n fun p _=>.inl rfl
 | j+1=>by
  have ih:=h.play n inp word j;rw[zi];refine ih.row n fun p hp=>.inr fun q hq=>?_
  have hh:=fV_h vs n inp word j p q hq;have e:fV vs n inp word (j+1) p=yM (word.getD j default) (j+1) p ((zi vs n inp word j).2.getD j []):=rfl;rw[e] at hh;rcases hh with hh | ⟨h1,h2⟩
  . exact .inl hh
  . refine .inr ⟨fV vs n inp word j q,?_,(wL ..).1,?_⟩
    . rw[h2];exact jO vs n inp word j j q (Lh _) h1
    . rw[(wL ..).2];show(j:Int)=((j+1:Nat):Int)-1;omega
theorem InvT.run(p:Pb)(l:List (Nat×List Rd)):InvT (zl p l).1:=by
 have key:∀n,n<=l.length->InvT (zl p (l.take n)).1:=by
  intro n
  induction n with
  | zero=>intro _ i hi;simp[kj] at hi
  | succ n ih=>
   intro hn;rw[Ls (by omega),xH];exact(ih (by omega)).play _ _ _ _
 have h:=key l.length (Lh _);rwa[LC] at h
theorem jY{t:Tk}:∀ {q:Option Cs} {l:List Cs},qa t q l=0->∀c∈l,zo c.inp t.n t.ins=0
 | _,[],_,c,hc=>by cases hc
 | q,d::l,h,c,hc=>by
  rw[qa] at h
  split at h
  . rename_i h1;exact absurd h h1
  . rename_i h1
    rcases LF.1 hc with rfl | hc
    . have h2:xB t q c=0:=by simpa using h1
      unfold xB at h2
      split at h2
      . rename_i h3;exact absurd h2 h3
      . rename_i h3;simpa using h3
    . exact jY h c hc
theorem task_vec{t:Tk}(h:yz t=0):∀c∈t.cases,(c.inp.length:Int)=t.n/\∀i∈c.inp,0<=i/\i<8:=by
 unfold yz at h
 split at h
 . cases h
 rename_i hb
 split at h
 . cases h
 intro c hc;have h4:=jY (by unfold yN at h;rwa[L8] at h) c hc;unfold zo at h4
 split at h4
 . cases h4
 rename_i h5
 split at h4
 . cases h4
 rename_i h6;refine⟨by simpa using h5,fun i hi=>?_⟩;have h7:¬ql t.ins i=Ar:=fun e=>h6 (NC.2 ⟨i,hi,e⟩)
 unfold ql at h7;have h8:¬(i<0\/t.ins<=i):=by simpa using h7
 omega
theorem YY{vs:List Vw}:∀ {l:List Nat},(l.Pairwise fun a b=>uk vs a b=As)->kG vs l=Ar
 | [],_=>rfl
 | a::l,h=>by
  obtain⟨h1,h2⟩:=Rz.1 h;unfold kG;rw[YY h2,Bool.and_true,Lz];exact fun b hb=>by rw[h1 b hb];rfl
theorem j6{vs:List Vw}{i:Int}{v:Vw}(h:At vs i v):yc vs i.toNat=v:=by
 unfold yc;rw[Lg,h.2];rfl
theorem pastL_lt(vs:List Vw)(l:List Nat):(yE vs l).Pairwise (·<·):=(List.pairwise_lt_range (n:=vs.length)).filter _
theorem built_wf{p:Pb}{K N:Nat}(h0:zD p=0)(hF:Fine (zA p) K N):Wf (zA p).n (zA p).vs:=by
 obtain⟨dF,iM,od,cW,iu⟩:=zM h0;have Fg:=task_vec dF;obtain⟨f1,f2,f3⟩:=uR p (zj p);have iw:InvT (zA p).vs:=InvT.run p (zj p);have hN:(zA p).n=(N:Int):=hF.n;have sv:p.t.n.toNat=N:=by have:p.t.n=(N:Int):=hF.pn;omega
 have h1N:=hF.n1;have h5N:=hF.n5;refine⟨by omega,by omega,fun i hi=>?_⟩;have hg:yc (zA p).vs i=(zA p).vs[i]:=qt hi;obtain⟨v,hv⟩:=Kh ((zA p).vs[i]);have mr:=iw i hi;rw[hv] at hg mr;have bS:v∈(zA p).vs:=by rw[<-hv];exact Le hi
 obtain⟨⟨pv,Bo,iN⟩,⟨rv,pq,iq⟩,ap⟩:=hF.vs v bS;obtain⟨y,hy,du,k,q,hk,hq,e,us,lY⟩:=f2 v bS
 have Dt:∃c∈p.t.cases,yf p y.1=c.inp:=by
  unfold zj at hy;obtain⟨d,hd,hy⟩:=Nm.1 hy;obtain⟨w',dw,rfl⟩:=LZ.1 hy;have L4:d<p.t.cases.length:=by simpa using hd
  refine⟨p.t.cases[d],Le L4,?_⟩;show(p.t.cases.getD d default).inp=_;rw[Lg,Lj L4];rfl
 obtain⟨c,hc,F7⟩:=Dt;obtain⟨bD,sd⟩:=Fg c hc
 have bn:∀k' q',k'<=y.2.length->q'<N->At (zA p).vs ((kQ du p.t.n.toNat (yf p y.1) y.2 k').getD q' 0) (fV du p.t.n.toNat (yf p y.1) y.2 k' q'):=fun k' q' a b=>by
  show At (zl p (zj p)).1 _ _;rw[lY];exact(jO du p.t.n.toNat (yf p y.1) y.2 y.2.length k' q' a (by omega)).mono
 have lq:xb (zA p).n v=0:=by
  have fi:=wL du p.t.n.toNat (yf p y.1) y.2 k q;rw[<-e] at fi;unfold xb;rw[Lk,Lk,Lk]
  . intro hh
    rw[NC] at hh;obtain⟨j,hj,hb⟩:=hh;have FN:j<5:=by simpa using hj
    unfold qY at hb;have ae:v.h j≠-1/\(v.r=0\/(zA p).n<=(j:Int)):=by simpa using hb
    cases k with
    | zero=>
     have:v.h j=-1:=by
      rw[e]
      match j,FN with
      | 0,_=>rfl
      | 1,_=>rfl
      | 2,_=>rfl
      | 3,_=>rfl
      | 4,_=>rfl
     exact ae.1 this
    | succ k=>
     have hh:=fV_h du p.t.n.toNat (yf p y.1) y.2 k q j FN;rw[<-e] at hh;rcases hh with hh | ⟨hh,_⟩
     . exact ae.1 hh
     . rcases ae.2 with h | h
       . have:=fi.2;omega
       . omega
  . rintro⟨h1,h2⟩
    apply h2;rw[e]
    cases k with
    | zero=>have:=fi.2;omega
    | succ k=>rfl
  unfold xm
  have h3:v.r=0->0<=v.i/\v.i<8:=fun hr=>by
   have cW:k=0:=by have:=fi.2;omega
   subst cW;rw[e];have Bi:q<c.inp.length:=by omega
   have h9:(yf p y.1).getD q 0=c.inp[q]:=by rw[F7,Lg,Lj Bi];rfl
   have CA:=sd _ (Le Bi);rw[<-h9] at CA;exact CA
  have h6:=hF.k6;simp only[decide_eq_true_eq];omega
 have F8:zW (zA p).n ((zA p).vs.take i) v=0:=by
  by_cases lJ:v.r=0
  . unfold zW;rw[Lm (.inr lJ)];exact lq
  have By:∀q,q<5->yn ((zA p).vs.take i) v q=0:=fun j hj=>by
   unfold yn;rcases mr with h | h
   . exact absurd h lJ
   . rcases h j hj with h | ⟨u,h1,h2,h3⟩
     . rw[Lm h]
     . have aa:=h1.lt
       rw[Lk (by omega),Lk (by omega),j6 h1,Lk (by omega)]
  unfold zW;rw[Lk (by intro h;rcases h with h | h;exact h lq;exact lJ h),Lk (by rw[xK.2 By];simp)];obtain⟨u,hu,_,_⟩:=ap (by omega);rw[Lk (by have:=hu.1;omega),Lm]
  -- what is reached lies in one execution
  have lZ:∀a,a<i->yc ((zA p).vs.take i) a=yc (zA p).vs a:=fun a ha=>Za ha
  let S:Nat->Prop:=fun a=>∃k' q':Nat,k'<=y.2.length/\q'<N/\((a:Nat):Int)=(kQ du p.t.n.toNat (yf p y.1) y.2 k').getD q' 0
  have TV:gD ((zA p).vs.take i):=fun a ha b hb=>by
   have eJ:a<i/\a<(zA p).vs.length:=by rw[Ng] at ha;omega
   rw[lZ a eJ.1,qt eJ.2] at hb;obtain⟨g1,j,hj,g2,rfl⟩:=qI.1 hb;rcases iw a eJ.2 with h | h
   . omega
   . rcases h j hj with h | ⟨u,h1,_⟩
     . omega
     . have:=h1.lt;rw[Ng] at this;omega
  have BE:∀w k' q',k'<=y.2.length->q'<N->w=fV du p.t.n.toNat (yf p y.1) y.2 k' q'->∀b,b∈yK w->S b:=fun w k' q' cX hq' ew b hb=>by
   obtain⟨g1,j,hj,g2,rfl⟩:=qI.1 hb
   cases k' with
   | zero=>rw[ew] at g1;exact absurd g1 (by show ¬(0:Int)<0;omega)
   | succ k'=>
    have hh:=fV_h du p.t.n.toNat (yf p y.1) y.2 k' q' j hj;rw[<-ew] at hh;rcases hh with hh | ⟨h1,h2⟩
    . omega
    . exact⟨k',j,by omega,by omega,by omega⟩
  have hS:∀a,a<((zA p).vs.take i).length->S a->∀b,b∈yK (yc ((zA p).vs.take i) a)->S b:=fun a ha T4 b hb=>by
   have eJ:a<i:=by rw[Ng] at ha;omega
   obtain⟨k',q',h1,h2,h3⟩:=T4;rw[lZ a eJ] at hb;refine BE _ k' q' h1 h2 ?_ b hb;have h4:=j6 (bn k' q' h1 h2);rw[<-h3,Lu] at h4;exact h4
  have bP:∀x,x∈yE ((zA p).vs.take i) (yK v)->S x/\x<i:=fun x hx=>by
   obtain⟨g1,c',Me,SF⟩:=kN.1 hx;have T0:=BE v k q hk (by omega) e c' Me
   have F6:c'<((zA p).vs.take i).length:=by
    obtain⟨g1,j,hj,g2,rfl⟩:=qI.1 Me;rcases mr with h | h
    . exact absurd h lJ
    . rcases h j hj with h | ⟨u,h1,_⟩
      . omega
      . have:=h1.lt;omega
   exact⟨jN TV hS F6 T0 SF,by rw[Ng] at g1;omega⟩
  refine YY ?_;refine List.Pairwise.imp_of_mem (fun {a b} ha hb hab=>?_) (pastL_lt _ _);obtain⟨⟨k1,q1,a1,a2,a3⟩,a4⟩:=bP a ha;obtain⟨⟨k2,q2,b1,b2,b3⟩,b4⟩:=bP b hb;unfold uk;rw[decide_eq_false_iff_not];rintro⟨e1,e2⟩;rw[lZ a a4,lZ b b4] at e1 e2;have h4:=j6 (bn k1 q1 a1 a2);rw[<-a3,Lu] at h4;have h5:=j6 (bn k2 q2 b1 b2);rw[<-b3,Lu] at h5;rw[h4,h5,(wL ..).1,(wL ..).1] at e1;rw[h4,h5,(wL ..).2,(wL ..).2] at e2;obtain rfl:q1=q2:=by omega
  obtain rfl:k1=k2:=by omega
  rw[<-b3] at a3;omega
 unfold jL;rw[hg,Lk (by rw[F8];simp),Lk];intro hm;obtain⟨a,ha,ea⟩:=Nf hm;rw[List.getElem_take] at ea;have eJ:a<i:=by rw[Ng] at ha;omega
 have cN:i<(zl p (zj p)).1.length:=hi;have:=gW f3 (show a<(zl p (zj p)).1.length by omega) cN (ea.trans hv.symm);omega
end
section
open Go.RowKit
theorem vD{vs:List Vw}:∀ {l:List Nat},kG vs l=Ar↔∀a b,b<a->a<l.length->uk vs (l.getD b 0) (l.getD a 0)=As
 | []=>by simp[kG]
 | x::l=>by
  have ih:=vD (vs:=vs) (l:=l);simp only[kG,Bool.and_eq_true,List.all_eq_true,Bool.not_eq_true',ih];constructor
  . rintro⟨h1,h2⟩ a b hb ha
    cases a with
    | zero=>omega
    | succ a=>
     simp at ha
     cases b with
     | zero=>
      simp only[List.getD_cons_zero,List.getD_cons_succ];refine h1 _ ?_;rw[Lg,Lj ha];exact Le ha
     | succ b=>
      simp only[List.getD_cons_succ];exact h2 a b (by omega) ha
  . intro h
    refine⟨fun y hy=>?_,fun a b hb ha=>?_⟩
    . obtain⟨j,hj,rfl⟩:=NB.1 hy
      have:=h (j+1) 0 (by omega) (by simp;omega);simpa[hj] using this
    . have:=h (a+1) (b+1) (by omega) (by simp;omega)
      simpa using this
end
section
def ascN(n:Nat)(p:Nat->Bool):List Nat:=(List.range n).filter p
def zt(l:List Nat):List Int:=l.map fun k:Nat=>(k:Int)
def asc(n:Nat)(p:Nat->Bool):List Int:=zt (ascN n p)
theorem qJ{l:List Nat}{k:Nat}:((k:Int)∈zt l)↔k∈l:=by
 unfold zt;rw[LZ];constructor
 . rintro⟨a,ha,e⟩
   have:a=k:=by omega
   subst this;exact ha
 intro h;exact⟨k,h,rfl⟩
theorem QD(n:Nat)(p:Nat->Bool):(asc n p).length<=n:=by
 unfold asc zt ascN;rw[LT];exact LE (NW _ _) (by simp)
theorem zu(l:List Nat):(zt l).length=l.length:=by simp[zt]
theorem wg(vs:List Vw)(l:List Nat):(zt (yE vs l)).length<=vs.length:=QD _ _
end
section
open Go.RowKit
theorem keep10{W0 X:Ba}{B g b o0 o1 o2 o3 o4 o5 o6 o7:Nat}{u0 u1 u2 u3 u4 u5 u6 u7 u8 u9:Aq}(hb:Am B W0 X)(hg:g<B)(aL:b<B)
  (h:W0.cell? ⟨g,0,Z⟩=J u0/\W0.cell? ⟨g,1,Z⟩=J u1/\W0.cell? ⟨b,o0,Z⟩=J u2/\W0.cell? ⟨b,o1,Z⟩=J u3/\W0.cell? ⟨b,o2,Z⟩=J u4 /\
   W0.cell? ⟨b,o3,Z⟩=J u5/\W0.cell? ⟨b,o4,Z⟩=J u6/\W0.cell? ⟨b,o5,Z⟩=J u7/\W0.cell? ⟨b,o6,Z⟩=J u8/\W0.cell? ⟨b,o7,Z⟩=J u9) :
  X.cell? ⟨g,0,Z⟩=J u0/\X.cell? ⟨g,1,Z⟩=J u1/\X.cell? ⟨b,o0,Z⟩=J u2/\X.cell? ⟨b,o1,Z⟩=J u3/\X.cell? ⟨b,o2,Z⟩=J u4 /\
   X.cell? ⟨b,o3,Z⟩=J u5/\X.cell? ⟨b,o4,Z⟩=J u6/\X.cell? ⟨b,o5,Z⟩=J u7/\X.cell? ⟨b,o6,Z⟩=J u8/\X.cell? ⟨b,o7,Z⟩=J u9:=by
 obtain⟨h0,h1,h2,h3,h4,h5,h6,h7,h8,h9⟩:=h;exact⟨(hb.cell hg).trans h0,(hb.cell hg).trans h1,(hb.cell aL).trans h2,(hb.cell aL).trans h3,(hb.cell aL).trans h4,(hb.cell aL).trans h5,(hb.cell aL).trans h6,(hb.cell aL).trans h7,(hb.cell aL).trans h8,(hb.cell aL).trans h9⟩
theorem wR(v:Vw):zt (yK v)=(yL v).map (·.2):=by
 unfold zt yK;rw[Rf];refine Rs fun x hx=>?_
 obtain⟨_,q,_,rfl,h0⟩:=qT.1 hx;simp;omega
theorem vH(v:Vw)(k:Nat)(hk:k<5)(w:Ba):(Instr.index 43 (Ai #[O U v.h0,O U v.h1,O U v.h2,O U v.h3,O U v.h4]) (O U (k:Int))).run Al w=.ok (O U (v.h k)) w:=by
 obtain rfl | rfl | rfl | rfl | rfl:k=0\/k=1\/k=2\/k=3\/k=4:=by omega
 all_goals kernel_rfl
theorem begE_out{n:Int}{v:Vw}(h:v.p<0\/n<=v.p\/v.r<0\/6<v.r\/(v.r=0/\(v.i<0\/8<=v.i))):xb n v=2:=by
 unfold xb;rw[Lm (by simpa[xm] using h)]
theorem begE_form{n:Int}{v:Vw}(h:xm n v=As)(h2:0<v.r/\v.i≠0):xb n v=3:=by
 unfold xb;rw[Lk (by simp[h]),Lm h2]
theorem Xb{n:Int}{v:Vw}(h:xm n v=As){k:Nat}(hk:k<5)(h2:qY n v k=Ar):xb n v=3:=by
 unfold xb;rw[Lk (by simp[h])]
 split
 . rfl
 rw[Lm (NC.2 ⟨k,by simpa using hk,h2⟩)]
theorem Zq{n:Int}{v:Vw}(h:xm n v=As)(h2:¬(0<v.r/\v.i≠0))(h3:∀j,j<5->qY n v j=As):xb n v=0:=by
 unfold xb
 rw[Lk (by simp[h]),Lk h2,Lk (by
  rw[NC];rintro⟨j,hj,hb⟩;rw[h3 j (by simpa using hj)] at hb
  cases hb)]
theorem gA(n:Int)(v:Vw)(w:Ba)(h1:v.p<0\/n<=v.p\/v.r<0\/6<v.r\/(v.r=0/\(v.i<0\/8<=v.i))) :
  An Al 134 #[O U n,.agg v.cells] w fun e w'=>e=Ak (O U (xb n v))/\Am w.heap.size w w':=by
 have H:Ap (xb n v=2):=begE_out h1;have HB:=zw w;unfold Vw.cells;go_enter RH,Rw;go_wp2
 all_goals (try (exfalso;omega))
 all_goals
  go_ret;exact⟨zc H.out.symm,HB _⟩
theorem wW(n:Int)(v:Vw)(w:Ba)(pw:0<=v.p)(Bo:v.p<n)(_hr1:v.r<=6)(hr:v.r=0)(BJ:0<=v.i)(hi1:v.i<8) :
  An Al 134 #[O U n,.agg v.cells] w fun e w'=>e=Ak (O U (xb n v))/\Am w.heap.size w w':=by
 have eh:Ap (xm n v=As):=by show xm n v=As;simp[xm];omega
 have HB:=zw w;have ir:(v.r==0)=Ar:=by simp[hr]
 have lJ:v.r<=0:=by omega
 have SG:0<=v.r:=by omega
 have HR:=zH hr;clear hr;unfold Vw.cells;go_enter RH,Rw;go_wp2
 go_loop [49] (fun i=>∃k:Nat,k<=5/\i=O U k/\Ap (∀j:Nat,j<k->qY n v j=As)) (fun i=>5-(Ao i).toNat)
 case atStart=>exact⟨0,by omega,rfl,fun j hj=>by omega⟩
 obtain⟨k,hk,rfl,ai⟩:=hrel
 by_cases aa:k<5
 . have tw:=vH v k aa
   have aQ:Ap (qY n v k=decide (v.h k≠-1/\(v.r=0\/n<=(k:Int)))):=rfl
   by_cases hm:v.h k=-1
   . have nf:(v.h k != -1)=As:=by simp[hm]
     have HM:=zH hm;clear hm;go_wp2
     go_round
     case rel=>
      refine⟨k+1,by omega,by go_num,fun j hj=>?_⟩
      by_cases e:j=k
      . subst e;rw[aQ.out];simp[HM.out]
      exact ai.out j (by omega)
     simp[Ao];omega
   have nf:(v.h k != -1)=Ar:=by simpa using hm
   have HM:=zH hm;clear hm;go_wp2;go_ret;exact⟨zc (Xb eh.out aa (by rw[aQ.out];simp;exact⟨HM.out,Or.inl HR.out⟩)).symm,HB _⟩
 obtain rfl:k=5:=by omega
 go_wp2;go_ret;exact⟨zc (Zq eh.out (by have:=HR.out;omega) ai.out).symm,HB _⟩
theorem uy(n:Int)(v:Vw)(w:Ba)(pw:0<=v.p)(Bo:v.p<n)(pq:v.r<=6)(hr:0<v.r)(hi:v.i=0) :
  An Al 134 #[O U n,.agg v.cells] w fun e w'=>e=Ak (O U (xb n v))/\Am w.heap.size w w':=by
 have eh:Ap (xm n v=As):=by show xm n v=As;simp[xm];omega
 have HB:=zw w;have ir:(v.r==0)=As:=by simp;omega
 have cN:(v.i != 0)=As:=by simp[hi]
 have HI:=zH hi;clear hi;unfold Vw.cells;go_enter RH,Rw;go_wp2
 go_loop [49] (fun i=>∃k:Nat,k<=5/\i=O U k/\Ap (∀j:Nat,j<k->qY n v j=As)) (fun i=>5-(Ao i).toNat)
 case atStart=>exact⟨0,by omega,rfl,fun j hj=>by omega⟩
 obtain⟨k,hk,rfl,ai⟩:=hrel
 by_cases aa:k<5
 . have tw:=vH v k aa
   have aQ:Ap (qY n v k=decide (v.h k≠-1/\(v.r=0\/n<=(k:Int)))):=rfl
   by_cases hm:v.h k=-1
   . have nf:(v.h k != -1)=As:=by simp[hm]
     have HM:=zH hm;clear hm;go_wp2
     go_round
     case rel=>
      refine⟨k+1,by omega,by go_num,fun j hj=>?_⟩
      by_cases e:j=k
      . subst e;rw[aQ.out];simp[HM.out]
      exact ai.out j (by omega)
     simp[Ao];omega
   have nf:(v.h k != -1)=Ar:=by simpa using hm
   have HM:=zH hm;clear hm
   by_cases hq:n<=(k:Int)
   . go_wp2
     go_ret;exact⟨zc (Xb eh.out aa (by rw[aQ.out];simp;exact⟨HM.out,by omega⟩)).symm,HB _⟩
   go_wp2
   go_round
   case rel=>
    refine⟨k+1,by omega,by go_num,fun j hj=>?_⟩
    by_cases e:j=k
    . subst e;rw[aQ.out];simp;intro _;omega
    exact ai.out j (by omega)
   simp[Ao];omega
 obtain rfl:k=5:=by omega
 go_wp2;go_ret;exact⟨zc (Zq eh.out (by rw[HI.out];simp) ai.out).symm,HB _⟩
theorem wX(n:Int)(v:Vw)(w:Ba)(pw:0<=v.p)(Bo:v.p<n)(pq:v.r<=6)(hr:0<v.r)(hi:v.i≠0) :
  An Al 134 #[O U n,.agg v.cells] w fun e w'=>e=Ak (O U (xb n v))/\Am w.heap.size w w':=by
 have eh:xm n v=As:=by simp[xm];omega
 have H:Ap (xb n v=3):=begE_form eh ⟨hr,hi⟩;have HB:=zw w;have ir:(v.r==0)=As:=by simp;omega
 have cN:(v.i != 0)=Ar:=by simpa using hi
 clear eh hi;unfold Vw.cells;go_enter RH,Rw;go_wp2;go_ret;exact⟨zc H.out.symm,HB _⟩
theorem gB(n:Int)(v:Vw)(w:Ba) :
  An Al 134 #[O U n,.agg v.cells] w fun e w'=>e=Ak (O U (xb n v))/\Am w.heap.size w w':=by
 by_cases h1:v.p<0\/n<=v.p\/v.r<0\/6<v.r\/(v.r=0/\(v.i<0\/8<=v.i))
 . exact gA n v w h1
 by_cases hr:v.r=0
 . exact wW n v w (by omega) (by omega) (by omega) hr (by omega) (by omega)
 by_cases hi:v.i=0
 . exact uy n v w (by omega) (by omega) (by omega) (by omega) hi
 exact wX n v w (by omega) (by omega) (by omega) (by omega) hi
theorem clone_int(A:Bb)(cap:Nat)(xs:List Int)(w:Ba)(hA:IAt w w.heap.size A xs)(hl:xs.length<=1000000) :
  An Al 66 #[I A xs.length cap] w (ZZ xs w):=by
 have HT:=zH hA;clear hA;have q:∀(w:Ba) (a:Bb) (n c n' c':Nat),(binOp .eql 49 (I a n c) (I Z n' c')).run Al w=.ok (Ah a.isNone) w:=fun w a n c n' c'=>NX w _ _ a n c n' c' Ni
 obtain⟨i0,hi,cG,bQ,cB⟩:=Rc wu
 cases A with
 | none=>
  have im:xs=[]:=by
   rcases Np xs.length with h | h
   . exact LO h
   . obtain⟨b,off,e,_⟩:=HT.out h;cases e
  go_enter RY,RF;go_wp2;go_ret;exact⟨_,rfl,by rw[im];exact Own.nil _ _,Ln _ _⟩
 | some ad=>
  go_enter RY,RF;go_wp2_with (at_builtin;refine N0 _ rfl _ _ 49 rfl w.heap.size 3 i0 _ 1 8 Ni hi cG bQ cB rfl (by decide) _ _ _ rfl (N8 w #[] 0 (Lh _) (Nn _) rfl) ad xs.length cap (xs.map (O U)) rfl ?qc1 ?qc2 ?qc3 ?qc4 ?qc5 ?qc6 ?_)
  case qc1=>simp
  case qc2=>
   intro j u hj;obtain⟨x,hx,rfl⟩:∃x,xs[j]?=J x/\O U x=u:=by simpa using hj
   obtain⟨bf,rfl⟩:=Ll.1 hx;obtain⟨b,off,e,aa,hc⟩:=HT.out (by omega)
   cases e
   rw[NR];exact N4 _ (hc j bf)
  case qc3=>intro u hu;obtain⟨x,_,rfl⟩:=LZ.1 hu;rfl
  case qc4=>unfold maxLen;omega
  case qc5=>omega
  case qc6=>simp
  intro v' w1 ap aS mg;go_wp2;go_ret;refine⟨v',rfl,by unfold Own;simpa using ap,?_⟩;exact((Ln _ w).alloc (Lh _) _).grown aS (by simp) (by intro k hk;simp[Value.ownBlock] at hk;omega)
end
section
open Go.RowKit Go.Shelf
attribute [local go_sem] Oper.semAt_some
theorem vA(v:Vw)(w:Ba):An Al 67 #[.agg v.cells] w fun e w'=>
  e=Ak (.func (.func 106) #[] #[Aj (J ⟨w.heap.size,0,Z⟩)])/\w.alloc (Ag v.cells 100)=w':=by
 unfold Vw.cells;go_enter func67,ntmps67;go_wp2;go_ret;exact⟨rfl,rfl⟩
theorem YM(v:Vw)(k:Nat)(hk:k<5)(w:Ba):(Instr.index 43 (Ai #[O U v.h0,O U v.h1,O U v.h2,O U v.h3,O U v.h4]) (O U (k:Int))).run Al w=.ok (O U (v.h k)) w:=by
 obtain rfl | rfl | rfl | rfl | rfl:k=0\/k=1\/k=2\/k=3\/k=4:=by omega
 all_goals kernel_rfl
theorem uh(v:Vw)(bx:Nat)(w:Ba)(hb:w.heap[bx]?=J (Ag v.cells 100)) :
  Xf Al 106 #[Aj (J ⟨bx,0,Z⟩)] (fun x:Int×Int=>#[O U x.1,O U x.2]) (·=bx) (yL v) w:=fun n hn l Af Jx W hW hJ Ee hY h0=>by
 have aI:bx<w.heap.size:=(Lf.1 hb).1;have ce:W.heap[bx]?=J (Ag v.cells 100):=(hW.block bx aI).trans hb
 have cells:∀X:Ba,X.heap[bx]?=J (Ag v.cells 100)->∀k u,v.cells[k]?=J u->X.cell? ⟨bx,k,Z⟩=J u:=fun X hX k u hk=>by
  rw[cell_of_row X bx k _ _ _ hX];exact hk
 have row:∀X:Ba,X.heap[bx]?=J (Ag v.cells 100)->X.cell? ⟨bx,1,Z⟩=J (O U v.r):=fun X hX=>cells X hX 1 _ rfl
 have c3:W.cell? ⟨bx,3,Z⟩=J (O U v.h0):=cells W ce 3 _ rfl;have c4:W.cell? ⟨bx,4,Z⟩=J (O U v.h1):=cells W ce 4 _ rfl;have c5:W.cell? ⟨bx,5,Z⟩=J (O U v.h2):=cells W ce 5 _ rfl;have c6:W.cell? ⟨bx,6,Z⟩=J (O U v.h3):=cells W ce 6 _ rfl;have c7:W.cell? ⟨bx,7,Z⟩=J (O U v.h4):=cells W ce 7 _ rfl;have bC:=zH row;have HY:=zH hY;clear cells row hY;refine P4 func106 rfl trivial ?_ rfl;simp only[ntmps106,List.size_toArray,List.length_cons,List.length_nil,Nat.reduceAdd,Nat.reduceSub,Array.replicate_succ,Array.replicate_zero,List.push_toArray,List.append_toArray,List.nil_append,List.cons_append];gi_wp2
 gi_loopw [7] (fun p wr=>∃k:Nat,k<=5/\p=O U k/\∃pre:List { x:Int×Int // x∈yL v },pre.map (·.1)=yH v k/\Af pre wr/\wr.heap[bx]?=J (Ag v.cells 100)) (fun p _=>5-(Ao p).toNat)
 case atStart=>exact⟨0,by omega,rfl,[],by simp[yH],h0,ce⟩
 case round=>
  obtain⟨k,hk,rfl,pre,hp,dW,dB⟩:=hrel;clear c3 c4 c5 c6 c7 h0 ce hW hb
  by_cases aa:k<5
  . have tw:=YM v k aa
    have d1:=bC.out wr dB
    by_cases hc:0<v.r/\0<=v.h k
    . obtain⟨nr,iR⟩:=hc
      have hm:((k:Int),v.h k)∈yL v:=qT.2 ⟨nr,k,aa,rfl,iR⟩;have rp:=uf nr iR
      have aM:pre.length<(yL v).length:=by
       have h1:pre.length=(yH v k).length:=by rw[<-hp,LT]
       have h2:=(wz (v:=v) (k:=k+1) (m:=5) (by omega)).length_le;rw[rp] at h2;simp at h2;show _<(yH v 5).length;omega
      obtain⟨fn,tmps,assign,body,hy,hR⟩:=HY.out pre ⟨((k:Int),v.h k),hm⟩ wr dW aM;dsimp only at hy;have Hy:=zH rp;have Hp:=zH hp;have HR:=zH hR;clear rp hp hR;gi_wp2_with fail;refine HR.out.mono ?_;rintro e W3 (⟨rfl,oK,eo⟩ | ⟨rfl,fa⟩)
      . have ak:W3.heap[bx]?=J (Ag v.cells 100):=(eo.same bx rfl (Lf.1 dB).1).trans dB
        gi_wp2_with fail
        go_roundw
        case rel=>exact⟨k+1,by omega,by go_num,_,by rw[Hy.out,LN,Hp.out];rfl,oK,ak⟩
        case measure=>simp[Ao];omega
      . gi_wp2_with fail
        refine LP (PE rfl _ _ _) rfl ?_;exact⟨⟨_,rfl⟩,.inr ⟨_,by rw[LN,Hp.out];show _++[((k:Int),v.h k)] <+: _;rw[<-Hy.out];exact wz (by omega),fa⟩⟩
    . have eF:=ww hc
      have Hn:=zH eF;have Hp:=zH hp;clear eF hp
      by_cases hr:0<v.r
      . have hq:¬0<=v.h k:=fun h=>hc ⟨hr,h⟩
        clear hc;gi_wp2_with fail;refine⟨fun _ h=>trivial,?_⟩;gi_wp2_with fail
        go_roundw
        case rel=>exact⟨k+1,by omega,by go_num,pre,by rw[Hn.out,Hp.out],dW,dB⟩
        case measure=>simp[Ao];omega
      . clear hc
        gi_wp2_with fail;refine⟨fun _ h=>trivial,?_⟩;gi_wp2_with fail
        go_roundw
        case rel=>exact⟨k+1,by omega,by go_num,pre,by rw[Hn.out,Hp.out],dW,dB⟩
        case measure=>simp[Ao];omega
  . obtain rfl:k=5:=by omega
    have Hp:=zH hp;clear hp;gi_wp2_with fail
    go_end0
    exact⟨⟨_,rfl⟩,.inl ⟨pre,Hp.out,dW⟩⟩
end
section
open Go.RowKit
def jP(x:Int×Int):Aq:=Ai #[O U x.1,O U x.2]
theorem pl_inj(a b:Int×Int)(h:jP a=jP b):a=b:=by
 injection h with h
 obtain⟨a0,a1⟩:=a;obtain⟨b0,b1⟩:=b;simpa using h
open Classical in
theorem gS:KeyOk Al 214 jP where
 inj:=pl_inj
 check:=fun w em v=>by
  have hu:Al.underlying 214=J (.struct (Al.fieldsOf 214)):=by kernel_rfl
  have hf : (Al.fieldsOf 214).toList.map (fun f => (f.name, f.type, f.offset)) = [("proc", 3, 0), ("round", 3, 1)] := by kernel_rfl
  have p0:=fun x0 x1=>zL #[x0,x1] 0 x0 rfl w
  have p1:=fun x0 x1=>zL #[x0,x1] 1 x1 rfl w
  unfold Instr.checkKey jP;simp only[Sem.run_bind,run_underlying hu,Result.andThen_ok];rw[<-Array.forIn_toList]
  generalize (Al.fieldsOf 214).toList=fs at hf
  obtain⟨f0,f1,rfl⟩:∃f0 f1,fs=[f0,f1]:=by
   have hl:fs.length=2:=by simpa using congrArg List.length hf
   rcases fs with _ | ⟨f0,_ | ⟨f1,_ | ⟨f2,r⟩⟩⟩<;>simp at hl
   exact⟨_,_,rfl⟩
  clear hu;simp only[List.map_cons,List.map_nil,List.cons.injEq,Prod.mk.injEq,and_true] at hf;obtain⟨⟨n0,t0,o0⟩,⟨n1,t1,o1⟩⟩:=hf;simp only[List.forIn_cons,List.forIn_nil,n0,n1,t0,t1,o0,o1,p0,p1,Sem.run_bind,Result.andThen_ok,vE,ne_eq,String.reduceEq,not_false_eq_true,if_true,Sem.run_pure]
 equal:=fun w a b=>by
  have hu:Al.underlying 214=J (.struct (Al.fieldsOf 214)):=by kernel_rfl
  have hi:Al.underlying 3=J (.int U):=LB;have hf : (Al.fieldsOf 214).toList.map (fun f => (f.name, f.type, f.offset)) = [("proc", 3, 0), ("round", 3, 1)] := by kernel_rfl
  have p0:=fun x0 x1=>zL #[x0,x1] 0 x0 rfl w
  have p1:=fun x0 x1=>zL #[x0,x1] 1 x1 rfl w
  unfold Op.equal Op.maxDepth jP;rw[Pn w 9999 214 _ _ hu (by kernel_rfl)]
  generalize (Al.fieldsOf 214).toList=fs at hf
  obtain⟨f0,f1,rfl⟩:∃f0 f1,fs=[f0,f1]:=by
   have hl:fs.length=2:=by simpa using congrArg List.length hf
   rcases fs with _ | ⟨f0,_ | ⟨f1,_ | ⟨f2,r⟩⟩⟩<;>simp at hl
   exact⟨_,_,rfl⟩
  clear hu;simp only[List.map_cons,List.map_nil,List.cons.injEq,Prod.mk.injEq,and_true] at hf;obtain⟨⟨n0,t0,o0⟩,⟨n1,t1,o1⟩⟩:=hf
  have hd:(@decide (Ai #[O U a.1,O U a.2]=Ai #[O U b.1,O U b.2]) (propDecidable _))=(a.1==b.1&&a.2==b.2):=by
   rw[NH];simp
  rw[hd]
  cases h0:(a.1==b.1)<;>cases h1:(a.2==b.2) <;>
   simp only[Op.eqFields,n0,n1,t0,t1,o0,o1,p0,p1,Sem.run_bind,Result.andThen_ok,run_equalIn_int w _ 3 _ _ _ _ hi,h0,h1,ne_eq,not_false_eq_true,if_true,Bool.not_false,Bool.not_true,Bool.false_eq_true,if_false,Sem.run_pure,Bool.true_and,Bool.false_and,String.reduceEq]
 now:=fun d hd=>.inr fun a b=>by
  have hu:Al.underlying 214=J (.struct (Al.fieldsOf 214)):=by kernel_rfl
  rw[hu] at hd
  cases hd
  simp[Instr.sameNow]
 stays:=fun a=>by simp[Instr.sameBits,jP]
 kind := ⟨_, by have hu : Al.underlying 214 = J (.struct (Al.fieldsOf 214)) := by kernel_rfl
                exact hu⟩
end
section
open Go.RowKit
structure DfsInv(vs:List Vw)(fs am bN:List Nat):Prop where
 from_:∀c,c∈fs->c∈am\/c∈bN
 kids_:∀x,x∈am->∀c,c∈yK (yc vs x)->c∈am\/c∈bN
 good:∀x,x∈am\/x∈bN->x<vs.length/\∃c,c∈fs/\qE vs c x=Ar
 nodup:am.Nodup
 len:bN.length<=5*am.length+fs.length
theorem xW(v:Vw):(yK v).length<=5:=by
 unfold yK yL yH;rw[LT]
 split
 . exact LE (List.length_filterMap_le _ _) (by simp)
 simp
theorem wk:∀(n:Nat) (l:List Nat),l.Nodup->(∀x,x∈l->x<n)->l.length<=n
 | 0,l,_,h=>by
  cases l with
  | nil=>simp
  | cons a l=>have:=h a (by simp);omega
 | n+1,l,hd,h=>by
  have h1:(l.erase n).length<=n:=wk n (l.erase n) (hd.erase n) fun x hx=>by
   have h2:=h x (List.mem_of_mem_erase hx);have h3:x≠n:=fun e=>by subst e;exact(List.Nodup.not_mem_erase hd) hx
   omega
  have:=List.le_length_erase (l:=l) (a:=n);omega
theorem DfsInv.start{vs:List Vw}{fs:List Nat}(h:∀c,c∈fs->c<vs.length):DfsInv vs fs [] fs:=
 ⟨fun c hc=>.inr hc,fun x hx=>absurd hx (by simp),fun x hx=>⟨h x (by simpa using hx),x,by simpa using hx,jm vs x⟩,List.nodup_nil,by simp⟩
theorem DfsInv.skip{vs:List Vw}{fs am bN:List Nat}{i:Nat}(h:DfsInv vs fs am (bN++[i]))(hi:i∈am):DfsInv vs fs am bN where
 from_:=fun c hc=>by
  rcases h.from_ c hc with h1 | h1
  . exact .inl h1
  . rcases LM.1 h1 with h2 | h2
    . exact .inr h2
    . obtain rfl:c=i:=by simpa using h2
      exact .inl hi
 kids_:=fun x hx c hc=>by
  rcases h.kids_ x hx c hc with h1 | h1
  . exact .inl h1
  . rcases LM.1 h1 with h2 | h2
    . exact .inr h2
    . obtain rfl:c=i:=by simpa using h2
      exact .inl hi
 good:=fun x hx=>h.good x (by rcases hx with h1 | h1<;>simp[h1])
 nodup:=h.nodup
 len:=by have:=h.len;simp at this;omega
theorem DfsInv.push{vs:List Vw}(ha:gD vs){fs am bN:List Nat}{i:Nat}(hf:∀c,c∈fs->c<vs.length)(h:DfsInv vs fs am (bN++[i]))(hi:i∉am):DfsInv vs fs (i::am) (bN++yK (yc vs i)) where
 from_:=fun c hc=>by
  rcases h.from_ c hc with h1 | h1
  . exact .inl (by simp[h1])
  . rcases LM.1 h1 with h2 | h2
    . exact .inr (by simp[h2])
    . obtain rfl:c=i:=by simpa using h2
      exact .inl (by simp)
 kids_:=fun x hx c hc=>by
  rcases LF.1 hx with rfl | hx
  . exact .inr (by simp[hc])
  . rcases h.kids_ x hx c hc with h1 | h1
    . exact .inl (by simp[h1])
    . rcases LM.1 h1 with h2 | h2
      . exact .inr (by simp[h2])
      . obtain rfl:c=i:=by simpa using h2
        exact .inl (by simp)
 good:=fun x hx=>by
  have KZ:=h.good i (by simp);rcases hx with h1 | h1
  . rcases LF.1 h1 with rfl | h1
    . exact KZ
    . exact h.good x (.inl h1)
  . rcases LM.1 h1 with h1 | h1
    . exact h.good x (.inr (by simp[h1]))
    . obtain⟨hl,c,hc,hr⟩:=KZ
      exact⟨by have:=ha i hl x h1;omega,c,hc,XH ha (hf c hc) hr h1⟩
 nodup:=Pd.2 ⟨hi,h.nodup⟩
 len:=by have:=h.len;have:=xW (yc vs i);simp at *;omega
theorem DfsInv.small{vs:List Vw}{fs am bN:List Nat}(h:DfsInv vs fs am bN):am.length<=vs.length/\bN.length<=5*vs.length+fs.length:=by
 have h1:=wk vs.length am h.nodup fun x hx=>(h.good x (.inl hx)).1
 have:=h.len;omega
theorem DfsInv.room{vs:List Vw}{fs am bN:List Nat}{i:Nat}(h:DfsInv vs fs am (bN++[i]))(hi:i∉am):am.length<vs.length:=by
 have:=wk vs.length (i::am) (Pd.2 ⟨hi,h.nodup⟩) fun x hx=>by
  rcases LF.1 hx with rfl | hx
  . exact(h.good _ (by simp)).1
  . exact(h.good x (.inl hx)).1
 simp at this;omega
theorem DfsInv.done{vs:List Vw}(ha:gD vs){fs am:List Nat}(hf:∀c,c∈fs->c<vs.length)(h:DfsInv vs fs am [])(x:Nat)(_hx:x<vs.length):decide (x∈am)=fs.any fun c=>qE vs c x:=by
 rw[NH];simp only[decide_eq_true_eq,List.any_eq_true];constructor
 . intro hs
   obtain⟨_,c,hc,hr⟩:=h.good x (.inl hs);exact⟨c,hc,hr⟩
 rintro⟨c,hc,hr⟩;have bl:c∈am:=by simpa using h.from_ c hc
 exact jN ha (S:=fun y=>y∈am) (fun y _ hy k hk=>by simpa using h.kids_ y hy k hk) (hf c hc) bl hr
def xG(am:List Nat)(k:Nat):List Int:=zt ((List.range k).filter fun x=>decide (x∈am))
theorem Xt{am:List Nat}{k:Nat}(h:k∈am):xG am (k+1)=xG am k++[(k:Int)]:=by simp[xG,zt,List.range_succ,List.filter_append,h]
theorem Jy{am:List Nat}{k:Nat}(h:k∉am):xG am (k+1)=xG am k:=by simp[xG,zt,List.range_succ,List.filter_append,h]
theorem gd(am:List Nat)(k:Nat):(xG am k).length<=k:=by
 unfold xG;rw[zu];exact LE (NW _ _) (by simp)
theorem DfsInv.result{vs:List Vw}(ha:gD vs){fs am:List Nat}(hf:∀c,c∈fs->c<vs.length)(h:DfsInv vs fs am []):xG am vs.length=zt (yE vs fs):=by
 unfold xG yE
 congr 1
 exact List.filter_congr fun x hx=>h.done ha hf x (by simpa using hx)
structure Non(B:Nat)(w W:Ba):Prop where
 below:Am B w W
 same:∀(k:Nat) (o:Obj),w.heap[k]?=J o->o.isCells=As->W.heap[k]?=J o
theorem Non.refl(B:Nat)(w:Ba):Non B w w:=⟨Ln _ _,fun _ _ h _=>h⟩
theorem Non.trans{B:Nat}{w W X:Ba}(h:Non B w W)(k:Non B W X):Non B w X:=⟨h.below.trans k.below,fun i o hi ho=>k.same i o (h.same i o hi ho) ho⟩
theorem Non.of_grown{B:Nat}{w W:Ba}{row:Option Nat}(hg:w.grownBy W row)(hB:B<=w.heap.size)(hr:∀r,row=J r->B<=r/\∀o,w.heap[r]?=J o->o.isCells=Ar):Non B w W:=
 ⟨(Ln B w).grown hg hB fun k hk=>(hr k hk).1,fun k o hk ho=>(hg.block k (Lf.1 hk).1 (fun e=>by have:=(hr k e.symm).2 o hk;rw[ho] at this;cases this)).trans hk⟩
theorem Non.turn{B:Nat}{w W X:Ba}{row:Option Nat}(h:Non B w W)(hg:W.grownBy X row)(hB:B<=w.heap.size)(hr:∀r,row=J r->w.heap.size<=r):Non B w X:=
 ⟨h.below.grown hg (by have:=h.below.size;omega) (fun k hk=>by have:=hr k hk;omega),fun k o hk ho=>(hg.block k (Lf.1 (h.same k o hk ho)).1 (fun e=>by have:=hr k e.symm;have:=(Lf.1 hk).1;omega)).trans (h.same k o hk ho)⟩
theorem Non.marks{B B':Nat}{w W:Ba}{ds:List Deferred}(h:Marks B' ds w)(hn:Non B w W):Marks B' ds W:=by
 obtain⟨rs,rfl,hd,hk⟩:=h;exact⟨rs,rfl,hd,fun r hr=>⟨(hk r hr).1,hn.same r _ (hk r hr).2 rfl⟩⟩
end
section
open Go.RowKit Go.Shelf
theorem SetAt.non{w W:Ba}{B b:Nat}{S:List Int}(h:SetAt (O U) w b S)(hn:Non B w W):SetAt (O U) W b S:=by
 obtain⟨m,h⟩:=h;obtain⟨es,cF,hb,r⟩:=id h;exact⟨m,h.same ((hn.same b _ hb rfl).trans hb.symm)⟩
theorem own_cut{w:Ba}{base:Nat}{A:Bb}{n c:Nat}{xs:List Nat}{i:Nat}(h:Own w base (I A (n+1) c) (zt (xs++[i]))):Own w base (I A n c) (zt xs):=by
 obtain⟨h0,h⟩:=h
 have hn:xs.length=n:=by
  rcases h with ⟨e,_⟩ | ⟨g,cap,cur,e,_⟩
  . cases e
  simp only[Value.slice.injEq] at e;simp[zt] at e;omega
 subst hn;refine⟨by simp,?_⟩;rcases h with ⟨e,_⟩ | ⟨g,cap,cur,e,h1,h2,h3,h4,h5,h6⟩
 . cases e
 simp only[Value.slice.injEq] at e;obtain⟨rfl,_,rfl⟩:=e;refine .inr ⟨g,c,cur,by simp[zt],h1,h2,by simp[zt] at h3 ⊢;omega,h4,h5,?_⟩;have:=congrArg (List.take xs.length) h6;simp[zt,List.take_take] at this ⊢;rw[<-this]
theorem kI(w:Ba):(zeroValue 4).run Al w=.ok (Ah As) w:=by kernel_rfl
structure BoxW(B g:Nat)(xs:List Int)(w2 W:Ba):Prop where
 box:∃P c,W.heap[g]?=J (Ag #[I P xs.length c] 49 (0,0))/\Own W B (I P xs.length c) xs
 non:Non B w2 W
 rest:∀(k:Nat) (cs:Array Aq) (t:TypeId),w2.heap[k]?=J (Ag cs t (0,0))->t≠3->k≠g->W.heap[k]?=J (Ag cs t (0,0))
theorem BoxW.start{B g:Nat}{xs:List Int}{w2:Ba}{P:Bb}{c:Nat}(hb:w2.heap[g]?=J (Ag #[I P xs.length c] 49 (0,0)))(ho:Own w2 B (I P xs.length c) xs):BoxW B g xs w2 w2:=
 ⟨⟨P,c,hb,ho⟩,Non.refl _ _,fun _ _ _ h _ _=>h⟩
theorem BoxW.turn{B g:Nat}{xs:List Int}{w2 W W':Ba}{row:Option Nat}(h:BoxW B g xs w2 W)(hB:B<=w2.heap.size)(hg:W.grownBy W' row)(hr:∀r,row=J r->w2.heap.size<=r/\∃o:Obj,W.heap[r]?=J o/\o.isCells=As):BoxW B g xs w2 W':=by
 obtain⟨⟨P,c,hb,ho⟩,hn,fH⟩:=h;refine⟨⟨P,c,(LI hg (fun r e=>(hr r e).2) hb rfl).trans hb,ho.kept hg ?_⟩,hn.turn hg hB fun r e=>(hr r e).1,fun k cs t hk ht mo=>(LI hg (fun r e=>(hr r e).2) (fH k cs t hk ht mo) rfl).trans (fH k cs t hk ht mo)⟩
 by_cases e:(I P xs.length c).ownBlock=Z
 . exact .inl e
 obtain⟨r,e⟩:=R9.1 e;right;rw[e];intro e2;obtain⟨o,oh,bW⟩:=(hr r e2.symm).2;have:=(own_cells ho r e).2 o oh;rw[this] at bW;cases bW
theorem BoxW.own{B g:Nat}(iI:List Int){β:Type}{xs:List β}(f:β->Int){w2:Ba}(hB:B<=w2.heap.size):OwnFrom w2.heap.size (fun (pre:List { x:β // x∈xs }) W=>BoxW B g (iI++pre.map fun x=>f x.1) w2 W):=
 fun _ _ _ _ h hg hr=>h.turn hB hg hr
theorem BoxW.push{B g:Nat}{xs:List Int}{w2 W w1:Ba}{P:Bb}{c:Nat}{v':Aq}{u:Int}(h:BoxW B g xs w2 W)(hB:B<=g)(hb:W.heap[g]?=J (Ag #[I P xs.length c] 49 (0,0)))
  (ho:Own W B (I P xs.length c) xs) (oh:Own w1 B v' (xs++[u])) (hg:W.grownBy w1 (I P xs.length c).ownBlock) (bx:Nat) (cs:Array Aq) (rH:bx≠g) (aI:w2.heap[bx]?=J (Ag cs 100 (0,0))) :
  KeepsFrom w2.heap.size W (w1.setCell ⟨g,0,Z⟩ v')/\KeepB (·=bx) W (w1.setCell ⟨g,0,Z⟩ v')/\BoxW B g (xs++[u]) w2 (w1.setCell ⟨g,0,Z⟩ v'):=by
 have tP:B<=W.heap.size:=by have:=(Lf.1 hb).1;omega
 have eO:w1.heap[g]?=J (Ag #[I P xs.length c] 49 (0,0)):=(hg.block g (Lf.1 hb).1 (fun e=>own_type ho hb (by decide) e.symm)).trans hb;obtain⟨x6,O0,xo⟩:=set_box eO v';have nn:=grown_set eO v';have n1:Non B W w1:=Non.of_grown hg tP (own_cells ho);have n2:Non B w1 (w1.setCell ⟨g,0,Z⟩ v'):=Non.of_grown nn (by have:=hg.size;omega) (fun r e=>by cases e;exact⟨hB,fun o ho=>by rw[eO] at ho;cases ho;rfl⟩);have n3:=n1.trans n2
 have rest:∀(k:Nat) (cs:Array Aq) (t:TypeId),w2.heap[k]?=J (Ag cs t (0,0))->t≠3->k≠g->(w1.setCell ⟨g,0,Z⟩ v').heap[k]?=J (Ag cs t (0,0)):=fun k cs t hk ht mo=>by
  have h1:=h.rest k cs t hk ht mo;rw[xo k mo];exact(hg.block k (Lf.1 h1).1 (fun e=>own_type ho h1 ht e.symm)).trans h1
 refine⟨⟨n3.below.size,fun k o _ hk ho=>n3.same k o hk ho⟩,⟨n3.below.size,fun k e hl=>?_⟩,?_,h.non.trans n3,rest⟩
 . subst e
   have h1:=h.rest k cs _ aI (by decide) rH;rw[rest k cs _ aI (by decide) rH,h1]
 have bW:=oh.kept nn (.inr (own_type oh eO (by decide)));obtain⟨A2,c2,rfl,h1,h2,_⟩:=bW.form;exact⟨A2,c2,x6,bW⟩
end
section
open Go.RowKit Go.Shelf
attribute [local go_sem] Oper.semAt_some
theorem tablemap(w:Ba)(c1:Array Aq)(t1:TypeId):∃W0,(w.alloc (Ag c1 t1)).alloc (.map #[] 0)=W0/\W0.heap[w.heap.size]?=J (Ag c1 t1)/\SetAt (O U) W0 (w.heap.size+1) []/\W0.heap.size=w.heap.size+2/\Am w.heap.size w W0:=
 ⟨_,rfl,zC (ze _ _) _,by have:=SetAt.made (O U) (w.alloc (Ag c1 t1));rwa[LS] at this,by simp,(zw w _).trans ((Ln _ _).alloc (by simp) _)⟩
structure PastRel(w:Ba)(n:Int)(A:Bb)(cap:Nat)(vs:List Vw)(fs:List Nat)(g6:Nat)(m:Nat)(ds:List Deferred)(w':Ba)(am bN:List Nat)(P:Bb)(c:Nat):Prop where
 num:m=6*(vs.length-am.length)+bN.length
 box:w'.heap[g6]?=J (Ag #[I P bN.length c] 49 (0,0))
 own:Own w' w.heap.size (I P bN.length c) (zt bN)
 tab:w'.heap[w.heap.size]?=J (Ag #[O U n,I A vs.length cap] 33 (0,0))
 set_:SetAt (O U) w' (w.heap.size+1) (zt am)
 below:Am w.heap.size w w'
 marks:Marks w.heap.size ds w'
 inv:DfsInv vs fs am bN
theorem wh(n:Int)(A F:Bb)(cap oP:Nat)(vs:List Vw)(fs:List Nat)(w:Ba)(hT:TArg w A cap vs)(ha:gD vs)(hF:IAt w w.heap.size F (zt fs))(DN:∀c,c∈fs->c<vs.length)(LK:fs.length<=100) :
  An Al 28 #[Ai #[O U n,I A vs.length cap],I F fs.length oP] w (ZZ (zt (yE vs fs)) w):=by
 have dU:=@run_makeMap Al;refine yb func28 rfl ?_;simp only[ntmps28,List.size_toArray,List.length_cons,List.length_nil,Nat.reduceAdd,Nat.reduceSub,Array.replicate_succ,Array.replicate_zero,List.push_toArray,List.append_toArray,List.nil_append,List.cons_append];have HF:=zH hF;clear hF;go_wp2_with fail;obtain⟨W0,bg,b0,b1,bk,bh⟩:=tablemap w #[O U n,I A vs.length cap] 33;rw[bg];clear bg;have c0:=clone_int F oP (zt fs) W0 ((HF.out.keep bh).more (by omega)) (by rw[zu];omega);rw[zu] at c0;refine c0.mono ?_;rintro e W1 ⟨v0,rfl,ap,hb⟩;have d0:=Lb hb (by omega) b0;have d1:SetAt (O U) W1 (w.heap.size+1) []:=b1.kept hb (by omega);have dl:=ap.low (base':=w.heap.size) (by omega);have cz:Am w.heap.size w W1:=bh.trans (hb.mono (by omega));have aW:=hb.size;obtain⟨A0,k0,rfl,tI,iO,_⟩:=ap.form;clear c0 ap b0 b1 bh hb;go_wp2_with fail;obtain⟨g6,FV⟩:∃g6,g6=W1.heap.size:=⟨_,rfl⟩;have Ty:w.heap.size+2<=g6:=by omega
 have e6:(W1.alloc (Ag #[.slice A0 (zt fs).length k0] 49)).heap[g6]?=J (Ag #[.slice A0 (zt fs).length k0] 49 (0,0)):=by rw[FV];exact ze _ _
 have dx:PastRel w n A cap vs fs g6 (6*vs.length+fs.length) [] (W1.alloc (Ag #[.slice A0 (zt fs).length k0] 49)) [] fs A0 k0:=by
  rw[zu] at e6 dl ⊢;exact⟨by simp,e6,dl.alloc _,zC d0 _,d1.same (NJ _ _ _ d1.lt),cz.trans ((Ln _ _).alloc (by have:=cz.size;omega) _),Marks.nil _ _,DfsInv.start DN⟩
 rw[<-FV];have HT:=zH hT;clear e6 hT d0 d1 cz dl;refine wp_loop_ghost (fun (m:Nat) (a':Act) (w':Ba)=>∃(ds:List Deferred) (u7 u9 J' I' I9 I8 AA Az Ay Ax Aw Av I7 I6 I4 IZ IY IX IW IV IU IT IS IR IQ IP IN IM IL IK Au Aa IJ II:Aq),(∃am bN P c,PastRel w n A cap vs fs g6 m ds w' am bN P c)/\a'={ tmps:=#[Ai #[O U n,I A vs.length cap],I F fs.length oP,Aj (J ⟨w.heap.size,0,Z⟩),undef,I Z 0 0,.map (J (w.heap.size+1)),Aj (J ⟨g6,0,Z⟩),u7,undef,u9,undef,undef,.map (J (w.heap.size+1)),I F fs.length oP,J',I',I9,I8,AA,Az,Ay,Ax,Aw,Av,I7,I6,I4,IZ,IY,IX,IW,IV,IU,IT,IS,IR,IQ,IP,IN,IM,IL,IK,Au,Aa,IJ,II,undef,undef,undef,undef,undef,undef,undef,undef,undef,undef,undef,undef,undef,undef,undef],defers:=ds }) (6*vs.length+fs.length) ?_ ?_
 . exact⟨[],_,_,_,_,_,_,_,_,_,_,_,_,_,_,_,_,_,_,_,_,_,_,_,_,_,_,_,_,_,_,_,_,_,_,⟨[],fs,A0,k0,dx⟩,rfl⟩
 clear dx FV;rintro m a' wr ⟨ds,u7,u9,J',I',I9,I8,AA,Az,Ay,Ax,Aw,Av,I7,I6,I4,IZ,IY,IX,IW,IV,IU,IT,IS,IR,IQ,IP,IN,IM,IL,IK,Au,Aa,IJ,II,⟨am,bN,P,c,R⟩,rfl⟩;rcases List.eq_nil_or_concat bN with rfl | ⟨aO,i,rfl⟩
 . obtain⟨num,box,own,tab,set_,below,marks,inv⟩:=R
   simp only[List.length_nil] at box own num;have c6:=za box 0 rfl;have ct:=za tab 1 rfl;have BX:=zH box;have OW:=zH own;have TB:=zH tab;have BL:=zH below;have MK:=zH marks;have NU:=zH num;clear box own tab below marks num;go_wp2_with fail;have aM:=(inv.small).1;have df:=HT.out.few
   go_loopw [10,49] (fun o i pj=>∃k:Nat,k<=vs.length/\i=O U k/\Own pj w.heap.size o (xG am k)/\Non w.heap.size wr pj) (fun _ i _=>vs.length-(Ao i).toNat)
   case atStart => exact ⟨0, by omega, rfl, by have : xG am 0 = [] := by simp [xG, zt]
                                               rw[this];exact Own.nil _ _,Non.refl _ _⟩
   obtain⟨k,hk,rfl,ap,rG⟩:=hrel;clear c6 ct;have HO:=zH ap;have HN:=zH rG;have cr:=set_.non rG;have nh:=gd am k;clear ap rG
   by_cases aa:k<vs.length
   . have cy:=cr.look (t:=52) jT PT kI (k:Int)
     by_cases bP:k∈am
     . have hy:=zH (Xt bP)
       rw[Lo (qJ.2 bP)] at cy;clear bP;go_wp2_with (at_builtin;go_must (refine kh rfl _ _ rfl w.heap.size u10 _ (k:Int) rfl HO.out rfl (by omega) (LE BL.out.size HN.out.below.size) ?_);intro v' w1 aY dL aH)
       go_roundw
       case rel=>exact⟨k+1,by omega,by go_num,by rw[hy.out];exact aY,HN.out.trans (Non.of_grown dL (LE BL.out.size HN.out.below.size) (own_cells HO.out))⟩
       simp[Ao];omega
     have hy:=zH (Jy bP);rw[Lr (fun h=>bP (qJ.1 h))] at cy;clear bP;go_wp2_with fail
     go_roundw
     case rel=>exact⟨k+1,by omega,by go_num,by rw[hy.out];exact HO.out,HN.out⟩
     simp[Ao];omega
   obtain rfl:k=vs.length:=by omega
   have aR:=zH (inv.result ha DN);go_wp2_with fail;refine yd (HN.out.marks MK.out) (v:=u10) (fun W=>by kernel_rfl) ?_;intro W hS;refine⟨_,rfl,?_,(BL.out.trans HN.out.below).trans hS.below⟩;rw[<-aR.out];exact HO.out.shut hS
 simp only[List.concat_eq_append] at R;obtain⟨num,box,own,tab,set_,below,marks,inv⟩:=R;have tx:=(inv.good i (by simp)).1;obtain⟨A',c',e,nr,iR,Cv⟩:=own.form;simp only[Value.slice.injEq] at e;obtain⟨rfl,_,rfl⟩:=e;obtain⟨b,off,rfl,ce,aJ⟩:=Cv.at_ aO.length (by simp[zt]);have sd:(zt (aO++[i]))[aO.length]'(by simp[zt])=(i:Int):=by simp[zt]
 rw[sd] at aJ;clear sd Cv;rw[zu] at nr;simp only[List.length_append,List.length_cons,List.length_nil,Nat.zero_add] at box own num nr;have di:=inv.small;have df:=HT.out.few;simp only[List.length_append,List.length_cons,List.length_nil,Nat.zero_add] at di;unfold maxLen at iR;have c6:=za box 0 rfl;have ct:=za tab 1 rfl;have f6:=zb box 0;have l6:=zd box;have BX:=zH box;have OW:=zH own;have TB:=zH tab;have BL:=zH below;have MK:=zH marks;have NU:=zH num;have HI:=zH inv;clear box own tab below marks num inv;obtain⟨X,hX⟩:∃X,X=wr.setCell ⟨g6,0,Z⟩ (I (J ⟨b,off,Z⟩) aO.length c):=⟨_,rfl⟩;obtain⟨x6,xs,xo⟩:=set_box BX.out (I (J ⟨b,off,Z⟩) aO.length c);rw[<-hX] at x6 xs xo;have ee:=set_.same (w':=X) (xo _ (by omega));have cy:=ee.look (t:=52) jT PT kI (i:Int);have X6:=zH x6;have XS:=zH xs;have XO:=zH xo;have nn:wr.grownBy X (J g6):=by rw[hX];exact grown_set BX.out _
 have nK:Own X w.heap.size (I (J ⟨b,off,Z⟩) aO.length c) (zt aO):=by
  have h1:=OW.out.kept nn (.inr (own_type OW.out BX.out (by decide)));exact own_cut h1
 have Dq:Am w.heap.size w X:=BL.out.grown nn (by omega) (fun k hk=>by cases hk;omega);have Dp:Marks w.heap.size ds X:=MK.out.keep fun k hk=>(XO.out k (fun e=>by subst e;rw[BX.out] at hk;cases hk)).trans hk
 have nJ:=(XO.out _ (by omega)).trans TB.out;clear x6 xs xo set_ nn
 by_cases bP:i∈am
 . rw[Lo (qJ.2 bP),hX] at cy
   have Ss:=zH (HI.out.skip bP);have HX:=zH hX;have XR:Ap (PastRel w n A cap vs fs g6 (6*(vs.length-am.length)+aO.length) ds X am aO (J ⟨b,off,Z⟩) c):=⟨rfl,X6.out,nK,nJ,ee,Dq,Dp,Ss.out⟩;clear bP hX ee nK Dq Dp nJ;go_wp2_with fail;exact⟨6*(vs.length-am.length)+aO.length,by have:=NU.out;omega,ds,_,_,_,_,_,_,_,_,_,_,_,_,_,_,_,_,_,_,_,_,_,_,_,_,_,_,_,_,_,_,_,_,_,_,⟨am,aO,_,c,by rw[<-HX.out];exact XR.out⟩,rfl⟩
 have KF:=HI.out.room bP;have SJ:=zH (HI.out.push ha DN bP);rw[Lr (fun h=>bP (qJ.1 h)),hX] at cy;have XN:=zH nK;have XT:=zH nJ;have XM:=zH Dp;have XB:=zH Dq;have XE:=zH ee;have HX:=zH hX;clear bP hX ee nK Dq Dp nJ
 go_wp2_with (at_mapUpdate; refine qP _ rfl _ _ _ _ _ rfl jT underlying52 (w.heap.size + 1) (zt am) (by rw [← HX.out]; exact XE.out) (i : Int) rfl rfl rfl ?_; intro w1 pm dL
              rw[<-HX.out] at dL;have Vb:=za ((dL.block w.heap.size (zd XT.out) (by simp)).trans XT.out) 1 rfl;obtain⟨b',lU,rfl,aH,r0,r1,r2,r3,r4,r5,r6,r7⟩:=(HT.out.rows.keep (XB.out.grown dL (by have:=XB.out.size;omega) (fun k e=>by cases e;omega))).row i tx;have pV:=zH pm;have sH:=zH dL
              clear pm dL cy)
 have hh:=vA vs[i] w1;have aI:=ze w1 (Ag vs[i].cells 100)
 have W2:=zH (BoxW.start (B:=w.heap.size) (g:=g6) (xs:=zt aO) (w2:=w1.alloc (Ag vs[i].cells 100)) (P:=J ⟨b,off,Z⟩) (c:=c) (by
  rw[zu];exact zC ((sH.out.block g6 (zd X6.out) (by simp;omega)).trans X6.out) _) (by
  rw[zu];exact(XN.out.kept sH.out (by
   right;intro e;obtain⟨_,h⟩:=own_cells XN.out _ e;obtain⟨m,es,ck,hm,_⟩:=XE.out;have:=h _ hm;cases this)).alloc _))
 have M2:Ap (Marks w.heap.size ds (w1.alloc (Ag vs[i].cells 100))):=XM.out.keep fun k hk=>by
  obtain⟨m,es,ck,hm,_⟩:=XE.out;exact zC ((sH.out.block k (Lf.1 hk).1 (fun e=>by cases e;rw[hm] at hk;cases hk)).trans hk) _
 have B2:Ap (Am w.heap.size w (w1.alloc (Ag vs[i].cells 100))):=(XB.out.grown sH.out (by have:=XB.out.size;omega) (fun k e=>by cases e;omega)).trans ((Ln _ _).alloc (by have:=XB.out.size;have:=sH.out.size;omega) _);have S2:Ap (SetAt (O U) (w1.alloc (Ag vs[i].cells 100)) (w.heap.size+1) (zt (i::am))):=pV.out.same (NJ _ _ _ pV.out.lt);have T2:=zH (zC ((sH.out.block w.heap.size (zd XT.out) (by simp)).trans XT.out) (Ag vs[i].cells 100));have cD:w1.heap.size<(w1.alloc (Ag vs[i].cells 100)).heap.size:=by simp
 have dy:=uh vs[i] w1.heap.size _ aI;have Tx:g6<w1.heap.size:=LD (zd X6.out) sH.out.size;unfold Vw.cells at hh;refine hh.mono ?_;rintro e w2 ⟨rfl,ch⟩;have AM:w1.alloc (Ag vs[i].cells 100)=w2:=ch;rw[AM] at W2 M2 B2 S2 T2 cD dy aI;clear ch AM;have bG:w.heap.size<=w2.heap.size:=B2.out.size;have XX:=zH dy;have XY:=zH aI;clear hh dy aI r0 r1 r2 r3 r4 r5 r6 r7 Vb c6 f6 l6 ct aJ;go_wp2_with fail
 refine kg rfl (Pg func106 (by kernel_rfl) rfl) XX.out (by rintro k rfl;exact cD) (fun _=>rfl)
  (fun pre W=>BoxW w.heap.size g6 (zt aO++pre.map fun x=>x.1.2) w2 W) (fun _ _ _=>False) (BoxW.own (zt aO) (fun x:Int×Int=>x.2) bG) (fun _ _ _ _ _ h _ _=>h)
  (by rw[NF,L7];exact W2.out) ?a1 ?assign ?body ?done ?stop
 case assign=>
  intro l x W K hK;gi_wp2;exact hK
 case body=>
  intro l pre x W hI aa;have fl:(yL vs[i]).length<=5:=by have:=xW vs[i];simpa[yK] using this
  have fI:(zt aO++pre.map fun x=>x.1.2).length<=1000000:=by
   rw[Lp,zu,LT];omega
  have dh:zt aO++(pre++[x]).map (fun x=>x.1.2)=(zt aO++pre.map fun x=>x.1.2)++[x.1.2]:=by simp
  obtain⟨xs,lW⟩:∃xs,zt aO++pre.map (fun x=>x.1.2)=xs:=⟨_,rfl⟩;rw[lW] at hI fI;obtain⟨P2,c2,bZ,bW⟩:=hI.box;have q6:=za bZ 0 rfl;have mJ:=zH hI;have HO:=zH bW;have aN:=zH bZ;have HS:=zH dh;have Hd:=zH lW;clear hI bW bZ dh lW
  gi_wp2_with (gi_at_builtin; go_must (refine qv rfl _ _ rfl w.heap.size (I P2 xs.length c2) _ x.1.2 rfl HO.out rfl (by omega) (by have := zd aN.out; omega) ?_); intro v' w3 aY mv ak
               have iX:=(mv.block g6 (zd aN.out) (fun e=>own_type HO.out aN.out (by decide) e.symm)).trans aN.out;have q7:=za iX 0 rfl;have f7:=zb iX 0;have l7:=zd iX;obtain⟨A3,k3,rfl,Cz,tR,_⟩:=aY.form;have mH:=zH aY;have ta:=zH mv
               clear iX aY mv ak)
  obtain⟨r1,r2,r3⟩:=mJ.out.push (by omega) aN.out HO.out mH.out ta.out w1.heap.size _ (by omega) XY.out;simp only[List.length_append,List.length_cons,List.length_nil,Nat.zero_add] at r1 r2 r3;exact⟨r1,r2,by dsimp only;rw[HS.out,Hd.out];exact r3⟩
 case done=>
  intro D ys W hD dv hI dD;have hv:yc vs i=vs[i]:=qt tx
  have hl:zt aO++ys.map (fun x=>x.1.2)=zt (aO++yK (yc vs i)):=by
   rw[hv,show zt (aO++yK vs[i])=zt aO++zt (yK vs[i]) from by simp[zt],wR]
   have h2:ys.map (fun x=>x.1.2)=(yL vs[i]).map (·.2):=by
    have:=congrArg (List.map (fun x:Int×Int=>x.2)) dv;rw[<-this,Rf];rfl
   rw[h2]
  simp only[hl] at hI;obtain⟨P2,c2,bZ,bW⟩:=hI.box;rw[zu] at bZ bW;have cP:=xW (yc vs i);refine⟨6*(vs.length-(i::am).length)+(aO++yK (yc vs i)).length,by have:=NU.out;simp only[List.length_cons,List.length_append];omega,_,_,_,_,_,_,_,_,_,_,_,_,_,_,_,_,_,_,_,_,_,_,_,_,_,_,_,_,_,_,_,_,_,_,_,⟨i::am,aO++yK (yc vs i),P2,c2,⟨rfl,bZ,bW,hI.rest _ _ _ T2.out (by decide) (by omega),S2.out.non hI.non,B2.out.trans hI.non.below,M2.out.cons (hI.non.same · _ · rfl) bG hD dD,SJ.out⟩⟩,rfl⟩
 intro D c pre W _ _ h;exact h.elim
end
section
open Go.RowKit
theorem twoboxes(w:Ba)(c1 c2:Array Aq)(t1 t2:TypeId):∃W0,(w.alloc (Ag c1 t1)).alloc (Ag c2 t2)=W0/\W0.heap[w.heap.size]?=J (Ag c1 t1 (0,0))/\W0.heap[w.heap.size+1]?=J (Ag c2 t2 (0,0))/\W0.heap.size=w.heap.size+2/\Am w.heap.size w W0:=
 ⟨_,rfl,zC (ze _ _) _,by have:=ze (w.alloc (Ag c1 t1)) (Ag c2 t2);rwa[LS] at this,by simp,xk w _ _⟩
def xV(vs:List Vw)(l:List Nat)(out:List Int):List Int:=l.foldl (fun out x=>if (yc vs x).r=0 then out.set (yc vs x).p.toNat (yc vs x).i else out) out
theorem qU(vs:List Vw):∀(l:List Nat) (out:List Int),(xV vs l out).length=out.length
 | [],_=>rfl
 | x::l,out=>by
  have:=qU vs l (if (yc vs x).r=0 then out.set (yc vs x).p.toNat (yc vs x).i else out);unfold xV at *;rw[List.foldl_cons,this]
  split<;>simp
theorem Qb(vs:List Vw)(l:List Nat)(k:Nat)(hk:k<l.length)(out:List Int):xV vs (l.take (k+1)) out=if (yc vs l[k]).r=0 then (xV vs (l.take k) out).set (yc vs l[k]).p.toNat (yc vs l[k]).i else xV vs (l.take k) out:=by
 unfold xV;rw[PZ,Lj hk,RK]
 rfl
end
section
open Go.RowKit Go.Shelf
theorem wQ{n:Int}{vs:List Vw}{v:Vw}(h:xb n v≠0\/v.r=0):zW n vs v=xb n v:=by unfold zW;rw[Lm h]
theorem qu{n:Int}{vs:List Vw}{v:Vw}(h1:xb n v=0)(h2:v.r≠0)(h:yI (yn vs v) 5≠0):zW n vs v=yI (yn vs v) 5:=by
 unfold zW;rw[Lk (by simp[h1,h2]),Lm h]
theorem Qx{n:Int}{vs:List Vw}{v:Vw}(h1:xb n v=0)(h2:v.r≠0)(h:yI (yn vs v) 5=0)(hg:v.h v.p.toNat=-1):zW n vs v=20:=by
 unfold zW;rw[Lk (by simp[h1,h2]),Lk (by simp[h]),Lm hg]
theorem Y3{n:Int}{vs:List Vw}{v:Vw}(h1:xb n v=0)(h2:v.r≠0)(h:yI (yn vs v) 5=0)(hg:v.h v.p.toNat≠-1):zW n vs v=if kG vs (yE vs (yK v))=Ar then 0 else 22:=by
 unfold zW;rw[Lk (by simp[h1,h2]),Lk (by simp[h]),Lk hg]
theorem ZN{vs:List Vw}{v:Vw}(h:yI (yn vs v) 5=0):∀c,c∈yK v->c<vs.length:=fun c hc=>by
 obtain⟨_,q,hq,h0,rfl⟩:=qI.1 hc;exact(YI (xK.1 h q hq) (by omega)).2.1
def qc(vs:List Vw)(i:Nat):Int×Int:=((yc vs i).p,(yc vs i).r)
structure PlaceInv(vs:List Vw)(l:List Nat)(k:Nat)(S:List (Int×Int)):Prop where
 mem:∀p,p∈S↔∃j,j<k/\p=qc vs (l.getD j 0)
 apart:∀a b,b<a->a<k->uk vs (l.getD b 0) (l.getD a 0)=As
theorem PlaceInv.start(vs:List Vw)(l:List Nat):PlaceInv vs l 0 []:=⟨fun p=>by simp,fun a b _ h=>by omega⟩
theorem Zi{vs:List Vw}{a b:Nat}:uk vs a b=Ar↔qc vs a=qc vs b:=by
 unfold uk qc;simp[Prod.ext_iff]
theorem PlaceInv.step{vs:List Vw}{l:List Nat}{k:Nat}{S:List (Int×Int)}(h:PlaceInv vs l k S)(hn:qc vs (l.getD k 0)∉S):PlaceInv vs l (k+1) (qc vs (l.getD k 0)::S) where
 mem:=fun p=>by
  simp only[List.mem_cons,h.mem];constructor
  . rintro(rfl | ⟨j,hj,rfl⟩)
    . exact⟨k,by omega,rfl⟩
    . exact⟨j,by omega,rfl⟩
  . rintro⟨j,hj,rfl⟩
    by_cases e:j=k
    . subst e;exact .inl rfl
    . exact .inr ⟨j,by omega,rfl⟩
 apart:=fun a b hb ha=>by
  by_cases e:a=k
  . subst e
    cases hc:uk vs (l.getD b 0) (l.getD a 0) with
    | false=>rfl
    | true=>exact absurd ((h.mem _).2 ⟨b,hb,(Zi.1 hc).symm⟩) hn
  . exact h.apart a b hb (by omega)
theorem PlaceInv.bad{vs:List Vw}{l:List Nat}{k:Nat}{S:List (Int×Int)}(h:PlaceInv vs l k S)(hk:k<l.length)(hn:qc vs (l.getD k 0)∈S):¬kG vs l=Ar:=by
 intro hc;obtain⟨j,hj,e⟩:=(h.mem _).1 hn;have:=vD.1 hc k j hj hk;rw[Zi.2 e.symm] at this
 cases this
theorem PlaceInv.fine{vs:List Vw}{l:List Nat}{S:List (Int×Int)}(h:PlaceInv vs l l.length S):kG vs l=Ar:=vD.2 fun a b hb ha=>h.apart a b hb ha
end
section
open Go.RowKit Go.Shelf
attribute [local go_sem] Oper.semAt_some
theorem kr{w w':Ba}(h:Am w.heap.size w w'){row:Option Nat}:w.grownBy w' row:=⟨h.os,h.tape,h.output,h.size,fun k hk _=>h.block k hk⟩
theorem Qy(n:Nat)(A:Bb)(cap:Nat)(vs:List Vw)(v:Vw)(w:Ba)(hT:TArg w A cap vs)(hw:Wf (n:Int) vs) :
  An Al 105 #[Ai #[O U n,I A vs.length cap],.agg v.cells] w fun e w'=>e=Ak (O U (zW n vs v))/\Am w.heap.size w w':=by
 have dU:=@run_makeMap Al;have HT:=zH hT;have HW:=zH hw;have df:=hT.few;have F9:=v.cells_h;have lq:=gB n v;clear hT hw;refine yb func105 rfl ?_;simp only[ntmps105,List.size_toArray,List.length_cons,List.length_nil,Nat.reduceAdd,Nat.reduceSub,Array.replicate_succ,Array.replicate_zero,List.push_toArray,List.append_toArray,List.nil_append,List.cons_append];unfold Vw.cells at F9 lq ⊢;have Wy:=zH F9;clear F9;go_wp2_with fail;obtain⟨W0,bg,b0,b1,bk,bh⟩:=twoboxes w #[O U n,I A vs.length cap] v.cells 33 100;unfold Vw.cells at bg b1;rw[bg];clear bg;refine(lq W0).mono ?_;rintro e w1 ⟨rfl,hb⟩;have d0:=Lb hb (by omega) b0;have d1:=Lb hb (by omega) b1;have B1:Ap (Am w.heap.size w w1):=bh.trans (hb.mono (by omega));have l1:w.heap.size+1<w1.heap.size:=by have:=hb.size;omega
 clear lq b0 b1 bk bh hb;have c0:=za d0 1 rfl;have c1:=za d1 1 rfl;have D0:=zH d0;have D1:=zH d1;clear d0 d1
 by_cases ce:xb n v=0
 . have e0:(xb n v != 0)=As:=by simp[ce]
   by_cases hr:v.r=0
   . have e1:(v.r==0)=Ar:=by simp[hr]
     have hz:=zH (wQ (n:=n) (vs:=vs) (v:=v) (.inr hr));clear ce hr;go_wp2_with fail
     (try simp only[Exit.inBlock,Exit.then])
     refine yd (Marks.nil w.heap.size _) (v:=O U (xb n v)) (fun W=>by kernel_rfl) ?_;intro W hS;exact⟨zc hz.out.symm,B1.out.trans (hS.below)⟩
   have e1:(v.r==0)=As:=by simp[hr]
   have bU:=Jb ce;have HB:=zH ce;have HR:=zH hr;clear ce hr;have c3:=za D1.out 3 rfl;have c4:=za D1.out 4 rfl;have c5:=za D1.out 5 rfl;have c6:=za D1.out 6 rfl;have c7:=za D1.out 7 rfl;go_wp2_with fail
   go_loopw [29] (fun i wr=>∃k m:Nat,k<=5/\i=O U k/\wr=w1.drewN m/\Ap (yI (yn vs v) k=0)) (fun i _=>5-(Ao i).toNat)
   case atStart=>exact⟨0,0,by omega,rfl,rfl,rfl⟩
   obtain⟨k,m,hk,rfl,rfl,ai⟩:=hrel
   by_cases aa:k<5
   . have tw:=vH v k aa
     by_cases hm:v.h k=-1
     . have e2:(v.h k==-1)=Ar:=by simp[hm]
       have hz:Ap (yI (yn vs v) (k+1)=0):=by show yI (yn vs v) (k+1)=0;rw[kO ai.out];simp[yn,hm]
       clear hm;go_wp2_with fail
       go_roundw
       case rel=>exact⟨k+1,_,by omega,by go_num,rfl,hz⟩
       simp[Ao];omega
     have e2:(v.h k==-1)=As:=by simpa using hm
     by_cases hb:v.h k<0\/(vs.length:Int)<=v.h k
     · have hz : Ap (yI (yn vs v) 5 = 6) := by
        show yI (yn vs v) 5=6;have cz:yn vs v k=6:=by unfold yn;rw[Lk hm,Lm hb]
        rw[kz ai.out (by rw[cz];decide) aa,cz]
       clear hm;rcases hb with hb | hb
       . go_wp2_with fail
         (try simp only[Exit.inBlock,Exit.then])
         refine yd (Marks.nil w.heap.size _) (v:=O U 6) (fun W=>by kernel_rfl) ?_;intro W hS;exact⟨zc (by rw[qu HB.out HR.out (by rw[hz.out];decide),hz.out]),by first | exact(zF B1.out _).trans hS.below | exact(zF (zF B1.out _) _).trans hS.below⟩
       have aH:¬v.h k<0:=by omega
       go_wp2_with fail
       (try simp only[Exit.inBlock,Exit.then])
       refine yd (Marks.nil w.heap.size _) (v:=O U 6) (fun W=>by kernel_rfl) ?_;intro W hS;exact⟨zc (by rw[qu HB.out HR.out (by rw[hz.out];decide),hz.out]),by first | exact(zF B1.out _).trans hS.below | exact(zF (zF B1.out _) _).trans hS.below⟩
     obtain⟨j,hj⟩:=Lq (show 0<=v.h k by omega);have bf:j<vs.length:=by omega
     rw[hj] at tw e2
     have cy:yn vs v k=if vs[j].p≠(k:Int)\/vs[j].r≠v.r-1 then 22 else 0:=by
      unfold yn;rw[Lk hm,Lk (by omega),hj,Lu,qt bf]
     obtain⟨b,off,rfl,aH,r0,r1,_⟩:=(HT.out.rows.keep B1.out).row j bf;have ae:b<w1.heap.size:=by omega
     clear hb hm hj c3 c4 c5 c6 c7
     by_cases oe:vs[j].p=(k:Int)
     . by_cases ag:vs[j].r=v.r-1
       · have hz : Ap (yI (yn vs v) (k + 1) = 0) := by
          show yI (yn vs v) (k+1)=0;rw[kO ai.out,cy,Lk (by omega)]
         have e3:(vs[j].p != (k:Int))=As:=by simp[oe]
         have e4:(vs[j].r != v.r-1)=As:=by simp[ag]
         clear cy oe ag;go_wp2_with fail;go_quiet (fail);go_wp2_with fail
         go_roundw
         case rel=>exact⟨k+1,_,by omega,by go_num,rfl,hz⟩
         simp[Ao];omega
       have hz : Ap (yI (yn vs v) 5 = 22) := by
        show yI (yn vs v) 5=22;have cz:yn vs v k=22:=by rw[cy,Lm (.inr ag)]
        rw[kz ai.out (by rw[cz];decide) aa,cz]
       have e3:(vs[j].p != (k:Int))=As:=by simp[oe]
       have e4:(vs[j].r != v.r-1)=Ar:=by simpa using ag
       clear cy oe ag;go_wp2_with fail;go_quiet (fail);go_wp2_with fail
       (try simp only[Exit.inBlock,Exit.then])
       refine yd (Marks.nil w.heap.size _) (v:=O U 22) (fun W=>by kernel_rfl) ?_;intro W hS;exact⟨zc (by rw[qu HB.out HR.out (by rw[hz.out];decide),hz.out]),by first | exact(zF B1.out _).trans hS.below | exact(zF (zF B1.out _) _).trans hS.below⟩
     have hz : Ap (yI (yn vs v) 5 = 22) := by
      show yI (yn vs v) 5=22;have cz:yn vs v k=22:=by rw[cy,Lm (.inl oe)]
      rw[kz ai.out (by rw[cz];decide) aa,cz]
     have e3:(vs[j].p != (k:Int))=Ar:=by simpa using oe
     clear cy oe;go_wp2_with fail;go_quiet (fail);go_wp2_with fail
     (try simp only[Exit.inBlock,Exit.then])
     refine yd (Marks.nil w.heap.size _) (v:=O U 22) (fun W=>by kernel_rfl) ?_;intro W hS;exact⟨zc (by rw[qu HB.out HR.out (by rw[hz.out];decide),hz.out]),by first | exact(zF B1.out _).trans hS.below | exact(zF (zF B1.out _) _).trans hS.below⟩
   obtain rfl:k=5:=by omega
   obtain⟨wa,lH⟩:=Kh (w1.drewN m);have A0:Ap (wa.heap[w.heap.size]?=J (Ag #[O U n,I A vs.length cap] 33 (0,0))):=by rw[<-lH];exact D0.out
   have A1:Ap (wa.heap[w.heap.size+1]?=J (Ag v.cells 100 (0,0))):=by rw[<-lH];exact D1.out
   have AB:Ap (Am w.heap.size w wa):=by rw[<-lH];exact zF B1.out m
   have la:w.heap.size+1<wa.heap.size:=by rw[<-lH];exact l1
   rw[lH];clear lH c0 c1 c3 c4 c5 c6 c7 D0 D1 B1 l1;obtain⟨q,mZ⟩:=Lq bU.1;have Bj:q<5:=by have:=bU.2.1;have:=HW.out.2.1;omega
   have hq:=za A1.out (3+q) (v.cells_h q Bj);have c0:wa.cell? ⟨w.heap.size+1,0,Z⟩=J (O U (q:Int)):=by rw[<-mZ];exact za A1.out 0 rfl
   have HQ:=zH mZ;have Bh:v.p.toNat=q:=by omega
   by_cases hg:v.h q=-1
   . have e2:(v.h q==-1)=Ar:=by simp[hg]
     have hz:=zH (Qx HB.out HR.out ai.out (by rw[Bh];exact hg));clear hg mZ bU;go_wp2_with fail
     (try simp only[Exit.inBlock,Exit.then])
     refine yd (Marks.nil w.heap.size _) (v:=O U 20) (fun W=>by kernel_rfl) ?_;intro W hS;exact⟨zc (hz.out.symm),AB.out.trans hS.below⟩
   have e2:(v.h q==-1)=As:=by simpa using hg
   have hz:=zH (Y3 HB.out HR.out ai.out (by rw[Bh];exact hg));have cy:=ai.out;have hp:v.p=(q:Int):=mZ;have cP:=zH (ZN ai.out);have hh:=vA v;have v0:wa.cell? ⟨w.heap.size+1,0,Z⟩=J (O U v.p):=za A1.out 0 rfl;have v1:=za A1.out 1 rfl;have v2:=za A1.out 2 rfl;have v3:=za A1.out 3 rfl;have v4:=za A1.out 4 rfl;have v5:=za A1.out 5 rfl;have v6:=za A1.out 6 rfl;have v7:=za A1.out 7 rfl;have VV:=zH (And.intro v0 (And.intro v1 (And.intro v2 (And.intro v3 (And.intro v4 (And.intro v5 (And.intro v6 v7)))))));clear v0 v1 v2 v3 v4 v5 v6 v7 hh hp cy;clear hg mZ bU;go_upto_region 16 with fail
   obtain⟨v0,v1,v2,v3,v4,v5,v6,v7⟩:=VV.out;clear hq c0 Wy;go_wp2_with fail;obtain⟨g8,K9⟩:∃g8,g8=wa.heap.size:=⟨_,rfl⟩;have hh:=vA v (wa.alloc (Ag #[I Z 0 0] 49));have o8:=zC (ze wa (Ag #[I Z 0 0] 49)) (Ag v.cells 100);have o9:=ze (wa.alloc (Ag #[I Z 0 0] 49)) (Ag v.cells 100);have oB:Am w.heap.size w ((wa.alloc (Ag #[I Z 0 0] 49)).alloc (Ag v.cells 100)):=AB.out.trans ((xk wa _ _).mono AB.out.size);have o0:=zC (zC A0.out (Ag #[I Z 0 0] 49)) (Ag v.cells 100);simp only[World.size_alloc] at hh o9;rw[<-K9] at hh o8 o9 la ⊢;refine hh.mono ?_;rintro e wb ⟨rfl,iL⟩;rw[iL] at o8 o9 oB o0;have cD:g8+1<wb.heap.size:=zd o9;clear iL hh K9 v0 v1 v2 v3 v4 v5 v6 v7 VV A0 A1 AB;have XX:=zH (uh v (g8+1) wb o9);have XY:=zH o9;have X0:=zH o0;have XB:=zH oB;have tO:w.heap.size<=wb.heap.size:=oB.size;have W2:=zH (BoxW.start (B:=w.heap.size) (g:=g8) (xs:=[]) (w2:=wb) o8 (Own.nil _ _));clear o8 o9 o0 oB;go_wp2_with fail
   refine kg rfl (Pg func106 (by kernel_rfl) rfl) XX.out (by rintro k rfl;exact cD) (fun _=>rfl)
    (fun pre W=>BoxW w.heap.size g8 (([]:List Int)++pre.map fun x:{ x // x∈yL v }=>x.1.2) wb W) (fun _ _ _=>False) (BoxW.own [] (fun x:Int×Int=>x.2) tO) (fun _ _ _ _ _ h _ _=>h)
    W2.out ?a1 ?assign ?body ?done ?stop
   case assign=>
    intro l x W K hK;gi_wp2;exact hK
   case body=>
    intro l pre x W hI aa;have fl:(yL v).length<=5:=by have:=xW v;simpa[yK] using this
    have fI:(([]:List Int)++pre.map fun x:{ x // x∈yL v }=>x.1.2).length<=1000000:=by
     rw[Lp,LT];simp;omega
    have dh:([]:List Int)++(pre++[x]).map (fun x:{ x // x∈yL v }=>x.1.2)=(([]:List Int)++pre.map fun x:{ x // x∈yL v }=>x.1.2)++[x.1.2]:=by simp
    obtain⟨xs,lW⟩:∃xs,([]:List Int)++pre.map (fun x:{ x // x∈yL v }=>x.1.2)=xs:=⟨_,rfl⟩;rw[lW] at hI fI;obtain⟨P2,c2,bZ,bW⟩:=hI.box;have q6:=za bZ 0 rfl;have mJ:=zH hI;have HO:=zH bW;have aN:=zH bZ;have HS:=zH dh;have Hd:=zH lW;clear hI bW bZ dh lW
    gi_wp2_with (gi_at_builtin; go_must (refine qv rfl _ _ rfl w.heap.size (I P2 xs.length c2) _ x.1.2 rfl HO.out rfl (by omega) (by have := zd aN.out; omega) ?_); intro v' w3 aY mv ak
                 have iX:=(mv.block g8 (zd aN.out) (fun e=>own_type HO.out aN.out (by decide) e.symm)).trans aN.out;have q7:=za iX 0 rfl;have f7:=zb iX 0;have l7:=zd iX;obtain⟨A3,k3,rfl,Cz,tR,_⟩:=aY.form;have mH:=zH aY;have ta:=zH mv
                 clear iX aY mv ak)
    obtain⟨r1,r2,r3⟩:=mJ.out.push (by omega) aN.out HO.out mH.out ta.out (g8+1) _ (by omega) XY.out;simp only[List.length_append,List.length_cons,List.length_nil,Nat.zero_add] at r1 r2 r3;exact⟨r1,r2,by dsimp only;rw[HS.out,Hd.out];exact r3⟩
   case stop=>
    intro D c pre W _ _ h;exact h.elim
   intro D ys W hD dv hI dD
   have hl:([]:List Int)++ys.map (fun x:{ x // x∈yL v }=>x.1.2)=zt (yK v):=by
    rw[wR];have:=congrArg (List.map (fun x:Int×Int=>x.2)) dv;rw[<-this,Rf];rfl
   simp only[hl] at hI;obtain⟨P2,c2,bZ,bW⟩:=hI.box;obtain⟨WN,MY,e,nr,iR,Cv⟩:=bW.form;simp only[Value.slice.injEq] at e;obtain⟨rfl,_,rfl⟩:=e;rw[zu] at bZ bW;have M1:=zH ((Marks.nil w.heap.size wb).cons (hI.non.same · _ · rfl) tO hD dD);have T1:=hI.rest _ _ _ X0.out (by decide) (by omega);have q8:=za bZ 0 rfl;obtain⟨q0,q1,_⟩:=Ka T1;have B2:=zH (XB.out.trans hI.non.below);have P9:=zd T1;have PS:=zd bZ;have TT:=zH T1;have IA:=zH Cv;clear hI bZ bW Cv T1 W2;go_wp2_with fail;obtain⟨gm,pF⟩:∃gm,gm=W.heap.size:=⟨_,rfl⟩;have m0:=SetAt.made jP W;have mB:Am w.heap.size w (W.alloc (.map #[] 0)):=B2.out.trans ((Ln _ _).alloc B2.out.size _);have mT:=zC TT.out (.map #[] 0);have mI:=IA.out.up ((Ln _ W).alloc (Lh _) (.map #[] 0));have mM:Marks w.heap.size _ (W.alloc (.map #[] 0)):=M1.out.keep fun k hk=>zC hk _
   have bk:(W.alloc (.map #[] 0)).heap.size=gm+1:=by simp[pF]
   obtain⟨Wm,DX⟩:=Kh (W.alloc (.map #[] 0));rw[<-pF,DX] at m0;rw[DX] at mB mT mI mM bk;rw[<-pF] at P9 PS ⊢;rw[DX];have pu:=wh n A P2 cap c2 vs (yK v) Wm (HT.out.keep mB) HW.out.acyc mI cP.out (by have:=xW v;omega);refine pu.mono ?_;rintro e W3 ⟨v3,rfl,fj,ak⟩;obtain⟨P3,c3,rfl,mx,Ga,dX⟩:=fj.form;rw[zu] at mx fj;have s3:=m0.kept ak (by omega);have T3:=zH (Lb ak (by omega) mT);have B3:=zH (mB.trans (ak.mono (by omega)));have M3:Ap (Marks w.heap.size [{ target:=Target.collected D,args:=#[] }] W3):=mM.keep fun k hk=>(ak.block k (Lf.1 hk).1).trans hk
   have O3:=zH fj;have I3:=zH dX;have O6:gm+1<=W3.heap.size:=by have:=ak.size;omega
   have bq:(yE vs (yK v)).length<=vs.length:=by have:=wg vs (yK v);rwa[zu] at this
   have bS:=zH (fun x (hx:x∈yE vs (yK v))=>(kN.1 hx).1);obtain⟨ls,pA⟩:=Kh (yE vs (yK v));rw[zu,pA];rw[pA] at mx hz I3 O3 bq bS;have sN:=zH bk;clear pA pu m0 mB mT mI mM ak fj dX DX pF bk q0 q1 q8;go_wp2_with fail
   go_loopw [87] (fun i wr=>∃(k:Nat) (S:List (Int×Int)),k<=ls.length/\i=O U k/\SetAt jP wr gm S/\Ap (PlaceInv vs ls k S)/\W3.grownBy wr (J gm)) (fun i _=>ls.length-(Ao i).toNat)
   case atStart=>exact⟨0,[],by omega,rfl,s3,PlaceInv.start _ _,Pa _ _⟩
   obtain⟨k,S,hk,rfl,cr,iw,cC⟩:=hrel;have BW:Ap (Am w.heap.size w wr):=B3.out.grown cC (by have:=B3.out.size;omega) (fun k e=>by cases e;omega)
   have MW:Ap (Marks w.heap.size [{ target:=Target.collected D,args:=#[] }] wr):=M3.out.keep fun k hk=>by
    obtain⟨_,es,ck,hm,_⟩:=s3;exact(cC.block k (Lf.1 hk).1 (fun e=>by cases e;rw[hm] at hk;cases hk)).trans hk
   by_cases aa:k<ls.length
   . have hx:=bS.out ls[k] (Le aa)
     obtain⟨x,dd⟩:=Kh (ls[k]);rw[dd] at hx;have aM:(zt ls).length=ls.length:=zu ls;obtain⟨b3,EO,rfl,ak,sf⟩:=I3.out.at_ k (by omega);have oz:gm+1<=b3:=by have:=(O3.out.lt b3 rfl).1;have:=sN.out;omega
     have lK:(zt ls)[k]'(by omega)=(x:Int):=by simp[zt,dd]
     rw[lK] at sf;have r3:=(LU (cC.block b3 ak (by simp;omega))).trans sf;obtain⟨b,off,rfl,aL,c0,c1,_⟩:=(HT.out.rows.keep BW.out).row x hx;have t1:=za ((cC.block w.heap.size (zd T3.out) (by simp;omega)).trans T3.out) 1 rfl;have aI:b<wr.heap.size:=by have:=BW.out.size;omega
     have iT:w.heap.size<wr.heap.size:=by have:=cC.size;omega
     have fG:(0:Int)<=(x:Int):=by omega
     have aW:(x:Int)<(vs.length:Int):=by omega
     have fb:=zH cr;have lR:=zH cC;have S3:=zH s3;have dn:ls.getD k 0=x:=by rw[Lg,Lj aa];exact dd
     have tZ:=zH dn;have M9:=zH dd;have HV:=zH (qt hx);clear cr cC s3 dn dd aM lK sf;go_upto_region 23 with fail
     go_cut [14] from 91 to 103 (fun O7 wx=>∃g:Nat,O7=Aj (J ⟨g,0,Z⟩)/\wx.cell? ⟨g,0,Z⟩=J (O U vs[x].p)/\wx.cell? ⟨g,1,Z⟩=J (O U vs[x].r)/\Am wr.heap.size wr wx)
     case first=>
      clear r3 HT HW HR HB M1 B2 TT IA T3 B3 M3 O3 I3 bS fb lR S3 tZ M9 HV iw BW MW hz cP XX XY X0 XB ai HQ;have Ki:wr.cell? ⟨w.heap.size,1,Z⟩=J (I (J ⟨b,off,Z⟩) vs.length cap):=t1;clear t1
      go_region_held3 (fun w'=>w'.cell? ⟨w.heap.size,1,Z⟩=J (I (J ⟨b,off,Z⟩) vs.length cap)/\w'.cell? ⟨b,off+x*8,Z⟩=J (O U vs[x].p)/\w'.cell? ⟨b,off+x*8+1,Z⟩=J (O U vs[x].r))
       (first | exact⟨Ki,c0,c1⟩ | exact⟨(Py _ _ _ iT).trans Ki,(Py _ _ _ aI).trans c0,(Py _ _ _ aI).trans c1⟩)
       (fail)
      all_goals
       go_wp2_with fail
       go_meet
      all_goals
       exact⟨wr.heap.size,rfl,by simp[go_sem],by simp[go_sem],(zw wr _).drew⟩
     obtain⟨g,rfl,x0,x1,iS⟩:=hcut;have ee:=fb.out.kept iS fb.out.lt;have cy:=ee.look (t:=212) gS underlying212 kI (vs[x].p,vs[x].r);unfold jP at cy;dsimp only at cy;have fI:qc vs (ls.getD k 0)=(vs[x].p,vs[x].r):=by rw[tZ.out];unfold qc;rw[HV.out]
     have BX:Ap (Am w.heap.size w wc):=Lc BW.out iS;have MX:Ap (Marks w.heap.size [{ target:=Target.collected D,args:=#[] }] wc):=MW.out.keep fun k hk=>(iS.block k (Lf.1 hk).1).trans hk
     have Di:=zH iS
     by_cases bP:(vs[x].p,vs[x].r)∈S
     · have hy : Ap (zW (n : Int) vs v = 22) := by
        show zW (n:Int) vs v=22;rw[hz.out,Lk (iw.out.bad aa (by rw[fI];exact bP))]
       simp only[bP,decide_true] at cy;clear bP fI iS ee c0 c1 t1 r3;go_wp2_with fail
       (try simp only[Exit.inBlock,Exit.then])
       refine yd MX.out (v:=O U 22) (fun W=>by kernel_rfl) ?_;intro W hS;exact⟨zc hy.out.symm,BX.out.trans hS.below⟩
     have dx : Ap (PlaceInv vs ls (k + 1) ((vs[x].p, vs[x].r) :: S)) := by
      have:=iw.out.step (by rw[fI];exact bP);rw[fI] at this;exact this
     simp only[bP,decide_false] at cy;have GW:=zH ee;clear bP fI iS ee c0 c1 t1 r3;go_wp2_with (at_mapUpdate;refine qP _ rfl _ _ _ _ _ rfl gS underlying212 gm S GW.out (vs[x].p,vs[x].r) rfl rfl rfl ?_;intro w5 fF mt)
     go_roundw
     case rel=>exact⟨k+1,(vs[x].p,vs[x].r)::S,by omega,by go_num,fF,dx,lR.out.trans ((kr Di.out).trans mt)⟩
     simp[Ao];omega
   obtain rfl:k=ls.length:=by omega
   have hy:Ap (zW (n:Int) vs v=0):=by show zW (n:Int) vs v=0;rw[hz.out,Lm iw.out.fine]
   have BW':=BW;go_wp2_with fail
   (try simp only[Exit.inBlock,Exit.then])
   refine yd MW.out (v:=O U 0) (fun W=>by kernel_rfl) ?_;intro W hS;exact⟨zc hy.out.symm,BW.out.trans hS.below⟩
 have e0:(xb n v != 0)=Ar:=by simpa using ce
 have hz:=zH (wQ (n:=n) (vs:=vs) (v:=v) (.inl ce));clear ce;go_wp2_with fail
 (try simp only[Exit.inBlock,Exit.then])
 refine yd (Marks.nil w.heap.size _) (v:=O U (xb n v)) (fun W=>by kernel_rfl) ?_;intro W hS;exact⟨zc (hz.out.symm),B1.out.trans hS.below⟩
end
section
open Go.RowKit
theorem TArg.take{w:Ba}{A:Bb}{cap:Nat}{vs:List Vw}(h:TArg w A cap vs)(k:Nat):TArg w A cap (vs.take k):=
 ⟨h.rows.take k,by have:=h.lec;simp;omega,h.lem,by have:=h.few;simp;omega⟩
theorem Qw(n:Nat)(A:Bb)(cap:Nat)(vs:List Vw)(k:Nat)(hk:k<=vs.length)(v:Vw)(w:Ba)(hT:TArg w A cap vs)(hw:Wf (n:Int) (vs.take k)) :
  An Al 105 #[Ai #[O U n,I A k cap],.agg v.cells] w fun e w'=>e=Ak (O U (zW n (vs.take k) v))/\Am w.heap.size w w':=by
 have:=Qy n A cap (vs.take k) v w (hT.take k) hw;rwa[Ng,Rj hk] at this
theorem mem_step{vs S:List Vw}{k:Nat}(aa:k<vs.length)(h:∀x,x∈S↔x∈vs.take k):∀x,x∈vs[k]::S↔x∈vs.take (k+1):=by
 intro x;rw[LF,h,PZ,Lj aa];simp only[Option.toList,List.mem_append,List.mem_singleton];exact or_comm
def vEnc(v:Vw):Aq:=.agg v.cells
theorem gH:KeyOk Al 100 vEnc:=jE
theorem Jq(w:Ba):∃W0,w.alloc (.map #[] 0)=W0/\SetAt vEnc W0 w.heap.size []/\W0.heap.size=w.heap.size+1/\Am w.heap.size w W0:=
 ⟨_,rfl,SetAt.made vEnc w,by simp,(Ln _ _).alloc (Lh _) _⟩
theorem Xl(n:Int)(A:Bb)(cap:Nat)(vs:List Vw)(w:Ba)(hT:TArg w A cap vs) :
  An Al 65 #[Ai #[O U n,I A vs.length cap]] w fun e w'=>e=Ak (O U (yl n vs))/\Am w.heap.size w w':=by
 have HT:=zH hT;have df:=hT.few;have dU:=@run_makeMap Al;have HB:=zw w;clear hT
 by_cases hn:n<1\/5<n
 . have hz:Ap (yl n vs=1):=by show yl n vs=1;unfold yl;rw[Lm hn]
   go_enter func65,ntmps65
   by_cases h1:n<1
   . clear hn
     go_wp2_with fail;go_ret;exact⟨zc hz.out.symm,HB _⟩
   have h5:5<n:=by omega
   clear hn;go_wp2_with fail;go_ret;exact⟨zc hz.out.symm,HB _⟩
 have h1:¬n<1:=by omega
 have h5:¬5<n:=by omega
 by_cases hm:8192<vs.length
 . have hz:Ap (yl n vs=5):=by show yl n vs=5;unfold yl;rw[Lk hn,Lm hm]
   clear hn;go_enter func65,ntmps65;go_wp2_with fail;go_ret;exact⟨zc hz.out.symm,HB _⟩
 have hz:Ap (yl n vs=yI (jL n vs) vs.length):=by show yl n vs=_;unfold yl;rw[Lk hn,Lk hm]
 obtain⟨N,rfl⟩:=Lq (show 0<=n by omega);have dT:1<=N:=by omega
 have nd:N<=5:=by omega
 clear hn;go_enter func65,ntmps65;go_wp2_with fail;obtain⟨gm,pF⟩:∃gm,gm=w.heap.size+1:=⟨_,rfl⟩;obtain⟨W0,bg,m0,bk,bh⟩:=Jq (w.alloc (Ag #[O U N,I A vs.length cap] 33));have b0:=(bh.block w.heap.size (by simp)).trans (ze w (Ag #[O U N,I A vs.length cap] 33));have B0:=zH ((HB (Ag #[O U N,I A vs.length cap] 33)).trans (bh.mono (by simp)));rw[bg];simp only[World.size_alloc] at m0 bk;rw[<-pF] at m0 bk ⊢;clear bg bh;have nk:w.heap.size<gm:=by omega
 have Sq:gm<W0.heap.size:=by omega
 have HGM:=zH pF;clear pF bk HB
 go_loopw [25] (fun i wr=>∃(k:Nat) (S:List Vw),k<=vs.length/\i=O U k/\Ap (yI (jL N vs) k=0)/\SetAt vEnc wr gm S/\Ap (∀x,x∈S↔x∈vs.take k)/\W0.grownBy wr (J gm)) (fun i _=>vs.length-(Ao i).toNat)
 case atStart=>exact⟨0,[],by omega,rfl,rfl,m0,by show ∀x,x∈[]↔x∈vs.take 0;simp,Pa _ _⟩
 obtain⟨k,S,hk,rfl,ai,cr,hS,cC⟩:=hrel;have BW:Ap (Am w.heap.size w wr):=B0.out.grown cC (by omega) (fun k e=>by cases e;omega);have d0:=(cC.block w.heap.size (by omega) (by simp;omega)).trans b0;obtain⟨t0,t1,_⟩:=Ka d0;have rR:w.heap.size<wr.heap.size:=by have:=cC.size;omega
 have lR:=zH cC;have D0:=zH d0;have fb:=zH cr;clear cC d0 cr
 by_cases aa:k<vs.length
 · have ik : Wf (N : Int) (vs.take k) := ⟨by omega, by omega, fun j hj => by
    simp at hj;rw[JB (by omega)]
    exact xK.1 ai.out j (by omega)⟩
   have oI:=HT.out.keep BW.out;have BU:k<=cap:=by have:=oI.lec;omega
   have cW:(0:Int)<=(k:Int):=by omega
   have cp:(k:Int)<=(cap:Int):=by omega
   have dz:(k:Int)<(vs.length:Int):=by omega
   obtain⟨b,off,rfl,aH,c0,c1,c2,c3,c4,c5,c6,c7⟩:=oI.rows.row k aa;have Vx:=zH oI;have fz:=zH ik;clear oI ik;go_upto_region 9 with fail
   refine wp_one ?_;intro W1 e0 cj ay;obtain⟨g,hg⟩:∃g,g=wr.heap.size:=⟨_,rfl⟩;rw[<-hg] at e0 ⊢;have dL:g<W1.heap.size:=by omega
   have s0:=(ay.cell (p:=⟨w.heap.size,0,Z⟩) rR).trans t0;have s1:=(ay.cell (p:=⟨w.heap.size,1,Z⟩) rR).trans t1;have BM:w.heap.size<W1.heap.size:=by omega
   have AD:=fb.out.kept ay fb.out.lt;have D9:=Vx.out.keep ay;have Vz:Ap (∀X:Ba,Am W1.heap.size W1 X->TArg X (J ⟨b,off,Z⟩) cap vs):=fun X hX=>D9.keep hX
   obtain⟨q0,q1,q2,q3,q4,q5,q6,q7,_⟩:=Ke e0;have Cb:Ap (Am wr.heap.size wr W1):=ay;have MS:=zH AD;have VD:=zH cj;have s':=zH hg;clear c0 c1 c2 c3 c4 c5 c6 c7 t0 t1 D9 ay e0 rR aH AD cj hg
   go_region_held3 (fun w'=>w'.cell? ⟨w.heap.size,0,Z⟩=J (O U N)/\w'.cell? ⟨w.heap.size,1,Z⟩=J (I (J ⟨b,off,Z⟩) vs.length cap) /\
     w'.cell? ⟨g,0,Z⟩=J (O U vs[k].p)/\w'.cell? ⟨g,1,Z⟩=J (O U vs[k].r)/\w'.cell? ⟨g,2,Z⟩=J (O U vs[k].i) /\
     w'.cell? ⟨g,3,Z⟩=J (O U vs[k].h0)/\w'.cell? ⟨g,4,Z⟩=J (O U vs[k].h1)/\w'.cell? ⟨g,5,Z⟩=J (O U vs[k].h2) /\
     w'.cell? ⟨g,6,Z⟩=J (O U vs[k].h3)/\w'.cell? ⟨g,7,Z⟩=J (O U vs[k].h4))
    (first
     | exact⟨s0,s1,q0,q1,q2,q3,q4,q5,q6,q7⟩
     | exact keep10 (W0:=W1) (B:=W1.heap.size) (gx ae) BM dL ⟨s0,s1,q0,q1,q2,q3,q4,q5,q6,q7⟩)
    ((go_at_call 105;refine(Qw N _ cap vs k (Nat.le_of_lt aa) vs[k] _ (Vz.out _ (Ln _ _).drew) fz.out).mono ?_;rintro e w2 ⟨rfl,ae⟩))
   have bC:jL N vs k=if zW N (vs.take k) vs[k]≠0 then zW N (vs.take k) vs[k] else if vs[k]∈vs.take k then 7 else 0:=by
    unfold jL;rw[qt aa]
   have dO:=zH bC;clear bC;have bG:Am W1.heap.size W1 w2:=gx ae;have x2:Ap (Am w.heap.size w w2):=BW.out.trans (Cb.out.trans (bG.mono (by have:=s'.out;omega)) |>.mono BW.out.size);have G2:Ap (W0.grownBy w2 (J gm)):=lR.out.trans ((kr Cb.out).trans (kr bG));have GZ:=MS.out.kept bG MS.out.lt;obtain⟨y0,y1,r0,r1,r2,r3,r4,r5,r6,r7⟩:=keep10 bG BM dL ⟨s0,s1,q0,q1,q2,q3,q4,q5,q6,q7⟩;have cy:=GZ.look (t:=183) gH underlying183 kI vs[k];unfold vEnc Vw.cells at cy;have M2:=zH GZ;clear ae bG s0 s1 q0 q1 q2 q3 q4 q5 q6 q7 GZ
   by_cases hc:zW N (vs.take k) vs[k]=0
   . have e2:(zW N (vs.take k) vs[k] != 0)=As:=by simp[hc]
     have HC:=zH hc;clear hc
     by_cases bP:vs[k]∈S
     · have AI : Ap (yI (jL N vs) vs.length = 7) := by
        have DD:=(hS.out _).1 bP;show _=_;rw[kz ai.out (by rw[dO.out,Lk (by rw[HC.out];simp),Lm DD];decide) aa,dO.out,Lk (by rw[HC.out];simp),Lm DD]
       simp only[bP,decide_true] at cy;clear bP;go_wp2_with fail;go_ret;exact⟨zc (by rw[hz.out,AI.out]),x2.out⟩
     have AI : Ap (yI (jL N vs) (k + 1) = 0) := by
      have DD:=fun h=>bP ((hS.out _).2 h)
      show _=_;rw[kO ai.out,dO.out,Lk (by rw[HC.out];simp),Lk DD]
     simp only[bP,decide_false] at cy;clear bP;go_wp2_with (at_mapUpdate;refine qP _ rfl _ _ _ _ _ rfl gH underlying183 gm S M2.out vs[k] rfl rfl rfl ?_;intro w5 fF mt)
     go_roundw
     case rel=>exact⟨k+1,vs[k]::S,by omega,by go_num,AI,fF,mem_step aa hS.out,G2.out.trans mt⟩
     simp[Ao];omega
   have e2:(zW N (vs.take k) vs[k] != 0)=Ar:=by simpa using hc
   have HC:=zH hc;clear hc;go_wp2_with fail;go_ret;exact⟨zc (by rw[hz.out,kz ai.out (by rw[dO.out,Lm HC.out];exact HC.out) aa,dO.out,Lm HC.out]),x2.out⟩
 obtain rfl:k=vs.length:=by omega
 go_wp2_with fail;go_ret;exact⟨zc (by rw[hz.out,ai.out]),BW.out⟩
def inB(vs:List Vw)(i:Int):Bool:=decide (0<=i/\i<(vs.length:Int))
def atE(n:Int)(vs:List Vw)(l:List Int):Int:=if yl n vs≠0 then yl n vs else if l.all (inB vs)=Ar then 0 else 6
theorem atE_bad{n:Int}{vs:List Vw}{l:List Int}(h:yl n vs≠0):atE n vs l=yl n vs:=by unfold atE;rw[Lm h]
theorem Jd{n:Int}{vs:List Vw}{l:List Int}(h:yl n vs=0)(ha:l.all (inB vs)=Ar):atE n vs l=0:=by unfold atE;rw[Lk (by simp[h]),Lm ha]
theorem Jc{n:Int}{vs:List Vw}{l:List Int}(h:yl n vs=0)(ha:l.all (inB vs)≠Ar):atE n vs l=6:=by unfold atE;rw[Lk (by simp[h]),Lk ha]
theorem Jg{vs:List Vw}{l:List Int}{k:Nat}(hk:k<l.length)(h:inB vs l[k]=As):l.all (inB vs)≠Ar:=fun ha=>by
 have:=Lz.1 ha _ (Le hk);rw[h] at this;cases this
theorem all_stepA{vs:List Vw}{l:List Int}{k:Nat}(hk:k<l.length)(ha:(l.take k).all (inB vs)=Ar)(h:inB vs l[k]=Ar):(l.take (k+1)).all (inB vs)=Ar:=by
 rw[PZ,Lj hk,List.all_append,ha];simp[h]
theorem QG(n:Int)(A L:Bb)(cap ER:Nat)(vs:List Vw)(l:List Int)(w:Ba)(hT:TArg w A cap vs)(hL:IAt w w.heap.size L l)(hl:l.length<=1000) :
  An Al 27 #[Ai #[O U n,I A vs.length cap],I L l.length ER] w fun e w'=>e=Ak (O U (atE n vs l))/\Am w.heap.size w w':=by
 have HT:=zH hT;have HL:=zH hL;have df:=hT.few;clear hT hL;go_enter func27,ntmps27;go_wp2_with fail;obtain⟨W0,bg,b0,bk,bh⟩:=zq w #[O U n,I A vs.length cap] 33;rw[bg];clear bg;refine(Xl n A cap vs W0 (HT.out.keep bh)).mono ?_;rintro e w1 ⟨rfl,hb⟩;have d0:=Lb hb (by omega) b0;have B1:Ap (Am w.heap.size w w1):=bh.trans (hb.mono (by omega));have l1:w.heap.size<w1.heap.size:=by have:=hb.size;omega
 have t1:=za d0 1 rfl;clear b0 bk bh hb d0
 by_cases hc:yl n vs=0
 . have e0:(yl n vs != 0)=As:=by simp[hc]
   have HC:=zH hc;clear hc;go_wp2_with fail
   go_loop [15] (fun i=>∃k:Nat,k<=l.length/\i=O U k/\Ap ((l.take k).all (inB vs)=Ar)) (fun i=>l.length-(Ao i).toNat)
   case atStart=>exact⟨0,by omega,rfl,by show(l.take 0).all (inB vs)=Ar;simp⟩
   obtain⟨k,hk,rfl,ai⟩:=hrel
   by_cases aa:k<l.length
   . obtain⟨b,off,rfl,aD,r0⟩:=HL.out.at_ k aa
     have r1:=(B1.out.cell (p:=⟨b,off+k,Z⟩) aD).trans r0;have ae:b<w1.heap.size:=by omega
     obtain⟨i,hi⟩:=Kh (l[k]);rw[hi] at r1;clear r0
     by_cases h1:i<0
     . have hz:=zH (Jc HC.out (Jg aa (by unfold inB;rw[hi];simp;omega)))
       clear hi;go_wp2_with fail;go_ret;exact⟨zc hz.out.symm,B1.out⟩
     by_cases h2:(vs.length:Int)<=i
     . have hz:=zH (Jc HC.out (Jg aa (by unfold inB;rw[hi];simp;omega)))
       clear hi;go_wp2_with fail;go_ret;exact⟨zc hz.out.symm,B1.out⟩
     have hz:=zH (all_stepA aa ai.out (by unfold inB;rw[hi];simp;omega));clear hi;go_wp2_with fail
     go_round
     case rel=>exact⟨k+1,by omega,by go_num,hz⟩
     simp[Ao];omega
   obtain rfl:k=l.length:=by omega
   have hz:=zH (Jd HC.out (by have:=ai.out;rwa[LC] at this));go_wp2_with fail;go_ret;exact⟨zc hz.out.symm,B1.out⟩
 have e0:(yl n vs != 0)=Ar:=by simpa using hc
 have hz:=zH (atE_bad (l:=l) hc);clear hc;go_wp2_with fail;go_ret;exact⟨zc hz.out.symm,B1.out⟩
theorem inB_iff{vs:List Vw}{i:Int}:inB vs i=Ar↔0<=i/\i<(vs.length:Int):=by unfold inB;simp
theorem atE_ok{n:Int}{vs:List Vw}{l:List Int}(h:atE n vs l=0):Wf n vs/\vs.length<=8192/\∀i,i∈l->0<=i/\i<(vs.length:Int):=by
 unfold atE at h
 split at h
 . rename_i h1;exact absurd h h1
 rename_i h1
 split at h
 . rename_i h2
   have:=Wf.of_CheckE (by simpa using h1);exact⟨this.1,this.2,fun i hi=>inB_iff.1 (Lz.1 h2 i hi)⟩
 cases h
theorem Wf.beg{n:Int}{vs:List Vw}(h:Wf n vs){i:Nat}(hi:i<vs.length):xb n vs[i]=0:=by
 have:=(Zk (QN (h.2.2 i hi)).1).1;rwa[qt hi] at this
end
section
theorem getD_get{α:Type}{l:List α}{i:Nat}(h:i<l.length)(d:α):l.getD i d=l[i]:=by
 rw[Lg,Lj h];rfl
end
section
def xf(g:Nat->Nat)(m:Nat):Nat->Nat
 | 0=>0
 | j+1=>if m.testBit j=Ar then xf g m j ||| g j else xf g m j
theorem jV(g:Nat->Nat)(m r:Nat):∀j,(xf g m j).testBit r=Ar↔∃i,i<j/\m.testBit i=Ar/\(g i).testBit r=Ar
 | 0=>by simp[xf]
 | j+1=>by
  rw[xf]
  split
  . rename_i h
    rw[Nat.testBit_or,Pm,jV g m r j];constructor
    . rintro(⟨i,h1,h2⟩ | h2)
      . exact⟨i,by omega,h2⟩
      . exact⟨j,by omega,h,h2⟩
    . rintro⟨i,h1,h2,h3⟩
      by_cases e:i=j
      . subst e;exact .inr h3
      . exact .inl ⟨i,by omega,h2,h3⟩
  . rename_i h
    rw[jV g m r j];constructor
    . rintro⟨i,h1,h2⟩;exact⟨i,by omega,h2⟩
    . rintro⟨i,h1,h2,h3⟩
      by_cases e:i=j
      . subst e;exact absurd h2 h
      . exact⟨i,by omega,h2,h3⟩
theorem vB{g g':Nat->Nat}{m:Nat}:∀j,(∀i,i<j->m.testBit i=Ar->g i=g' i)->xf g m j=xf g' m j
 | 0,_=>rfl
 | j+1,h=>by
  rw[xf,xf,vB j fun i hi=>h i (by omega)]
  split
  . rename_i hb;rw[h j (by omega) hb]
  . rfl
def ko(word:List Rd)(j:Nat):Nat->Nat->Nat
 | 0,q=>2^q
 | n+1,q=>xf (ko word j n) ((word.getD (j+n) default).h q).toNat 5
section
variable {s:Sy} {K N:Nat}
theorem Ym(hF:Fine s K N)(h:Sees s K N)(hw:Wf s.n s.vs){x y:Exn}(hx:x∈s.xs)(hy:y∈s.xs){j:Nat}:∀n q,j+n<=K->q<N->xw x (j+n) q=xw y (j+n) q ->
  ko x.word j n q=ko y.word j n q/\∀r,r<N->(ko x.word j n q).testBit r=Ar->xw x j r=xw y j r/\qE s.vs (xw x (j+n) q).toNat (xw x j r).toNat=Ar
 | 0,q,hk,hq,e=>by
  refine⟨rfl,fun r hr hb=>?_⟩;rw[ko,Nat.testBit_two_pow] at hb;have e2:q=r:=by simpa using hb
  subst e2;exact⟨e,jm _ _⟩
 | n+1,q,hk,hq,e=>by
  have ot:j+n<K:=by omega
  obtain⟨e1,e2⟩:=(Xu hF h hx hy ot hq).1 e;obtain⟨r1,n1⟩:=hF.round hx ot;obtain⟨m,hm,KO,_⟩:=qL r1 n1 hF.n5 hq;have h5:=hF.n5
  have aa:∀i,m.testBit i=Ar->i<N:=fun i hi=>by
   by_cases c:i<N
   . exact c
   . have hp:2^N<=2^i:=Nj (by omega) (by omega)
     rw[Pr (by omega)] at hi;cases hi
  have e3:((x.word.getD (j+n) default).h q).toNat=m:=by rw[hm,Lu]
  have e4:((y.word.getD (j+n) default).h q).toNat=m:=by rw[<-e1];exact e3
  rw[e3] at e2;have ih:=fun i (hi:m.testBit i=Ar)=>Ym hF h hw hx hy n i (by omega) (aa i hi) (e2 i (aa i hi) hi)
  rw[ko,ko,e3,e4];refine⟨vB 5 fun i _ hi=>(ih i hi).1,fun r hr hb=>?_⟩;obtain⟨i,_,hi,ae⟩:=(jV _ _ _ _).1 hb;obtain⟨g1,g2⟩:=(ih i hi).2 r hr ae;refine⟨g1,?_⟩;have a1:=h.vk x hx (j+n) ot q hq;have hv:=j6 a1;have hl:=a1.lt;refine(qD hw.acyc (by show(xw x (j+n+1) q).toNat<_;omega)).2 (.inr ⟨(xw x (j+n) i).toNat,?_,g2⟩);show _∈yK (yc s.vs (xw x (j+n+1) q).toNat);rw[hv];obtain⟨l1,p1⟩:=hF.row hx (by omega:j+n<=K);have K3:=aa i hi
  have hh:(yM (x.word.getD (j+n) default) (j+n+1) q (x.views.getD (j+n) [])).h i=xw x (j+n) i:=by
   rw[kL _ _ _ _ _ (by omega),xJ hm,Lm ⟨by omega,hi⟩];rfl
  refine qI.2 ⟨by show(0:Int)<((j+n+1:Nat):Int);omega,i,by omega,?_,?_⟩
  . rw[hh];unfold xw;rw[getD_get (by omega)];exact(p1 _ (Le _)).1
  . rw[hh]
end
end
section
open Go.RowKit
theorem Yi{p:Pb}(h:xh p=Ar):zK p=(zA p,0)/\Jo (zA p)=0/\wZ p/\zD p=0/\zP p<=60/\p.t.n<=3/\∃K N,Fine (zA p) K N/\Sees (zA p) K N:=by
 unfold xh at h;rw[LL] at h;obtain⟨h1,h2⟩:=h;obtain⟨hf,h3⟩:=Ze h1;have h4:(zK p).2=0:=LA h2
 have h0:zD p=0:=by
  by_cases h0:zD p=0
  . exact h0
  rw[xN h0] at h4;exact absurd h4 h0
 have hm:¬4096<zP p:=fun hm=>by rw[xr h0 hm] at h4;exact absurd h4 (by decide)
 have dq:zP p<=60:=by
  rcases hf.2 h0 with h | h
  . exact h
  exact absurd h hm
 have hb:=qh h0 (by omega);obtain⟨dF,_⟩:=zM h0;obtain⟨_,dT,nd⟩:=yG dF;obtain⟨K,N,hF⟩:=QA hf h0 dq;refine⟨hb,?_,hf,h0,dq,by omega,K,N,hF,Qz hF⟩;unfold Jo;have e:(zA p).p=p:=rfl;rw[e,hb,Lk (by simp),Lm rfl]
theorem or_32{a b:Nat}(ha:a<32)(hb:b<32):bits BinOp.or U (a:Int) (b:Int)=((a ||| b:Nat):Int):=by
 have h:∀a:Nat,a<32->∀b:Nat,b<32->bits BinOp.or U (a:Int) (b:Int)=((a ||| b:Nat):Int):=by decide +kernel
 exact h a ha b hb
end
section
open Go.RowKit Go.Shelf
attribute [local go_sem] Oper.semAt_some
def gF(n:Int)(f:Nat->Nat):Array Aq:=#[O U n,O U (f 0:Nat),O U (f 1:Nat),O U (f 2:Nat),O U (f 3:Nat),O U (f 4:Nat)]
theorem Zc(n:Int)(f:Nat->Nat){q:Nat}(hq:q<5):(gF n f)[1+q]?=J (O U (f q:Nat)):=by
 obtain rfl | rfl | rfl | rfl | rfl:q=0\/q=1\/q=2\/q=3\/q=4:=by omega
 all_goals rfl
def orL(f:Nat->Nat)(l:List Nat):Nat:=l.foldl (fun a i=>a ||| f i) 0
theorem YB(f:Nat->Nat)(l:List Nat)(i:Nat):orL f (l++[i])=orL f l ||| f i:=by unfold orL;rw[RK];rfl
theorem wH(f:Nat->Nat)(m:Nat):∀j,xf f m j=orL f (kH m j)
 | 0=>rfl
 | j+1=>by
  rw[xf,Y9]
  split
  . rw[YB,wH f m j]
  . exact wH f m j
theorem or_lt32{a b:Nat}(ha:a<32)(hb:b<32):a ||| b<32:=Nat.or_lt_two_pow (n:=5) ha hb
theorem QV(f:Nat->Nat)(hf:∀q,q<5->f q<32):∀(l:List Nat) (a:Nat),a<32->(∀i∈l,i<5)->l.foldl (fun a i=>a ||| f i) a<32
 | [],a,ha,_=>ha
 | i::l,a,ha,h=>QV f hf l _ (or_lt32 ha (hf i (h i (by simp)))) fun x hx=>h x (by simp[hx])
theorem orL_lt(f:Nat->Nat)(hf:∀q,q<5->f q<32)(l:List Nat)(h:∀i∈l,i<5):orL f l<32:=QV f hf l 0 (by decide) h
theorem ZL(s:Nat)(hs:s<32)(w:Ba)(hT:Tab w)(h3:3<=w.heap.size):An Al 133 #[O U (s:Int)] w fun e w'=>∃v,e=Ak v/\Own w' w.heap.size v (qV (xa s))/\Am w.heap.size w w':=by
 have hc:=YG 5 (s:Int) w hT h3
 have hk:yt 5 (s:Int)=0:=by
  have h:∀s:Nat,s<32->yt 5 (s:Int)=0:=by decide +kernel
  exact h s hs
 have hm:memL 5 (s:Int)=qV (xa s):=by unfold memL;rw[Lm hk,Lu]
 rw[hk,hm] at hc;have HC:=zH hc;clear hc hk hm hT;go_enter func133,ntmps133;go_wp2_with fail;refine HC.out.mono ?_;rintro e w' ⟨v,rfl,ho,hb⟩;have HO:=zH ho;have HB:=zH hb;clear ho hb HC;go_wp2_with fail;go_ret;exact⟨_,rfl,HO.out,HB.out⟩
theorem ZT(n:Int)(f:Nat->Nat)(hf:∀q,q<5->f q<32)(m:Nat)(hm:m<32)(w:Ba)(hT:Tab w)(h3:3<=w.heap.size) :
  An Al 104 #[.agg (gF n f),O U (m:Int)] w fun e w'=>e=Ak (O U ((xf f m 5:Nat):Int))/\Am w.heap.size w w':=by
 obtain⟨w1,af,d0,aW,ay⟩:=zq w (gF n f) 45;have HC:=zH (ZL m hm w1 (hT.keep ay h3) (by omega));have In:=zH (fun (q:Nat) (hq:q<5)=>Zc n f hq);have HF:=zH hf;have Ed:∀i∈xa m,i<5:=fun i hi=>by have:=(List.mem_filter.1 hi).1;simpa using this
 have pE:xf f m 5=orL f (xa m):=wH f m 5;rw[pE];obtain⟨L,hL⟩:=Kh (xa m);rw[hL] at HC Ed ⊢;have bq:L.length<=5:=by rw[<-hL];exact LE (NW _ _) (by simp)
 have C3:=zH Ed;have VU:=zH (fun (k:Nat)=>orL_lt f hf (L.take k) fun i hi=>Ed i (Rp hi));have cd:=zH ay;have HD:=zH d0;unfold gF at af d0 HD ⊢;have au:=zH af;clear hT hf Ed hL pE af d0 aW ay;go_enter func104,ntmps104;go_wp2_with fail;rw[au.out];go_wp2_with fail;refine HC.out.mono ?_;rintro e w2 ⟨v,rfl,ho,ae⟩;obtain⟨A,cap,rfl,_,_,hI⟩:=ho.form;rw[qs];have HI:=zH hI;have G2:=zH ae;clear ho hI ae HC;go_wp2_with fail
 go_loopw [5,11] (fun o i wr=>∃k:Nat,k<=L.length/\i=O U (k:Int)/\o=O U ((orL f (L.take k):Nat):Int)/\Ap (Am w2.heap.size w2 wr)) (fun _ i _=>L.length-(Ao i).toNat)
 case atStart=>exact⟨0,by omega,rfl,rfl,Ln _ _⟩
 obtain⟨k,hk,rfl,rfl,cD⟩:=hrel;have iK:IntKind.i64.wrap ((k:Int)+1)=((k+1:Nat):Int):=by rw[Lw];omega
 by_cases aa:k<L.length
 . have cW:(0:Int)<=(k:Int):=by omega
   have cp:(k:Int)<(L.length:Int):=by omega
   obtain⟨b,o,rfl,hb,c0⟩:=HI.out.at_ k (by rw[qs];exact aa);have c1:=(cD.out.cell (p:=⟨b,o+k,Z⟩) hb).trans c0;have e1:(qV L)[k]'(by rw[qs];exact aa)=((L[k]:Nat):Int):=by simp[qV]
   rw[e1] at c1;have h5:=C3.out _ (Le aa);have lZ:orL f (L.take (k+1))=orL f (L.take k) ||| f L[k]:=by rw[Ls aa,YB]
   obtain⟨i,hi⟩:=Kh (L[k]);rw[hi] at c1 h5 lZ;have d1:=za (Lb cD.out (by have:=G2.out.size;have:=zd HD.out;omega) (La G2.out HD.out)) (1+i) (In.out i h5);have py:=or_32 (VU.out k) (HF.out i h5);have BJ:(0:Int)<=(i:Int):=by omega
   have DL:(i:Int)<5:=by omega
   have ND:=zH lZ;obtain⟨a0,tJ⟩:=Kh (orL f (L.take k));obtain⟨a1,dp⟩:=Kh (f i);rw[tJ,dp] at py ND;rw[dp] at d1;rw[tJ];clear c0 e1 hi lZ tJ dp;go_wp2_with fail
   go_roundw
   case rel=>exact⟨k+1,by omega,by go_num,by rw[ND.out],cD⟩
   simp[Ao];omega
 have FG:k=L.length:=by omega
 have cp:¬(k:Int)<(L.length:Int):=by omega
 have HK:Ap (orL f (L.take k)=orL f L):=by rw[FG,LC];rfl
 have mP:=zH (cd.out.trans ((Lc G2.out cD.out).mono cd.out.size));clear FG;go_wp2_with fail;go_ret;exact⟨by rw[HK.out];rfl,mP.out⟩
end
end Go.Proofs.YtkledihebeidlaaGreatDoor
