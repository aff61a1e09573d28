/- Merged. -/
import Derived.Test.YtkledihebeidlaaGreatDoorVe
import Derived.Laws.MakeOwn
import Derived.Lib.FrozenHead2
import Derived.Lib.OthersKept
import Derived.Lib.Builder
import Derived.Lib.AppendStr
import Derived.Laws.Externs
import Derived.BigRegion
open Go.Proofs.Tryz
open Go.Value renaming int->O,slice->I,bool->Ai,agg->Aj,pointer->Ak
open Go.IntKind renaming i64->U
open Option renaming none->Z,some->J
open Go.Obj renaming cells->Ah
open Go.Ending renaming returned->Am
open Go.Proofs.Tryz renaming prog->An,func66->RJ,ntmps66->Ru,underlying88->Rs,func134->Rv,ntmps134->Rm,func106->Rw
open Go.RowKit renaming Below->Ao,intOf->Aq,Hid->As
open Go renaming Calls->Ap,Value->Au
open Bool renaming true->Av,false->Ax
open List renaming getElem_map->RG,filter_append->N3,filter_cons->PX,setIfInBounds_toArray->RR
open Go.RowKit.Below renaming setCell->Ls
open Go.Oper renaming upon_value->RL
open Go.Lib renaming cell_of_heap->PY
namespace Go.Proofs.YtkledihebeidlaaGreatDoor
abbrev Pr:=@List.length_filter_le
set_option maxRecDepth 100000
set_option maxHeartbeats 4000000
section
open Go.RowKit
attribute [local go_sem] Oper.semAt_some
theorem num_many{p:Pb}(h:zz p=0):4096<ge p↔4096<zA p:=by
 obtain⟨ep,_⟩:=zK h;obtain⟨h1,_⟩:=yn ep;have e:zA p=p.t.cases.length*zI p.a p.k.toNat 0:=by unfold zA;rw[N2]
 rw[e];exact Qu 4096 p.t.cases.length (zI p.a p.k.toNat 0) h1
theorem uV(p:Pb)(hf:qn p)(A:Bb)(kc:Nat)(SV:Bb)(ks:Nat)(w:Ba)(hA:CAt w w.heap.size A p.t.cases)(hS:SAt w w.heap.size SV p.a.sts) :
  Ap An 56 #[.agg (p.vs A kc SV ks)] w (RetSys (zD p) w):=by
 have HC:=zH (fun (w':Ba) (h1:CAt w' w'.heap.size A p.t.cases) (h2:SAt w' w'.heap.size SV p.a.sts)=>vP p hf.1 A kc SV ks w' h1 h2)
 have HN:=zH (fun (w':Ba) (h0:zz p=0) (h:SAt w' w'.heap.size SV p.a.sts)=>
  gC p hf.1 (yj hf.1.2 (zK h0).2.1).1 (yj hf.1.2 (zK h0).2.1).2.1 p.k.toNat 4096 (by have:=(zK h0).2.2.2.1;omega) (by have:=(zK h0).2.2.2.2;omega) (by decide) A kc SV ks w' h)
 have HB:=zH (fun (h0:zz p=0) (da:zA p<=60) (w':Ba) (h1:CAt w' w'.heap.size A p.t.cases) (h2:SAt w' w'.heap.size SV p.a.sts)=>J6 p hf h0 da A kc SV ks w' h1 h2);have pw:=zH (@xg p);have fU:=zH (@yP p);have Dt:=zH (@xI p);have Dv:=zH (@num_many p);have fg:=zH hf.2;obtain⟨R,hR⟩:=Kh (zD p);rw[hR] at pw fU Dt ⊢;obtain⟨w1,ag,d0,d1,bq,aw⟩:=zZ w (p.vs A kc SV ks) #[O U 0,O U 0,O U 0,I Z 0 0,O U 0,I Z 0 0,O U 0,O U 0,I Z 0 0,I Z 0 0] 29 36;have KG:=zH hA;have Vu:=zH hS;have HA:=zH ((hA.keep aw).more aw.size);have HS:=zH ((hS.keep aw).more aw.size);unfold Pb.vs at ag d0 ⊢;have al:=zH ag;have bn:=zH d0;have bN:=zH d1;have dp:=zH aw;obtain⟨p0,p1,p2,p3,p4,p5,p6,_⟩:=Kf d0;obtain⟨E,hE⟩:=Kh (zz p);have nK:=zH hE;rw[hE] at HC pw;obtain⟨M,hM⟩:=Kh (p.t.cases.length*yw 4096 (zI p.a p.k.toNat 0));have ma:As (ge p=M):=hM;rw[hM] at HN;clear ag d0 d1 aw hA hS hf hR hE hM;go_enter func56,ntmps56;go_wp2_with fail;rw[al.out];go_wp2_with fail;refine(HC.out w1 HA.out HS.out).mono ?_;rintro e w2 ⟨rfl,ae⟩;have B2:=zH (dp.out.trans (ae.mono (by omega)));have Fo:=zH ((HA.out.keep ae).more ae.size);have dc:=zH ((HS.out.keep ae).more ae.size);have dq:=ae.size;have d0:=La ae bn.out;have d1:=La ae bN.out;have en:=zH d0;have ay:=zH d1;clear ae HC al bn bN HA HS p0 p1 p2 p3 p4 p5 p6
 obtain⟨p0,p1,p2,p3,p4,p5,p6,_⟩:=Kf d0
 by_cases h0:E=0
 case neg=>
  have hR:=zH (pw.out h0);have e0:(E != 0)=Av:=by simpa using h0
  have y0:=za d1 0 rfl;have f0:=zb d1 0;have y1:=za d1 1 rfl;have f1:=zb d1 1;have y2:=za d1 2 rfl;have f2:=zb d1 2;have y3:=za d1 3 rfl;have f3:=zb d1 3;have y4:=za d1 4 rfl;have f4:=zb d1 4;have y5:=za d1 5 rfl;have f5:=zb d1 5;have y6:=za d1 6 rfl;have f6:=zb d1 6;have y7:=za d1 7 rfl;have f7:=zb d1 7;have y8:=za d1 8 rfl;have f8:=zb d1 8;have y9:=za d1 9 rfl;have f9:=zb d1 9;obtain⟨k1,k2,k3⟩:=xj (O U 0) (O U 0) (O U 0) (I Z 0 0) (O U 0) (I Z 0 0) (O U 0) (O U 0) (I Z 0 0) (I Z 0 0) d1 B2.out (by omega:w.heap.size<=w.heap.size+1);obtain⟨WF,cU⟩:=Kh (((((((((((w2.setCell ⟨w.heap.size+1,0,Z⟩ (O U 0)).setCell ⟨w.heap.size+1,1,Z⟩ (O U 0)).setCell ⟨w.heap.size+1,2,Z⟩ (O U 0)).setCell ⟨w.heap.size+1,3,Z⟩ (I Z 0 0)).setCell ⟨w.heap.size+1,4,Z⟩ (O U 0)).setCell ⟨w.heap.size+1,5,Z⟩ (I Z 0 0)).setCell ⟨w.heap.size+1,6,Z⟩ (O U 0)).setCell ⟨w.heap.size+1,7,Z⟩ (O U 0)).setCell ⟨w.heap.size+1,8,Z⟩ (I Z 0 0)).setCell ⟨w.heap.size+1,9,Z⟩ (I Z 0 0)));rw[cU] at k1 k2 k3;have mb:=zH k1;have iP:=zH k2;have ry:=zH k3;have iJ:=zH cU;clear k1 k2 k3 cU;clear fU Dt Dv HN HB fg h0 d0 d1;go_wp2_with fail;rw[iJ.out];obtain⟨z0,z1,z2,z3,z4,z5,z6,z7,z8,z9⟩:=ya mb.out
  refine Nb (v:=.tuple #[Aj #[O U 0,O U 0,O U 0,I Z 0 0,O U 0,I Z 0 0,O U 0,O U 0,I Z 0 0,I Z 0 0],O U E]) (by simp[results,results56,go_sem,z0,z1,z2,z3,z4,z5,z6,z7,z8,z9]) rfl ?_;rw[hR.out];exact RetSys.zero _ iP.out
 case pos=>
 subst h0;clear pw;go_wp2_with fail;refine(HN.out w2 nK.out dc.out).mono ?_;rintro e w3 ⟨rfl,ap⟩;have B3:=zH (B2.out.trans (ap.mono (by omega)));have Fn:=zH ((Fo.out.keep ap).more ap.size);have dz:=zH ((dc.out.keep ap).more ap.size);have fj:=ap.size;have d0:=La ap en.out;have d1:=La ap ay.out;have DK:=zH d0;have mc:=zH d1;clear ap HN en ay Fo dc p0 p1 p2 p3 p4 p5 p6
 by_cases hm:4096<M
 case pos=>
  have hR:=zH (fU.out nK.out ((Dv.out nK.out).1 (by rw[ma.out];exact hm)));have TG:(4096:Int)<(M:Int):=by omega
  have y0:=za d1 0 rfl;have f0:=zb d1 0;have y1:=za d1 1 rfl;have f1:=zb d1 1;have y2:=za d1 2 rfl;have f2:=zb d1 2;have y3:=za d1 3 rfl;have f3:=zb d1 3;have y4:=za d1 4 rfl;have f4:=zb d1 4;have y5:=za d1 5 rfl;have f5:=zb d1 5;have y6:=za d1 6 rfl;have f6:=zb d1 6;have y7:=za d1 7 rfl;have f7:=zb d1 7;have y8:=za d1 8 rfl;have f8:=zb d1 8;have y9:=za d1 9 rfl;have f9:=zb d1 9;obtain⟨k1,k2,k3⟩:=xj (O U 0) (O U 0) (O U 0) (I Z 0 0) (O U 0) (I Z 0 0) (O U 0) (O U 0) (I Z 0 0) (I Z 0 0) d1 B3.out (by omega:w.heap.size<=w.heap.size+1);obtain⟨WF,cU⟩:=Kh (((((((((((w3.setCell ⟨w.heap.size+1,0,Z⟩ (O U 0)).setCell ⟨w.heap.size+1,1,Z⟩ (O U 0)).setCell ⟨w.heap.size+1,2,Z⟩ (O U 0)).setCell ⟨w.heap.size+1,3,Z⟩ (I Z 0 0)).setCell ⟨w.heap.size+1,4,Z⟩ (O U 0)).setCell ⟨w.heap.size+1,5,Z⟩ (I Z 0 0)).setCell ⟨w.heap.size+1,6,Z⟩ (O U 0)).setCell ⟨w.heap.size+1,7,Z⟩ (O U 0)).setCell ⟨w.heap.size+1,8,Z⟩ (I Z 0 0)).setCell ⟨w.heap.size+1,9,Z⟩ (I Z 0 0)));rw[cU] at k1 k2 k3;have mb:=zH k1;have iP:=zH k2;have ry:=zH k3;have iJ:=zH cU;clear k1 k2 k3 cU;clear fU Dt Dv HB fg d0 d1;go_wp2_with fail;rw[iJ.out];obtain⟨z0,z1,z2,z3,z4,z5,z6,z7,z8,z9⟩:=ya mb.out
  refine Nb (v:=.tuple #[Aj #[O U 0,O U 0,O U 0,I Z 0 0,O U 0,I Z 0 0,O U 0,O U 0,I Z 0 0,I Z 0 0],O U 17]) (by simp[results,results56,go_sem,z0,z1,z2,z3,z4,z5,z6,z7,z8,z9]) rfl ?_;rw[hR.out];exact RetSys.zero _ iP.out
 case neg=>
 have tX:¬(4096<zA p):=fun h=>hm (by rw[<-ma.out];exact(Dv.out nK.out).2 h)
 have da:zA p<=60:=by
  rcases fg.out nK.out with h | h
  . exact h
  exact absurd h tX
 have hR:=zH (Dt.out nK.out (by omega));have TG:¬((4096:Int)<(M:Int)):=by omega
 have Sh:=zH (HB.out nK.out da w3 Fn.out dz.out);have R7:=zH (Zk p nK.out da).1;obtain⟨p0,p1,p2,p3,p4,p5,p6,_⟩:=Kf d0;clear fU Dt Dv HB fg tX da d0 d1 ma;go_wp2_with fail
 all_goals first | (exfalso;omega) | skip
 refine Sh.out.mono ?_;rintro e w4 ⟨AV,kv,AE,ke,rfl,hV,hX,be⟩;have B4:=zH (B3.out.trans (be.mono (by omega)));have IC:=zH hV;have Iu:=zH hX;have fK:=be.size;have d1:=La be mc.out;have tt:=zH d1;have Fm:=zH ((Fn.out.keep be).more be.size);have l8:=zH ((dz.out.keep be).more be.size);clear hV hX be Sh DK mc p0 p1 p2 p3 p4 p5 p6 d1;obtain⟨W5,lX,b5,mt,dO⟩:=zq w4 #[O U p.t.n,O U p.t.ins,O U p.t.outs,I A p.t.cases.length kc,O U p.a.n,I SV p.a.sts.length ks,O U p.k,O U p.t.n,.slice AV (zn p (zl p)).1.length kv,.slice AE (zn p (zl p)).2.length ke] 36;have d1:=La dO tt.out;have B5:=zH (B4.out.trans (dO.mono (by omega)));have eC:=zH dO;have s':=zH lX;obtain⟨x0,x1,x2,x3,x4,x5,x6,x7,x8,x9⟩:=ya b5;have hfv:¬((8192:Int)<((zn p (zl p)).1.length:Int)):=by have:=R7.out;omega
 clear lX dO b5;go_simp;rename_i eN;refine eN _ _ ?_;clear eN;refine LM rfl fun K5 aX=>?_
 go_simp;refine aX _ _ ?_;clear aX K5;refine LM rfl fun K5 aX=>?_
 go_simp;rw[s'.out];refine aX _ _ ?_;clear aX K5 s';have y0:=za d1 0 rfl;have f0:=zb d1 0;have y1:=za d1 1 rfl;have f1:=zb d1 1;have y2:=za d1 2 rfl;have f2:=zb d1 2;have y3:=za d1 3 rfl;have f3:=zb d1 3;have y4:=za d1 4 rfl;have f4:=zb d1 4;have y5:=za d1 5 rfl;have f5:=zb d1 5;have y6:=za d1 6 rfl;have f6:=zb d1 6;have y7:=za d1 7 rfl;have f7:=zb d1 7;have y8:=za d1 8 rfl;have f8:=zb d1 8;have y9:=za d1 9 rfl;have f9:=zb d1 9;obtain⟨k1,k2,k3⟩:=xj (O U p.t.n) (O U p.t.ins) (O U p.t.outs) (I A p.t.cases.length kc) (O U p.a.n) (I SV p.a.sts.length ks) (O U p.k) (O U p.t.n) (.slice AV (zn p (zl p)).1.length kv) (.slice AE (zn p (zl p)).2.length ke) d1 B5.out (by omega:w.heap.size<=w.heap.size+1);obtain⟨WF,cU⟩:=Kh (((((((((((W5.setCell ⟨w.heap.size+1,0,Z⟩ (O U p.t.n)).setCell ⟨w.heap.size+1,1,Z⟩ (O U p.t.ins)).setCell ⟨w.heap.size+1,2,Z⟩ (O U p.t.outs)).setCell ⟨w.heap.size+1,3,Z⟩ (I A p.t.cases.length kc)).setCell ⟨w.heap.size+1,4,Z⟩ (O U p.a.n)).setCell ⟨w.heap.size+1,5,Z⟩ (I SV p.a.sts.length ks)).setCell ⟨w.heap.size+1,6,Z⟩ (O U p.k)).setCell ⟨w.heap.size+1,7,Z⟩ (O U p.t.n)).setCell ⟨w.heap.size+1,8,Z⟩ (.slice AV (zn p (zl p)).1.length kv)).setCell ⟨w.heap.size+1,9,Z⟩ (.slice AE (zn p (zl p)).2.length ke)));rw[cU] at k1 k2 k3;have mb:=zH k1;have iP:=zH k2;have ry:=zH k3;have iJ:=zH cU;clear k1 k2 k3 cU;clear d1;go_wp2_with fail;rw[iJ.out]
 obtain⟨z0,z1,z2,z3,z4,z5,z6,z7,z8,z9⟩:=ya mb.out;refine Nb (v:=.tuple #[Aj #[O U p.t.n,O U p.t.ins,O U p.t.outs,I A p.t.cases.length kc,O U p.a.n,I SV p.a.sts.length ks,O U p.k,O U p.t.n,.slice AV (zn p (zl p)).1.length kv,.slice AE (zn p (zl p)).2.length ke],O U 0]) (by simp[results,results56,go_sem,z0,z1,z2,z3,z4,z5,z6,z7,z8,z9]) rfl ?_;rw[hR.out];have cP:∀k,k≠w.heap.size+1->k<w4.heap.size->WF.heap[k]?=w4.heap[k]?:=fun k a b=>(ry.out.2.1 k a).trans (eC.out.block k b)
 have hz:w4.heap.size<=WF.heap.size:=by have:=eC.out.size;have:=ry.out.2.2;omega
 obtain⟨St,Ma,eV,hT⟩:=(IC.out.of_same fun k hk=>cP k (by have:=(IC.out.lt' k hk).1;omega) (IC.out.lt' k hk).2).form (by have:=R7.out;omega)
 cases eV
 obtain⟨Su,Mb,eE,_,_,EG,_⟩:=vu (Iu.out.keep zy ⟨hz,fun k hs hl=>cP k (by omega) hl⟩ fun k hk=>cP k (by have:=(Iu.out.lt k hk).1;omega) (Iu.out.lt k hk).2)
 cases eE
 exact⟨A,kc,SV,ks,AV,kv,AE,ke,rfl,⟨(KG.out.keep iP.out).more iP.out.size,(Vu.out.keep iP.out).more iP.out.size,hT.rows,EG⟩,hT.lec,hT.lem,iP.out⟩
theorem rver_any(s:Sy)(hs:LowS s)(hf:qn s.p)(A SV AV AX:Bb)(kc ks kv kx:Nat)(w:Ba)(hS:SyAt w w.heap.size A SV AV AX s) :
  Ap An 23 #[.agg (s.vs_ A kc SV ks AV kv AX kx)] w fun e w'=>e=Am (O U (yQ s))/\Ao w.heap.size w w':=by
 obtain⟨w1,ag⟩:=Kh (w.alloc (Ah (s.vs_ A kc SV ks AV kv AX kx) 36));have aI:=zg w (Ah (s.vs_ A kc SV ks AV kv AX kx) 36);have an:Ao w.heap.size w w1:=by rw[<-ag];exact zt w _
 have ch:w1.heap.size=w.heap.size+1:=by rw[<-ag];simp
 rw[ag] at aI;have fA:=zH (hS.up an);have HB:=zH (uV s.p hf A kc SV ks w1 (hS.up an).fc (hS.up an).fs);have mZ:=zH (qL hs.fp hf);have mY:=zH hs;have iK:As (yQ s=if (zD s.p).2≠0 then (zD s.p).2 else if s=(zD s.p).1 then 0 else 3):=rfl
 have bu:=zH (fun (h:(zD s.p).2=0)=>(by
  by_cases h0:zz s.p=0
  case neg=>rw[xg h0] at h;exact absurd h h0
  case pos=>
   by_cases h1:4096<zA s.p
   . rw[yP h0 h1] at h;cases h
   . rw[xI h0 (by omega)];exact⟨rfl,rfl⟩:(zD s.p).1.p=s.p/\(zD s.p).1.n=s.p.t.n))
 unfold Sy.vs_ at ag aI ⊢;unfold Pb.vs at HB;have al:=zH ag;have bJ:=zH aI;have aY:=zH an;obtain⟨R,hR⟩:=Kh (zD s.p);rw[hR] at HB mZ iK bu;obtain⟨r,hr⟩:=Kh (yQ s);rw[hr] at iK ⊢;clear ag aI an hS hs hf hR hr;go_enter func23,ntmps23;go_wp2_with fail;rw[al.out];go_wp2_with fail;refine HB.out.mono ?_;rintro e w2 ⟨A2,dD,db,dC,py,oe,px,od,rfl,iD,fi,fH,ae⟩;obtain⟨T,E⟩:=R;obtain⟨W3,bU,b3,fj,aW⟩:=zq w2 (T.vs_ A2 dD db dC py oe px od) 36;have dz:=zH (iD.up aW);have bE:=zH (aY.out.trans ((Lc ae aW).mono (by omega)));have dq:=ae.size;have d0:=Lb aW (by omega:w.heap.size<w2.heap.size) (Lb ae (by omega:w.heap.size<w1.heap.size) bJ.out);have pg:=zH ((fA.out.up ae).up aW);unfold Sy.vs_ at bU b3 ⊢;have ez:=zH bU;have lL:=zH b3;clear ae iD fi fH aW bU HB al fA bJ;dsimp only at iK bu mZ dz;go_simp;rename_i eN;refine eN _ _ ?_;clear eN;refine LM rfl fun K5 aX=>?_
 go_simp;refine aX _ _ ?_;clear aX K5;refine LM rfl fun K5 aX=>?_
 go_simp;refine aX _ _ ?_;clear aX K5;refine LM rfl fun K5 aX=>?_
 go_simp;refine aX _ _ ?_;clear aX K5;refine LM rfl fun K5 aX=>?_
 go_simp;refine aX _ _ ?_;clear aX K5;refine LM rfl fun K5 aX=>?_
 go_simp;rw[ez.out];refine aX _ _ ?_;clear aX K5
 by_cases h0:E=0
 case neg=>
  have e0:(E != 0)=Av:=by simpa using h0
  have hR:As (r=E):=iK.out.trans (Ln h0);clear iK bu h0 d0 b3;go_wp2_with fail;go_ret;exact⟨zc hR.out.symm,bE.out⟩
 case pos=>
 subst h0;obtain⟨pY,Hd⟩:=bu.out rfl;have sI:r=if s=T then 0 else 3:=iK.out.trans (Lj (by simp));have H3:As (s≠T->r=3):=fun h=>sI.trans (Lj h)
 have H0:As (s=T->r=0):=fun h=>sI.trans (Ln h)
 have ID:=zH pY;have rC:=zH (@sy_eq s T);have E4:=zH (Y7 s T mY.out mZ.out A SV AV AX A2 db py px kc ks kv kx dD dC oe od W3 pg.out dz.out);have x0:W3.cell? ⟨w.heap.size,0,Z⟩=J (O U s.p.t.n):=za d0 0 rfl;have y0:W3.cell? ⟨w2.heap.size,0,Z⟩=J (O U T.p.t.n):=za b3 0 rfl;have x1:W3.cell? ⟨w.heap.size,1,Z⟩=J (O U s.p.t.ins):=za d0 1 rfl;have y1:W3.cell? ⟨w2.heap.size,1,Z⟩=J (O U T.p.t.ins):=za b3 1 rfl;have x2:W3.cell? ⟨w.heap.size,2,Z⟩=J (O U s.p.t.outs):=za d0 2 rfl;have y2:W3.cell? ⟨w2.heap.size,2,Z⟩=J (O U T.p.t.outs):=za b3 2 rfl;have x3:W3.cell? ⟨w.heap.size,3,Z⟩=J (I A s.p.t.cases.length kc):=za d0 3 rfl;have y3:W3.cell? ⟨w2.heap.size,3,Z⟩=J (I A2 T.p.t.cases.length dD):=za b3 3 rfl;have x4:W3.cell? ⟨w.heap.size,4,Z⟩=J (O U s.p.a.n):=za d0 4 rfl;have y4:W3.cell? ⟨w2.heap.size,4,Z⟩=J (O U T.p.a.n):=za b3 4 rfl;have x5:W3.cell? ⟨w.heap.size,5,Z⟩=J (I SV s.p.a.sts.length ks):=za d0 5 rfl;have y5:W3.cell? ⟨w2.heap.size,5,Z⟩=J (I db T.p.a.sts.length dC):=za b3 5 rfl;have x6:W3.cell? ⟨w.heap.size,6,Z⟩=J (O U s.p.k):=za d0 6 rfl;have y6:W3.cell? ⟨w2.heap.size,6,Z⟩=J (O U T.p.k):=za b3 6 rfl;have x7:W3.cell? ⟨w.heap.size,7,Z⟩=J (O U s.n):=za d0 7 rfl;have y7:W3.cell? ⟨w2.heap.size,7,Z⟩=J (O U T.n):=za b3 7 rfl
 have x8:W3.cell? ⟨w.heap.size,8,Z⟩=J (I AV s.vs.length kv):=za d0 8 rfl;have y8:W3.cell? ⟨w2.heap.size,8,Z⟩=J (I py T.vs.length oe):=za b3 8 rfl;have x9:W3.cell? ⟨w.heap.size,9,Z⟩=J (I AX s.xs.length kx):=za d0 9 rfl;have y9:W3.cell? ⟨w2.heap.size,9,Z⟩=J (I px T.xs.length od):=za b3 9 rfl;unfold Sy.vs_ at E4;clear pY Hd sI iK bu d0 b3 mZ mY ID rC;go_wp2_with fail;refine E4.out.mono ?_;rintro e w4 ⟨rfl,be⟩;have B4:=zH (bE.out.trans (be.mono (by omega)));clear be E4 x0 x1 x2 x3 x4 x5 x6 x7 x8 x9 y0 y1 y2 y3 y4 y5 y6 y7 y8 y9
 by_cases h2:s=T
 case neg=>
  have hR:=zH (H3.out h2);rw[Ll h2];clear H3 H0 h2;go_wp2_with fail;go_ret;exact⟨zc hR.out.symm,B4.out⟩
 have hR:=zH (H0.out h2);rw[Lm h2];clear H3 H0 h2;go_wp2_with fail;go_ret;exact⟨zc hR.out.symm,B4.out⟩
def qb(p:Pb):Bool:=xp p&&decide ((zD p).2=0)
theorem Jl(p:Pb)(hl:wV p)(A:Bb)(kc:Nat)(SV:Bb)(ks:Nat)(w:Ba)(hA:CAt w w.heap.size A p.t.cases)(hS:SAt w w.heap.size SV p.a.sts) :
  Ap An 22 #[.agg (p.vs A kc SV ks)] w fun e w'=>e=Am (Ai (qb p))/\Ao w.heap.size w w':=by
 obtain⟨w1,ag⟩:=Kh (w.alloc (Ah (p.vs A kc SV ks) 29));have aI:=zg w (Ah (p.vs A kc SV ks) 29);have an:Ao w.heap.size w w1:=by rw[<-ag];exact zt w _
 have ch:w1.heap.size=w.heap.size+1:=by rw[<-ag];simp
 rw[ag] at aI;have HF:=zH (few_any p hl A kc SV ks w1 ((hA.keep an).more an.size) ((hS.keep an).more an.size));have fY:=zH (fun (h:xp p=Av) (X:Ba) (hX:Ao w1.heap.size w1 X)=>uV p (few_x h).1 A kc SV ks X ((((hA.keep an).more an.size).keep hX).more hX.size) ((((hS.keep an).more an.size).keep hX).more hX.size));have iM:As (qb p=(xp p&&decide ((zD p).2=0))):=rfl;obtain⟨r,hr⟩:=Kh (qb p);rw[hr] at iM ⊢;obtain⟨R,hR⟩:=Kh (zD p);rw[hR] at fY iM;obtain⟨b,hb⟩:=Kh (xp p);rw[hb] at HF fY iM;unfold Pb.vs at ag aI HF fY ⊢;have al:=zH ag;have bJ:=zH aI;have aY:=zH an;have p5:=za aI 5 rfl;have p6:=za aI 6 rfl;clear ag aI an hA hS hl hr hR hb;go_enter func22,ntmps22;go_wp2_with fail;rw[al.out];go_wp2_with fail;refine HF.out.mono ?_;rintro e w2 ⟨rfl,ae⟩;have aU:=zH (aY.out.trans (ae.mono (by omega)));have d0:=Lb ae (by omega:w.heap.size<w1.heap.size) bJ.out;have dq:=ae.size
 cases b with
 | false=>
  have CO:As (r=Ax):=iM.out;clear iM fY HF p5 p6 d0 ae bJ al;go_wp2_with fail;go_ret;exact⟨ze CO.out.symm,aU.out⟩
 | true=>
  have bE:=zH (fY.out rfl w2 ae);have CO:As (r=decide (R.2=0)):=iM.out;clear p5 p6 ae fY HF bJ al iM;obtain⟨p0,p1,p2,p3,p4,p5,p6,_⟩:=Kf d0;clear d0;go_wp2_with fail;refine bE.out.mono ?_;rintro e w3 ⟨A2,dD,db,dC,py,oe,px,od,rfl,iD,fi,fH,ap⟩;obtain⟨T,E⟩:=R;have fB:=zH (aU.out.trans ((ap.trans (zt w3 (Ah (T.vs_ A2 dD db dC py oe px od) 36) |>.mono ap.size)).mono (by omega)));unfold Sy.vs_ at fB ⊢;clear ap iD fi fH bE p5 p6;go_wp2_with fail;go_ret;exact⟨ze (by rw[CO.out];first | rfl | exact ZF Iff.rfl | (rw[Nq];simp)),fB.out⟩
end
section
def At(vs:List Vw)(i:Int)(v:Vw):Prop:=0<=i/\vs[i.toNat]?=J v
theorem At.mono{vs us:List Vw}{i:Int}{v:Vw}(h:At vs i v):At (vs++us) i v:=
 ⟨h.1,by rw[LX (Lo.1 h.2).1];exact h.2⟩
theorem At.lt{vs:List Vw}{i:Int}{v:Vw}(h:At vs i v):0<=i/\i<vs.length:=⟨h.1,by have:=(Lo.1 h.2).1;have:=h.1;omega⟩
theorem Yc(vs:List Vw)(v:Vw):∃us,(xF vs v).1=vs++us:=by
 unfold xF
 split
 . exact⟨[],by simp⟩
 exact⟨[v],rfl⟩
theorem putW_at(vs:List Vw)(v:Vw):At (xF vs v).1 (xF vs v).2 v:=by
 unfold xF
 split
 . rename_i h
   unfold qp;rw[Ln h];refine⟨by omega,?_⟩;have h1:=List.idxOf_lt_length_of_mem h;show vs[((vs.idxOf v:Nat):Int).toNat]?=_;rw[Lv,Lg h1,List.getElem_idxOf]
 refine⟨by omega,?_⟩;show(vs++[v])[((vs.length:Nat):Int).toNat]?=_;rw[Lv];simp
theorem putW_mem(vs:List Vw)(v:Vw):∀u∈(xF vs v).1,u∈vs\/u=v:=by
 unfold xF
 split
 . exact fun u h=>.inl h
 intro u h;rcases LR.1 h with h | h
 . exact .inl h
 exact .inr (NK.1 h)
theorem Xg{vs:List Vw}(v:Vw)(h:vs.Nodup):(xF vs v).1.Nodup:=by
 unfold xF
 split
 . exact h
 rename_i hn;exact List.nodup_append.2 ⟨h,by simp,fun a ha b hb=>by rw[NK] at hb;subst hb;exact fun e=>hn (e▸ha)⟩
theorem uN(f:Nat->Vw)(vs:List Vw):∀p,∃us,(zP f vs p).1=vs++us
 | 0=>⟨[],by simp[zP]⟩
 | p+1=>by
  obtain⟨u1,h1⟩:=uN f vs p;obtain⟨u2,h2⟩:=Yc (zP f vs p).1 (f p);exact⟨u1++u2,by rw[zP];dsimp only;rw[h2,h1,Ng]⟩
theorem Qw(f:Nat->Vw)(vs:List Vw):∀n p,p<n->At (zP f vs n).1 ((zP f vs n).2.getD p 0) (f p)
 | n+1,p,h=>by
  rw[zP];dsimp only;have hl:=yY f vs n
  by_cases hp:p<n
  . rw[Lf,LX (by omega),<-Lf]
    obtain⟨u2,h2⟩:=Yc (zP f vs n).1 (f n);rw[h2];exact(Qw f vs n p hp).mono
  . obtain rfl:p=n:=by omega
    rw[Lf,LV (by omega),hl,NO];exact putW_at _ _
theorem uO(f:Nat->Vw)(vs:List Vw):∀n,∀u∈(zP f vs n).1,u∈vs\/∃p,p<n/\u=f p
 | 0,u,h=>.inl h
 | n+1,u,h=>by
  rw[zP] at h;rcases putW_mem _ _ u h with h | h
  . rcases uO f vs n u h with h | ⟨p,hp,e⟩
    . exact .inl h
    . exact .inr ⟨p,by omega,e⟩
  . exact .inr ⟨n,by omega,h⟩
theorem jk(f:Nat->Vw){vs:List Vw}(h:vs.Nodup):∀n,(zP f vs n).1.Nodup
 | 0=>h
 | n+1=>by rw[zP];exact Xg _ (jk f h n)
def uP(vs:List Vw)(n:Nat)(inp:List Int)(word:List Rd)(k:Nat):List Int:=(zk vs n inp word k).2.getD k []
def fV(vs:List Vw)(n:Nat)(inp:List Int)(word:List Rd):Nat->Nat->Vw
 | 0,p=>yq p (inp.getD p 0)
 | k+1,p=>xz (word.getD k default) (k+1) p (uP vs n inp word k)
section
variable (vs:List Vw) (n:Nat) (inp:List Int) (word:List Rd)
theorem vg:∀j,(∃us,(zk vs n inp word j).1=vs++us)/\∀k,k<=j->∃us,(zk vs n inp word j).1=(zk vs n inp word k).1++us
 | 0=>⟨by rw[zk];exact uN _ vs n,fun k hk=>⟨[],by obtain rfl:k=0:=(by omega);simp⟩⟩
 | j+1=>by
  obtain⟨⟨u1,h1⟩,h2⟩:=vg j;obtain⟨u3,h3⟩:=uN (fun p=>xz (word.getD j default) (j+1) p ((zk vs n inp word j).2.getD j [])) (zk vs n inp word j).1 n;have e:(zk vs n inp word (j+1)).1=(zk vs n inp word j).1++u3:=by rw[zk];exact h3
  refine⟨⟨u1++u3,by rw[e,h1,Ng]⟩,fun k hk=>?_⟩
  by_cases Gm:k<=j
  . obtain⟨u4,h4⟩:=h2 k Gm
    exact⟨u4++u3,by rw[e,h4,Ng]⟩
  . obtain rfl:k=j+1:=by omega
    exact⟨[],by simp⟩
theorem jo:∀j k,k<=j->(zk vs n inp word j).2.getD k []=uP vs n inp word k
 | 0,k,h=>by obtain rfl:k=0:=(by omega);rfl
 | j+1,k,h=>by
  by_cases Gm:k<=j
  . rw[<-jo j k Gm,zk,Lf,LX (by rw[zW];omega),<-Lf]
  . obtain rfl:k=j+1:=by omega
    rfl
theorem jG(k:Nat):(uP vs n inp word k).length=n:=by
 have h:k<(zk vs n inp word k).2.length:=by rw[zW];omega
 unfold uP;rw[Lf,Lg h];exact qe vs n inp word k _ (Ld h)
theorem rowK_eq:∀k,∃us,(zk vs n inp word k).1=(zP (fV vs n inp word k) us n).1/\uP vs n inp word k=(zP (fV vs n inp word k) us n).2
 | 0=>⟨vs,rfl,rfl⟩
 | k+1=>⟨(zk vs n inp word k).1,rfl,by
   unfold uP;rw[zk,Lf,LV (by rw[zW];omega),zW,NO]
   rfl⟩
theorem Zr(j k p:Nat)(hk:k<=j)(hp:p<n):At (zk vs n inp word j).1 ((uP vs n inp word k).getD p 0) (fV vs n inp word k p):=by
 obtain⟨us,e1,e2⟩:=rowK_eq vs n inp word k;obtain⟨u4,h4⟩:=(vg vs n inp word j).2 k hk;rw[h4,e2,e1];exact(Qw _ us n p hp).mono
theorem Yf:∀j,∀u∈(zk vs n inp word j).1,u∈vs\/∃k p,k<=j/\p<n/\u=fV vs n inp word k p
 | 0,u,h=>by
  rw[zk] at h;rcases uO _ vs n u h with h | ⟨p,hp,e⟩
  . exact .inl h
  . exact .inr ⟨0,p,Lh _,hp,e⟩
 | j+1,u,h=>by
  rw[zk] at h;rcases uO _ _ n u h with h | ⟨p,hp,e⟩
  . rcases Yf j u h with h | ⟨k,p,hk,hp,e⟩
    . exact .inl h
    . exact .inr ⟨k,p,by omega,hp,e⟩
  . exact .inr ⟨j+1,p,Lh _,hp,e⟩
theorem uX(h:vs.Nodup):∀j,(zk vs n inp word j).1.Nodup
 | 0=>by rw[zk];exact jk _ h n
 | j+1=>by rw[zk];exact jk _ (uX h j) n
end
structure XFin(p:Pb)(tab:List Vw)(c:Nat)(word:List Rd)(x:Exn)(vs:List Vw):Prop where
 hc:x.c=(c:Int)
 hw:x.word=word
 hv:x.views=(zk vs p.t.n.toNat (yA p c) word word.length).2
 ht:∃us,tab=(zk vs p.t.n.toNat (yA p c) word word.length).1++us
theorem ZZ(p:Pb)(l:List (Nat×List Rd)) :
  (∀i (h:i<l.length),∃x vs,(zn p l).2[i]?=J x/\XFin p (zn p l).1 l[i].1 l[i].2 x vs)/\(∀u∈(zn p l).1,∃y∈l,∃vs k q,k<=y.2.length/\q<p.t.n.toNat/\u=fV vs p.t.n.toNat (yA p y.1) y.2 k q/\∃us,(zn p l).1=(zk vs p.t.n.toNat (yA p y.1) y.2 y.2.length).1++us)/\(zn p l).1.Nodup:=by
 have key:∀n,n<=l.length ->
   (∀i (h:i<n) (hl:i<l.length),∃x vs,(zn p (l.take n)).2[i]?=J x/\XFin p (zn p (l.take n)).1 l[i].1 l[i].2 x vs)/\(∀u∈(zn p (l.take n)).1,∃y∈l,∃vs k q,k<=y.2.length/\q<p.t.n.toNat/\u=fV vs p.t.n.toNat (yA p y.1) y.2 k q/\∃us,(zn p (l.take n)).1=(zk vs p.t.n.toNat (yA p y.1) y.2 y.2.length).1++us)/\(zn p (l.take n)).1.Nodup:=by
  intro n
  induction n with
  | zero=>intro _;exact⟨fun i h=>absurd h (by omega),fun u h=>by simp[jF] at h,by simp[jF]⟩
  | succ n ih=>
   intro hn;obtain⟨h1,h2,h3⟩:=ih (by omega);have eq:n<l.length:=by omega
   have e:zn p (l.take (n+1))=((zk (zn p (l.take n)).1 p.t.n.toNat (yA p l[n].1) l[n].2 l[n].2.length).1,(zn p (l.take n)).2++[⟨l[n].1,l[n].2,(zk (zn p (l.take n)).1 p.t.n.toNat (yA p l[n].1) l[n].2 l[n].2.length).2⟩]):=by
    rw[Lu eq,xY]
   obtain⟨⟨u0,rP⟩,_⟩:=vg (zn p (l.take n)).1 p.t.n.toNat (yA p l[n].1) l[n].2 l[n].2.length;have aC:(zn p (l.take n)).2.length=n:=by rw[xL,Ps];omega
   rw[e];dsimp only;refine⟨fun i hi hl=>?_,fun u hu=>?_,uX _ _ _ _ h3 _⟩
   . by_cases bV:i<n
     . obtain⟨x,vs,hx,⟨a,b,c,⟨us,oy⟩⟩⟩:=h1 i bV hl
       refine⟨x,vs,by rw[LX (by omega)];exact hx,a,b,c,us++u0,?_⟩;rw[rP,oy,Ng]
     . obtain rfl:i=n:=by omega
       refine⟨_,(zn p (l.take i)).1,by rw[LV (by omega),aC,NO];rfl,rfl,rfl,rfl,[],by simp⟩
   . rcases Yf _ _ _ _ _ u hu with h | ⟨k,q,hk,hq,eu⟩
     . obtain⟨y,hy,vs,k,q,a,b,c,us,oy⟩:=h2 u h
       exact⟨y,hy,vs,k,q,a,b,c,us++u0,by rw[rP,oy,Ng]⟩
     . exact⟨l[n],Ld _,(zn p (l.take n)).1,k,q,hk,hq,eu,[],by simp⟩
 have h:=key l.length (Lh _);rw[LJ] at h;exact⟨fun i hi=>h.1 i hi hi,h.2⟩
theorem own_bit{r:Rd}(h:yp r=0)(p:Nat)(hp:(p:Int)<r.n):(r.h p).toNat.testBit p=Av:=by
 unfold yp at h
 split at h
 . cases h
 rename_i hn
 have key:∀k,k<=5->yi r (5-k) k=0->∀q,k<=q->q<5->xn r.n q (r.h q)=0:=by
  intro k hk
  induction hm:5-k generalizing k with
  | zero=>intro _ q h1 h2;omega
  | succ m ih=>
   intro hz q h1 h2;unfold yi at hz
   split at hz
   . rename_i bG;exact absurd hz bG
   . rename_i bG
     by_cases e:q=k
     . subst e;simpa using bG
     . exact ih (k+1) (by omega) (by omega) hz q (by omega) h2
 have h1:=key 0 (by omega) h p (by omega) (by omega);unfold xn at h1;rw[Lj (by omega)] at h1
 split at h1
 . cases h1
 split at h1
 . assumption
 cases h1
theorem seenE_h(r:Rd)(k p:Nat)(now:List Int)(q:Nat)(hq:q<5):(xz r k p now).h q=zN r p now q:=by
 match q,hq with
 | 0,_=>rfl
 | 1,_=>rfl
 | 2,_=>rfl
 | 3,_=>rfl
 | 4,_=>rfl
structure Fine(s:Sy)(K N:Nat):Prop where
 n:s.n=(N:Int)
 pn:s.p.t.n=(N:Int)
 k:s.p.k=(K:Int)
 n1:1<=N
 n5:N<=5
 k6:K<=6
 lv:s.vs.length<=2100
 lx:s.xs.length<=60
 word:∀x∈s.xs,x.word.length=K/\∀r∈x.word,zO r=0/\r.n=(N:Int)
 views:∀x∈s.xs,x.views.length=K+1/\∀l∈x.views,l.length=N/\∀i∈l,0<=i/\i<s.vs.length
 vs:∀v∈s.vs,(∃q:Nat,v.p=(q:Int)/\q<N)/\(∃r:Nat,v.r=(r:Int)/\r<=K)/\(0<v.r->∃u,At s.vs (v.h v.p.toNat) u/\u.p=v.p/\u.r=v.r-1)
theorem wO{p:Pb}(hf:qn p)(h0:zz p=0)(da:zA p<=60):∃K N,Fine (zL p) K N:=by
 obtain⟨ep,ip,ln,cK,mA⟩:=zK h0;obtain⟨h1,fE,nu⟩:=yn ep;obtain⟨r1,r2⟩:=Zk p h0 da;obtain⟨K,hK⟩:=Lr cK;obtain⟨N,hN⟩:=Lr (show 0<=p.t.n by omega);have Om:p.t.n.toNat=N:=by omega
 obtain⟨f1,f2,f3⟩:=ZZ p (zl p)
 have lm:∀y∈zl p,y.2.length=K/\∀r∈y.2,zO r=0/\r.n=(N:Int):=fun y hy=>by
  unfold zl at hy;obtain⟨d,_,hy⟩:=Ns.1 hy;obtain⟨w',dR,rfl⟩:=LG.1 hy;refine⟨by show w'.length=K;rw[yK p.a _ 0 w' dR];omega,fun r hr=>?_⟩;obtain⟨m,hm,rfl⟩:=qP p.a _ 0 w' dR r hr;obtain⟨z1,z2,_⟩:=xa (yj hf.1.2 ip).1 m hm;exact⟨z1,by rw[z2,<-ln,hN]⟩
 have hx:∀x∈(zn p (zl p)).2,∃y∈zl p,∃vs,XFin p (zn p (zl p)).1 y.1 y.2 x vs:=fun x hx=>by
  obtain⟨i,hi,e⟩:=Nc hx;rw[xL] at hi;obtain⟨x',vs,tF,hh⟩:=f1 i hi
  have:x=x':=by
   rw[Lg (by rw[xL];exact hi),e] at tF;exact NG tF
  subst this;exact⟨_,Ld hi,vs,hh⟩
 refine⟨K,N,hN,hN,hK,by omega,by omega,by omega,r1,r2,fun x hm=>?_,fun x hm=>?_,fun v hv=>?_⟩
 . obtain⟨y,hy,vs,hh⟩:=hx x hm
   rw[hh.hw];exact lm y hy
 . obtain⟨y,hy,vs,hh⟩:=hx x hm
   obtain⟨cu,_⟩:=lm y hy;rw[hh.hv];refine⟨by rw[zW,cu],fun l hl=>?_⟩;obtain⟨k,hk,rfl⟩:=Nc hl;rw[zW] at hk
   have e:(zk vs p.t.n.toNat (yA p y.1) y.2 y.2.length).2[k]'(by rw[zW];exact hk)=uP vs p.t.n.toNat (yA p y.1) y.2 k:=by
    rw[<-jo vs p.t.n.toNat (yA p y.1) y.2 y.2.length k (by omega),Lf,Lg (by rw[zW];exact hk)];rfl
   rw[e];refine⟨by rw[jG,Om],fun i hi=>?_⟩;obtain⟨q,hq,rfl⟩:=Nc hi;rw[jG] at hq;have ha:=Zr vs p.t.n.toNat (yA p y.1) y.2 y.2.length k q (by omega) hq;obtain⟨us,oy⟩:=hh.ht;have hb:=(ha.mono (us:=us));rw[<-oy,Lf,Lg (by rw[jG];exact hq)] at hb;exact hb.lt
 obtain⟨y,hy,vs,k,q,hk,hq,rfl,us,oy⟩:=f2 v hv;obtain⟨cu,Br⟩:=lm y hy
 cases k with
 | zero=>exact⟨⟨q,rfl,by omega⟩,⟨0,rfl,by omega⟩,fun h=>absurd h (by show ¬((0:Int)<0);omega)⟩
 | succ k=>
  refine⟨⟨q,rfl,by omega⟩,⟨k+1,rfl,by omega⟩,fun _=>⟨fV vs p.t.n.toNat (yA p y.1) y.2 k q,?_,?_,?_⟩⟩
  . have dM:k<y.2.length:=by omega
    have hg:y.2.getD k default=y.2[k]:=by rw[Lf,Lg dM];rfl
    have oF:=Br _ (Ld dM);have hb:=own_bit (qQ oF.1).2.2.1 q (by rw[oF.2];omega)
    have e:(fV vs p.t.n.toNat (yA p y.1) y.2 (k+1) q).h ((fV vs p.t.n.toNat (yA p y.1) y.2 (k+1) q).p.toNat)=(uP vs p.t.n.toNat (yA p y.1) y.2 k).getD q 0:=by
     show(xz (y.2.getD k default) (k+1) q (uP vs p.t.n.toNat (yA p y.1) y.2 k)).h ((q:Int).toNat)=_;rw[Lv,seenE_h _ _ _ _ _ (by omega),hg];unfold zN;rw[Ln ⟨by rw[jG];exact hq,hb⟩]
    rw[e];show At (zn p (zl p)).1 _ _;rw[oy];exact(Zr vs p.t.n.toNat (yA p y.1) y.2 y.2.length k q (by omega) hq).mono
  . cases k<;>rfl
  . cases k with
    | zero=>show(0:Int)=((0+1:Nat):Int)-1;rfl
    | succ k=>show((k+1:Nat):Int)=((k+1+1:Nat):Int)-1;omega
end
section
theorem Js{α:Type}{l:List α}(h:l.Nodup){i j:Nat}(hi:i<l.length)(hj:j<l.length)(e:l[i]=l[j]):i=j:=by
 have hp:=Pd.1 h;rcases Nat.lt_trichotomy i j with g | g | g
 . exact absurd e (hp i j hi hj g)
 . exact g
 exact absurd e.symm (hp j i hj hi g)
def xw(x:Exn)(k q:Nat):Int:=(x.views.getD k []).getD q 0
structure Sees(s:Sy)(K N:Nat):Prop where
 nodup:s.vs.Nodup
 v0:∀x∈s.xs,∀q,q<N->At s.vs (xw x 0 q) (yq q ((yA s.p x.c.toNat).getD q 0))
 vk:∀x∈s.xs,∀k,k<K->∀q,q<N->At s.vs (xw x (k+1) q) (xz (x.word.getD k default) (k+1) q (x.views.getD k []))
 prs:s.xs.map (fun x=>(x.c.toNat,x.word))=zl s.p
 cs:∀x∈s.xs,∃c:Nat,x.c=(c:Int)/\c<s.p.t.cases.length/\x.word∈zo s.p.a K 0
theorem ZK{p:Pb}{tab:List Vw}{c:Nat}{word:List Rd}{x:Exn}{vs:List Vw}(h:XFin p tab c word x vs)(k:Nat)(hk:k<=word.length):x.views.getD k []=uP vs p.t.n.toNat (yA p c) word k:=by
 rw[h.hv];exact jo _ _ _ _ _ k hk
theorem Qo{p:Pb}{tab:List Vw}{c:Nat}{word:List Rd}{x:Exn}{vs:List Vw}(h:XFin p tab c word x vs)(k q:Nat)(hk:k<=word.length)(hq:q<p.t.n.toNat):At tab (xw x k q) (fV vs p.t.n.toNat (yA p c) word k q):=by
 obtain⟨us,oy⟩:=h.ht;unfold xw;rw[ZK h k hk,oy];exact(Zr vs p.t.n.toNat (yA p c) word word.length k q hk hq).mono
theorem X9{p:Pb}{K N:Nat}(hF:Fine (zL p) K N):Sees (zL p) K N:=by
 obtain⟨f1,f2,f3⟩:=ZZ p (zl p);have Om:p.t.n.toNat=N:=by have:p.t.n=(N:Int):=hF.pn;omega
 have eN:p.k.toNat=K:=by have:p.k=(K:Int):=hF.k;omega
 have lm:∀y∈zl p,y.2.length=K/\y.1<p.t.cases.length/\y.2∈zo p.a K 0:=fun y hy=>by
  unfold zl at hy;obtain⟨d,hd,hy⟩:=Ns.1 hy;obtain⟨w',dR,rfl⟩:=LG.1 hy;rw[eN] at dR;exact⟨yK p.a _ 0 w' dR,by simpa using hd,dR⟩
 have hx:∀x∈(zL p).xs,∃y∈zl p,∃vs,XFin p (zL p).vs y.1 y.2 x vs:=fun x hx=>by
  obtain⟨i,hi,e⟩:=Nc hx;have tV:i<(zl p).length:=by rw[<-xL p (zl p)];exact hi
  obtain⟨x',vs,tF,hh⟩:=f1 i tV
  have:x=x':=by
   have h3:(zn p (zl p)).2[i]?=J x:=(Lg (l:=(zL p).xs) hi).trans (congrArg J e);exact NG (h3.symm.trans tF)
  subst this;exact⟨_,Ld tV,vs,hh⟩
 refine⟨f3,fun x hm q hq=>?_,fun x hm k hk q hq=>?_,?_,fun x hm=>?_⟩
 . obtain⟨y,hy,vs,hh⟩:=hx x hm
   have h:=Qo hh 0 q (Nl _) (by omega);rw[hh.hc,Lv];exact h
 . obtain⟨y,hy,vs,hh⟩:=hx x hm
   have hl:=(lm y hy).1;have h:=Qo hh (k+1) q (by omega) (by omega);rw[ZK hh k (by omega),hh.hw];exact h
 . show(zn p (zl p)).2.map _=zl p
   refine Pt (by rw[LE,xL]) fun i h1 h2=>?_
   obtain⟨x',vs,tF,hh⟩:=f1 i h2;rw[RG];obtain⟨h3,h4⟩:=Lo.1 tF;rw[h4,hh.hc,hh.hw,Lv]
 obtain⟨y,hy,vs,hh⟩:=hx x hm;exact⟨y.1,hh.hc,(lm y hy).2.1,by rw[hh.hw];exact(lm y hy).2.2⟩
end
section
open Go.RowKit
theorem vQ{p:Pb}(h:qb p=Av):zD p=(zL p,0)/\yQ (zL p)=0/\qn p/\zz p=0/\zA p<=60/\p.t.n<=3/\∃K N,Fine (zL p) K N/\Sees (zL p) K N:=by
 unfold qb at h;rw[Nu] at h;obtain⟨h1,h2⟩:=h;obtain⟨hf,h3⟩:=few_x h1;have h4:(zD p).2=0:=LI h2
 have h0:zz p=0:=by
  by_cases h0:zz p=0
  . exact h0
  rw[xg h0] at h4;exact absurd h4 h0
 have hm:¬4096<zA p:=fun hm=>by rw[yP h0 hm] at h4;exact absurd h4 (by decide)
 have da:zA p<=60:=by
  rcases hf.2 h0 with h | h
  . exact h
  exact absurd h hm
 have hb:=xI h0 (by omega);obtain⟨ep,_⟩:=zK h0;obtain⟨_,fE,nu⟩:=yn ep;obtain⟨K,N,hF⟩:=wO hf h0 da;refine⟨hb,?_,hf,h0,da,by omega,K,N,hF,X9 hF⟩;unfold yQ;have e:(zL p).p=p:=rfl;rw[e,hb,Lj (by simp),Ln rfl]
end
section
open Go.RowKit
attribute [local go_sem] Oper.semAt_some
theorem bld1_any(x:Int)(m kv:Nat)(AV:Bb)(c0 c1 c2 c3 c4 c5 c6 c7 c9:Au)(bm:Nat)(w:Ba)(hb:w.heap[bm]?=J (Ah #[c0,c1,c2,c3,c4,c5,c6,c7,I AV m kv,c9] 36 (0,0))) :
  Ap An 30 #[O U x,Ak (J ⟨bm,0,Z⟩)] w fun e w'=>e=Am (Ai (yS (m:Int) x))/\w=w':=by
 have H:As (yS (m:Int) x=decide (x<0\/(m:Int)<=x)):=rfl;have c8:=za hb 8 rfl;clear hb;go_enter func30,ntmps30;go_wp2
 all_goals
  go_ret;refine⟨ze ?_,rfl⟩;rw[H.out];simp
  try omega
theorem Qb(A:Bb)(c:Nat)(xs:List Int)(m kv:Nat)(AV:Bb)(c0 c1 c2 c3 c4 c5 c6 c7 c9:Au)(bm:Nat)(hl:xs.length<=17592186044416)(w:Ba)(hA:IAt w w.heap.size A xs)(hb:w.heap[bm]?=J (Ah #[c0,c1,c2,c3,c4,c5,c6,c7,I AV m kv,c9] 36 (0,0))) :
  Ap An 68 #[I A xs.length c,.func (.func 30) #[] #[Ak (J ⟨bm,0,Z⟩)]] w (Qm (xs.any (yS (m:Int))) w):=by
 have HA:=zH hA;have HV:=zH (fun x=>bld1_any x m kv AV c0 c1 c2 c3 c4 c5 c6 c7 c9 bm w hb);obtain⟨r,hr⟩:=Kh (xs.any (yS (m:Int)));rw[hr];have HR:As (r=(xs.drop 0).any (yS (m:Int))):=by rw[LS];exact hr.symm
 clear hA hb hr;go_enter func68,ntmps68;go_wp2_with fail
 go_loop [8] (fun i=>∃k:Nat,k<=xs.length/\i=O U (k:Int)/\As (r=(xs.drop k).any (yS (m:Int)))) (fun i=>xs.length-(Aq i).toNat)
 case atStart=>exact⟨0,by omega,rfl,HR⟩
 obtain⟨k,hk,rfl,ah⟩:=hrel;clear HR
 by_cases ac:k<xs.length
 . obtain⟨b,o,rfl,dH,cc⟩:=HA.out.at_ k ac
   have hs:=kz (p:=yS (m:Int)) ac;obtain⟨x,hx⟩:=Kh (xs[k]);rw[hx] at cc hs;have HS:=zH hs;have HC:=zH (HV.out x);obtain⟨bo,bI⟩:=Kh (yS (m:Int) x);rw[bI] at HS HC;clear hs hx bI;go_wp2_with fail;refine HC.out.mono ?_;rintro e w' ⟨rfl,rfl⟩
   cases bo with
   | true=>
    have hR:r=Av:=by rw[ah.out,HS.out];rfl
    subst hR;go_wp2_with fail;go_ret;exact⟨(k:Int),rfl,by simp,0,rfl⟩
   | false=>
    have ce:As (r=(xs.drop (k+1)).any (yS (m:Int))):=by rw[ah.out,HS.out];rfl
    clear HS HC;go_wp2_with fail
    go_round
    case rel=>exact⟨k+1,by omega,by go_num,ce⟩
    case measure=>simp[Aq];omega
 obtain rfl:k=xs.length:=by omega
 have hR:r=Ax:=ah.out.trans (jU rfl);subst hR;go_wp2_with fail;go_ret;exact⟨-1,rfl,by decide,0,rfl⟩
theorem YJ(A:Bb)(c:Nat)(xs:List Int)(m kv:Nat)(AV:Bb)(c0 c1 c2 c3 c4 c5 c6 c7 c9:Au)(bm:Nat)(hl:xs.length<=17592186044416)(w:Ba)(hA:IAt w w.heap.size A xs)(hb:w.heap[bm]?=J (Ah #[c0,c1,c2,c3,c4,c5,c6,c7,I AV m kv,c9] 36 (0,0))) :
  Ap An 29 #[I A xs.length c,.func (.func 30) #[] #[Ak (J ⟨bm,0,Z⟩)]] w fun e w'=>e=Am (Ai (xs.any (yS (m:Int))))/\∃n,w'=w.drewN n:=by
 have hc:=Qb A c xs m kv AV c0 c1 c2 c3 c4 c5 c6 c7 c9 bm hl w hA hb;obtain⟨r,hr⟩:=Kh (xs.any (yS (m:Int)));rw[hr] at hc ⊢;have HC:=zH hc;clear hc hA hb hr;go_enter func29,ntmps29;go_wp2_with fail;refine HC.out.mono ?_;rintro e w' ⟨i,rfl,hi,n,rfl⟩;have HI:=zH hi;clear hi HC;go_wp2_with fail;go_ret;exact⟨ze HI.out,_,rfl⟩
def YQ(p:Pb)(w:Ba)(e:Ending)(w':Ba):Prop:=
 (qb p=Ax->e=Am (.tuple #[Aj #[O U 0,O U 0,O U 0,I Z 0 0,O U 0,I Z 0 0,O U 0,O U 0,I Z 0 0,I Z 0 0],Ai Ax,Ai Av])) /\
 (qb p=Av->∃A kc SV ks AV kv AX kx,e=Am (.tuple #[.agg ((zL p).vs_ A kc SV ks AV kv AX kx),Ai Av,Ai Av])/\SyAt w' w'.heap.size A SV AV AX (zL p)/\(zL p).vs.length<=kv/\kv<=maxLen)/\Ao w.heap.size w w'
theorem any_out{m:Nat}{l:List Int}(h:∀i∈l,0<=i/\i<(m:Int)):l.any (yS (m:Int))=Ax:=by
 rw[PT];intro ha;obtain⟨i,hi,hb⟩:=NL.1 ha;have:=h i hi;unfold yS at hb;have h2:i<0\/(m:Int)<=i:=by simpa using hb
 omega
theorem bld_any(p:Pb)(hl:wV p)(A:Bb)(kc:Nat)(SV:Bb)(ks:Nat)(w:Ba)(hA:CAt w w.heap.size A p.t.cases)(hS:SAt w w.heap.size SV p.a.sts) :
  Ap An 10 #[.agg (p.vs A kc SV ks)] w (YQ p w):=by
 obtain⟨w1,ag,d0,d1,bq,aw⟩:=zZ w (p.vs A kc SV ks) #[O U 0,O U 0,O U 0,I Z 0 0,O U 0,I Z 0 0,O U 0,O U 0,I Z 0 0,I Z 0 0] 29 36;have eP:=(hA.keep aw).more aw.size;have oV:=(hS.keep aw).more aw.size;have HR:=zH (Jl p hl A kc SV ks w1 eP oV);have OB:=hA.keep aw;have CN:=hS.keep aw;have fY:=zH (fun (hf:qn p) (X:Ba) (hX:Ao w1.heap.size w1 X)=>wP p hf A kc SV ks X w.heap.size (Lz aw.size hX.size) (OB.keep (hX.mono aw.size)) (CN.keep (hX.mono aw.size)));have iM:=zH (fun h=>vQ (p:=p) h);have Dx:=zH (fun (hf:qn p)=>qL hl hf);have ig:=zH (fun (hs:LowS (zL p)) (hf:qn p) (A2 db AV AX:Bb) (dD dC kv kx:Nat) (X:Ba) (hX:SyAt X X.heap.size A2 db AV AX (zL p))=>rver_any (zL p) hs hf A2 db AV AX dD dC kv kx X hX);have lG:As (qb p=Ax->∀W,Ao w.heap.size w W->YQ p w (Am (.tuple #[Aj #[O U 0,O U 0,O U 0,I Z 0 0,O U 0,I Z 0 0,O U 0,O U 0,I Z 0 0,I Z 0 0],Ai Ax,Ai Av])) W):=fun h W hb=>⟨fun _=>rfl,fun h2=>(by rw[h] at h2;cases h2),hb⟩
 have Df:As (qb p=Av->∀A kc SV ks AV kv AX kx W,SyAt W W.heap.size A SV AV AX (zL p)->(zL p).vs.length<=kv->kv<=maxLen->Ao w.heap.size w W->YQ p w (Am (.tuple #[.agg ((zL p).vs_ A kc SV ks AV kv AX kx),Ai Av,Ai Av])) W):=fun h A kc SV ks AV kv AX kx W h1 h2 h3 hb=>⟨fun h4=>(by rw[h] at h4;cases h4),fun _=>⟨A,kc,SV,ks,AV,kv,AX,kx,rfl,h1,h2,h3⟩,hb⟩
 obtain⟨RB,Oi⟩:=Kh (YQ p w);rw[Oi] at lG Df ⊢;clear Oi;unfold Pb.vs at ag d0 HR fY ⊢;have al:=zH ag;have bn:=zH d0;have bN:=zH d1;have dp:=zH aw;obtain⟨p0,p1,p2,p3,p4,p5,p6,_⟩:=Kf d0;obtain⟨r,hr⟩:=Kh (qb p);rw[hr] at HR lG Df;have iL:=zH hr;clear ag d0 d1 aw hA hS eP oV OB CN hr hl;go_enter func10,ntmps10;go_wp2_with fail;rw[al.out];go_wp2_with fail;refine HR.out.mono ?_;rintro e w2 ⟨rfl,ae⟩;have B2:=zH (dp.out.trans (ae.mono (by omega)));have G2:=zH ae;have dq:=ae.size;have d0:=La ae bn.out;have d1:=La ae bN.out;clear ae HR al p0 p1 p2 p3 p4 p5 p6
 cases r with
 | false=>
  clear fY iM Dx ig Df;have y0:=za d1 0 rfl;have f0:=zb d1 0;have y1:=za d1 1 rfl;have f1:=zb d1 1;have y2:=za d1 2 rfl;have f2:=zb d1 2;have y3:=za d1 3 rfl;have f3:=zb d1 3;have y4:=za d1 4 rfl;have f4:=zb d1 4;have y5:=za d1 5 rfl;have f5:=zb d1 5;have y6:=za d1 6 rfl;have f6:=zb d1 6;have y7:=za d1 7 rfl;have f7:=zb d1 7;have y8:=za d1 8 rfl;have f8:=zb d1 8;have y9:=za d1 9 rfl;have f9:=zb d1 9;obtain⟨k1,k2,k3⟩:=xj (O U 0) (O U 0) (O U 0) (I Z 0 0) (O U 0) (I Z 0 0) (O U 0) (O U 0) (I Z 0 0) (I Z 0 0) d1 B2.out (by omega:w.heap.size<=w.heap.size+1);obtain⟨WF,cU⟩:=Kh (((((((((((w2.setCell ⟨w.heap.size+1,0,Z⟩ (O U 0)).setCell ⟨w.heap.size+1,1,Z⟩ (O U 0)).setCell ⟨w.heap.size+1,2,Z⟩ (O U 0)).setCell ⟨w.heap.size+1,3,Z⟩ (I Z 0 0)).setCell ⟨w.heap.size+1,4,Z⟩ (O U 0)).setCell ⟨w.heap.size+1,5,Z⟩ (I Z 0 0)).setCell ⟨w.heap.size+1,6,Z⟩ (O U 0)).setCell ⟨w.heap.size+1,7,Z⟩ (O U 0)).setCell ⟨w.heap.size+1,8,Z⟩ (I Z 0 0)).setCell ⟨w.heap.size+1,9,Z⟩ (I Z 0 0)));rw[cU] at k1 k2 k3;have mb:=zH k1;have iP:=zH k2;have ry:=zH k3;have iJ:=zH cU;clear k1 k2 k3 cU;clear d0 d1;go_wp2_with fail;rw[iJ.out];obtain⟨z0,z1,z2,z3,z4,z5,z6,z7,z8,z9⟩:=ya mb.out
  refine Nb (v:=.tuple #[Aj #[O U 0,O U 0,O U 0,I Z 0 0,O U 0,I Z 0 0,O U 0,O U 0,I Z 0 0,I Z 0 0],Ai Ax,Ai Av]) (by simp[results,results10,go_sem,z0,z1,z2,z3,z4,z5,z6,z7,z8,z9]) rfl ?_;exact lG.out (by simp) _ iP.out
 | true=>
 obtain⟨u',lO,hf,h0,da,F',K,N,hF,p'⟩:=iM.out iL.out;have HB:=zH (fY.out hf w2 G2.out);have mS:=zH (ig.out (by have:=Dx.out hf;rw[u'] at this;exact this) hf);have Kx:=zH hF;have O8:=zH p';rw[u'] at HB;rw[lO] at mS;have eH:As (p.k=(K:Int)):=hF.k;have ln:As (p.t.n=(N:Int)):=hF.pn;have mA:=hF.k6;have VH:=zH hF.n5;have bj:=zH p'.cs;have lM:=zH hF.word;have Ec:=zH hF.views;have oI:=hF.lx;have Eo:=hF.lv;have Ep:As ((zL p).p.t.cases.length=p.t.cases.length):=rfl;obtain⟨T,hT⟩:=Kh (zL p);have ie:=zH (Df.out (by simp));rw[hT] at HB mS bj lM Ec oI Eo Ep ie;have rq:As (T.p=p):=by rw[<-hT];rfl
 clear lG Df iM fY ig Dx u' lO hf h0 da F' hF p' hT;obtain⟨p0,p1,p2,p3,p4,p5,p6,_⟩:=Kf d0;have en:=zH d0;have ay:=zH d1;have Dy:As (w.heap.size+1<w2.heap.size):=zd d1;clear d0 d1;go_wp2_with fail;refine HB.out.mono ?_;rintro e w3 ⟨A2,dD,db,dC,AV,kv,AX,kx,rfl,sM,fi,fH,ap⟩;have Og:=sM w3 (Lh _) (fun _ _ _=>rfl);have Vx:=zH sM;clear sM;have B3:=zH (B2.out.trans (ap.mono (by omega)));have fj:=ap.size;have Dk:=zH fi;have ta:=zH fH;have DK:=zH (La ap en.out);have mc:=zH (La ap ay.out);obtain⟨W3,bU,b3,rJ,aW⟩:=zq w3 (T.vs_ A2 dD db dC AV kv AX kx) 36;have dz:=zH (Og.up aW);have Se:=zH (Lc B3.out aW);have DS:=zH aW;have e0:=Lb aW (by have:=zd DK.out;omega) DK.out;have e1:=Lb aW (by have:=zd mc.out;omega) mc.out;have Iw:=zH (mS.out A2 db AV AX dD dC kv kx W3 dz.out);unfold Sy.vs_ at bU b3 Iw ⊢;have ez:=zH bU;have lL:=zH b3;have rz:=zH e0;have tt:=zH e1;clear ap Og bU aW fi fH HB DK mc en ay p0 p1 p2 p3 p4 p5 p6 e0 e1;go_wp2_with fail;rw[ez.out];refine Iw.out.mono ?_;rintro e w4 ⟨rfl,be⟩;have Wj:=zH (Lc Se.out be);have l8:=zH (dz.out.up be);have tu:=zH (La be lL.out);have Kw:=zH (La be rz.out);have DI:=zH (La be tt.out);have d4:=tu.out;have x2:=za d4 9 rfl
 have fK:=be.size;have Fb:As (w.heap.size+1<w3.heap.size):=by show _<_;have:=Dy.out;omega
 have Kn:As (w.heap.size+1<w2.heap.size):=Dy;have KD:As (∀k,k<w3.heap.size->w4.heap[k]?=w3.heap[k]?):=fun k hk=>(be.block k (by have:=DS.out.size;omega)).trans (DS.out.block k hk)
 clear be Iw Se dz lL rz tt d4 mS;go_wp2_with fail
 go_loopw [31] (fun i wr=>∃k:Nat,k<=T.xs.length/\i=O U (k:Int)/\As (Ao w4.heap.size w4 wr)) (fun i _=>T.xs.length-(Aq i).toNat)
 case atStart=>exact⟨0,by omega,rfl,Lp _ _⟩
 obtain⟨k,hk,rfl,hb⟩:=hrel;have rN:w.heap.size+1<w4.heap.size:=zd DI.out;have oq:w3.heap.size<w4.heap.size:=zd tu.out;have SZ:w.heap.size+1<w3.heap.size:=Fb.out;have e0:=Lb hb.out (by omega) Kw.out;have e1:=Lb hb.out (by omega) DI.out;have e5:=Lb hb.out (by omega) tu.out
 by_cases ac:k<T.xs.length
 case neg=>
  obtain rfl:k=T.xs.length:=by omega
  have y0:=za e1 0 rfl;have f0:=zb e1 0;have y1:=za e1 1 rfl;have f1:=zb e1 1;have y2:=za e1 2 rfl;have f2:=zb e1 2;have y3:=za e1 3 rfl;have f3:=zb e1 3;have y4:=za e1 4 rfl;have f4:=zb e1 4;have y5:=za e1 5 rfl;have f5:=zb e1 5;have y6:=za e1 6 rfl;have f6:=zb e1 6;have y7:=za e1 7 rfl;have f7:=zb e1 7;have y8:=za e1 8 rfl;have f8:=zb e1 8;have y9:=za e1 9 rfl;have f9:=zb e1 9;have z0':=za e5 0 rfl;have z1':=za e5 1 rfl;have z2':=za e5 2 rfl;have z3':=za e5 3 rfl;have z4':=za e5 4 rfl;have z5':=za e5 5 rfl;have z6':=za e5 6 rfl;have z7':=za e5 7 rfl;have z8':=za e5 8 rfl;have z9':=za e5 9 rfl;obtain⟨k1,k2,k3⟩:=xj (O U T.p.t.n) (O U T.p.t.ins) (O U T.p.t.outs) (I A2 T.p.t.cases.length dD) (O U T.p.a.n) (I db T.p.a.sts.length dC) (O U T.p.k) (O U T.n) (I AV T.vs.length kv) (I AX T.xs.length kx) e1 (Lc Wj.out hb.out) (by omega:w.heap.size<=w.heap.size+1)
  obtain⟨WF,cU⟩:=Kh (((((((((((wr.setCell ⟨w.heap.size+1,0,Z⟩ (O U T.p.t.n)).setCell ⟨w.heap.size+1,1,Z⟩ (O U T.p.t.ins)).setCell ⟨w.heap.size+1,2,Z⟩ (O U T.p.t.outs)).setCell ⟨w.heap.size+1,3,Z⟩ (I A2 T.p.t.cases.length dD)).setCell ⟨w.heap.size+1,4,Z⟩ (O U T.p.a.n)).setCell ⟨w.heap.size+1,5,Z⟩ (I db T.p.a.sts.length dC)).setCell ⟨w.heap.size+1,6,Z⟩ (O U T.p.k)).setCell ⟨w.heap.size+1,7,Z⟩ (O U T.n)).setCell ⟨w.heap.size+1,8,Z⟩ (I AV T.vs.length kv)).setCell ⟨w.heap.size+1,9,Z⟩ (I AX T.xs.length kx)));rw[cU] at k1 k2 k3;have mb:=zH k1;have iP:=zH k2;have ry:=zH k3;have iJ:=zH cU;have cf:=Kn.out;have SN:=hb.out.size;have cP:∀k,(k<w.heap.size\/w2.heap.size<=k)->k<w3.heap.size->WF.heap[k]?=w3.heap[k]?:=fun k h1 h2=>(ry.out.2.1 k (by omega)).trans ((hb.out.block k (by omega)).trans (KD.out k h2))
  have SL:w3.heap.size<=WF.heap.size:=by have:=ry.out.2.2;omega
  clear k1 k2 k3 cU e1 e5 e0;go_wp2_with fail;rw[iJ.out];obtain⟨z0,z1,z2,z3,z4,z5,z6,z7,z8,z9⟩:=ya mb.out;refine Nb (v:=.tuple #[Aj #[O U T.p.t.n,O U T.p.t.ins,O U T.p.t.outs,I A2 T.p.t.cases.length dD,O U T.p.a.n,I db T.p.a.sts.length dC,O U T.p.k,O U T.n,I AV T.vs.length kv,I AX T.xs.length kx],Ai Av,Ai Av]) (by simp[results,results10,go_sem,z0,z1,z2,z3,z4,z5,z6,z7,z8,z9]) rfl ?_;exact ie.out A2 dD db dC AV kv AX kx WF (Vx.out WF SL (fun k hk hl=>cP k (hk.imp (fun h=>h.2) id) hl)) Dk.out ta.out iP.out
 case pos=>
 obtain⟨bx,ox,A1,c1,B2,c2,eX,aL,x0,x1,DY,nF,sQ⟩:=(l8.out.fx.keep hb.out).row k ac;subst eX;have iV:=Ld ac;obtain⟨cN,GM,bk,_⟩:=bj.out _ iV;obtain⟨cI,_⟩:=lM.out _ iV;obtain⟨cp,dd⟩:=Ec.out _ iV;rw[Ep.out] at bk;have tv:=zH bk;obtain⟨x,hx⟩:=Kh (T.xs[k]);rw[hx] at x0 x1 DY GM cI cp dd sQ;rw[GM] at x0;rw[cI] at x1;rw[cp] at DY;obtain⟨W5,lX,b5,Mc,dO⟩:=zq wr #[O U (cN:Int),I A1 K c1,I B2 (K+1) c2] 42;have Fi:=zH (Lc hb.out dO);have DC:=zH (((sQ.more (by have:=hb.out.size;omega:w4.heap.size<=wr.heap.size)).keep dO).more dO.size);have d0:=Lb dO (by have:=hb.out.size;omega) e0;have d5:=Lb dO (by have:=hb.out.size;omega) e5;have p0:=za d0 0 rfl;have p3:=za d0 3 rfl;have p6:=za d0 6 rfl;rw[ln.out] at p0;rw[eH.out] at p6;obtain⟨g0,g1,g2,_⟩:=Kc b5;have r0:=za e0 0 rfl;have r3:=za e0 3 rfl;have r6:=za e0 6 rfl;rw[ln.out] at r0;rw[eH.out] at r6;have ir:w.heap.size<wr.heap.size:=by have:=hb.out.size;omega
 have s':=zH lX;have bn:=zH d0;have DM:=zH d5;have mU:=zH dd;have dy:=zH cp;have cK:(0:Int)<=(k:Int):=by omega
 have bY:(k:Int)<(T.xs.length:Int):=by omega
 have mG:¬((cN:Int)<0):=by omega
 have hc1:¬((p.t.cases.length:Int)<=(cN:Int)):=by have:=tv.out;omega
 have hKw:IntKind.i64.wrap ((K:Int)+1)=((K+1:Nat):Int):=by rw[Ly];omega
 clear lX b5 dO sQ nF hx GM bk cI cp dd iV d0 d5 e0 e1 e5;go_wp2_with fail;rw[s'.out];go_wp2_with fail;clear g0 g1 p0 p3 p6 r0 r3 r6 x0 x1 DY s'
 go_loopw [68] (fun i wx=>∃j:Nat,j<=K+1/\i=O U (j:Int)/\As (Ao W5.heap.size W5 wx)) (fun i _=>K+1-(Aq i).toNat)
 case atStart=>exact⟨0,by omega,by simp,Lp _ _⟩
 obtain⟨j,hj,rfl,aL⟩:=hrel;have dQ:=zH (Lc Fi.out aL.out)
 by_cases bg:j<K+1
 case neg=>
  obtain rfl:j=K+1:=by omega
  go_wp2_with fail
  go_roundw
  case rel=>exact⟨k+1,by omega,by go_num,dQ⟩
  simp[Aq];omega
 obtain⟨bl,ol,A3,c3,eL,aB,y1,hI⟩:=(DC.out.keep aL.out).at_ j (by have:=dy.out;omega);subst eL;have T4:j<x.views.length:=by have:=dy.out;omega
 obtain⟨eG,oE⟩:=mU.out _ (Ld T4);obtain⟨row,iZ⟩:=Kh (x.views[j]);rw[iZ] at y1 hI eG oE;have e0:=La aL.out bn.out;have e5:=La aL.out DM.out;have p0:=za e0 0 rfl;rw[ln.out] at p0;have nS:=zH (fun c0 c1 c2 C2 c4 c5 c6 c7 c9 (h:wr.heap[w3.heap.size]?=J (Ah #[c0,c1,c2,C2,c4,c5,c6,c7,I AV T.vs.length kv,c9] 36 (0,0)))=>YJ A3 c3 row T.vs.length kv AV c0 c1 c2 C2 c4 c5 c6 c7 c9 w3.heap.size (by have:=VH.out;omega) wr (hI.more aL.out.size) h);have pr:=zH (nS.out _ _ _ _ _ _ _ _ _ e5);rw[any_out oE] at pr;rw[eG] at y1 pr;have Cb:(0:Int)<=(j:Int):=by omega
 have tR:(j:Int)<((K+1:Nat):Int):=by omega
 clear nS eG oE hI e0 e5 iZ;go_wp2_with fail;refine pr.out.mono ?_;rintro e w7 ⟨rfl,n,rfl⟩;have me:=zH (zu aL.out n);clear pr;go_wp2_with fail
 go_roundw
 case rel=>exact⟨j+1,by omega,by go_num,me⟩
 simp[Aq];omega
def exMv(p:Int):Mv:=⟨⟨2,p,3,0,0,0,0⟩,0⟩
def exC1:Cs:=⟨[0,0],[[0,0]],[]⟩
def exC2:Cs:=⟨[0,1],[[0,0]],[]⟩
def wE:Pb:=⟨⟨2,2,1,[exC1,exC2]⟩,⟨2,[[exMv 1,exMv 3]]⟩,1⟩
theorem Yn(p:Int)(w:Ba):Ap An 69 #[O U p] w fun e w'=>e=Am (Aj #[O U 2,O U p,O U 3,O U 0,O U 0,O U 0,O U 0,O U 0])/\Ao w.heap.size w w':=by
 go_enter func69,ntmps69;go_wp2_with fail;refine Nb (v:=Aj #[O U 2,O U p,O U 3,O U 0,O U 0,O U 0,O U 0,O U 0]) (by simp[results,results69,go_sem]) rfl ⟨rfl,?_⟩
 first
  | exact zt w _
  | (refine Below.setCell ?_ (Nat.le_refl _) _
     refine Ls ?_ (Lh _) _;refine Ls ?_ (Lh _) _;refine Ls ?_ (Lh _) _;refine Ls ?_ (Lh _) _;refine Ls ?_ (Lh _) _;refine Ls ?_ (Lh _) _;refine Ls ?_ (Lh _) _
     exact zt w _)
theorem Jr{w X:Ba}{g B:Nat}{a0 a1 a2 a3 a4 a5 a6:Au}(v0 v1 v2 v3 v4 v5 v6:Au)(hg:X.heap[g]?=J (Ah #[a0,a1,a2,a3,a4,a5,a6] 29 (0,0)))(hB:Ao B w X)(h1:B<=g) :
  (((((((X.setCell ⟨g,0,Z⟩ v0).setCell ⟨g,1,Z⟩ v1).setCell ⟨g,2,Z⟩ v2).setCell ⟨g,3,Z⟩ v3).setCell ⟨g,4,Z⟩ v4).setCell ⟨g,5,Z⟩ v5).setCell ⟨g,6,Z⟩ v6).heap[g]?=J (Ah #[v0,v1,v2,v3,v4,v5,v6] 29 (0,0))/\Ao B w (((((((X.setCell ⟨g,0,Z⟩ v0).setCell ⟨g,1,Z⟩ v1).setCell ⟨g,2,Z⟩ v2).setCell ⟨g,3,Z⟩ v3).setCell ⟨g,4,Z⟩ v4).setCell ⟨g,5,Z⟩ v5).setCell ⟨g,6,Z⟩ v6)/\(∀k,k≠g->(((((((X.setCell ⟨g,0,Z⟩ v0).setCell ⟨g,1,Z⟩ v1).setCell ⟨g,2,Z⟩ v2).setCell ⟨g,3,Z⟩ v3).setCell ⟨g,4,Z⟩ v4).setCell ⟨g,5,Z⟩ v5).setCell ⟨g,6,Z⟩ v6).heap[k]?=X.heap[k]?)/\(((((((X.setCell ⟨g,0,Z⟩ v0).setCell ⟨g,1,Z⟩ v1).setCell ⟨g,2,Z⟩ v2).setCell ⟨g,3,Z⟩ v3).setCell ⟨g,4,Z⟩ v4).setCell ⟨g,5,Z⟩ v5).setCell ⟨g,6,Z⟩ v6).heap.size=X.heap.size:=by
 have k0:(X.setCell ⟨g,0,Z⟩ v0).heap[g]?=J (Ah #[v0,a1,a2,a3,a4,a5,a6] 29 (0,0)):=Lk _ g 0 _ _ v0 hg;have k1:((X.setCell ⟨g,0,Z⟩ v0).setCell ⟨g,1,Z⟩ v1).heap[g]?=J (Ah #[v0,v1,a2,a3,a4,a5,a6] 29 (0,0)):=Lk _ g 1 _ _ v1 k0;have k2:(((X.setCell ⟨g,0,Z⟩ v0).setCell ⟨g,1,Z⟩ v1).setCell ⟨g,2,Z⟩ v2).heap[g]?=J (Ah #[v0,v1,v2,a3,a4,a5,a6] 29 (0,0)):=Lk _ g 2 _ _ v2 k1;have k3:((((X.setCell ⟨g,0,Z⟩ v0).setCell ⟨g,1,Z⟩ v1).setCell ⟨g,2,Z⟩ v2).setCell ⟨g,3,Z⟩ v3).heap[g]?=J (Ah #[v0,v1,v2,v3,a4,a5,a6] 29 (0,0)):=Lk _ g 3 _ _ v3 k2;have k4:(((((X.setCell ⟨g,0,Z⟩ v0).setCell ⟨g,1,Z⟩ v1).setCell ⟨g,2,Z⟩ v2).setCell ⟨g,3,Z⟩ v3).setCell ⟨g,4,Z⟩ v4).heap[g]?=J (Ah #[v0,v1,v2,v3,v4,a5,a6] 29 (0,0)):=Lk _ g 4 _ _ v4 k3;have k5:((((((X.setCell ⟨g,0,Z⟩ v0).setCell ⟨g,1,Z⟩ v1).setCell ⟨g,2,Z⟩ v2).setCell ⟨g,3,Z⟩ v3).setCell ⟨g,4,Z⟩ v4).setCell ⟨g,5,Z⟩ v5).heap[g]?=J (Ah #[v0,v1,v2,v3,v4,v5,a6] 29 (0,0)):=Lk _ g 5 _ _ v5 k4;have k6:(((((((X.setCell ⟨g,0,Z⟩ v0).setCell ⟨g,1,Z⟩ v1).setCell ⟨g,2,Z⟩ v2).setCell ⟨g,3,Z⟩ v3).setCell ⟨g,4,Z⟩ v4).setCell ⟨g,5,Z⟩ v5).setCell ⟨g,6,Z⟩ v6).heap[g]?=J (Ah #[v0,v1,v2,v3,v4,v5,v6] 29 (0,0)):=Lk _ g 6 _ _ v6 k5;refine⟨k6,?_,fun k hk=>?_,by simp⟩
 . refine Ls (p:=⟨g,6,Z⟩) ?_ h1 _
   refine Ls (p:=⟨g,5,Z⟩) ?_ h1 _;refine Ls (p:=⟨g,4,Z⟩) ?_ h1 _;refine Ls (p:=⟨g,3,Z⟩) ?_ h1 _;refine Ls (p:=⟨g,2,Z⟩) ?_ h1 _;refine Ls (p:=⟨g,1,Z⟩) ?_ h1 _;refine Ls (p:=⟨g,0,Z⟩) ?_ h1 _;exact hB
 exact((Le _ ⟨g,6,Z⟩ v6 k hk).trans ((Le _ ⟨g,5,Z⟩ v5 k hk).trans ((Le _ ⟨g,4,Z⟩ v4 k hk).trans ((Le _ ⟨g,3,Z⟩ v3 k hk).trans ((Le _ ⟨g,2,Z⟩ v2 k hk).trans ((Le _ ⟨g,1,Z⟩ v1 k hk).trans (Le _ ⟨g,0,Z⟩ v0 k hk)))))))
theorem xm{W:Ba}{b:Nat}{xs:List Int}{t:TypeId}(h:W.heap[b]?=J (Ah ((xs.map (O U)).toArray) t (0,0))):IAt W W.heap.size (J ⟨b,0,Z⟩) xs:=fun _=>
 ⟨b,0,rfl,zd h,fun i hi=>by rw[LN];exact za h i (by simp[hi])⟩
theorem QH{W:Ba}{b:Nat}{v:List Int}{A:Bb}{c:Nat}{t:TypeId}(h:W.heap[b]?=J (Ah #[I A v.length c] t (0,0)))(h2:IAt W W.heap.size A v):LAt W W.heap.size (J ⟨b,0,Z⟩) [v]:=fun _=>
 ⟨b,0,rfl,zd h,fun i hi=>by
  obtain rfl:i=0:=by simpa using hi
  exact⟨A,c,za h 0 rfl,h2⟩⟩
theorem YD(w:Ba):Ap An 31 #[] w fun e w'=>∃A kc SV ks,e=Am (.agg (wE.vs A kc SV ks))/\CAt w' w'.heap.size A wE.t.cases/\SAt w' w'.heap.size SV wE.a.sts/\Ao w.heap.size w w':=by
 go_enter func31,ntmps31;go_wp2_with fail;obtain⟨a0,NN,e0,lk,cZ⟩:=zq w #[O U 0,O U 0,O U 0,I Z 0 0,O U 0,I Z 0 0,O U 0] 29;obtain⟨a1,dN,e1,bq,aJ⟩:=zq a0 #[O U 0,O U 0] 3;obtain⟨a2,fu,e2,dq,ae⟩:=zq a1 #[O U 0,O U 0] 3;obtain⟨a3,CF,e3,fj,ap⟩:=zq a2 #[I (J ⟨w.heap.size+1+1,0,Z⟩) 2 2] 49;obtain⟨a4,CE,e4,fK,be⟩:=zq a3 #[O U 0,O U 1] 3;obtain⟨a5,CD,e5,mt,bZ⟩:=zq a4 #[O U 0,O U 0] 3;obtain⟨a6,NI,e6,oD,cS⟩:=zq a5 #[I (J ⟨w.heap.size+1+1+1+1+1,0,Z⟩) 2 2] 49;obtain⟨a7,NE,e7,fJ,dv⟩:=zq a6 #[I (J ⟨w.heap.size+1,0,Z⟩) 2 2,I (J ⟨w.heap.size+1+1+1,0,Z⟩) 1 1,I Z 0 0,I (J ⟨w.heap.size+1+1+1+1,0,Z⟩) 2 2,I (J ⟨w.heap.size+1+1+1+1+1+1,0,Z⟩) 1 1,I Z 0 0] 118;obtain⟨a8,NC,e8,FU,ed⟩:=zq a7 #[O U 2,O U 2,O U 1,I (J ⟨w.heap.size+1+1+1+1+1+1+1,0,Z⟩) 2 2] 24;rw[NN,dN,fu,CF,CE,CD,NI,NE,NC];rw[lk] at e1;rw[lk] at bq;rw[bq] at e2;rw[bq] at dq;rw[dq] at e3;rw[dq] at fj;rw[fj] at e4;rw[fj] at fK;rw[fK] at e5;rw[fK] at mt;rw[mt] at e6;rw[mt] at oD;rw[oD] at e7;rw[oD] at fJ;rw[fJ] at e8;rw[fJ] at FU
 have d0:a8.heap[w.heap.size]?=_:=Lb ed (by omega) (Lb dv (by omega) (Lb cS (by omega) (Lb bZ (by omega) (Lb be (by omega) (Lb ap (by omega) (Lb ae (by omega) (Lb aJ (by omega) (e0))))))));have d1:a8.heap[w.heap.size+1]?=_:=Lb ed (by omega) (Lb dv (by omega) (Lb cS (by omega) (Lb bZ (by omega) (Lb be (by omega) (Lb ap (by omega) (Lb ae (by omega) (e1)))))));have d2:a8.heap[w.heap.size+1+1]?=_:=Lb ed (by omega) (Lb dv (by omega) (Lb cS (by omega) (Lb bZ (by omega) (Lb be (by omega) (Lb ap (by omega) (e2))))));have d3:a8.heap[w.heap.size+1+1+1]?=_:=Lb ed (by omega) (Lb dv (by omega) (Lb cS (by omega) (Lb bZ (by omega) (Lb be (by omega) (e3)))));have d4:a8.heap[w.heap.size+1+1+1+1]?=_:=Lb ed (by omega) (Lb dv (by omega) (Lb cS (by omega) (Lb bZ (by omega) (e4))));have d5:a8.heap[w.heap.size+1+1+1+1+1]?=_:=Lb ed (by omega) (Lb dv (by omega) (Lb cS (by omega) (e5)));have d6:a8.heap[w.heap.size+1+1+1+1+1+1]?=_:=Lb ed (by omega) (Lb dv (by omega) (e6))
 have d7:a8.heap[w.heap.size+1+1+1+1+1+1+1]?=_:=Lb ed (by omega) (e7);have d8:a8.heap[w.heap.size+1+1+1+1+1+1+1+1]?=_:=e8;have oX:Ao w.heap.size w a8:=((((((((cZ).trans (aJ.mono (by omega))).trans (ae.mono (by omega))).trans (ap.mono (by omega))).trans (be.mono (by omega))).trans (bZ.mono (by omega))).trans (cS.mono (by omega))).trans (dv.mono (by omega))).trans (ed.mono (by omega));have D0:=zH d0;have D1:=zH d1;have D2:=zH d2;have D3:=zH d3;have D4:=zH d4;have D5:=zH d5;have D6:=zH d6;have D7:=zH d7;have D8:=zH d8;have Wq:=zH oX;clear NN e0 cZ d0 dN e1 aJ d1 fu e2 ae d2 CF e3 ap d3 CE e4 be d4 CD e5 bZ d5 NI e6 cS d6 NE e7 dv d7 NC e8 ed d8 oX;have So:=D8.out;refine zE [(0,Av),(1,Av),(3,Av),(2,Ax),(4,Ax),(5,Ax),(6,Ax),(7,Ax),(8,Ax),(9,Ax)] (fun W=>W.heap[w.heap.size+1+1+1+1+1+1+1+1]?=J (Ah #[O U 2,O U 2,O U 1,I (J ⟨w.heap.size+1+1+1+1+1+1+1,0,Z⟩) 2 2] 24 (0,0))) (by kernel_rfl) (by kernel_rfl) So ?_;clear So
 repeat
  apply zX rfl
  . rintro K' ai W y0
    have x0:W.cell? ⟨w.heap.size+1+1+1+1+1+1+1+1,0,Z⟩=J (O U 2):=za y0 0 rfl;have x1:W.cell? ⟨w.heap.size+1+1+1+1+1+1+1+1,1,Z⟩=J (O U 2):=za y0 1 rfl;have x2:W.cell? ⟨w.heap.size+1+1+1+1+1+1+1+1,2,Z⟩=J (O U 1):=za y0 2 rfl;have x3:W.cell? ⟨w.heap.size+1+1+1+1+1+1+1+1,3,Z⟩=J (I (J ⟨w.heap.size+1+1+1+1+1+1+1,0,Z⟩) 2 2):=za y0 3 rfl;clear y0;go_simp;exact ai
 refine zG rfl ?_;intro K' ai;go_simp;refine(Yn 1 a8.drew).mono ?_;rintro e m1 ⟨rfl,Gf⟩;have Kk:As (Ao a8.heap.size a8 m1):=(Lp _ a8).drew.trans Gf;have bK:=Kk.out.size;refine ai _ _ (Lb Kk.out (by omega) D8.out) ?_;clear ai K' Gf;refine zG rfl ?_;intro K' ai;go_simp;refine(Yn 3 m1).mono ?_;rintro e m2 ⟨rfl,ia⟩;have tl:As (Ao a8.heap.size a8 m2):=Kk.out.trans (ia.mono bK);have cf:=tl.out.size;refine ai _ _ (Lb tl.out (by omega) D8.out) ?_;clear ai K' ia;refine zG rfl ?_;intro K' ai;go_simp;obtain⟨m3,Ge,c3,FW,GW⟩:=zq m2 #[O U 2,O U 1,O U 3,O U 0,O U 0,O U 0,O U 0,O U 0,O U 2,O U 3,O U 3,O U 0,O U 0,O U 0,O U 0,O U 0] 121;rw[Ge];have Kj:As (Ao a8.heap.size a8 m3):=tl.out.trans (GW.mono cf);have rJ:=Kj.out.size;refine ai _ _ (Lb Kj.out (by omega) D8.out) ?_;clear ai K' Ge;refine zG rfl ?_;intro K' ai;go_simp;obtain⟨m4,sh,c4,Tp,Cz⟩:=zq m3 #[I (J ⟨m2.heap.size,0,Z⟩) 2 2] 119;rw[sh];have tk:As (Ao a8.heap.size a8 m4):=Kj.out.trans (Cz.mono rJ);have SN:=tk.out.size;refine ai _ _ (Lb tk.out (by omega) D8.out) ?_;clear ai K' sh;refine zG rfl ?_;intro K' ai;go_simp;refine ai _ _ (Lb tk.out (by omega) D8.out) ?_;clear ai K';refine zG rfl ?_;intro K' ai;go_simp;refine ai _ _ (Lb tk.out (by omega) D8.out) ?_
 clear ai K';have d0:=Lb tk.out (by omega) D0.out;have y0:m4.cell? ⟨w.heap.size,0,Z⟩=J (O U 0):=za d0 0 rfl;have f0:=zb d0 0;have y1:m4.cell? ⟨w.heap.size,1,Z⟩=J (O U 0):=za d0 1 rfl;have f1:=zb d0 1;have y2:m4.cell? ⟨w.heap.size,2,Z⟩=J (O U 0):=za d0 2 rfl;have f2:=zb d0 2;have y3:m4.cell? ⟨w.heap.size,3,Z⟩=J (I Z 0 0):=za d0 3 rfl;have f3:=zb d0 3;have y4:m4.cell? ⟨w.heap.size,4,Z⟩=J (O U 0):=za d0 4 rfl;have f4:=zb d0 4;have y5:m4.cell? ⟨w.heap.size,5,Z⟩=J (I Z 0 0):=za d0 5 rfl;have f5:=zb d0 5;have y6:m4.cell? ⟨w.heap.size,6,Z⟩=J (O U 0):=za d0 6 rfl;have f6:=zb d0 6;have Kz:=zH d0;clear d0;refine xb rfl (by kernel_rfl) ?_;intro K' ai;go_simp;refine ai (fun _=>True) _ _ trivial ?_;refine yh ?_;clear ai K';obtain⟨k1,k2,k3,k4⟩:=Jr (O U 2) (O U 2) (O U 1) (I (J ⟨w.heap.size+1+1+1+1+1+1+1,0,Z⟩) 2 2) (O U 2) (I (J ⟨m2.heap.size+1,0,Z⟩) 1 1) (O U 1) Kz.out (Wq.out.trans (tk.out.mono (by omega))) (Lh _);obtain⟨WF,cU⟩:=Kh ((((((((m4.setCell ⟨w.heap.size,0,Z⟩ (O U 2)).setCell ⟨w.heap.size,1,Z⟩ (O U 2)).setCell ⟨w.heap.size,2,Z⟩ (O U 1)).setCell ⟨w.heap.size,3,Z⟩ (I (J ⟨w.heap.size+1+1+1+1+1+1+1,0,Z⟩) 2 2)).setCell ⟨w.heap.size,4,Z⟩ (O U 2)).setCell ⟨w.heap.size,5,Z⟩ (I (J ⟨m2.heap.size+1,0,Z⟩) 1 1)).setCell ⟨w.heap.size,6,Z⟩ (O U 1)))
 rw[cU] at k1 k2 k3 k4 ⊢;have K1:=zH k1;have K2:=zH k2;have K3:=zH k3;have K4:=zH k4;clear k1 k2 k3 k4 cU y0 y1 y2 y3 y4 y5 y6 f0 f1 f2 f3 f4 f5 f6;go_wp2_with fail;obtain⟨z0,z1,z2,z3,z4,z5,z6,_⟩:=Kf K1.out;refine Nb (v:=Aj #[O U 2,O U 2,O U 1,I (J ⟨w.heap.size+1+1+1+1+1+1+1,0,Z⟩) 2 2,O U 2,I (J ⟨m2.heap.size+1,0,Z⟩) 1 1,O U 1]) (by simp[results,results31,go_sem,z0,z1,z2,z3,z4,z5,z6]) rfl ?_;have hk:∀k,k≠w.heap.size->k<a8.heap.size->WF.heap[k]?=a8.heap[k]?:=fun k h1 h2=>(K3.out k h1).trans (tk.out.block k h2)
 have g1:=(hk _ (by omega) (by omega)).trans D1.out;have g2:=(hk _ (by omega) (by omega)).trans D2.out;have g3:=(hk _ (by omega) (by omega)).trans D3.out;have g4:=(hk _ (by omega) (by omega)).trans D4.out;have g5:=(hk _ (by omega) (by omega)).trans D5.out;have g6:=(hk _ (by omega) (by omega)).trans D6.out;have g7:=(hk _ (by omega) (by omega)).trans D7.out;have g8:=(K3.out m2.heap.size (by omega)).trans (Lb Cz (by omega) c3);have c5:=c4;rw[FW] at c5;have g9:=(K3.out (m2.heap.size+1) (by omega)).trans c5;have i1:=xm (xs:=[0,0]) g1;have i2:=xm (xs:=[0,0]) g2;have i4:=xm (xs:=[0,1]) g4;have i5:=xm (xs:=[0,0]) g5;have l3:=QH (v:=[0,0]) g3 i2;have l6:=QH (v:=[0,0]) g6 i5;refine⟨J ⟨w.heap.size+1+1+1+1+1+1+1,0,Z⟩,2,J ⟨m2.heap.size+1,0,Z⟩,1,rfl,fun _=>⟨_,0,rfl,zd g7,fun i hi=>?_⟩,fun _=>⟨_,0,rfl,zd g9,fun i hi=>?_⟩,K2.out⟩
 . have h2:i=0\/i=1:=by have:i<2:=hi;omega
   rcases h2 with rfl | rfl
   . exact⟨_,_,_,za g7 0 rfl,za g7 1 rfl,za g7 2 rfl,⟨_,2,rfl,i1⟩,⟨_,1,rfl,l3⟩,⟨Z,0,rfl,LAt.nil _ _ _⟩⟩
   exact⟨_,_,_,za g7 3 rfl,za g7 4 rfl,za g7 5 rfl,⟨_,2,rfl,i4⟩,⟨_,1,rfl,l6⟩,⟨Z,0,rfl,LAt.nil _ _ _⟩⟩
 have h2:i=0:=by have:i<1:=hi;omega
 subst h2;refine⟨_,2,za g9 0 rfl,fun _=>⟨_,0,rfl,zd g8,fun j hj k u hu=>?_⟩⟩;have h3:j=0\/j=1:=by have:j<2:=hj;omega
 have MH:k<8:=by
  rcases h3 with rfl | rfl
  . exact(Li.1 hu).1
  exact(Li.1 hu).1
 rcases h3 with rfl | rfl
 . refine za g8 (0+0*8+k) ?_
   rw[<-hu];have h8:k=0\/k=1\/k=2\/k=3\/k=4\/k=5\/k=6\/k=7:=by omega
   rcases h8 with rfl | rfl | rfl | rfl | rfl | rfl | rfl | rfl<;>rfl
 refine za g8 (0+1*8+k) ?_;rw[<-hu];have h8:k=0\/k=1\/k=2\/k=3\/k=4\/k=5\/k=6\/k=7:=by omega
 rcases h8 with rfl | rfl | rfl | rfl | rfl | rfl | rfl | rfl<;>rfl
def je(N:Nat)(x:Exn):Int:=match x.word.getLast? with
 | none=>2^N-1
 | some r=>bits BinOp.andNot U (2^N-1) r.f
theorem gH{N:Nat}{x:Exn}(h:x.word.length=0):je N x=2^N-1:=by
 unfold je;rw[LD h];rfl
theorem gI{N:Nat}{x:Exn}{k:Nat}(h:x.word.length=k+1):je N x=bits BinOp.andNot U (2^N-1) (x.word[k]'(by omega)).f:=by
 have e:x.word.getLast?=J (x.word[k]'(by omega)):=by
  rw[List.getLast?_eq_getElem?,show x.word.length-1=k by omega,Lg (by omega)]
 unfold je;rw[e]
theorem Qx{r:Rd}(h:zO r=0):∃f:Nat,r.f=(f:Int)/\f<32:=xq (m:=⟨r,0⟩) h
theorem Qi(N f:Nat)(h1:1<=N)(h5:N<=5)(hf:f<32):∃m:Nat,bits BinOp.andNot U (2^N-1) (f:Int)=(m:Int)/\m<32:=by
 have key:∀N:Nat,N<6->(kN fun f=>decide (0<=bits BinOp.andNot U ((2:Int)^N-1) (f:Int)/\bits BinOp.andNot U ((2:Int)^N-1) (f:Int)<32))=Av:=by decide +kernel
 have h:=LI (jJ (key N (by omega)) hf);exact⟨(bits BinOp.andNot U ((2:Int)^N-1) (f:Int)).toNat,by omega,by omega⟩
theorem Yq{N:Nat}{x:Exn}(h1:1<=N)(h5:N<=5)(hx:∀r∈x.word,zO r=0/\r.n=(N:Int)):∃m:Nat,je N x=(m:Int)/\m<32:=by
 rcases Na x.word.length with h | h
 . rw[gH h]
   have key:∀N:Nat,N<6->(0:Int)<=2^N-1/\(2:Int)^N-1<32:=by decide
   obtain⟨a,b⟩:=key N (by omega);exact⟨((2:Int)^N-1).toNat,by omega,by omega⟩
 obtain⟨k,hk⟩:∃k,x.word.length=k+1:=⟨x.word.length-1,by omega⟩;rw[gI hk];obtain⟨f,e,hf⟩:=Qx (hx _ (Ld (by omega:k<x.word.length))).1;rw[e];exact Qi N f h1 h5 hf
theorem vT(s:Sy)(K N:Nat)(hF:Fine s K N)(x:Exn)(hx:x∈s.xs)(A SV AV AX A1 A2:Bb)(kc ks kv kx a1 a2:Nat)(w:Ba)(hW:RAt w w.heap.size A1 x.word) :
  Ap An 107 #[.agg (s.vs_ A kc SV ks AV kv AX kx),Aj #[O U x.c,I A1 x.word.length a1,I A2 x.views.length a2]] w fun e w'=>e=Am (O U (je N x))/\Ao w.heap.size w w':=by
 obtain⟨w1,ag,d0,d1,bq,hB⟩:=zZ w (s.vs_ A kc SV ks AV kv AX kx) #[O U x.c,I A1 x.word.length a1,I A2 x.views.length a2] 36 42;have cG:=(hW.keep hB).more hB.size;obtain⟨nz,hn⟩:=Kh s.n;have OE:(N=1/\nz=1)\/(N=2/\nz=2)\/(N=3/\nz=3)\/(N=4/\nz=4)\/(N=5/\nz=5):=by have:=hF.n1;have:=hF.n5;have:=hF.n;omega
 have mA:=hF.k6;obtain⟨cI,np⟩:=hF.word x hx;unfold Sy.vs_ at ag d0 ⊢;rw[hn] at ag d0 ⊢;have al:=zH ag;have HB:=zH hB;have x7:w1.cell? ⟨w.heap.size,7,Z⟩=J (O U nz):=za d0 7 rfl;have y1:w1.cell? ⟨w.heap.size+1,1,Z⟩=J (I A1 x.word.length a1):=za d1 1 rfl;obtain⟨M,hM⟩:=Kh (je N x);rw[hM];have HM:=zH hM;clear hM hn ag d0 d1 hB hF hx;rcases Na x.word.length with h0 | h0
 . have AK:As (2^N-1=M):=(gH h0).symm.trans HM.out
   have UX:¬((0:Int)<(x.word.length:Int)):=by omega
   clear HM np cI cG hW;obtain⟨L,hL⟩:=Kh x.word.length;rw[hL] at UX y1 al ⊢;clear hL h0;rcases OE with ⟨rfl,rfl⟩ | ⟨rfl,rfl⟩ | ⟨rfl,rfl⟩ | ⟨rfl,rfl⟩ | ⟨rfl,rfl⟩
   all_goals
    go_enter func107,ntmps107;go_wp2_with fail;rw[al.out];go_wp2_with fail
    all_goals first | (exfalso;omega) | skip
    go_ret;exact⟨zc (by rw[<-AK.out];rfl),HB.out⟩
 obtain⟨k,hk⟩:∃k,x.word.length=k+1:=⟨x.word.length-1,by omega⟩;have AK:As (bits BinOp.andNot U (2^N-1) (x.word[k]'(by omega)).f=M):=(gI hk).symm.trans HM.out;obtain⟨b,o,eA,hb,t0,t1,t2,t3,t4,t5,r6⟩:=hW.row k (by omega);clear t0 t1 t2 t3 t4 t5;subst eA;obtain⟨f,ef,hf⟩:=Qx (np _ (Ld (by omega:k<x.word.length))).1;rw[ef] at r6 AK;have lh:IntKind.i64.wrap (((k+1:Nat):Int)-1)=(k:Int):=by rw[Ly];omega
 rw[hk] at y1 al ⊢;obtain⟨L,hL⟩:=Kh (k+1);rw[hL] at y1 al lh ⊢;have hL0:(0:Int)<(L:Int):=by omega
 have hkL:(k:Int)<(L:Int):=by omega
 have cK:(0:Int)<=(k:Int):=by omega
 clear hL HM np cI cG hW h0 hk ef y1 x7 al HB;rcases OE with ⟨rfl,rfl⟩ | ⟨rfl,rfl⟩ | ⟨rfl,rfl⟩ | ⟨rfl,rfl⟩ | ⟨rfl,rfl⟩
 all_goals
  go_enter func107,ntmps107;go_wp2_with fail
  all_goals first | (exfalso;omega) | skip
  go_ret;exact⟨zc AK.out,xT w _ _⟩
def yW(s:Sy)(i:Int):Int:=if yQ s≠0 then yQ s else if i<0\/(s.vs.length:Int)<=i then 6 else 0
theorem ZO(s:Sy)(hs:LowS s)(hf:qn s.p)(i:Int)(A SV AV AX:Bb)(kc ks kv kx:Nat)(w:Ba)(hS:SyAt w w.heap.size A SV AV AX s) :
  Ap An 70 #[.agg (s.vs_ A kc SV ks AV kv AX kx),O U i] w fun e w'=>e=Am (O U (yW s i))/\Ao w.heap.size w w':=by
 obtain⟨w1,ag,d0,bq,hB⟩:=zq w (s.vs_ A kc SV ks AV kv AX kx) 36;have HV:=zH (ur s hs hf A SV AV AX kc ks kv kx w1 (hS.up hB));have HE:As (yW s i=if yQ s≠0 then yQ s else if i<0\/(s.vs.length:Int)<=i then 6 else 0):=rfl;obtain⟨r,hr⟩:=Kh (yW s i);obtain⟨E,hE⟩:=Kh (yQ s);rw[hE] at HV HE;rw[hr] at HE ⊢;unfold Sy.vs_ at ag d0 HV ⊢;have al:=zH ag;have HB:=zH hB;have HD:=zH d0;obtain⟨p0,p1,p2,p3,p4,p5,p6,p7,p8,p9⟩:=ya d0;clear ag d0 hB hS hs hf hr hE;go_enter func70,ntmps70;go_wp2_with fail;rw[al.out];go_wp2_with fail;refine HV.out.mono ?_;rintro e w2 ⟨rfl,ae⟩;have aU:=zH (HB.out.trans (ae.mono (by omega)));have d0:=Lb ae (by omega:w.heap.size<w1.heap.size) HD.out;clear p0 p1 p2 p3 p4 p5 p6 p7 p8 p9 ae HV al;have p8:w2.cell? ⟨w.heap.size,8,Z⟩=J (I AV s.vs.length kv):=za d0 8 rfl;clear d0
 by_cases h0:E=0
 case neg=>
  have hR:As (r=E):=HE.out.trans (Ln h0);have e0:(E != 0)=Av:=by simpa using h0
  clear HE h0;go_wp2_with fail;go_ret;exact⟨zc hR.out.symm,aU.out⟩
 case pos=>
 subst h0;have hR:As (r=if i<0\/(s.vs.length:Int)<=i then 6 else 0):=HE.out.trans (Lj (by simp));clear HE
 by_cases h1:i<0
 . have fw:As (r=6):=hR.out.trans (Ln (.inl h1))
   clear hR;go_wp2_with fail
   all_goals first | (exfalso;omega) | skip
   all_goals
    go_ret;exact⟨zc fw.out.symm,aU.out⟩
 by_cases h2:(s.vs.length:Int)<=i
 . have fw:As (r=6):=hR.out.trans (Ln (.inr h2))
   clear hR;go_wp2_with fail
   all_goals first | (exfalso;omega) | skip
   all_goals
    go_ret;exact⟨zc fw.out.symm,aU.out⟩
 have fw:As (r=0):=hR.out.trans (Lj (by omega));clear hR;go_wp2_with fail
 all_goals first | (exfalso;omega) | skip
 all_goals
  go_ret;exact⟨zc fw.out.symm,aU.out⟩
def RetLE(xs:List Int)(n:Int)(w:Ba)(e:Ending)(w':Ba):Prop:=∃A c,e=Am (.tuple #[I A xs.length c,O U n])/\IAt w' w'.heap.size A xs/\Ao w.heap.size w w'
theorem uC{s:Sy}(hf:qn s.p)(h:yQ s=0):s=zL s.p/\∃K N,Fine s K N:=by
 unfold yQ at h
 by_cases h1:(zD s.p).2≠0
 . rw[Ln h1] at h;exact absurd h h1
 rw[Lj h1] at h
 by_cases h2:s=(zD s.p).1
 · have h0 : zz s.p = 0 := by
    by_cases h0:zz s.p=0
    . exact h0
    rw[xg h0] at h1;exact absurd h0 h1
   have hm:¬4096<zA s.p:=fun hm=>by rw[yP h0 hm] at h1;exact h1 (by decide)
   rw[xI h0 (by omega)] at h2;obtain⟨K,N,hF⟩:=wO hf h0 (by rcases hf.2 h0 with h | h;exact h;exact absurd h hm);exact⟨h2,K,N,by rw[h2];exact hF⟩
 rw[Lj h2] at h;cases h
def hasV(i:Int)(v:Vw)(x:Exn):Bool:=decide ((x.views.getD v.r.toNat []).getD v.p.toNat 0=i)
def xQ(s:Sy)(i:Int)(v:Vw)(k:Nat):List Int:=((List.range k).filter fun e=>hasV i v (s.xs.getD e default)).map fun (e:Nat)=>(e:Int)
def havE(s:Sy)(i:Int):List Int:=if yW s i≠0 then [] else xQ s i (s.vs.getD i.toNat default) s.xs.length
theorem havK_yes{s:Sy}{i:Int}{v:Vw}{k:Nat}(h:hasV i v (s.xs.getD k default)=Av):xQ s i v (k+1)=xQ s i v k++[(k:Int)]:=by
 unfold xQ;rw[NH,N3,LH,PX,Ln h];rfl
theorem havK_no{s:Sy}{i:Int}{v:Vw}{k:Nat}(h:hasV i v (s.xs.getD k default)=Ax):xQ s i v (k+1)=xQ s i v k:=by
 unfold xQ;rw[NH,N3,LH,PX,Lj (by rw[h];decide)];simp
theorem havK_len(s:Sy)(i:Int)(v:Vw)(k:Nat):(xQ s i v k).length<=k:=by
 unfold xQ;rw[LE];exact Lz (Pr _ _) (by simp)
theorem Zt{W:Ba}{D:Nat}{V:Au}{xs:List Int}(h:OwnR kIn W D V xs.length (xs.map (O U))):∃A c,V=I A xs.length c/\IAt W W.heap.size A xs:=by
 obtain⟨A,c,e,_,_,hc⟩:=h.form;refine⟨A,c,e,fun h0=>?_⟩;obtain⟨g,eA,_,hg,aQ⟩:=hc h0;exact⟨g,0,eA,hg,fun i hi=>by rw[LN];exact aQ i _ (by simp[hi])⟩
theorem XF(s:Sy)(hs:LowS s)(hf:qn s.p)(i:Int)(A SV AV AX:Bb)(kc ks kv kx:Nat)(w:Ba)(hS:SyAt w w.heap.size A SV AV AX s) :
  Ap An 33 #[.agg (s.vs_ A kc SV ks AV kv AX kx),O U i] w (RetLE (havE s i) (yW s i) w):=by
 obtain⟨w1,ag,d0,bq,hB⟩:=zq w (s.vs_ A kc SV ks AV kv AX kx) 36;have HV:=zH (ZO s hs hf i A SV AV AX kc ks kv kx w1 (hS.up hB));have fA:=zH (hS.up hB);have HH:As (havE s i=if yW s i≠0 then [] else xQ s i (s.vs.getD i.toNat default) s.xs.length):=rfl;have HE:As (yW s i=if yQ s≠0 then yQ s else if i<0\/(s.vs.length:Int)<=i then 6 else 0):=rfl;have ig:=zH (fun h=>uC hf h);obtain⟨R,hR⟩:=Kh (havE s i);obtain⟨r,hr⟩:=Kh (yW s i);rw[hr] at HV HE HH ⊢;rw[hR] at HH ⊢;unfold Sy.vs_ at ag d0 HV ⊢;have al:=zH ag;have HB:=zH hB;have HD:=zH d0;obtain⟨p0,p1,p2,p3,p4,p5,p6,p7,p8,p9⟩:=ya d0;clear ag d0 hB hS hr hR;go_enter func33,ntmps33;go_wp2_with fail;rw[al.out];go_wp2_with fail;refine HV.out.mono ?_;rintro e w2 ⟨rfl,ae⟩;have aU:=zH (HB.out.trans (ae.mono (by omega)));have dc:=zH (fA.out.up ae);have d0:=Lb ae (by omega:w.heap.size<w1.heap.size) HD.out;have ij:=zH d0;have dq:=ae.size;clear p0 p1 p2 p3 p4 p5 p6 p7 p8 p9 ae HV al fA HD;have p8:w2.cell? ⟨w.heap.size,8,Z⟩=J (I AV s.vs.length kv):=za d0 8 rfl;have p9:w2.cell? ⟨w.heap.size,9,Z⟩=J (I AX s.xs.length kx):=za d0 9 rfl;clear d0
 by_cases h0:r=0
 case neg=>
  have hR:As (R=[]):=HH.out.symm.symm.trans (Ln h0);have e0:(r != 0)=Av:=by simpa using h0
  clear HH HE ig h0;go_wp2_with fail
  go_ret2
  rw[hR.out];exact⟨Z,0,rfl,fun h=>absurd h (by simp),aU.out⟩
 case pos=>
 subst h0
 have mn:yQ s=0:=by
  by_cases h:yQ s=0
  . exact h
  have:=HE.out;rw[Ln h] at this;exact absurd this.symm h
 have hi:¬(i<0\/(s.vs.length:Int)<=i):=fun h=>by
  have:=HE.out;rw[Lj (by simpa using mn),Ln h] at this;cases this
 obtain⟨BE,K,N,hF⟩:=ig.out mn;clear BE;obtain⟨iN,rfl⟩:=Lr (show 0<=i by omega);have oM:iN<s.vs.length:=by omega
 have mL:R=xQ s iN (s.vs.getD ((iN:Int).toNat) default) s.xs.length:=HH.out.trans (Lj (by simp));obtain⟨v,hv⟩:=Kh (s.vs[iN]);have Mj:s.vs.getD ((iN:Int).toNat) default=v:=by rw[Lv,Lf,Lg oM,<-hv];rfl
 rw[Mj] at mL;obtain⟨⟨q,mm,tK⟩,⟨rn,dd,Tr⟩,aq⟩:=hF.vs v (by rw[<-hv];exact Ld oM);clear aq;obtain⟨bv,ov,eA,Nx,v0,v1,v2,v3,v4,v5,v6,v7⟩:=dc.out.fv.row iN oM;subst eA;rw[hv] at v0 v1 v2 v3 v4 v5 v6 v7;obtain⟨W3,bU,b3,fj,aW⟩:=zq w2 v.cells 100;unfold Vw.cells at bU b3;rw[mm] at v0 bU b3;rw[dd] at v1 bU b3;have ez:=zH bU;have bE:=zH (aU.out.trans (aW.mono (by omega)));have dz:=zH (dc.out.up aW);have d0:=Lb aW (by omega:w.heap.size<w2.heap.size) ij.out;have lL:=zH d0;have E3:=zH b3;have x9:W3.cell? ⟨w.heap.size,9,Z⟩=J (I AX s.xs.length kx):=za d0 9 rfl;have iL:=zH mL;have HF:=zH hF;have Iz:=zH mm;have mU:=zH dd;have oI:=hF.lx;have Eb:w.heap.size<w2.heap.size:=by omega
 have sq:(0:Int)<=(iN:Int):=by omega
 have Gy:(iN:Int)<(s.vs.length:Int):=by omega
 clear HH HE ig bU aW d0 b3 mn hi mL hv Mj mm dd hF hf hs aU dc ij;go_wp2_with fail;rw[ez.out];clear v0 v1 v2 v3 v4 v5 v6 v7 p8 p9 x9 ez
 go_loopw [8,26] (fun o i wr=>∃k:Nat,k<=s.xs.length/\i=O U (k:Int)/\As (OwnR kIn wr W3.heap.size o (xQ s iN v k).length ((xQ s iN v k).map (O U)))/\As (Ao W3.heap.size W3 wr)) (fun _ i _=>s.xs.length-(Aq i).toNat)
 case atStart=>exact⟨0,by omega,rfl,OwnR.nil _ _ _,Lp _ _⟩
 obtain⟨k,hk,rfl,HO,hb⟩:=hrel
 by_cases ac:k<s.xs.length
 case neg=>
  obtain rfl:k=s.xs.length:=by omega
  obtain⟨AO,ko,eO,hI⟩:=Zt HO.out;rw[eO];have HI:=zH hI;clear eO hI HO;go_wp2_with fail
  go_ret2
  rw[iL.out];exact⟨AO,ko,rfl,HI.out,bE.out.trans (hb.out.mono (by omega))⟩
 obtain⟨AO,ko,eO,_,_,_⟩:=HO.out.form;subst eO;obtain⟨bx,ox,A1,c1,A2,c2,eA,aL,y0,y1,y2,_,hL⟩:=(dz.out.fx.keep hb.out).row k ac;subst eA;obtain⟨x,hx⟩:=Kh (s.xs[k]);have Eu:s.xs.getD k default=x:=by rw[Lf,Lg ac,<-hx];rfl
 obtain⟨cp,dd⟩:=HF.out.views _ (Ld ac);rw[hx] at y0 y1 y2 hL cp dd;have eG:rn<x.views.length:=by omega
 obtain⟨bl,ol,A3,c3,eA,aB,v0,hI⟩:=hL.at_ rn eG;subst eA;have aR:=dd _ (Ld eG);have i8:q<(x.views[rn]).length:=by omega
 obtain⟨bi,oi,eA,oS,u0⟩:=hI.at_ q i8;subst eA;obtain⟨row,iZ⟩:=Kh (x.views[rn]);rw[iZ] at v0 aR;obtain⟨y,hy⟩:=Kh ((x.views[rn])[q]);rw[hy] at u0
 have Ce:hasV iN v (s.xs.getD k default)=decide (y=(iN:Int)):=by
  unfold hasV;rw[Eu,Iz.out,mU.out,Lv,Lv,Lf (l:=x.views),Lg eG];show decide ((x.views[rn]).getD q 0=_)=_;rw[Lf,Lg i8,<-hy];rfl
 have aZ:=hb.out.size;obtain⟨W4,lD,b4,fK,cD⟩:=zq wr #[O U x.c,I A1 x.word.length c1,I (J ⟨bl,ol,Z⟩) x.views.length c2] 42;have fB:=zH (hb.out.trans (cD.mono aZ));have AD:=zH lD;have pi:=zH (HO.out.below cD (Lh _));have z2:=za b4 2 rfl;have z3:=(cD.cell (p:=⟨bl,ol+rn,Z⟩) (by show bl<_;omega)).trans v0;have z4:=(cD.cell (p:=⟨bi,oi+q,Z⟩) (by show bi<_;omega)).trans u0;have e3:=La fB.out E3.out;have z0:W4.cell? ⟨w2.heap.size,0,Z⟩=J (O U (q:Int)):=za e3 0 rfl;have z1:W4.cell? ⟨w2.heap.size,1,Z⟩=J (O U (rn:Int)):=za e3 1 rfl;have Cq:bx<wr.heap.size:=by omega
 have cK:(0:Int)<=(k:Int):=by omega
 have bY:(k:Int)<(s.xs.length:Int):=by omega
 have Tu:(0:Int)<=(rn:Int):=by omega
 have tJ:(rn:Int)<(x.views.length:Int):=by omega
 have lQ:(0:Int)<=(q:Int):=by omega
 have tM:(q:Int)<(row.length:Int):=by rw[<-iZ];omega
 have cj:=havK_len s iN v k;have DA:=zH cj;have R5:=zH Ce;clear hL hI cp dd aR i8 iZ hy Eu hx lD b4 cD v0 u0 e3 HO hb Ce cj;go_wp2_with fail;rw[AD.out];go_wp2_with fail
 by_cases iT:y=(iN:Int)
 . have e0:(y==(iN:Int))=Av:=by simpa using iT
   have fG:As (xQ s iN v (k+1)=xQ s iN v k++[(k:Int)]):=havK_yes (R5.out.trans (Lm iT));clear iT;go_quiet (fail);obtain⟨X,hX⟩:=Kh (W4.drewN nq);rw[hX];have dA:As (Ao W3.heap.size W3 X):=by rw[<-hX];exact zu fB.out nq
   have Du:As (OwnR kIn X W3.heap.size (.slice AO (xQ s iN v k).length ko) (xQ s iN v k).length ((xQ s iN v k).map (O U))):=by rw[<-hX];exact pi.out
   have td:=zH (Du.out.alloc (Ah #[O U k] 3));have nN:=zH (zg X (Ah #[O U k] 3));have nR:As (W3.heap.size<=(X.alloc (Ah #[O U k] 3)).heap.size):=by show _<=_;have:=dA.out.size;simp;omega
   have rt:As ((xQ s iN v k).length<=1000000000):=by show _<=_;have:=DA.out;omega
   have DB:As ((xQ s iN v (k+1)).length=(xQ s iN v k).length+1):=by show _=_;rw[fG.out];simp
   clear hX z0 z1 z2 z3 z4 e0;go_wp2_with (at_builtin;refine yg wk rfl (.tmp 43) (.tmp 45) rfl W3.heap.size (.slice AO (xQ s iN v k).length ko) (xQ s iN v k).length ((xQ s iN v k).map (O U)) rfl td.out X.heap.size #[O U k] rfl nN.out rfl (by simp[Value.oneCell']) rt.out nR.out _ rfl ?_;intro g' cap tC dS de cd d9;have rp:=zH dS;have tq:As (Ao W3.heap.size W3 tC):=((dA.out.trans ((zt X _).mono dA.out.size)).grown de (by exact nR.out) (fun k hk=>(Du.out.lt k hk).1));clear dS de cd d9)
   go_roundw
   case rel=>exact⟨k+1,by omega,by go_num,by rw[DB.out,fG.out,LH];exact rp.out,tq.out⟩
   simp[Aq];omega
 have e0:(y==(iN:Int))=Ax:=by simpa using iT
 have fG:As (xQ s iN v (k+1)=xQ s iN v k):=havK_no (R5.out.trans (Ll iT));clear iT;go_quiet (fail);go_wp2_with fail
 go_roundw
 case rel=>exact⟨k+1,by omega,by go_num,by rw[fG.out];exact pi.out,zu fB.out nq⟩
 simp[Aq];omega
def FrI(D:Nat)(A:Bb)(n:Nat):Prop:=0<n->∃g o q,A=J ⟨g,o,q⟩/\D<=g
theorem FrI.mono{D D':Nat}{A:Bb}{n:Nat}(h:FrI D A n)(hd:D'<=D):FrI D' A n:=fun h0=>by
 obtain⟨g,o,q,e,hg⟩:=h h0;exact⟨g,o,q,e,Lz hd hg⟩
theorem own_fr{K:Kd}{w:Ba}{aa:Nat}{v:Au}{n:Nat}{cs:List Au}(h:OwnR K w aa v n cs){A:Bb}{cap:Nat}(e:v=I A n cap):FrI aa A n:=fun hn=>by
 rcases h.2 with ⟨rfl,h0⟩ | ⟨g,aF,cur,rfl,hb,hg,dr,iw,_⟩
 . omega
 . cases e;exact⟨g,0,Z,rfl,hb⟩
def xA(bs:List Bool):Array Au:=(bs.map Ai).toArray
theorem Zc(bs:List Bool)(i:Nat)(b:Bool):(xA bs).setIfInBounds i (Ai b)=xA (bs.set i b):=by
 unfold xA;rw[RR,List.map_set]
theorem jS(bs:List Bool)(i:Nat)(h:i<bs.length):(xA bs)[i]?=J (Ai bs[i]):=by
 unfold xA;simp[h]
def zR(m:Nat)(row:List Int)(bs:List Bool):Nat->List Bool
 | 0=>bs
 | q+1=>if m.testBit q=Av then (zR m row bs q).set (row.getD q 0).toNat Av else zR m row bs q
theorem qO(m:Nat)(row:List Int)(bs:List Bool):∀q,(zR m row bs q).length=bs.length
 | 0=>rfl
 | q+1=>by unfold zR;split<;>simp[qO m row bs q]
def yJ(s:Sy)(K N:Nat):Nat->List Bool
 | 0=>List.replicate s.vs.length Ax
 | k+1=>zR (je N (s.xs.getD k default)).toNat ((s.xs.getD k default).views.getD K []) (yJ s K N k) N
theorem qZ(s:Sy)(K N:Nat):∀k,(yJ s K N k).length=s.vs.length
 | 0=>by simp[yJ]
 | k+1=>by rw[yJ,qO,qZ s K N k]
def yH(s:Sy)(K N:Nat)(bt:Nat->Bool)(j:Nat):List Int:=((List.range j).filter fun i=>(yJ s K N s.xs.length).getD i Ax&&bt i).map fun (i:Nat)=>(i:Int)
def ul(s:Sy)(K N:Nat)(bt:Nat->Bool):List Int:=yH s K N bt s.vs.length
theorem Z6{s:Sy}{K N:Nat}{bt:Nat->Bool}{j:Nat}(h:((yJ s K N s.xs.length).getD j Ax&&bt j)=Av):yH s K N bt (j+1)=yH s K N bt j++[(j:Int)]:=by
 unfold yH;rw[NH,N3,LH,PX,Ln h];rfl
theorem Qz{s:Sy}{K N:Nat}{bt:Nat->Bool}{j:Nat}(h:((yJ s K N s.xs.length).getD j Ax&&bt j)=Ax):yH s K N bt (j+1)=yH s K N bt j:=by
 unfold yH;rw[NH,N3,LH,PX,Lj (by rw[h];decide)];simp
theorem Z7(s:Sy)(K N:Nat)(bt:Nat->Bool)(j:Nat):(yH s K N bt j).length<=j:=by
 unfold yH;rw[LE];exact Lz (Pr _ _) (by simp)
def kBo:Kd:=⟨4,56,1,1,Ai Ax⟩
theorem kBo_ok:KdOk An kBo:=⟨underlying56,by kernel_rfl,by rfl,by decide,by decide⟩
theorem Xs(n:Nat):madeCells #[Ai Ax] (n*1)=xA (List.replicate n Ax):=by
 unfold madeCells xA;apply Array.ext
 . simp
 intro i h1 h2;simp[Nat.mod_one]
theorem wi(n:Nat)(hn:n<=100000)(W:Ba):(Instr.makeSlice 56 (O U n) (O U n)).run An W=.ok (I (J ⟨W.heap.size,0,Z⟩) n n) (W.alloc (Ah (xA (List.replicate n Ax)) 4)):=by
 obtain⟨i0,hi,cq,bK,cf⟩:=yx kBo_ok;have hb:i0.bytes=1:=cf;have hs:i0.size=1:=bK;have h:=run_make (P:=An) W 56 4 i0 (Ai Ax) underlying56 hi cq U U (n:Int) (n:Int) (by omega) (Int.le_refl _) (by rw[hb];omega) (by omega);rw[h,hs];simp only[Int.toNat_natCast];rw[show(Ai Ax).cells=#[Ai Ax] from rfl,Xs]
theorem relA_any(s:Sy)(K N:Nat)(hF:Fine s K N)(bt:Nat->Bool)(A SV AV AX:Bb)(kc ks kv kx:Nat)(w:Ba)(hS:SyAt w w.heap.size A SV AV AX s)
  (CX:∀(i:Nat) (X:Ba),i<s.vs.length->Ao w.heap.size w X->Ap An 72 #[O U (i:Int)] X fun e w'=>e=Am (Ai (bt i))/\Ao X.heap.size X w') :
  Ap An 71 #[.agg (s.vs_ A kc SV ks AV kv AX kx),.func (.func 72) #[] #[]] w fun e w'=>∃AO ko,e=Am (.slice AO (ul s K N bt).length ko)/\IAt w' w'.heap.size AO (ul s K N bt)/\FrI w.heap.size AO (ul s K N bt).length/\Ao w.heap.size w w':=by
 obtain⟨w1,ag,d0,d1,bq,hB⟩:=zZ w (s.vs_ A kc SV ks AV kv AX kx) (xA (List.replicate s.vs.length Ax)) 36 4;have lc:=zH hS;have tx:=zH CX;have HF:=zH hF;have eK:=wi s.vs.length (by have:=hF.lv;omega);unfold Sy.vs_ at ag d0 ⊢;have eH:=hF.k;rw[eH] at ag d0 ⊢;have al:=zH ag;have HB:=zH hB;have bn:=zH d0;have bN:=zH d1;have oI:=hF.lx;have Eo:=hF.lv;have mA:=hF.k6;have nu:=hF.n5;clear ag d0 d1 hB hS CX hF eH;go_enter func71,ntmps71;go_wp2_with fail;rw[al.out]
 go_loopw [22] (fun i wr=>∃k:Nat,k<=s.xs.length/\i=O U (k:Int)/\As (wr.heap[w.heap.size+1]?=J (Ah (xA (yJ s K N k)) 4 (0,0)))/\As (wr.heap[w.heap.size]?=w1.heap[w.heap.size]?)/\As (Ao w.heap.size w wr)) (fun i _=>s.xs.length-(Aq i).toNat)
 case atStart=>exact⟨0,by omega,rfl,bN.out,rfl,HB.out⟩
 obtain⟨k,hk,rfl,HY,HS,bX⟩:=hrel;have rT:w.heap.size+1<wr.heap.size:=zd HY.out;have d0:=HS.out.trans bn.out
 by_cases ac:k<s.xs.length
 case neg=>
  obtain rfl:k=s.xs.length:=by omega
  clear al HB bN;go_wp2_with fail;obtain⟨w5,rfl⟩:∃x,x=wr:=⟨_,rfl⟩;have cu:=qZ s K N s.xs.length;obtain⟨yl,rK⟩:=Kh (yJ s K N s.xs.length);rw[rK] at HY cu;have Io:=zH rK;have rf:=zH cu;clear rK cu
  go_loopw [11,54] (fun o i wx=>∃j:Nat,j<=s.vs.length/\i=O U (j:Int)/\As (OwnR kIn wx w5.heap.size o (yH s K N bt j).length ((yH s K N bt j).map (O U)))/\As (Ao w5.heap.size w5 wx)) (fun _ i _=>s.vs.length-(Aq i).toNat)
  case atStart=>exact⟨0,by omega,rfl,OwnR.nil _ _ _,Lp _ _⟩
  obtain⟨j,hj,rfl,HO,hb⟩:=hrel
  by_cases bg:j<s.vs.length
  case neg=>
   obtain rfl:j=s.vs.length:=by omega
   obtain⟨AO,ko,eO,hI⟩:=Zt HO.out;rw[eO];have HI:=zH hI;have pq:=zH ((own_fr HO.out eO).mono bX.out.size);clear eO hI HO;go_wp2_with fail;go_ret;exact⟨AO,ko,rfl,HI.out,pq.out,bX.out.trans (hb.out.mono (by omega))⟩
  obtain⟨AO,ko,eO,nt,FQ,FP⟩:=HO.out.form;subst eO;clear nt FQ FP;have aZ:=hb.out.size;have pN:j<yl.length:=by have:=rf.out;omega
  have y0:wr.cell? ⟨w.heap.size+1,j,Z⟩=J (Ai yl[j]):=za (Lb hb.out (by omega) HY.out) j (jS yl j pN);have i9:(yJ s K N s.xs.length).getD j Ax=yl[j]:=by rw[Io.out,Lf,Lg pN];rfl
  have Cb:(0:Int)<=(j:Int):=by omega
  have tR:(j:Int)<(s.vs.length:Int):=by omega
  have fW:=zH (@Qz s K N bt j);have iO:=zH (@Z6 s K N bt j);rw[i9] at fW iO;have DA:=zH (Z7 s K N bt j);have pt:=zH (tx.out j wr bg (bX.out.trans (hb.out.mono (by omega))));obtain⟨yb,Bs⟩:=Kh (yl[j]);rw[Bs] at y0 fW iO;clear i9 Bs
  cases yb with
  | false=>
   have fG:As (yH s K N bt (j+1)=yH s K N bt j):=fW.out rfl;clear fW iO pt;go_wp2_with fail
   go_roundw
   case rel=>exact⟨j+1,by omega,by go_num,by rw[fG.out];exact HO.out,hb.out⟩
   case measure=>simp[Aq];omega
  | true=>
   go_wp2_with fail;refine pt.out.mono ?_;rintro e w6 ⟨rfl,cS⟩;have dQ:=zH (hb.out.trans (cS.mono aZ));have lK:=zH (HO.out.below cS (Lh _));clear cS pt y0;obtain⟨ab,sH⟩:=Kh (bt j);rw[sH] at fW iO;rw[sH];clear sH
   cases ab with
   | false=>
    have fG:As (yH s K N bt (j+1)=yH s K N bt j):=fW.out rfl;clear fW iO;go_wp2_with fail
    go_roundw
    case rel=>exact⟨j+1,by omega,by go_num,by rw[fG.out];exact lK.out,dQ.out⟩
    case measure=>simp[Aq];omega
   | true=>
    have fG:As (yH s K N bt (j+1)=yH s K N bt j++[(j:Int)]):=iO.out rfl;have td:=zH (lK.out.alloc (Ah #[O U j] 3));have nN:=zH (zg w6 (Ah #[O U j] 3));have nR:As (w5.heap.size<=(w6.alloc (Ah #[O U j] 3)).heap.size):=by show _<=_;have:=dQ.out.size;simp;omega
    have rt:As ((yH s K N bt j).length<=1000000000):=by show _<=_;have:=DA.out;omega
    have DB:As ((yH s K N bt (j+1)).length=(yH s K N bt j).length+1):=by show _=_;rw[fG.out];simp
    clear fW iO;go_wp2_with (at_builtin;refine yg wk rfl (.tmp 65) (.tmp 67) rfl w5.heap.size (.slice AO (yH s K N bt j).length ko) (yH s K N bt j).length ((yH s K N bt j).map (O U)) rfl td.out w6.heap.size #[O U j] rfl nN.out rfl (by simp[Value.oneCell']) rt.out nR.out _ rfl ?_;intro g' cap tC dS de cd d9;have rp:=zH dS;have tq:As (Ao w5.heap.size w5 tC):=((dQ.out.trans ((zt w6 _).mono dQ.out.size)).grown de (by exact nR.out) (fun k hk=>(lK.out.lt k hk).1));clear dS de cd d9)
    go_roundw
    case rel=>exact⟨j+1,by omega,by go_num,by rw[DB.out,fG.out,LH];exact rp.out,tq.out⟩
    case measure=>simp[Aq];omega
 obtain⟨bx,ox,A1,c1,A2,c2,eA,aL,y0,y1,y2,CH,hL⟩:=(lc.out.fx.keep bX.out).row k ac;subst eA;have iV:=Ld ac;obtain⟨cp,dd⟩:=HF.out.views _ iV;obtain⟨m,hm,si⟩:=Yq HF.out.n1 HF.out.n5 (HF.out.word _ iV).2
 have cO:yJ s K N (k+1)=zR m (s.xs[k].views.getD K []) (yJ s K N k) N:=by
  rw[yJ,Lf,Lg ac];show zR (je N s.xs[k]).toNat (s.xs[k].views.getD K []) _ N=_;rw[hm,Lv]
 obtain⟨W3,bU,b3,fj,aW⟩:=zq wr #[O U s.xs[k].c,I A1 s.xs[k].word.length c1,I A2 s.xs[k].views.length c2] 42;have lJ:=zH (fun kc ks kv kx=>vT s K N HF.out s.xs[k] iV A SV AV (J ⟨bx,ox,Z⟩) A1 A2 kc ks kv kx c1 c2 W3 (((CH.more (by omega)).keep aW).more aW.size));rw[hm] at lJ;obtain⟨x,hx⟩:=Kh (s.xs[k]);rw[hx] at y0 y1 y2 hL cp dd cO bU b3 lJ;unfold Sy.vs_ at lJ;rw[HF.out.k] at lJ;have sR:K<x.views.length:=by omega
 obtain⟨bl,ol,A3,c3,eA,aB,v0,hI⟩:=hL.at_ K sR;subst eA;have aR:=dd _ (Ld sR);have cM:x.views.getD K []=x.views[K]:=by rw[Lf,Lg sR];rfl
 obtain⟨row,iZ⟩:=Kh (x.views[K]);rw[cM,iZ] at cO;rw[iZ] at v0 hI aR;obtain⟨eG,oE⟩:=aR;have ez:=zH bU;have bE:=zH aW;have ie:=zH b3;have d3:=Lb aW (by omega:w.heap.size<wr.heap.size) d0;have lL:=zH d3;have iI:=zH (Lb aW rT HY.out);have Iq:=zH cO;have IU:=zH oE;have eQ:=zH hI;have mV:=zH v0;have Eb:w.heap.size<wr.heap.size:=by omega
 have Cq:bx<wr.heap.size:=by omega
 have cK:(0:Int)<=(k:Int):=by omega
 have bY:(k:Int)<(s.xs.length:Int):=by omega
 have p9:wr.cell? ⟨w.heap.size,9,Z⟩=J (I (J ⟨bx,ox,Z⟩) s.xs.length kx):=za d0 9 rfl;obtain⟨p0,p1,p2,p3,p4,p5,_⟩:=Kg d0;have p6:wr.cell? ⟨w.heap.size,6,Z⟩=J (O U (K:Int)):=za d0 6 rfl;have p7:=za d0 7 rfl;have p8:=za d0 8 rfl;clear bU b3 aW hL hI v0 iZ cM hx iV cp dd hm cO oE CH d3 d0 HY;go_wp2_with fail;rw[ez.out];refine(lJ.out _ _ _ _).mono ?_;rintro e w4 ⟨rfl,be⟩;have fK:=be.size;have fB:=zH (bX.out.trans ((bE.out.trans (be.mono (by omega))).mono (by omega)));have d4:=Lb be (by omega:w.heap.size<W3.heap.size) lL.out;have b4:=La be ie.out;have Ir:=zH (Lb be (by omega:w.heap.size+1<W3.heap.size) iI.out);have tu:=zH d4;have Ku:=zH ((eQ.out.keep (bE.out.mono (by omega))).keep (be.mono (by omega)));clear p0 p1 p2 p3 p4 p5 p6 p7 p8 p9;have p6:w4.cell? ⟨w.heap.size,6,Z⟩=J (O U (K:Int)):=za d4 6 rfl;have z2:w4.cell? ⟨wr.heap.size,2,Z⟩=J (I (J ⟨bl,ol,Z⟩) x.views.length c2):=za b4 2 rfl;have v4:w4.cell? ⟨bl,ol+K,Z⟩=J (I A3 row.length c3):=(be.cell (p:=⟨bl,ol+K,Z⟩) (by show bl<_;omega)).trans ((bE.out.cell (p:=⟨bl,ol+K,Z⟩) (by show bl<_;omega)).trans mV.out);have UJ:(0:Int)<=(K:Int):=by omega
 have UI:(K:Int)<(x.views.length:Int):=by omega
 clear be d4 b4 lJ ez iI ie eQ mV y0 y1 y2;go_wp2_with fail;clear p6 z2 v4;have AG:=zH eG;have GX:w.heap.size+1<w4.heap.size:=by omega
 obtain⟨wp,rfl⟩:∃x,x=wr:=⟨_,rfl⟩
 go_loopw [37] (fun i wx=>∃q:Nat,q<=N/\i=O U (q:Int)/\As (wx.heap[w.heap.size+1]?=J (Ah (xA (zR m row (yJ s K N k) q)) 4 (0,0)))/\As (Wrote (fun b=>b=w.heap.size+1) w4 wx)) (fun i _=>N-(Aq i).toNat)
 case atStart=>exact⟨0,by omega,rfl,Ir.out,Wrote.refl _ _⟩
 obtain⟨q,hq,rfl,HQ,mR⟩:=hrel;have FS:=mR.out.size;have dA:As (Ao w.heap.size w4 wr):=mR.out.below (by omega) (fun b h1 h2=>by have h3:b=w.heap.size+1:=h2;omega)
 by_cases tK:q<N
 case neg=>
  obtain rfl:q=N:=by omega
  have FZ:¬((q:Int)<(row.length:Int)):=by omega
  have Ip:As (wr.heap[w.heap.size+1]?=J (Ah (xA (yJ s K q (k+1))) 4 (0,0))):=by show _=_;rw[Iq.out];exact HQ.out
  have IL:As (wr.heap[w.heap.size]?=w1.heap[w.heap.size]?):=(mR.out.block _ (by omega) (fun h=>by have h3:w.heap.size=w.heap.size+1:=h;omega)).trans (tu.out.trans bn.out.symm);clear HQ;go_wp2_with fail
  go_roundw
  case rel=>exact⟨k+1,by omega,by go_num,Ip,IL,fB.out.trans dA.out⟩
  simp[Aq];omega
 have FZ:(q:Int)<(row.length:Int):=by omega
 have i8:q<row.length:=by omega
 obtain⟨br,Fv,eA,fO,u0⟩:=Ku.out.at_ q i8;subst eA;have u1:=(dA.out.cell (p:=⟨br,Fv+q,Z⟩) fO).trans u0;have iT:=IU.out _ (Ld i8);obtain⟨y,hy⟩:=Kh (row[q]);rw[hy] at u1 iT;obtain⟨yN,rfl⟩:=Lr iT.1;have i9:(row.getD q 0).toNat=yN:=by rw[Lf,Lg i8,hy];rfl
 have cu:yN<(zR m row (yJ s K N k) q).length:=by rw[qO,qZ];omega
 obtain⟨yb,c0⟩:∃yb,wr.cell? ⟨w.heap.size+1,yN,Z⟩=J (Ai yb):=⟨_,za HQ.out yN (jS _ _ cu)⟩;have f0:=zb HQ.out yN;have iy:=wQ si (show q<5 by omega);have lQ:(0:Int)<=(q:Int):=by omega
 have tL:(q:Int)<5:=by omega
 have lR:(0:Int)<=(m:Int):=by omega
 have SO:(0:Int)<=(yN:Int):=by omega
 have FH:(yN:Int)<(s.vs.length:Int):=by omega
 clear u0 hy iT
 by_cases du:m.testBit q=Av
 . rw[du] at iy
   have sZ:As (zR m row (yJ s K N k) (q+1)=(zR m row (yJ s K N k) q).set yN Av):=by show _=_;rw[zR,Ln du,i9]
   have IX:As ((wr.setCell ⟨w.heap.size+1,yN,Z⟩ (Ai Av)).heap[w.heap.size+1]?=J (Ah (xA (zR m row (yJ s K N k) (q+1))) 4 (0,0))):=by show _=_;rw[Lk wr _ yN _ _ _ HQ.out,Zc,sZ.out]
   have Dg:As (Wrote (fun b=>b=w.heap.size+1) w4 (wr.setCell ⟨w.heap.size+1,yN,Z⟩ (Ai Av))):=mR.out.trans (kB wr (w.heap.size+1) yN _) (fun _ _ h=>h);clear du i9 cu;go_wp2_with fail
   go_roundw
   case rel=>exact⟨q+1,by omega,by go_num,IX,Dg⟩
   simp[Aq];omega
 have Cw:m.testBit q=Ax:=by simpa using du
 rw[Cw] at iy;have sZ:As (zR m row (yJ s K N k) (q+1)=zR m row (yJ s K N k) q):=by show _=_;rw[zR,Lj du]
 clear du Cw i9 cu;go_wp2_with fail
 go_roundw
 case rel=>exact⟨q+1,by omega,by go_num,by rw[sZ.out];exact HQ.out,mR.out⟩
 simp[Aq];omega
theorem relC_any(s:Sy)(K N:Nat)(hF:Fine s K N)(bt:Nat->Bool)(g1 g2:Nat)(A SV AV AX:Bb)(kc ks kv kx:Nat)(w:Ba)(hS:SyAt w w.heap.size A SV AV AX s)
  (CX:∀(i:Nat) (X:Ba),i<s.vs.length->Ao w.heap.size w X->Ap An 73 #[O U (i:Int),Ak (J ⟨g1,0,Z⟩),Ak (J ⟨g2,0,Z⟩)] X fun e w'=>e=Am (Ai (bt i))/\Ao X.heap.size X w') :
  Ap An 71 #[.agg (s.vs_ A kc SV ks AV kv AX kx),.func (.func 73) #[] #[Ak (J ⟨g1,0,Z⟩),Ak (J ⟨g2,0,Z⟩)]] w fun e w'=>∃AO ko,e=Am (.slice AO (ul s K N bt).length ko)/\IAt w' w'.heap.size AO (ul s K N bt)/\FrI w.heap.size AO (ul s K N bt).length/\Ao w.heap.size w w':=by
 obtain⟨w1,ag,d0,d1,bq,hB⟩:=zZ w (s.vs_ A kc SV ks AV kv AX kx) (xA (List.replicate s.vs.length Ax)) 36 4;have lc:=zH hS;have tx:=zH CX;have HF:=zH hF;have eK:=wi s.vs.length (by have:=hF.lv;omega);unfold Sy.vs_ at ag d0 ⊢;have eH:=hF.k;rw[eH] at ag d0 ⊢;have al:=zH ag;have HB:=zH hB;have bn:=zH d0;have bN:=zH d1;have oI:=hF.lx;have Eo:=hF.lv;have mA:=hF.k6;have nu:=hF.n5;clear ag d0 d1 hB hS CX hF eH;go_enter func71,ntmps71;go_wp2_with fail;rw[al.out]
 go_loopw [22] (fun i wr=>∃k:Nat,k<=s.xs.length/\i=O U (k:Int)/\As (wr.heap[w.heap.size+1]?=J (Ah (xA (yJ s K N k)) 4 (0,0)))/\As (wr.heap[w.heap.size]?=w1.heap[w.heap.size]?)/\As (Ao w.heap.size w wr)) (fun i _=>s.xs.length-(Aq i).toNat)
 case atStart=>exact⟨0,by omega,rfl,bN.out,rfl,HB.out⟩
 obtain⟨k,hk,rfl,HY,HS,bX⟩:=hrel;have rT:w.heap.size+1<wr.heap.size:=zd HY.out;have d0:=HS.out.trans bn.out
 by_cases ac:k<s.xs.length
 case neg=>
  obtain rfl:k=s.xs.length:=by omega
  clear al HB bN;go_wp2_with fail;obtain⟨w5,rfl⟩:∃x,x=wr:=⟨_,rfl⟩;have cu:=qZ s K N s.xs.length;obtain⟨yl,rK⟩:=Kh (yJ s K N s.xs.length);rw[rK] at HY cu;have Io:=zH rK;have rf:=zH cu;clear rK cu
  go_loopw [11,54] (fun o i wx=>∃j:Nat,j<=s.vs.length/\i=O U (j:Int)/\As (OwnR kIn wx w5.heap.size o (yH s K N bt j).length ((yH s K N bt j).map (O U)))/\As (Ao w5.heap.size w5 wx)) (fun _ i _=>s.vs.length-(Aq i).toNat)
  case atStart=>exact⟨0,by omega,rfl,OwnR.nil _ _ _,Lp _ _⟩
  obtain⟨j,hj,rfl,HO,hb⟩:=hrel
  by_cases bg:j<s.vs.length
  case neg=>
   obtain rfl:j=s.vs.length:=by omega
   obtain⟨AO,ko,eO,hI⟩:=Zt HO.out;rw[eO];have HI:=zH hI;have pq:=zH ((own_fr HO.out eO).mono bX.out.size);clear eO hI HO;go_wp2_with fail;go_ret;exact⟨AO,ko,rfl,HI.out,pq.out,bX.out.trans (hb.out.mono (by omega))⟩
  obtain⟨AO,ko,eO,nt,FQ,FP⟩:=HO.out.form;subst eO;clear nt FQ FP;have aZ:=hb.out.size;have pN:j<yl.length:=by have:=rf.out;omega
  have y0:wr.cell? ⟨w.heap.size+1,j,Z⟩=J (Ai yl[j]):=za (Lb hb.out (by omega) HY.out) j (jS yl j pN);have i9:(yJ s K N s.xs.length).getD j Ax=yl[j]:=by rw[Io.out,Lf,Lg pN];rfl
  have Cb:(0:Int)<=(j:Int):=by omega
  have tR:(j:Int)<(s.vs.length:Int):=by omega
  have fW:=zH (@Qz s K N bt j);have iO:=zH (@Z6 s K N bt j);rw[i9] at fW iO;have DA:=zH (Z7 s K N bt j);have pt:=zH (tx.out j wr bg (bX.out.trans (hb.out.mono (by omega))));obtain⟨yb,Bs⟩:=Kh (yl[j]);rw[Bs] at y0 fW iO;clear i9 Bs
  cases yb with
  | false=>
   have fG:As (yH s K N bt (j+1)=yH s K N bt j):=fW.out rfl;clear fW iO pt;go_wp2_with fail
   go_roundw
   case rel=>exact⟨j+1,by omega,by go_num,by rw[fG.out];exact HO.out,hb.out⟩
   case measure=>simp[Aq];omega
  | true=>
   go_wp2_with fail;refine pt.out.mono ?_;rintro e w6 ⟨rfl,cS⟩;have dQ:=zH (hb.out.trans (cS.mono aZ));have lK:=zH (HO.out.below cS (Lh _));clear cS pt y0;obtain⟨ab,sH⟩:=Kh (bt j);rw[sH] at fW iO;rw[sH];clear sH
   cases ab with
   | false=>
    have fG:As (yH s K N bt (j+1)=yH s K N bt j):=fW.out rfl;clear fW iO;go_wp2_with fail
    go_roundw
    case rel=>exact⟨j+1,by omega,by go_num,by rw[fG.out];exact lK.out,dQ.out⟩
    case measure=>simp[Aq];omega
   | true=>
    have fG:As (yH s K N bt (j+1)=yH s K N bt j++[(j:Int)]):=iO.out rfl;have td:=zH (lK.out.alloc (Ah #[O U j] 3));have nN:=zH (zg w6 (Ah #[O U j] 3));have nR:As (w5.heap.size<=(w6.alloc (Ah #[O U j] 3)).heap.size):=by show _<=_;have:=dQ.out.size;simp;omega
    have rt:As ((yH s K N bt j).length<=1000000000):=by show _<=_;have:=DA.out;omega
    have DB:As ((yH s K N bt (j+1)).length=(yH s K N bt j).length+1):=by show _=_;rw[fG.out];simp
    clear fW iO;go_wp2_with (at_builtin;refine yg wk rfl (.tmp 65) (.tmp 67) rfl w5.heap.size (.slice AO (yH s K N bt j).length ko) (yH s K N bt j).length ((yH s K N bt j).map (O U)) rfl td.out w6.heap.size #[O U j] rfl nN.out rfl (by simp[Value.oneCell']) rt.out nR.out _ rfl ?_;intro g' cap tC dS de cd d9;have rp:=zH dS;have tq:As (Ao w5.heap.size w5 tC):=((dQ.out.trans ((zt w6 _).mono dQ.out.size)).grown de (by exact nR.out) (fun k hk=>(lK.out.lt k hk).1));clear dS de cd d9)
    go_roundw
    case rel=>exact⟨j+1,by omega,by go_num,by rw[DB.out,fG.out,LH];exact rp.out,tq.out⟩
    case measure=>simp[Aq];omega
 obtain⟨bx,ox,A1,c1,A2,c2,eA,aL,y0,y1,y2,CH,hL⟩:=(lc.out.fx.keep bX.out).row k ac;subst eA;have iV:=Ld ac;obtain⟨cp,dd⟩:=HF.out.views _ iV;obtain⟨m,hm,si⟩:=Yq HF.out.n1 HF.out.n5 (HF.out.word _ iV).2
 have cO:yJ s K N (k+1)=zR m (s.xs[k].views.getD K []) (yJ s K N k) N:=by
  rw[yJ,Lf,Lg ac];show zR (je N s.xs[k]).toNat (s.xs[k].views.getD K []) _ N=_;rw[hm,Lv]
 obtain⟨W3,bU,b3,fj,aW⟩:=zq wr #[O U s.xs[k].c,I A1 s.xs[k].word.length c1,I A2 s.xs[k].views.length c2] 42;have lJ:=zH (fun kc ks kv kx=>vT s K N HF.out s.xs[k] iV A SV AV (J ⟨bx,ox,Z⟩) A1 A2 kc ks kv kx c1 c2 W3 (((CH.more (by omega)).keep aW).more aW.size));rw[hm] at lJ;obtain⟨x,hx⟩:=Kh (s.xs[k]);rw[hx] at y0 y1 y2 hL cp dd cO bU b3 lJ;unfold Sy.vs_ at lJ;rw[HF.out.k] at lJ;have sR:K<x.views.length:=by omega
 obtain⟨bl,ol,A3,c3,eA,aB,v0,hI⟩:=hL.at_ K sR;subst eA;have aR:=dd _ (Ld sR);have cM:x.views.getD K []=x.views[K]:=by rw[Lf,Lg sR];rfl
 obtain⟨row,iZ⟩:=Kh (x.views[K]);rw[cM,iZ] at cO;rw[iZ] at v0 hI aR;obtain⟨eG,oE⟩:=aR;have ez:=zH bU;have bE:=zH aW;have ie:=zH b3;have d3:=Lb aW (by omega:w.heap.size<wr.heap.size) d0;have lL:=zH d3;have iI:=zH (Lb aW rT HY.out);have Iq:=zH cO;have IU:=zH oE;have eQ:=zH hI;have mV:=zH v0;have Eb:w.heap.size<wr.heap.size:=by omega
 have Cq:bx<wr.heap.size:=by omega
 have cK:(0:Int)<=(k:Int):=by omega
 have bY:(k:Int)<(s.xs.length:Int):=by omega
 have p9:wr.cell? ⟨w.heap.size,9,Z⟩=J (I (J ⟨bx,ox,Z⟩) s.xs.length kx):=za d0 9 rfl;obtain⟨p0,p1,p2,p3,p4,p5,_⟩:=Kg d0;have p6:wr.cell? ⟨w.heap.size,6,Z⟩=J (O U (K:Int)):=za d0 6 rfl;have p7:=za d0 7 rfl;have p8:=za d0 8 rfl;clear bU b3 aW hL hI v0 iZ cM hx iV cp dd hm cO oE CH d3 d0 HY;go_wp2_with fail;rw[ez.out];refine(lJ.out _ _ _ _).mono ?_;rintro e w4 ⟨rfl,be⟩;have fK:=be.size;have fB:=zH (bX.out.trans ((bE.out.trans (be.mono (by omega))).mono (by omega)));have d4:=Lb be (by omega:w.heap.size<W3.heap.size) lL.out;have b4:=La be ie.out;have Ir:=zH (Lb be (by omega:w.heap.size+1<W3.heap.size) iI.out);have tu:=zH d4;have Ku:=zH ((eQ.out.keep (bE.out.mono (by omega))).keep (be.mono (by omega)));clear p0 p1 p2 p3 p4 p5 p6 p7 p8 p9;have p6:w4.cell? ⟨w.heap.size,6,Z⟩=J (O U (K:Int)):=za d4 6 rfl;have z2:w4.cell? ⟨wr.heap.size,2,Z⟩=J (I (J ⟨bl,ol,Z⟩) x.views.length c2):=za b4 2 rfl;have v4:w4.cell? ⟨bl,ol+K,Z⟩=J (I A3 row.length c3):=(be.cell (p:=⟨bl,ol+K,Z⟩) (by show bl<_;omega)).trans ((bE.out.cell (p:=⟨bl,ol+K,Z⟩) (by show bl<_;omega)).trans mV.out);have UJ:(0:Int)<=(K:Int):=by omega
 have UI:(K:Int)<(x.views.length:Int):=by omega
 clear be d4 b4 lJ ez iI ie eQ mV y0 y1 y2;go_wp2_with fail;clear p6 z2 v4;have AG:=zH eG;have GX:w.heap.size+1<w4.heap.size:=by omega
 obtain⟨wp,rfl⟩:∃x,x=wr:=⟨_,rfl⟩
 go_loopw [37] (fun i wx=>∃q:Nat,q<=N/\i=O U (q:Int)/\As (wx.heap[w.heap.size+1]?=J (Ah (xA (zR m row (yJ s K N k) q)) 4 (0,0)))/\As (Wrote (fun b=>b=w.heap.size+1) w4 wx)) (fun i _=>N-(Aq i).toNat)
 case atStart=>exact⟨0,by omega,rfl,Ir.out,Wrote.refl _ _⟩
 obtain⟨q,hq,rfl,HQ,mR⟩:=hrel;have FS:=mR.out.size;have dA:As (Ao w.heap.size w4 wr):=mR.out.below (by omega) (fun b h1 h2=>by have h3:b=w.heap.size+1:=h2;omega)
 by_cases tK:q<N
 case neg=>
  obtain rfl:q=N:=by omega
  have FZ:¬((q:Int)<(row.length:Int)):=by omega
  have Ip:As (wr.heap[w.heap.size+1]?=J (Ah (xA (yJ s K q (k+1))) 4 (0,0))):=by show _=_;rw[Iq.out];exact HQ.out
  have IL:As (wr.heap[w.heap.size]?=w1.heap[w.heap.size]?):=(mR.out.block _ (by omega) (fun h=>by have h3:w.heap.size=w.heap.size+1:=h;omega)).trans (tu.out.trans bn.out.symm);clear HQ;go_wp2_with fail
  go_roundw
  case rel=>exact⟨k+1,by omega,by go_num,Ip,IL,fB.out.trans dA.out⟩
  simp[Aq];omega
 have FZ:(q:Int)<(row.length:Int):=by omega
 have i8:q<row.length:=by omega
 obtain⟨br,Fv,eA,fO,u0⟩:=Ku.out.at_ q i8;subst eA;have u1:=(dA.out.cell (p:=⟨br,Fv+q,Z⟩) fO).trans u0;have iT:=IU.out _ (Ld i8);obtain⟨y,hy⟩:=Kh (row[q]);rw[hy] at u1 iT;obtain⟨yN,rfl⟩:=Lr iT.1;have i9:(row.getD q 0).toNat=yN:=by rw[Lf,Lg i8,hy];rfl
 have cu:yN<(zR m row (yJ s K N k) q).length:=by rw[qO,qZ];omega
 obtain⟨yb,c0⟩:∃yb,wr.cell? ⟨w.heap.size+1,yN,Z⟩=J (Ai yb):=⟨_,za HQ.out yN (jS _ _ cu)⟩;have f0:=zb HQ.out yN;have iy:=wQ si (show q<5 by omega);have lQ:(0:Int)<=(q:Int):=by omega
 have tL:(q:Int)<5:=by omega
 have lR:(0:Int)<=(m:Int):=by omega
 have SO:(0:Int)<=(yN:Int):=by omega
 have FH:(yN:Int)<(s.vs.length:Int):=by omega
 clear u0 hy iT
 by_cases du:m.testBit q=Av
 . rw[du] at iy
   have sZ:As (zR m row (yJ s K N k) (q+1)=(zR m row (yJ s K N k) q).set yN Av):=by show _=_;rw[zR,Ln du,i9]
   have IX:As ((wr.setCell ⟨w.heap.size+1,yN,Z⟩ (Ai Av)).heap[w.heap.size+1]?=J (Ah (xA (zR m row (yJ s K N k) (q+1))) 4 (0,0))):=by show _=_;rw[Lk wr _ yN _ _ _ HQ.out,Zc,sZ.out]
   have Dg:As (Wrote (fun b=>b=w.heap.size+1) w4 (wr.setCell ⟨w.heap.size+1,yN,Z⟩ (Ai Av))):=mR.out.trans (kB wr (w.heap.size+1) yN _) (fun _ _ h=>h);clear du i9 cu;go_wp2_with fail
   go_roundw
   case rel=>exact⟨q+1,by omega,by go_num,IX,Dg⟩
   simp[Aq];omega
 have Cw:m.testBit q=Ax:=by simpa using du
 rw[Cw] at iy;have sZ:As (zR m row (yJ s K N k) (q+1)=zR m row (yJ s K N k) q):=by show _=_;rw[zR,Lj du]
 clear du Cw i9 cu;go_wp2_with fail
 go_roundw
 case rel=>exact⟨q+1,by omega,by go_num,by rw[sZ.out];exact HQ.out,mR.out⟩
 simp[Aq];omega
def qk(vs:List Vw)(r:Int):Nat->Int->Int
 | 0,l=>l
 | n+1,l=>if r<(vs.getD l.toNat default).r then qk vs r n ((vs.getD l.toNat default).h (vs.getD l.toNat default).p.toNat) else l
def clB(vs:List Vw)(i later:Int):Bool:=decide (qk vs (vs.getD i.toNat default).r 7 later=i)
theorem QZ(s:Sy)(K N:Nat)(hF:Fine s K N)(n:Int)(AV:Bb)(kv i l0:Nat)(hi:i<s.vs.length)(ir:l0<s.vs.length)(w:Ba)(hV:VAt w w.heap.size AV s.vs) :
  Ap An 74 #[Aj #[O U n,I AV s.vs.length kv],O U (i:Int),O U (l0:Int)] w fun e w'=>e=Am (Ai (clB s.vs i l0))/\Ao w.heap.size w w':=by
 obtain⟨w1,ag,d0,bq,hB⟩:=zq w #[O U n,I AV s.vs.length kv] 33;have Dk:=zH ((hV.keep hB).more hB.size);have HF:=zH hF;obtain⟨vi,Ee⟩:=Kh (s.vs[i]);have MT:s.vs.getD ((i:Int).toNat) default=vi:=by rw[Lv,Lf,Lg hi,Ee];rfl
 have HC:As (clB s.vs i l0=decide (qk s.vs vi.r 7 l0=(i:Int))):=by show _=_;unfold clB;rw[MT]
 obtain⟨R,hR⟩:=Kh (clB s.vs i l0);rw[hR] at HC ⊢;have al:=zH ag;have HB:=zH hB;have HD:=zH d0;have Eo:=hF.lv;obtain⟨⟨qi,mm,tK⟩,⟨ri,dd,Tr⟩,aq⟩:=hF.vs vi (by rw[<-Ee];exact Ld hi);have mA:=hF.k6;have nu:=hF.n5;have Vp:=zH Ee;have mU:=zH dd
 have mq:∃m:Nat,(s.vs.getD ((l0:Int).toNat) default).r<m/\qk s.vs vi.r 7 l0=qk s.vs vi.r m l0:=⟨7,by
  rw[Lv,Lf,Lg ir];obtain⟨_,⟨r,hr,ah⟩,_⟩:=hF.vs s.vs[l0] (Ld ir);show(s.vs[l0]).r<_
  omega,rfl⟩
 have dm:=zH mq;clear ag d0 hB hV hF Ee MT hR aq mq dd mm;go_enter func74,ntmps74;go_wp2_with fail;rw[al.out]
 go_loopw [2] (fun c wr=>∃l:Nat,l<s.vs.length/\c=O U (l:Int)/\As (∃m:Nat,(s.vs.getD ((l:Int).toNat) default).r<m/\qk s.vs vi.r 7 l0=qk s.vs vi.r m l)/\As (Ao w1.heap.size w1 wr)) (fun c _=>((s.vs.getD (Aq c).toNat default).r).toNat)
 case atStart=>exact⟨l0,ir,rfl,dm.out,Lp _ _⟩
 obtain⟨l,hl,rfl,HM,hb⟩:=hrel;obtain⟨v,hv⟩:=Kh (s.vs[l]);have cy:s.vs.getD ((l:Int).toNat) default=v:=by rw[Lv,Lf,Lg hl,hv];rfl
 obtain⟨⟨q,mm,Tw⟩,⟨r,dd,Tq⟩,aq⟩:=HF.out.vs v (by rw[<-hv];exact Ld hl);obtain⟨m,hm,bk⟩:=HM.out;rw[cy] at hm;have aZ:=hb.out.size;have d0:=Lb hb.out (by omega:w.heap.size<w1.heap.size) HD.out;have x1:wr.cell? ⟨w.heap.size,1,Z⟩=J (I AV s.vs.length kv):=za d0 1 rfl;have O2:=zH (Dk.out.keep hb.out);obtain⟨b,o,eA,Nx,c0,c1,c2,c3,c4,c5,c6,c7⟩:=O2.out.row l hl;obtain⟨b',o',OK,Up,e0,e1,e2,e3,e4,e5,e6,e7⟩:=O2.out.row i hi;rw[eA] at OK
 cases OK
 subst eA;rw[hv] at c0 c1 c2 c3 c4 c5 c6 c7;rw[Vp.out] at e1;rw[mm] at c0;rw[dd] at c1;rw[mU.out] at e1;have sq:(0:Int)<=(i:Int):=by omega
 have Gy:(i:Int)<(s.vs.length:Int):=by omega
 have TM:(0:Int)<=(l:Int):=by omega
 have dK:(l:Int)<(s.vs.length:Int):=by omega
 clear d0 e0 e2 e3 e4 e5 e6 e7
 by_cases Cg:ri<r
 case neg=>
  have st:¬((ri:Int)<(r:Int)):=by omega
  have CO:As (R=decide ((l:Int)=(i:Int))):=HC.out.trans (by
   rw[bk]
   cases m with
   | zero=>rfl
   | succ m=>rw[qk,cy,Lj (by rw[dd,mU.out];exact st)])
  clear cy hm bk aq hv mm dd HM;go_wp2_with fail;go_quiet (fail);go_wp2_with fail;go_ret;exact⟨ze (by rw[CO.out];first | rfl | (rw[Nq];simp)),HB.out.trans ((zu hb.out nq).mono (by omega))⟩
 have st:(ri:Int)<(r:Int):=by omega
 obtain⟨u,⟨rP,nt⟩,Ta,S9⟩:=aq (by rw[dd];omega);obtain⟨l',mz⟩:=Lr rP;have GA:v.h v.p.toNat=v.h q:=by rw[mm];rfl
 rw[GA] at mz nt;rw[mz,Lv] at nt;obtain⟨aN,Tb⟩:=Lo.1 nt;have oO:s.vs.getD ((l':Int).toNat) default=u:=by rw[Lv,Lf,nt];rfl
 have HN:As (∃m:Nat,(s.vs.getD ((l':Int).toNat) default).r<m/\qk s.vs vi.r 7 l0=qk s.vs vi.r m l'):=by
  obtain⟨m',rfl⟩:∃m',m=m'+1:=⟨m-1,by omega⟩;refine⟨m',by rw[oO];omega,?_⟩;rw[bk,qk,cy,Ln (by rw[dd,mU.out];exact st),GA,mz]
 have VK:As (((s.vs.getD ((l':Int).toNat) default).r).toNat<((s.vs.getD ((l:Int).toNat) default).r).toNat):=by show _<_;rw[cy,oO];omega
 have lQ:(0:Int)<=(q:Int):=by omega
 have tL:(q:Int)<5:=by omega
 have VZ:=zH mz;have VC:=zH (Vw.cells_h v q (by omega));have Iz:=zH mm;have Iy:=zH dd;have b9:b<wr.heap.size:=by omega
 have Eb:w.heap.size<wr.heap.size:=by omega
 clear cy hm bk aq hv mm dd HM oO Tb nt Ta S9 rP GA mz;go_wp2_with fail;go_quiet (fail);obtain⟨X,hX⟩:=Kh (wr.drewN nq);rw[hX];have dA:As (Ao w1.heap.size w1 X):=by rw[<-hX];exact zu hb.out nq
 have x1':X.cell? ⟨w.heap.size,1,Z⟩=J (I (J ⟨b,o,Z⟩) s.vs.length kv):=by rw[<-hX];exact x1
 have c0':X.cell? ⟨b,o+l*8,Z⟩=J (O U (q:Int)):=by rw[<-hX];exact c0
 have Vc:X.cell? ⟨b,o+l*8+1,Z⟩=J (O U (r:Int)):=by rw[<-hX];exact c1
 have Ic:X.cell? ⟨b,o+l*8+2,Z⟩=J (O U v.i):=by rw[<-hX];exact c2
 have C2:X.cell? ⟨b,o+l*8+3,Z⟩=J (O U v.h0):=by rw[<-hX];exact c3
 have c4':X.cell? ⟨b,o+l*8+4,Z⟩=J (O U v.h1):=by rw[<-hX];exact c4
 have c5':X.cell? ⟨b,o+l*8+5,Z⟩=J (O U v.h2):=by rw[<-hX];exact c5
 have c6':X.cell? ⟨b,o+l*8+6,Z⟩=J (O U v.h3):=by rw[<-hX];exact c6
 have c7':X.cell? ⟨b,o+l*8+7,Z⟩=J (O U v.h4):=by rw[<-hX];exact c7
 have nD:b<X.heap.size:=by rw[<-hX];exact b9
 have hwX:w.heap.size<X.heap.size:=by rw[<-hX];exact Eb
 clear hX;obtain⟨W5,lX,b5,mt,dO⟩:=zq X #[O U (q:Int),O U (r:Int),O U v.i,O U v.h0,O U v.h1,O U v.h2,O U v.h3,O U v.h4] 100;have s':=zH lX;have eC:As (Ao w1.heap.size w1 W5):=Lc dA.out dO
 have z2:(#[O U (q:Int),O U (r:Int),O U v.i,O U v.h0,O U v.h1,O U v.h2,O U v.h3,O U v.h4]:Array Au)[3+q]?=J (O U (l':Int)):=by
  rw[<-VZ.out]
  have e:(v.cells:Array Au)=#[O U (q:Int),O U (r:Int),O U v.i,O U v.h0,O U v.h1,O U v.h2,O U v.h3,O U v.h4]:=by
   unfold Vw.cells;rw[Iz.out,Iy.out]
  rw[<-e];exact VC.out
 have z1:(X.alloc (Ah #[O U (q:Int),O U (r:Int),O U v.i,O U v.h0,O U v.h1,O U v.h2,O U v.h3,O U v.h4] 100)).cell? ⟨X.heap.size,3+q,Z⟩=J (O U (l':Int)):=by rw[lX];exact za b5 (3+q) z2
 clear lX b5 dO;go_wp2_with fail;rw[s'.out]
 go_roundw
 case rel=>exact⟨l',aN,rfl,HN.out,eC.out⟩
 exact VK.out
theorem relT_any(i:Nat)(w:Ba):Ap An 72 #[O U (i:Int)] w fun e w'=>e=Am (Ai Av)/\Ao w.heap.size w w':=by
 go_enter func72,ntmps72;go_wp2_with fail;go_ret;exact⟨rfl,Lp _ _⟩
theorem conF_any(s:Sy)(K N:Nat)(hF:Fine s K N)(A SV AV AX:Bb)(kc ks kv kx:Nat)(i j:Nat)(hi:i<s.vs.length)(hj:j<s.vs.length)(g1 g2:Nat)(w:Ba)(hV:VAt w w.heap.size AV s.vs)
  (h1:w.heap[g1]?=J (Ah (s.vs_ A kc SV ks AV kv AX kx) 36 (0,0))) (h2:w.heap[g2]?=J (Ah #[O U (i:Int)] 3 (0,0))) :
  Ap An 73 #[O U (j:Int),Ak (J ⟨g1,0,Z⟩),Ak (J ⟨g2,0,Z⟩)] w fun e w'=>e=Am (Ai (clB s.vs i j))/\Ao w.heap.size w w':=by
 have HC:=zH (QZ s K N hF s.n AV kv i j hi hj w hV);have x7:w.cell? ⟨g1,7,Z⟩=J (O U s.n):=za h1 7 rfl;have x8:w.cell? ⟨g1,8,Z⟩=J (I AV s.vs.length kv):=za h1 8 rfl;have x0:w.cell? ⟨g2,0,Z⟩=J (O U (i:Int)):=za h2 0 rfl;clear h1 h2 hF hV;go_enter func73,ntmps73;go_wp2_with fail;refine HC.out.mono ?_;rintro e w2 ⟨rfl,ae⟩;have HB:=zH ae;clear ae HC;go_wp2_with fail;go_ret;exact⟨rfl,HB.out⟩
def Qy(s:Sy):List Int:=if yQ s≠0 then [] else ul s s.p.k.toNat s.n.toNat (fun _=>Av)
def clE(s:Sy)(i:Int):List Int:=if yW s i≠0 then [] else ul s s.p.k.toNat s.n.toNat (fun j=>clB s.vs i j)
theorem Zn(s:Sy)(hs:LowS s)(hf:qn s.p)(A SV AV AX:Bb)(kc ks kv kx:Nat)(w:Ba)(hS:SyAt w w.heap.size A SV AV AX s) :
  Ap An 34 #[.agg (s.vs_ A kc SV ks AV kv AX kx)] w (RetLE (Qy s) (yQ s) w):=by
 obtain⟨w1,ag,d0,bq,hB⟩:=zq w (s.vs_ A kc SV ks AV kv AX kx) 36;have HV:=zH (ur s hs hf A SV AV AX kc ks kv kx w1 (hS.up hB));have fA:=zH (hS.up hB);have HH:As (Qy s=if yQ s≠0 then [] else ul s s.p.k.toNat s.n.toNat (fun _=>Av)):=rfl;have ig:=zH (fun h=>uC hf h);obtain⟨R,hR⟩:=Kh (Qy s);obtain⟨r,hr⟩:=Kh (yQ s);rw[hr] at HV HH ig ⊢;rw[hR] at HH ⊢;have iL:=zH (fun (K N:Nat) (hF:Fine s K N) (W:Ba) (hW:SyAt W W.heap.size A SV AV AX s)=>relA_any s K N hF (fun _=>Av) A SV AV AX kc ks kv kx W hW (fun i X _ _=>relT_any i X));unfold Sy.vs_ at ag d0 HV iL ⊢;have al:=zH ag;have HB:=zH hB;have HD:=zH d0;obtain⟨p0,p1,p2,p3,p4,p5,p6,p7,p8,p9⟩:=ya d0;clear ag d0 hB hS hr hR hs hf;go_enter func34,ntmps34;go_wp2_with fail;rw[al.out];go_wp2_with fail;refine HV.out.mono ?_;rintro e w2 ⟨rfl,ae⟩;have aU:=zH (HB.out.trans (ae.mono (by omega)));have dc:=zH (fA.out.up ae);have d0:=Lb ae (by omega:w.heap.size<w1.heap.size) HD.out;clear p0 p1 p2 p3 p4 p5 p6 p7 p8 p9 ae HV al fA HD
 by_cases h0:r=0
 case neg=>
  have hR:As (R=[]):=HH.out.trans (Ln h0);have e0:(r != 0)=Av:=by simpa using h0
  clear HH ig h0 d0 iL;go_wp2_with fail
  go_ret2
  rw[hR.out];exact⟨Z,0,rfl,fun h=>absurd h (by simp),aU.out⟩
 case pos=>
 subst h0;obtain⟨BE,K,N,hF⟩:=ig.out rfl;clear BE;have mL:R=ul s s.p.k.toNat s.n.toNat (fun _=>Av):=HH.out.trans (Lj (by simp));rw[hF.k,hF.n,Lv,Lv] at mL;have ce:=zH mL;have HC:=zH (iL.out K N hF w2 dc.out);obtain⟨p0,p1,p2,p3,p4,p5,p6,p7,p8,p9⟩:=ya d0;clear HH ig mL hF iL d0 dc;go_wp2_with fail;refine HC.out.mono ?_;rintro e w3 ⟨AO,ko,rfl,hI,_,ap⟩;have HI:=zH hI;have bE:=zH (Lc aU.out ap);clear hI ap HC p0 p1 p2 p3 p4 p5 p6 p7 p8 p9;go_wp2_with fail
 go_ret2
 rw[ce.out];exact⟨AO,ko,rfl,HI.out,bE.out⟩
def RetLEF(xs:List Int)(n:Int)(w:Ba)(e:Ending)(w':Ba):Prop:=∃A c,e=Am (.tuple #[I A xs.length c,O U n])/\IAt w' w'.heap.size A xs/\FrI w.heap.size A xs.length/\Ao w.heap.size w w'
theorem um(s:Sy)(hs:LowS s)(hf:qn s.p)(i:Int)(A SV AV AX:Bb)(kc ks kv kx:Nat)(w:Ba)(hS:SyAt w w.heap.size A SV AV AX s) :
  Ap An 35 #[.agg (s.vs_ A kc SV ks AV kv AX kx),O U i] w (RetLEF (clE s i) (yW s i) w):=by
 obtain⟨w1,ag,d0,d1,bq,hB⟩:=zZ w (s.vs_ A kc SV ks AV kv AX kx) #[O U i] 36 3;have HV:=zH (ZO s hs hf i A SV AV AX kc ks kv kx w1 (hS.up hB));have fA:=zH (hS.up hB);have HH:As (clE s i=if yW s i≠0 then [] else ul s s.p.k.toNat s.n.toNat (fun j=>clB s.vs i j)):=rfl;have HE:As (yW s i=if yQ s≠0 then yQ s else if i<0\/(s.vs.length:Int)<=i then 6 else 0):=rfl;have ig:=zH (fun h=>uC hf h);obtain⟨R,hR⟩:=Kh (clE s i);obtain⟨r,hr⟩:=Kh (yW s i);rw[hr] at HV HE HH ⊢;rw[hR] at HH ⊢
 have iL:=zH (fun (K N iN:Nat) (hF:Fine s K N) (hi:iN<s.vs.length) (W:Ba) (hW:SyAt W W.heap.size A SV AV AX s) (g1 g2:Nat) (ex:W.heap[g1]?=J (Ah (s.vs_ A kc SV ks AV kv AX kx) 36 (0,0))) (fN:W.heap[g2]?=J (Ah #[O U (iN:Int)] 3 (0,0)))=>
  relC_any s K N hF (fun j=>clB s.vs iN j) g1 g2 A SV AV AX kc ks kv kx W hW (fun j X hj hX=>conF_any s K N hF A SV AV AX kc ks kv kx iN j hi hj g1 g2 X ((hW.fv.keep hX).more hX.size) (La hX ex) (La hX fN)))
 unfold Sy.vs_ at ag d0 HV iL ⊢;have al:=zH ag;have HB:=zH hB;have HD:=zH d0;have bN:=zH d1;obtain⟨p0,p1,p2,p3,p4,p5,p6,p7,p8,p9⟩:=ya d0;have q0:=za d1 0 rfl;clear ag d0 d1 hB hS hr hR hs hf;go_enter func35,ntmps35;go_wp2_with fail;rw[al.out];go_wp2_with fail;refine HV.out.mono ?_;rintro e w2 ⟨rfl,ae⟩;have aU:=zH (HB.out.trans (ae.mono (by omega)));have dc:=zH (fA.out.up ae);have d0:=Lb ae (by omega:w.heap.size<w1.heap.size) HD.out;have d1:=Lb ae (by omega:w.heap.size+1<w1.heap.size) bN.out;clear p0 p1 p2 p3 p4 p5 p6 p7 p8 p9 q0 ae HV al fA HD bN
 by_cases h0:r=0
 case neg=>
  have hR:As (R=[]):=HH.out.trans (Ln h0);have e0:(r != 0)=Av:=by simpa using h0
  clear HH ig h0 d0 d1 iL HE;go_wp2_with fail
  go_ret2
  rw[hR.out];exact⟨Z,0,rfl,fun h=>absurd h (by simp),fun h=>absurd h (by simp),aU.out⟩
 case pos=>
 subst h0
 have mn:yQ s=0:=by
  by_cases h:yQ s=0
  . exact h
  have:=HE.out;rw[Ln h] at this;exact absurd this.symm h
 have hi:¬(i<0\/(s.vs.length:Int)<=i):=fun h=>by
  have:=HE.out;rw[Lj (by simpa using mn),Ln h] at this;cases this
 obtain⟨BE,K,N,hF⟩:=ig.out mn;clear BE;obtain⟨iN,rfl⟩:=Lr (show 0<=i by omega);have mL:R=ul s s.p.k.toNat s.n.toNat (fun j=>clB s.vs iN j):=HH.out.trans (Lj (by simp));rw[hF.k,hF.n,Lv,Lv] at mL;have ce:=zH mL;have HC:=zH (iL.out K N iN hF (by omega) w2 dc.out (w.heap.size) (w.heap.size+1) d0 d1);obtain⟨p0,p1,p2,p3,p4,p5,p6,p7,p8,p9⟩:=ya d0;clear HH ig mL hF iL d0 d1 dc mn hi HE;go_wp2_with fail;refine HC.out.mono ?_;rintro e w3 ⟨AO,ko,rfl,hI,MZ,ap⟩;have HI:=zH hI;have bE:=zH (Lc aU.out ap);have pq:=zH (MZ.mono aU.out.size);clear hI MZ ap HC p0 p1 p2 p3 p4 p5 p6 p7 p8 p9;go_wp2_with fail
 go_ret2
 rw[ce.out];exact⟨AO,ko,rfl,HI.out,pq.out,bE.out⟩
theorem wG(s:Sy)(hs:LowS s)(hf:qn s.p)(i:Int)(A SV AV AX:Bb)(kc ks kv kx:Nat)(w:Ba)(hS:SyAt w w.heap.size A SV AV AX s) :
  Ap An 35 #[.agg (s.vs_ A kc SV ks AV kv AX kx),O U i] w (RetLE (clE s i) (yW s i) w):=
 (um s hs hf i A SV AV AX kc ks kv kx w hS).mono fun _ _ ⟨A,c,e,hI,_,hb⟩=>⟨A,c,e,hI,hb⟩
end
section
open Go.RowKit
theorem jD:(An.info? 91).map (·.size)=J 2:=by kernel_rfl
theorem JC:(An.info? 5).map (fun i=>(i.zero,i.size,i.bytes))=J (J (.int .u8 0),1,1):=by kernel_rfl
theorem ZA:liesAt An An.depth 91 (2 / An.cellsOf 91) 0 91 1=Av:=by kernel_rfl
def BldAt(B b:Nat)(l:List UInt8)(w:Ba):Prop:=Lib.IsBuilderF 91 5 B b (Lib.byteCells l) w
def Kept(b:Nat)(w w':Ba):Prop:=Lib.OthersKept 5 (J b) w w'
theorem Qe(b:Nat)(w:Ba)(h0:w.cell? ⟨b,0,Z⟩=J (Ak (J ⟨b,0,Z⟩))) :
  Ap An 108 #[Ak (J ⟨b,0,Z⟩)] w fun e w'=>e=Am (.tuple #[])/\w'=w:=by
 obtain⟨j,hj,_⟩:=Option.map_eq_some_iff.1 jD;go_enter func108,ntmps108;go_wp2;rw[Lib.run_neq_ptr_same w _ Rs hj];go_wp2
 go_end0
 exact⟨rfl,rfl⟩
theorem YM(b:Nat)(w:Ba)(h0:w.cell? ⟨b,0,Z⟩=J (Ak Z))(Mp:w.shape? b=J (91,2))(Ue:w.frozen? ⟨b,0,Z⟩=Ax) :
  Ap An 108 #[Ak (J ⟨b,0,Z⟩)] w fun e w'=>e=Am (.tuple #[])/\w'=w.setCell ⟨b,0,Z⟩ (Ak (J ⟨b,0,Z⟩)):=by
 obtain⟨j,hj,Gn⟩:=Option.map_eq_some_iff.1 jD;go_enter func108,ntmps108;go_wp2;rw[Lib.run_to_unsafe w ⟨b,0,Z⟩ Rs underlying215 hj (by rw[Gn];decide) Mp (Nat.zero_lt_succ 1)];simp only[Result.andThen];rw[RL];go_wp2;rw[run_callFunc_extern func135 (by kernel_rfl) (by kernel_rfl) (by kernel_rfl) (e:=Extern.AbiNoEscape.same) (by kernel_rfl)];rw[Lib.run_noEscape];simp only[Result.andThen];rw[RL];go_wp2;rw[Lib.run_from_unsafe w ⟨b,0,Z⟩ underlying215 Rs hj Mp ZA];simp only[Result.andThen];rw[RL];go_wp2
 go_end0
 exact⟨rfl,rfl⟩
theorem bcopy_any(B b:Nat)(bs:List Au)(w:Ba)(h:Lib.IsBuilderF 91 5 B b bs w) :
  Ap An 108 #[Ak (J ⟨b,0,Z⟩)] w fun e w'=>e=Am (.tuple #[])/\(Lib.BuilderAtF 91 5 B b (Ak (J ⟨b,0,Z⟩)) bs w'/\Ao B w w'/\Lib.OthersKept 5 (J b) w w'):=by
 rcases h with h | h
 . refine(YM b w h.cell0 h.shape h.frozen0).mono ?_
   rintro e w' ⟨rfl,rfl⟩;exact⟨rfl,h.used _,(Lp B w).setCell (p:=⟨b,0,Z⟩) h.1 _,(Lib.OthersKept.refl _ _ w).setCell ⟨b,0,Z⟩ rfl _⟩
 refine(Qe b w h.cell0).mono ?_;rintro e w' ⟨rfl,rfl⟩;exact⟨rfl,h,Lp B _,Lib.OthersKept.refl _ _ _⟩
theorem X8(B b:Nat)(l:List UInt8)(s:ByteArray)(w:Ba)(h:BldAt B b l w)(aC:l.length+s.size<=140737488355328)(hBw:B<=w.heap.size) :
  Ap An 75 #[Ak (J ⟨b,0,Z⟩),.string s] w fun e w'=>e=Am (.tuple #[O U s.size,.nilIface])/\BldAt B b (l++s.data.toList) w'/\Ao B w w'/\Kept b w w':=by
 obtain⟨i0,hi,cq,bK,cf⟩:=PE JC;have aN:(Lib.byteCells l).length=l.length:=by simp[Lib.byteCells]
 have ff:=zH aN;clear aN;unfold BldAt at h;have HB:=zH h;clear h;go_enter func75,ntmps75;go_wp2_with (go_at_call 108;refine(bcopy_any B b _ _ HB.out).mono ?_);rintro e w1 ⟨rfl,h1,aJ,bY⟩;obtain⟨hB,v,aP,aq,bG⟩:=h1;have c0:w1.cell? ⟨b,0,Z⟩=J (Ak (J ⟨b,0,Z⟩)):=by rw[PY aP];rfl
 have c1:w1.cell? ⟨b,1,Z⟩=J v:=by rw[PY aP];rfl
 go_wp2_with (at_builtin;refine Lib.wpList_append_own_stringF _ rfl _ _ 89 9 rfl B 5 i0 underlying89 underlying9 hi cq bK cf _ _ _ rfl aq s rfl ?c3 ?c4 ?c5 ?_)
 case c3=>rw[ff.out];unfold maxLen;omega
 case c4=>rw[ff.out];omega
 case c5=>have:=aJ.size;omega
 intro v' w2 cF aK _
 have ac:b<w1.heap.size:=by
  rcases Nat.lt_or_ge b w1.heap.size with h' | h'
  . exact h'
  simp[Array.getElem?_eq_none h'] at aP
 have ae:w2.heap[b]?=J (Ah #[Ak (J ⟨b,0,Z⟩),v] 91 (0,0)):=by
  rw[aK.block b ac (fun e=>bG e.symm)];exact aP
 have d0:w2.cell? ⟨b,0,Z⟩=J (Ak (J ⟨b,0,Z⟩)):=by rw[PY ae];rfl
 have d1:w2.cell? ⟨b,1,Z⟩=J v:=by rw[PY ae];rfl
 have f1:w2.frozen? ⟨b,1,Z⟩=Ax:=Lib.frozen_of_heap ae 1
 obtain⟨ao,n',cap,rfl⟩:∃ao n' cap,v'=I ao n' cap:=by
  rcases cF.2 with ⟨hv,_⟩ | ⟨g,cap,cur,fz,hv,_⟩
  . exact⟨_,_,_,hv⟩
  exact⟨_,_,_,hv⟩
 go_wp2
 go_ret2
 refine⟨rfl,?_,?_,(bY.grown aK (Lib.ownsRowF_kind aq)).setCell ⟨b,1,Z⟩ rfl _⟩
 . have e:Lib.byteCells (l++s.data.toList)=Lib.byteCells l++Lib.strCells s:=by simp[Lib.byteCells,Lib.strCells]
   unfold BldAt;rw[e];exact Or.inr (Lib.BuilderAtF.put (T:=91) (e:=5) hB ae (bs':=Lib.byteCells l++Lib.strCells s) (by simpa[Lib.strCells_length] using cF) (by decide))
 exact(aJ.grown aK (by have:=aJ.size;omega) (fun k hk=>(aq.lt k hk).1)).setCell (p:=⟨b,1,Z⟩) hB _
theorem qK(B b:Nat)(l:List UInt8)(s:ByteArray)(w:Ba)(h:BldAt B b l w)(aC:l.length+s.size<=140737488355328)(hBw:B<=w.heap.size) :
  Ap An 75 #[Ak (J ⟨b,0,Z⟩),.string s] w fun e w'=>∃k:Int,e=Am (.tuple #[O U k,.nilIface])/\BldAt B b (l++s.data.toList) w'/\Ao B w w'/\Kept b w w':=
 (X8 B b l s w h aC hBw).mono fun _ _ h=>⟨_,h⟩
theorem BldAt.fresh(w:Ba):BldAt w.heap.size w.heap.size [] (w.alloc (Ah #[Ak Z,I Z 0 0] 91)):=
 Or.inl ⟨Lh _,I Z 0 0,zg _ _,⟨rfl,Or.inl ⟨rfl,rfl⟩⟩,by simp[Value.ownBlock]⟩
theorem BldAt.same{B b:Nat}{l:List UInt8}{w w':Ba}(h:BldAt B b l w)(hs:∀(k:Nat) (o:Obj),w.heap[k]?=J o->o.isCells=Av->w'.heap[k]?=J o):BldAt B b l w':=by
 have key:∀p,Lib.BuilderAtF 91 5 B b p (Lib.byteCells l) w->Lib.BuilderAtF 91 5 B b p (Lib.byteCells l) w':=by
  rintro p ⟨hB,v,hb,⟨hl,ho⟩,bG⟩;refine⟨hB,v,hs _ _ hb rfl,⟨hl,?_⟩,bG⟩;rcases ho with ho | ⟨g,cap,cur,fz,hv,h1,h2,h3⟩
  . exact Or.inl ho
  exact Or.inr ⟨g,cap,cur,fz,hv,h1,hs _ _ h2 rfl,h3⟩
 exact h.elim (fun h=>Or.inl (key _ h)) (fun h=>Or.inr (key _ h))
theorem BldAt.lt{B b:Nat}{l:List UInt8}{w:Ba}(h:BldAt B b l w):B<=b/\b<w.heap.size:=by
 rcases h with h | h<;>exact⟨h.1,h.lt⟩
theorem BldAt.alloc{B b:Nat}{l:List UInt8}{w:Ba}(h:BldAt B b l w)(o:Obj):BldAt B b l (w.alloc o):=h.same fun _ _ hk _=>zw hk o
theorem BldAt.drew{B b:Nat}{l:List UInt8}{w:Ba}(h:BldAt B b l w):BldAt B b l w.drew:=h
theorem BldAt.set{B b g:Nat}{l:List UInt8}{w:Ba}{cs:Array Au}{t:TypeId}(h:BldAt B b l w)(hg:w.heap[g]?=J (Ah cs t (0,0)))(ht:t≠5)(hb:g≠b)(k:Nat)(u:Au):BldAt B b l (w.setCell ⟨g,k,Z⟩ u):=by
 have key:∀p,Lib.BuilderAtF 91 5 B b p (Lib.byteCells l) w->Lib.BuilderAtF 91 5 B b p (Lib.byteCells l) (w.setCell ⟨g,k,Z⟩ u):=by
  rintro p ⟨hB,v,aP,⟨hl,ho⟩,bG⟩;refine⟨hB,v,(Le _ _ _ _ (fun e=>hb e.symm)).trans aP,⟨hl,?_⟩,bG⟩;rcases ho with ho | ⟨g',cap,cur,fz,hv,h1,h2,h3⟩
  . exact Or.inl ho
  refine Or.inr ⟨g',cap,cur,fz,hv,h1,(Le _ _ _ _ (fun e=>?_)).trans h2,h3⟩;have e':g'=g:=e;subst e';rw[hg] at h2
  cases h2
  exact ht rfl
 exact h.elim (fun h=>Or.inl (key _ h)) (fun h=>Or.inr (key _ h))
structure WrIn(B b gs:Nat)(l:List UInt8)(sg:UInt8)(w2 W:Ba):Prop where
 bld:BldAt B b l W
 sign:W.heap[gs]?=J (Ah #[.string ⟨#[sg]⟩] 9 (0,0))
 below:Ao B w2 W
 rest:∀(k:Nat) (o:Obj),w2.heap[k]?=J o->k≠b->k≠gs->(∀c fz,o≠.cells c 5 fz)->W.heap[k]?=J o
theorem WrIn.turn{B b gs:Nat}{l:List UInt8}{sg:UInt8}{w2 W W':Ba}{row:Option Nat}(h:WrIn B b gs l sg w2 W)(hB:B<=w2.heap.size)(hg:W.grownBy W' row)(hr:∀r,row=J r->w2.heap.size<=r/\∃o:Obj,W.heap[r]?=J o/\o.isCells=Ax):WrIn B b gs l sg w2 W' where
 bld:=h.bld.same fun k o hk ho=>(LP hg (fun r e=>(hr r e).2) hk ho).trans hk
 sign:=(LP hg (fun r e=>(hr r e).2) h.sign rfl).trans h.sign
 below:=h.below.grown hg (by have:=h.below.size;omega) fun r e=>by have:=(hr r e).1;omega
 rest:=fun k o hk h1 h2 h3=>by
  have h4:=h.rest k o hk h1 h2 h3;refine(hg.block k (zd h4) fun e=>?_).trans h4;have:=(hr k e.symm).1;have:=zd hk;omega
end
section
def ascN(n:Nat)(p:Nat->Bool):List Nat:=(List.range n).filter p
def zB(l:List Nat):List Int:=l.map fun k:Nat=>(k:Int)
def asc(n:Nat)(p:Nat->Bool):List Int:=zB (ascN n p)
theorem kI{l:List Nat}{k:Nat}:((k:Int)∈zB l)↔k∈l:=by
 unfold zB;rw[LG];constructor
 . rintro⟨a,ha,e⟩
   have:a=k:=by omega
   subst this;exact ha
 intro h;exact⟨k,h,rfl⟩
theorem Qh(n:Nat)(p:Nat->Bool):(asc n p).length<=n:=by
 unfold asc zB ascN;rw[LE];exact Lz (Pr _ _) (by simp)
theorem zF(l:List Nat):(zB l).length=l.length:=by simp[zB]
theorem past_len(vs:List Vw)(l:List Nat):(zB (qX vs l)).length<=vs.length:=Qh _ _
end
section
open Go.RowKit
theorem ZQ(w:Ba)(c1 c2:Array Au)(t1 t2:TypeId):∃W0,(w.alloc (Ah c1 t1)).alloc (Ah c2 t2)=W0/\W0.heap[w.heap.size]?=J (Ah c1 t1 (0,0))/\W0.heap[w.heap.size+1]?=J (Ah c2 t2 (0,0))/\W0.heap.size=w.heap.size+2/\Ao w.heap.size w W0:=
 ⟨_,rfl,zw (zg _ _) _,by have:=zg (w.alloc (Ah c1 t1)) (Ah c2 t2);rwa[LW] at this,by simp,xT w _ _⟩
theorem Wf.row_ok{n:Int}{vs:List Vw}(h:Wf n vs){i:Nat}(hi:i<vs.length):zU n (vs.take i) (zv vs i)=0:=(Zm (h.2.2 i hi)).1
theorem Wf.kid{n:Int}{vs:List Vw}(h:Wf n vs){i c:Nat}(hi:i<vs.length)(hc:c∈zY (zv vs i)):c<i/\(zv vs c).r=(zv vs i).r-1:=by
 have h1:=h.acyc i hi c hc;have h2:=kid_ok (h.row_ok hi) hc;rw[gQ h1] at h2;exact⟨h1,h2.2⟩
theorem Wf.begv{n:Int}{vs:List Vw}(h:Wf n vs){i:Nat}(hi:i<vs.length):xd n (zv vs i)=0:=(kM (h.row_ok hi)).1
end
section
def dgt(x:Int):UInt8:=UInt8.ofNat (48+x.toNat)
def sep:UInt8->List (List UInt8)->List UInt8
 | _,[]=>[]
 | s,x::xs=>s::(x++sep 44 xs)
theorem ZV:∀(s:UInt8) (l:List (List UInt8)) (x:List UInt8),sep s (l++[x])=sep s l++((if l=[] then s else 44)::x)
 | s,[],x=>by simp[sep]
 | s,y::l,x=>by
  have:=ZV 44 l x;simp only[List.cons_append,sep,this,List.append_assoc]
  by_cases h:l=[]<;>simp[h]
theorem jj:∀(s:UInt8) (l:List (List UInt8)) (m:Nat),(∀x,x∈l->x.length<=m)->(sep s l).length<=l.length*(m+1)
 | _,[],_,_=>by simp[sep]
 | s,x::l,m,h=>by
  have h1:=h x (by simp);have h2:=jj 44 l m fun y hy=>h y (by simp[hy])
  simp only[sep,List.length_cons,List.length_append];rw[Py];omega
def jY(vs:List Vw):Nat->Nat->List UInt8
 | 0,_=>[]
 | f+1,i=>if (zv vs i).r=0 then [dgt (zv vs i).p,58,dgt (zv vs i).i] else dgt (zv vs i).p::(sep 40 ((zY (zv vs i)).map (jY vs f))++[41])
def zi(vs:List Vw)(i:Nat):List UInt8:=jY vs (i+1) i
theorem ZM{vs:List Vw}(ha:wW vs):∀(i f:Nat),i<vs.length->i<f->jY vs f i=zi vs i:=by
 intro i
 induction i using Nat.strongRecOn with
 | _ i ih=>
  intro f hi hf;obtain⟨g,rfl⟩:∃g,f=g+1:=⟨f-1,by omega⟩;unfold zi;simp only[jY]
  split
  . rfl
  . congr 3
    apply Pf;intro c hc;have:=ha i hi c hc;rw[ih c this g (by omega) (by omega),ih c this i (by omega) this]
theorem uB{vs:List Vw}{i:Nat}(hr:(zv vs i).r=0):zi vs i=[dgt (zv vs i).p,58,dgt (zv vs i).i]:=by
 unfold zi jY;rw[Ln hr]
theorem vD{vs:List Vw}(ha:wW vs){i:Nat}(hi:i<vs.length)(hr:(zv vs i).r≠0):zi vs i=dgt (zv vs i).p::(sep 40 ((zY (zv vs i)).map (zi vs))++[41]):=by
 unfold zi;rw[jY,Lj hr]
 congr 3
 apply Pf;intro c hc;have:=ha i hi c hc;exact ZM ha c i (by omega) this
theorem gK(v:Vw):(zY v).length<=5:=by
 unfold zY yy yv;rw[LE]
 split
 . exact Lz (List.length_filterMap_le _ _) (by simp)
 simp
def qo:Nat->Nat
 | 0=>3
 | r+1=>2+5*(qo r+1)
theorem gq{a b:Nat}(h:a<=b):qo a<=qo b:=by
 induction b with
 | zero => obtain rfl : a = 0 := by omega
           exact Lh _
 | succ b ih=>
  by_cases e:a=b+1
  . subst e;exact Lh _
  . have:=ih (by omega)
    simp only[qo];omega
theorem Wf.own_kid{n:Int}{vs:List Vw}(h:Wf n vs){i:Nat}(hi:i<vs.length)(hr:(zv vs i).r≠0):((zv vs i).h (zv vs i).p.toNat).toNat∈zY (zv vs i):=by
 have hb:=jT (h.begv hi);obtain⟨h1,h2⟩:=kM (h.row_ok hi);obtain⟨hl,hg,_⟩:=h2 hr;have Mx:(zv vs i).p.toNat<5:=by have:=h.2.1;omega
 have:=wj (hl _ Mx) hg;exact wg.2 ⟨by omega,_,Mx,this.1,rfl⟩
theorem jX{n:Int}{vs:List Vw}(h:Wf n vs):∀i,i<vs.length->(zi vs i).length<=qo (zv vs i).r.toNat:=by
 intro i
 induction i using Nat.strongRecOn with
 | _ i ih=>
  intro hi
  by_cases hr:(zv vs i).r=0
  . rw[uB hr,hr];simp[qo]
  . have hb:=jT (h.begv hi)
    obtain⟨r,Ei⟩:∃r,(zv vs i).r.toNat=r+1:=⟨(zv vs i).r.toNat-1,by omega⟩;rw[vD h.acyc hi hr,Ei];have h5:=gK (zv vs i)
    have:=jj 40 ((zY (zv vs i)).map (zi vs)) (qo r) (by
     intro x hx;obtain⟨c,hc,rfl⟩:=LG.1 hx;obtain⟨k1,k2⟩:=h.kid hi hc;have:=ih c k1 (by omega)
     rwa[show(zv vs c).r.toNat=r from by omega] at this)
    rw[LE] at this;have h2:(zY (zv vs i)).length*(qo r+1)<=5*(qo r+1):=N8 _ h5;simp only[List.length_cons,List.length_append,List.length_nil,qo];omega
end
section
open Go.RowKit
theorem vr{vs:List Vw}:∀ {l:List Nat},jQ vs l=Av↔∀a b,b<a->a<l.length->gY vs (l.getD b 0) (l.getD a 0)=Ax
 | []=>by simp[jQ]
 | x::l=>by
  have ih:=vr (vs:=vs) (l:=l);simp only[jQ,Bool.and_eq_true,List.all_eq_true,Bool.not_eq_true',ih];constructor
  . rintro⟨h1,h2⟩ a b hb ha
    cases a with
    | zero=>omega
    | succ a=>
     simp at ha
     cases b with
     | zero=>
      simp only[List.getD_cons_zero,List.getD_cons_succ];refine h1 _ ?_;rw[Lf,Lg ha];exact Ld ha
     | succ b=>
      simp only[List.getD_cons_succ];exact h2 a b (by omega) ha
  . intro h
    refine⟨fun y hy=>?_,fun a b hb ha=>?_⟩
    . obtain⟨j,hj,rfl⟩:=NA.1 hy
      have:=h (j+1) 0 (by omega) (by simp;omega);simpa[hj] using this
    . have:=h (a+1) (b+1) (by omega) (by simp;omega)
      simpa using this
theorem keep10{W0 X:Ba}{B g b o0 o1 o2 o3 o4 o5 o6 o7:Nat}{u0 u1 u2 u3 u4 u5 u6 u7 u8 u9:Au}(hb:Ao B W0 X)(hg:g<B)(aI:b<B)
  (h:W0.cell? ⟨g,0,Z⟩=J u0/\W0.cell? ⟨g,1,Z⟩=J u1/\W0.cell? ⟨b,o0,Z⟩=J u2/\W0.cell? ⟨b,o1,Z⟩=J u3/\W0.cell? ⟨b,o2,Z⟩=J u4 /\
   W0.cell? ⟨b,o3,Z⟩=J u5/\W0.cell? ⟨b,o4,Z⟩=J u6/\W0.cell? ⟨b,o5,Z⟩=J u7/\W0.cell? ⟨b,o6,Z⟩=J u8/\W0.cell? ⟨b,o7,Z⟩=J u9) :
  X.cell? ⟨g,0,Z⟩=J u0/\X.cell? ⟨g,1,Z⟩=J u1/\X.cell? ⟨b,o0,Z⟩=J u2/\X.cell? ⟨b,o1,Z⟩=J u3/\X.cell? ⟨b,o2,Z⟩=J u4 /\
   X.cell? ⟨b,o3,Z⟩=J u5/\X.cell? ⟨b,o4,Z⟩=J u6/\X.cell? ⟨b,o5,Z⟩=J u7/\X.cell? ⟨b,o6,Z⟩=J u8/\X.cell? ⟨b,o7,Z⟩=J u9:=by
 obtain⟨h0,h1,h2,h3,h4,h5,h6,h7,h8,h9⟩:=h;exact⟨(hb.cell hg).trans h0,(hb.cell hg).trans h1,(hb.cell aI).trans h2,(hb.cell aI).trans h3,(hb.cell aI).trans h4,(hb.cell aI).trans h5,(hb.cell aI).trans h6,(hb.cell aI).trans h7,(hb.cell aI).trans h8,(hb.cell aI).trans h9⟩
theorem wK(v:Vw):zB (zY v)=(yy v).map (·.2):=by
 unfold zB zY;rw[Pc];refine Pf fun x hx=>?_
 obtain⟨_,q,_,rfl,h0⟩:=qg.1 hx;simp;omega
theorem vy(v:Vw)(k:Nat)(hk:k<5)(w:Ba):(Instr.index 43 (Aj #[O U v.h0,O U v.h1,O U v.h2,O U v.h3,O U v.h4]) (O U (k:Int))).run An w=.ok (O U (v.h k)) w:=by
 obtain rfl | rfl | rfl | rfl | rfl:k=0\/k=1\/k=2\/k=3\/k=4:=by omega
 all_goals kernel_rfl
theorem begE_out{n:Int}{v:Vw}(h:v.p<0\/n<=v.p\/v.r<0\/6<v.r\/(v.r=0/\(v.i<0\/8<=v.i))):xd n v=2:=by
 unfold xd;rw[Ln (by simpa[xv] using h)]
theorem J7{n:Int}{v:Vw}(h:xv n v=Ax)(h2:0<v.r/\v.i≠0):xd n v=3:=by
 unfold xd;rw[Lj (by simp[h]),Ln h2]
theorem YL{n:Int}{v:Vw}(h:xv n v=Ax){k:Nat}(hk:k<5)(h2:ku n v k=Av):xd n v=3:=by
 unfold xd;rw[Lj (by simp[h])]
 split
 . rfl
 rw[Ln (NL.2 ⟨k,by simpa using hk,h2⟩)]
theorem Ze{n:Int}{v:Vw}(h:xv n v=Ax)(h2:¬(0<v.r/\v.i≠0))(h3:∀j,j<5->ku n v j=Ax):xd n v=0:=by
 unfold xd
 rw[Lj (by simp[h]),Lj h2,Lj (by
  rw[NL];rintro⟨j,hj,hb⟩;rw[h3 j (by simpa using hj)] at hb
  cases hb)]
theorem gi(n:Int)(v:Vw)(w:Ba)(h1:v.p<0\/n<=v.p\/v.r<0\/6<v.r\/(v.r=0/\(v.i<0\/8<=v.i))) :
  Ap An 134 #[O U n,.agg v.cells] w fun e w'=>e=Am (O U (xd n v))/\Ao w.heap.size w w':=by
 have H:As (xd n v=2):=begE_out h1;have HB:=zt w;unfold Vw.cells;go_enter Rv,Rm;go_wp2
 all_goals (try (exfalso;omega))
 all_goals
  go_ret;exact⟨zc H.out.symm,HB _⟩
theorem wS(n:Int)(v:Vw)(w:Ba)(oH:0<=v.p)(Ek:v.p<n)(_hr1:v.r<=6)(hr:v.r=0)(sq:0<=v.i)(Gy:v.i<8) :
  Ap An 134 #[O U n,.agg v.cells] w fun e w'=>e=Am (O U (xd n v))/\Ao w.heap.size w w':=by
 have eJ:As (xv n v=Ax):=by show xv n v=Ax;simp[xv];omega
 have HB:=zt w;have fm:(v.r==0)=Av:=by simp[hr]
 have Tu:v.r<=0:=by omega
 have Tt:0<=v.r:=by omega
 have HR:=zH hr;clear hr;unfold Vw.cells;go_enter Rv,Rm;go_wp2
 go_loop [49] (fun i=>∃k:Nat,k<=5/\i=O U k/\As (∀j:Nat,j<k->ku n v j=Ax)) (fun i=>5-(Aq i).toNat)
 case atStart=>exact⟨0,by omega,rfl,fun j hj=>by omega⟩
 obtain⟨k,hk,rfl,aj⟩:=hrel
 by_cases ac:k<5
 . have tS:=vy v k ac
   have aP:As (ku n v k=decide (v.h k≠-1/\(v.r=0\/n<=(k:Int)))):=rfl
   by_cases hm:v.h k=-1
   . have Gg:(v.h k != -1)=Ax:=by simp[hm]
     have HM:=zH hm;clear hm;go_wp2
     go_round
     case rel=>
      refine⟨k+1,by omega,by go_num,fun j hj=>?_⟩
      by_cases e:j=k
      . subst e;rw[aP.out];simp[HM.out]
      exact aj.out j (by omega)
     simp[Aq];omega
   have Gg:(v.h k != -1)=Av:=by simpa using hm
   have HM:=zH hm;clear hm;go_wp2;go_ret;exact⟨zc (YL eJ.out ac (by rw[aP.out];simp;exact⟨HM.out,Or.inl HR.out⟩)).symm,HB _⟩
 obtain rfl:k=5:=by omega
 go_wp2;go_ret;exact⟨zc (Ze eJ.out (by have:=HR.out;omega) aj.out).symm,HB _⟩
theorem un(n:Int)(v:Vw)(w:Ba)(oH:0<=v.p)(Ek:v.p<n)(tJ:v.r<=6)(hr:0<v.r)(hi:v.i=0) :
  Ap An 134 #[O U n,.agg v.cells] w fun e w'=>e=Am (O U (xd n v))/\Ao w.heap.size w w':=by
 have eJ:As (xv n v=Ax):=by show xv n v=Ax;simp[xv];omega
 have HB:=zt w;have fm:(v.r==0)=Ax:=by simp;omega
 have dT:(v.i != 0)=Ax:=by simp[hi]
 have HI:=zH hi;clear hi;unfold Vw.cells;go_enter Rv,Rm;go_wp2
 go_loop [49] (fun i=>∃k:Nat,k<=5/\i=O U k/\As (∀j:Nat,j<k->ku n v j=Ax)) (fun i=>5-(Aq i).toNat)
 case atStart=>exact⟨0,by omega,rfl,fun j hj=>by omega⟩
 obtain⟨k,hk,rfl,aj⟩:=hrel
 by_cases ac:k<5
 . have tS:=vy v k ac
   have aP:As (ku n v k=decide (v.h k≠-1/\(v.r=0\/n<=(k:Int)))):=rfl
   by_cases hm:v.h k=-1
   . have Gg:(v.h k != -1)=Ax:=by simp[hm]
     have HM:=zH hm;clear hm;go_wp2
     go_round
     case rel=>
      refine⟨k+1,by omega,by go_num,fun j hj=>?_⟩
      by_cases e:j=k
      . subst e;rw[aP.out];simp[HM.out]
      exact aj.out j (by omega)
     simp[Aq];omega
   have Gg:(v.h k != -1)=Av:=by simpa using hm
   have HM:=zH hm;clear hm
   by_cases hq:n<=(k:Int)
   . go_wp2
     go_ret;exact⟨zc (YL eJ.out ac (by rw[aP.out];simp;exact⟨HM.out,by omega⟩)).symm,HB _⟩
   go_wp2
   go_round
   case rel=>
    refine⟨k+1,by omega,by go_num,fun j hj=>?_⟩
    by_cases e:j=k
    . subst e;rw[aP.out];simp;intro _;omega
    exact aj.out j (by omega)
   simp[Aq];omega
 obtain rfl:k=5:=by omega
 go_wp2;go_ret;exact⟨zc (Ze eJ.out (by rw[HI.out];simp) aj.out).symm,HB _⟩
theorem wT(n:Int)(v:Vw)(w:Ba)(oH:0<=v.p)(Ek:v.p<n)(tJ:v.r<=6)(hr:0<v.r)(hi:v.i≠0) :
  Ap An 134 #[O U n,.agg v.cells] w fun e w'=>e=Am (O U (xd n v))/\Ao w.heap.size w w':=by
 have eJ:xv n v=Ax:=by simp[xv];omega
 have H:As (xd n v=3):=J7 eJ ⟨hr,hi⟩;have HB:=zt w;have fm:(v.r==0)=Ax:=by simp;omega
 have dT:(v.i != 0)=Av:=by simpa using hi
 clear eJ hi;unfold Vw.cells;go_enter Rv,Rm;go_wp2;go_ret;exact⟨zc H.out.symm,HB _⟩
theorem gj(n:Int)(v:Vw)(w:Ba) :
  Ap An 134 #[O U n,.agg v.cells] w fun e w'=>e=Am (O U (xd n v))/\Ao w.heap.size w w':=by
 by_cases h1:v.p<0\/n<=v.p\/v.r<0\/6<v.r\/(v.r=0/\(v.i<0\/8<=v.i))
 . exact gi n v w h1
 by_cases hr:v.r=0
 . exact wS n v w (by omega) (by omega) (by omega) hr (by omega) (by omega)
 by_cases hi:v.i=0
 . exact un n v w (by omega) (by omega) (by omega) (by omega) hi
 exact wT n v w (by omega) (by omega) (by omega) (by omega) hi
theorem J4(A:Bb)(cap:Nat)(xs:List Int)(w:Ba)(hA:IAt w w.heap.size A xs)(hl:xs.length<=1000000) :
  Ap An 66 #[I A xs.length cap] w (QW xs w):=by
 have HT:=zH hA;clear hA;have q:∀(w:Ba) (a:Bb) (n c n' c':Nat),(binOp .eql 49 (I a n c) (I Z n' c')).run An w=.ok (Ai a.isNone) w:=fun w a n c n' c'=>NT w _ _ a n c n' c' Nw
 obtain⟨i0,hi,cq,bK,cf⟩:=PE wl
 cases A with
 | none=>
  have iX:xs=[]:=by
   rcases Na xs.length with h | h
   . exact LD h
   . obtain⟨b,off,e,_⟩:=HT.out h;cases e
  go_enter RJ,Ru;go_wp2;go_ret;exact⟨_,rfl,by rw[iX];exact Own.nil _ _,Lp _ _⟩
 | some ad=>
  go_enter RJ,Ru;go_wp2_with (at_builtin;refine NV _ rfl _ _ 49 rfl w.heap.size 3 i0 _ 1 8 Nw hi cq bK cf rfl (by decide) _ _ _ rfl (N1 w #[] 0 (Lh _) (Nl _) rfl) ad xs.length cap (xs.map (O U)) rfl ?qc1 ?qc2 ?qc3 ?qc4 ?qc5 ?qc6 ?_)
  case qc1=>simp
  case qc2=>
   intro j u hj;obtain⟨x,hx,rfl⟩:∃x,xs[j]?=J x/\O U x=u:=by simpa using hj
   obtain⟨bg,rfl⟩:=Lo.1 hx;obtain⟨b,off,e,ac,hc⟩:=HT.out (by omega)
   cases e
   rw[N4];exact NW _ (hc j bg)
  case qc3=>intro u hu;obtain⟨x,_,rfl⟩:=LG.1 hu;rfl
  case qc4=>unfold maxLen;omega
  case qc5=>omega
  case qc6=>simp
  intro v' w1 aq aK fM;go_wp2;go_ret;refine⟨v',rfl,by unfold Own;simpa using aq,?_⟩;exact((Lp _ w).alloc (Lh _) _).grown aK (by simp) (by intro k hk;simp[Value.ownBlock] at hk;omega)
end
section
open Go.RowKit Go.Shelf
attribute [local go_sem] Oper.semAt_some
theorem kJ(v:Vw)(w:Ba):Ap An 67 #[.agg v.cells] w fun e w'=>
  e=Am (.func (.func 106) #[] #[Ak (J ⟨w.heap.size,0,Z⟩)])/\w.alloc (Ah v.cells 100)=w':=by
 unfold Vw.cells;go_enter func67,ntmps67;go_wp2;go_ret;exact⟨rfl,rfl⟩
theorem Yt(v:Vw)(k:Nat)(hk:k<5)(w:Ba):(Instr.index 43 (Aj #[O U v.h0,O U v.h1,O U v.h2,O U v.h3,O U v.h4]) (O U (k:Int))).run An w=.ok (O U (v.h k)) w:=by
 obtain rfl | rfl | rfl | rfl | rfl:k=0\/k=1\/k=2\/k=3\/k=4:=by omega
 all_goals kernel_rfl
theorem kh(v:Vw)(bx:Nat)(w:Ba)(hb:w.heap[bx]?=J (Ah v.cells 100)) :
  Iter An 106 #[Ak (J ⟨bx,0,Z⟩)] (fun x:Int×Int=>#[O U x.1,O U x.2]) (·=bx) (yy v) w:=fun n hn l Ag Jx W hW hJ Oq hY h0=>by
 have aL:bx<w.heap.size:=(Li.1 hb).1;have cZ:W.heap[bx]?=J (Ah v.cells 100):=(hW.block bx aL).trans hb
 have cells:∀X:Ba,X.heap[bx]?=J (Ah v.cells 100)->∀k u,v.cells[k]?=J u->X.cell? ⟨bx,k,Z⟩=J u:=fun X hX k u hk=>by
  rw[cell_of_row X bx k _ _ _ hX];exact hk
 have row:∀X:Ba,X.heap[bx]?=J (Ah v.cells 100)->X.cell? ⟨bx,1,Z⟩=J (O U v.r):=fun X hX=>cells X hX 1 _ rfl
 have c3:W.cell? ⟨bx,3,Z⟩=J (O U v.h0):=cells W cZ 3 _ rfl;have c4:W.cell? ⟨bx,4,Z⟩=J (O U v.h1):=cells W cZ 4 _ rfl;have c5:W.cell? ⟨bx,5,Z⟩=J (O U v.h2):=cells W cZ 5 _ rfl;have c6:W.cell? ⟨bx,6,Z⟩=J (O U v.h3):=cells W cZ 6 _ rfl;have c7:W.cell? ⟨bx,7,Z⟩=J (O U v.h4):=cells W cZ 7 _ rfl;have aR:=zH row;have HY:=zH hY;clear cells row hY;refine callsIn_of_wp Rw rfl trivial ?_ rfl;simp only[ntmps106,List.size_toArray,List.length_cons,List.length_nil,Nat.reduceAdd,Nat.reduceSub,Array.replicate_succ,Array.replicate_zero,List.push_toArray,List.append_toArray,List.nil_append,List.cons_append];gi_wp2
 gi_loopw [7] (fun p wr=>∃k:Nat,k<=5/\p=O U k/\∃pre:List { x:Int×Int // x∈yy v },pre.map (·.1)=yv v k/\Ag pre wr/\wr.heap[bx]?=J (Ah v.cells 100)) (fun p _=>5-(Aq p).toNat)
 case atStart=>exact⟨0,by omega,rfl,[],by simp[yv],h0,cZ⟩
 case round=>
  obtain⟨k,hk,rfl,pre,hp,ic,fO⟩:=hrel;clear c3 c4 c5 c6 c7 h0 cZ hW hb
  by_cases ac:k<5
  . have tS:=Yt v k ac
    have d1:=aR.out wr fO
    by_cases hc:0<v.r/\0<=v.h k
    . obtain⟨hc1,hc2⟩:=hc
      have hm:((k:Int),v.h k)∈yy v:=qg.2 ⟨hc1,k,ac,rfl,hc2⟩;have rL:=ua hc1 hc2
      have aC:pre.length<(yy v).length:=by
       have h1:pre.length=(yv v k).length:=by rw[<-hp,LE]
       have h2:=(wq (v:=v) (k:=k+1) (m:=5) (by omega)).length_le;rw[rL] at h2;simp at h2;show _<(yv v 5).length;omega
      obtain⟨fn,tmps,assign,body,hy,hR⟩:=HY.out pre ⟨((k:Int),v.h k),hm⟩ wr ic aC;dsimp only at hy;have Hy:=zH rL;have Hp:=zH hp;have HR:=zH hR;clear rL hp hR;gi_wp2_with fail;refine HR.out.mono ?_;rintro e W3 (⟨rfl,CS,eM⟩ | ⟨rfl,mN⟩)
      . have ap:W3.heap[bx]?=J (Ah v.cells 100):=(eM.same bx rfl (Li.1 fO).1).trans fO
        gi_wp2_with fail
        go_roundw
        case rel=>exact⟨k+1,by omega,by go_num,_,by rw[Hy.out,LH,Hp.out];rfl,CS,ap⟩
        case measure=>simp[Aq];omega
      . gi_wp2_with fail
        refine Nb (Rq rfl _ _ _) rfl ?_;exact⟨⟨_,rfl⟩,.inr ⟨_,by rw[LH,Hp.out];show _++[((k:Int),v.h k)] <+: _;rw[<-Hy.out];exact wq (by omega),mN⟩⟩
    . have eU:=wn hc
      have Hn:=zH eU;have Hp:=zH hp;clear eU hp
      by_cases hr:0<v.r
      . have hq:¬0<=v.h k:=fun h=>hc ⟨hr,h⟩
        clear hc;gi_wp2_with fail;refine⟨fun _ h=>trivial,?_⟩;gi_wp2_with fail
        go_roundw
        case rel=>exact⟨k+1,by omega,by go_num,pre,by rw[Hn.out,Hp.out],ic,fO⟩
        case measure=>simp[Aq];omega
      . clear hc
        gi_wp2_with fail;refine⟨fun _ h=>trivial,?_⟩;gi_wp2_with fail
        go_roundw
        case rel=>exact⟨k+1,by omega,by go_num,pre,by rw[Hn.out,Hp.out],ic,fO⟩
        case measure=>simp[Aq];omega
  . obtain rfl:k=5:=by omega
    have Hp:=zH hp;clear hp;gi_wp2_with fail
    go_end0
    exact⟨⟨_,rfl⟩,.inl ⟨pre,Hp.out,ic⟩⟩
end
section
open Go.RowKit
def jI(x:Int×Int):Au:=Aj #[O U x.1,O U x.2]
theorem pl_inj(a b:Int×Int)(h:jI a=jI b):a=b:=by
 injection h with h
 obtain⟨a0,a1⟩:=a;obtain⟨b0,b1⟩:=b;simpa using h
open Classical in
theorem gE:KeyOk An 214 jI where
 inj:=pl_inj
 check:=fun w em v=>by
  have hu:An.underlying 214=J (.struct (An.fieldsOf 214)):=by kernel_rfl
  have hf : (An.fieldsOf 214).toList.map (fun f => (f.name, f.type, f.offset)) = [("proc", 3, 0), ("round", 3, 1)] := by kernel_rfl
  have p0:=fun x0 x1=>zC #[x0,x1] 0 x0 rfl w
  have p1:=fun x0 x1=>zC #[x0,x1] 1 x1 rfl w
  unfold Instr.checkKey jI;simp only[Sem.run_bind,run_underlying hu,Result.andThen_ok];rw[<-PI]
  generalize (An.fieldsOf 214).toList=fs at hf
  obtain⟨f0,f1,rfl⟩:∃f0 f1,fs=[f0,f1]:=by
   have hl:fs.length=2:=by simpa using congrArg List.length hf
   rcases fs with _ | ⟨f0,_ | ⟨f1,_ | ⟨f2,r⟩⟩⟩<;>simp at hl
   exact⟨_,_,rfl⟩
  clear hu;simp only[List.map_cons,List.map_nil,List.cons.injEq,Prod.mk.injEq,and_true] at hf;obtain⟨⟨n0,t0,o0⟩,⟨n1,t1,o1⟩⟩:=hf;simp only[List.forIn_cons,List.forIn_nil,n0,n1,t0,t1,o0,o1,p0,p1,Sem.run_bind,Result.andThen_ok,qI,ne_eq,String.reduceEq,not_false_eq_true,if_true,Sem.run_pure]
 equal:=fun w a b=>by
  have hu:An.underlying 214=J (.struct (An.fieldsOf 214)):=by kernel_rfl
  have hi:An.underlying 3=J (.int U):=LA;have hf : (An.fieldsOf 214).toList.map (fun f => (f.name, f.type, f.offset)) = [("proc", 3, 0), ("round", 3, 1)] := by kernel_rfl
  have p0:=fun x0 x1=>zC #[x0,x1] 0 x0 rfl w
  have p1:=fun x0 x1=>zC #[x0,x1] 1 x1 rfl w
  unfold Op.equal Op.maxDepth jI;rw[Ph w 9999 214 _ _ hu (by kernel_rfl)]
  generalize (An.fieldsOf 214).toList=fs at hf
  obtain⟨f0,f1,rfl⟩:∃f0 f1,fs=[f0,f1]:=by
   have hl:fs.length=2:=by simpa using congrArg List.length hf
   rcases fs with _ | ⟨f0,_ | ⟨f1,_ | ⟨f2,r⟩⟩⟩<;>simp at hl
   exact⟨_,_,rfl⟩
  clear hu;simp only[List.map_cons,List.map_nil,List.cons.injEq,Prod.mk.injEq,and_true] at hf;obtain⟨⟨n0,t0,o0⟩,⟨n1,t1,o1⟩⟩:=hf
  have hd:(@decide (Aj #[O U a.1,O U a.2]=Aj #[O U b.1,O U b.2]) (propDecidable _))=(a.1==b.1&&a.2==b.2):=by
   rw[Nq];simp
  rw[hd]
  cases h0:(a.1==b.1)<;>cases h1:(a.2==b.2) <;>
   simp only[Op.eqFields,n0,n1,t0,t1,o0,o1,p0,p1,Sem.run_bind,Result.andThen_ok,run_equalIn_int w _ 3 _ _ _ _ hi,h0,h1,ne_eq,not_false_eq_true,if_true,Bool.not_false,Bool.not_true,Bool.false_eq_true,if_false,Sem.run_pure,Bool.true_and,Bool.false_and,String.reduceEq]
 now:=fun d hd=>.inr fun a b=>by
  have hu:An.underlying 214=J (.struct (An.fieldsOf 214)):=by kernel_rfl
  rw[hu] at hd
  cases hd
  simp[Instr.sameNow]
 stays:=fun a=>by simp[Instr.sameBits,jI]
 kind := ⟨_, by have hu : An.underlying 214 = J (.struct (An.fieldsOf 214)) := by kernel_rfl
                exact hu⟩
end
end Go.Proofs.YtkledihebeidlaaGreatDoor
