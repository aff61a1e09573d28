/- Merged. -/
import Derived.Test.YtjedjoeidcbffaaGreatDoorEf
import Derived.Sort.CutIn
open Go.Proofs.Tryz
open Go.Value renaming int->O,slice->I,bool->Aj,agg->Ak,pointer->Al
open Go.IntKind renaming i64->U
open Option renaming none->Z,some->J
open Go.Obj renaming cells->Ai
open Go.Ending renaming returned->Am
open Go.Proofs.Tryz renaming prog->Aq
open Go.RowKit renaming Below->Ar,intOf->Au,Hid->Aw
open Go renaming Calls->As,Value->Ax
open Bool renaming true->AA,false->AC,or_eq_true->PE,and_eq_true->Nf
open Go.RowKit.Below renaming setCell->Ly
namespace Go.Proofs.YtjedjoeidcbffaaGreatDoor
abbrev RU:=@Nat.div_lt_of_lt_mul
abbrev Sa:=@decide_eq_true_iff
abbrev NL:=@Classical.byContradiction
abbrev RO:=@List.getElem?_eq_none
abbrev Ry:=@List.getElem?_map
set_option maxRecDepth 100000
set_option maxHeartbeats 4000000
section
open Go.RowKit Go.Shelf
attribute [local go_sem] Oper.semAt_some
theorem set3{w:Ba}{g:Nat}{x0 x1 x2:Ax}{t:TypeId}(h:w.heap[g]?=J (Ai #[x0,x1,x2] t (0,0)))(y0 y1 y2:Ax) :
  ∃W,(((w.setCell ⟨g,0,Z⟩ y0).setCell ⟨g,1,Z⟩ y1).setCell ⟨g,2,Z⟩ y2)=W/\W.heap[g]?=J (Ai #[y0,y1,y2] t (0,0))/\(∀k,k≠g->W.heap[k]?=w.heap[k]?)/\∀B,B<=g->Ar B w W:=by
 refine⟨_,rfl,?_,fun k hk=>?_,fun B hB=>?_⟩
 . have a1:=Lq w g 0 _ _ y0 h
   have a2:=Lq _ g 1 _ _ y1 a1;exact Lq _ g 2 _ _ y2 a2
 . exact(Lh _ ⟨g,2,Z⟩ y2 k hk).trans ((Lh _ ⟨g,1,Z⟩ y1 k hk).trans (Lh _ ⟨g,0,Z⟩ y0 k hk))
 exact(((Ll B w).setCell (by show B<=g;omega) y0).setCell (by show B<=g;omega) y1).setCell (by show B<=g;omega) y2
theorem gi(s:Sy)(K N:Nat)(hF:Fine s K N)(A SV AV AX:Bb)(kc ks kv kx:Nat)(w:Ba) :
  As Aq 115 #[.agg (s.vs_ A kc SV ks AV kv AX kx)] w fun e w'=>e=Am (O U (ptn s:Int))/\Ar w.heap.size w w':=by
 obtain⟨w1,ab,d0,aK,hB⟩:=zk w (s.vs_ A kc SV ks AV kv AX kx) 35;have tV:=hF.lx;have hk:=hF.k;have oF:=hF.k6;have hn:ptn s=s.xs.length*(K+1):=by unfold ptn;rw[hk];rfl
 have hb:=LU tV (show K+1<=7 by omega);rw[hn];unfold Sy.vs_ at ab d0 ⊢;rw[hk] at ab d0 ⊢;obtain⟨M,hM⟩:=Ki s.xs.length;rw[hM] at ab d0 hb tV ⊢;have ai:=zH ab;have HB:=zH hB
 have HWR:Aw (wrap64 ((M:Int)*((K:Int)+1))=((M*(K+1):Nat):Int)):=by
  show wrap64 _=_;rw[show(M:Int)*((K:Int)+1)=((M*(K+1):Nat):Int) by push_cast;rfl];exact IntWalk.wrap64_in _ (by omega)
 clear ab d0 hB hF hk hn hM hb;go_enter func115,ntmps115;go_wp2_with fail;rw[ai.out];go_wp2_with fail;go_ret;exact⟨by rw[<-HWR.out];rfl,HB.out⟩
theorem Zm(s:Sy)(K N:Nat)(hF:Fine s K N)(i:Nat)(hi:i<ptn s)(A SV AV AX:Bb)(kc ks kv kx:Nat)(w:Ba)(hX:XAt w w.heap.size AX s.xs) :
  As Aq 153 #[.agg (s.vs_ A kc SV ks AV kv AX kx),O U (i:Int)] w fun e w'=>∃A1 c1 A2 c2,e=Am (.tuple #[Ak #[O U (s.xs.getD (i / (K+1)) default).c,.slice A1 (s.xs.getD (i / (K+1)) default).word.length c1,.slice A2 (s.xs.getD (i / (K+1)) default).views.length c2],O U ((i % (K+1):Nat):Int)]) /\
   LAt w' w.heap.size A2 (s.xs.getD (i / (K+1)) default).views/\RAt w' w.heap.size A1 (s.xs.getD (i / (K+1)) default).word/\Ar w.heap.size w w':=by
 obtain⟨w1,ab,d0,d1,aK,hB⟩:=yV w (s.vs_ A kc SV ks AV kv AX kx) #[O U 0,I Z 0 0,I Z 0 0] 35 58;have tV:=hF.lx;have hk:=hF.k;have oF:=hF.k6;have hn:ptn s=s.xs.length*(K+1):=by unfold ptn;rw[hk];rfl
 have hq:i / (K+1)<s.xs.length:=by rw[hn,Pv] at hi;exact RU hi
 have hb:=LU tV (show K+1<=7 by omega);have mC:i<=700:=by omega
 rw[zt hq];obtain⟨bx,ox,A1,c1,A2,c2,eX,bk,x0,x1,x2,ii,hL⟩:=(hX.keep hB).row _ hq;subst eX;obtain⟨q,MG⟩:=Ki (i / (K+1))
 have pW:((i:Int)).tdiv ((K:Int)+1)=(q:Int):=by
  rw[<-MG,Int.tdiv_eq_ediv_of_nonneg (by omega)]
  push_cast;rfl
 have lk:((i:Int)).tmod ((K:Int)+1)=((i % (K+1):Nat):Int):=by
  rw[Int.tmod_eq_emod_of_nonneg (by omega)]
  push_cast;rfl
 simp only[MG] at hq x0 x1 x2 ii hL ⊢;have oB:q<=100:=by omega
 obtain⟨rr,MF⟩:=Ki (i % (K+1));rw[MF] at lk ⊢;obtain⟨x,hx⟩:=Ki (s.xs[q]);rw[hx] at x0 x1 x2 ii hL ⊢;unfold Sy.vs_ at ab d0 ⊢;rw[hk] at ab d0 ⊢;obtain⟨M,hM⟩:=Ki s.xs.length;rw[hM] at ab d0 hq ⊢;have ai:=zH ab;have HB:=zH hB;have HL:=zH hL;have Uv:=zH ii;have cN:=zH d1;have oU:=zH d0;have pX:(0:Int)<=(q:Int):=by omega
 have hq2:(q:Int)<(M:Int):=by omega
 have Pr:¬((K:Int)+1)=0:=by omega
 have mO:IntKind.i64.wrap ((K:Int)+1)=(K:Int)+1:=by rw[Ls];omega
 have hwq:IntKind.i64.wrap (q:Int)=(q:Int):=by rw[Ls];omega
 clear ab d0 d1 hB hF hk hn hM hb hX hL ii hx MG MF tV;go_enter func153,ntmps153;go_wp2_with fail;rw[ai.out];go_wp2_with fail;refine zw [(0,AA),(1,AA),(2,AA),(3,AA),(4,AA),(5,AA),(6,AA),(7,AA),(8,AA),(9,AA),(10,AC),(11,AC)] (fun X=>X.heap[w.heap.size]?=w1.heap[w.heap.size]?/\X.heap[bx]?=w1.heap[bx]?) (by kernel_rfl) (by kernel_rfl) ⟨rfl,rfl⟩ ?_
 repeat
  apply zA rfl
  . rintro K' ac X ⟨u1,u2⟩
    have y0:=(LH u2).trans x0;have y1:=(LH u2).trans x1;have y2:=(LH u2).trans x2;have y9:X.cell? ⟨w.heap.size,9,Z⟩=J (I (J ⟨bx,ox,Z⟩) M kx):=zh (u1.trans oU.out) 9 rfl;clear u1 u2;go_simp;exact ac
 have HBd:=zH (HB.out.drew);have Mg:Aw (w1.drew.heap[w.heap.size+1]?=J (Ai #[O U 0,I Z 0 0,I Z 0 0] 58 (0,0))):=cN.out;have HLd:Aw (LAt w1.drew w.heap.size A2 x.views):=HL.out.keep (Ll _ _).drew;have HRd:Aw (RAt w1.drew w.heap.size A1 x.word):=Uv.out.keep (Ll _ _).drew;have Hi:Aw (w1.drew.heap[w.heap.size]?=w1.heap[w.heap.size]?/\w1.drew.heap[bx]?=w1.heap[bx]?):=⟨rfl,rfl⟩;obtain⟨W5,dM⟩:=Ki w1.drew;rw[dM] at HBd Mg HLd HRd Hi ⊢;clear dM HL Uv x0 x1 x2;obtain⟨r0,r1,r2,_⟩:=Kc Mg.out;have g0:=zi Mg.out 0;have g1:=zi Mg.out 1;have g2:=zi Mg.out 2;have l1:=zj Mg.out;refine zx rfl ?_;intro K' ac;go_simp;obtain⟨W,hW,e1,e2,e3⟩:=set3 Mg.out (O U x.c) (I A1 x.word.length c1) (I A2 x.views.length c2);rw[hW];have pH:=zH (e3 w.heap.size (by omega));have Ir:W.heap[w.heap.size]?=w1.heap[w.heap.size]?/\W.heap[bx]?=w1.heap[bx]?:=⟨(e2 _ (by omega)).trans Hi.out.1,(e2 bx (by omega)).trans Hi.out.2⟩;refine ac _ _ Ir ?_;refine zx rfl ?_;intro K' ac;go_simp;refine ac _ _ Ir ?_;refine zO ?_;go_wp2_with fail;obtain⟨q0,q1,q2,_⟩:=Kc e1;refine LG (v:=.tuple #[Ak #[O U x.c,I A1 x.word.length c1,I A2 x.views.length c2],O U (rr:Int)]) (by simp[results,results153,go_sem,q0,q1,q2]) rfl ?_;exact⟨A1,c1,A2,c2,rfl,HLd.out.keep pH.out,HRd.out.keep pH.out,HBd.out.trans pH.out⟩
theorem rpoint_any(s:Sy)(K N:Nat)(hF:Fine s K N)(i:Nat)(hi:i<ptn s)(A SV AV AX:Bb)(kc ks kv kx:Nat)(w:Ba)(hX:XAt w w.heap.size AX s.xs) :
  As Aq 153 #[.agg (s.vs_ A kc SV ks AV kv AX kx),O U (i:Int)] w fun e w'=>∃A1 c1 A2 c2,e=Am (.tuple #[Ak #[O U (s.xs.getD (i / (K+1)) default).c,.slice A1 (s.xs.getD (i / (K+1)) default).word.length c1,.slice A2 (s.xs.getD (i / (K+1)) default).views.length c2],O U ((i % (K+1):Nat):Int)]) /\
   LAt w' w.heap.size A2 (s.xs.getD (i / (K+1)) default).views/\Ar w.heap.size w w':=
 (Zm s K N hF i hi A SV AV AX kc ks kv kx w hX).mono fun e w' h=>by
  obtain⟨A1,c1,A2,c2,h1,h2,_,h3⟩:=h;exact⟨A1,c1,A2,c2,h1,h2,h3⟩
theorem Qd(s:Sy)(K N:Nat)(hF:Fine s K N)(i q:Nat)(hi:i<ptn s)(hq:q<N)(A SV AV AX:Bb)(kc ks kv kx:Nat)(w:Ba)(hX:XAt w w.heap.size AX s.xs) :
  As Aq 155 #[.agg (s.vs_ A kc SV ks AV kv AX kx),O U (i:Int),O U (q:Int)] w fun e w'=>e=Am (O U ((jr s q).getD i 0))/\Ar w.heap.size w w':=by
 obtain⟨w1,ab,d0,aK,hB⟩:=zk w (s.vs_ A kc SV ks AV kv AX kx) 35;have hk:=hF.k;have hn:ptn s=s.xs.length*(K+1):=by unfold ptn;rw[hk];rfl
 have oB:i / (K+1)<s.xs.length:=by rw[hn,Pv] at hi;exact RU hi
 have HP:=zH (rpoint_any s K N hF i hi A SV AV AX kc ks kv kx w1 ((hX.keep hB).more hB.size));obtain⟨dI,aR⟩:=hF.views _ (Ld oB)
 have lq:(jr s q).getD i 0=xw (s.xs.getD (i / (K+1)) default) (i % (K+1)) q:=by
  have mC:i<(jr s q).length:=by rw[Z1];exact hi
  rw[xL mC,keyL_at,hk,Lo]
 rw[lq];rw[zt oB] at HP ⊢;obtain⟨x,hx⟩:=Ki (s.xs[i / (K+1)]);rw[hx] at HP dI aR ⊢;obtain⟨rr,MF⟩:=Ki (i % (K+1));have i8:rr<K+1:=by rw[<-MF];exact Nat.mod_lt _ (by omega)
 rw[MF] at HP ⊢;have Ey:rr<x.views.length:=by omega
 have OR:=(aR _ (Ld Ey)).1;have rI:xw x rr q=(x.views[rr]).getD q 0:=by unfold xw;rw[zt Ey]
 rw[rI];have hqr:q<(x.views[rr]).length:=by omega
 rw[xL hqr];rw[dI] at HP;unfold Sy.vs_ at ab d0 HP ⊢;have ai:=zH ab;have HB:=zH hB;clear ab d0 hB hF hk hn hX lq hx MF aR rI dI;go_enter func155,ntmps155;go_wp2_with fail;rw[ai.out];go_wp2_with fail;refine HP.out.mono ?_;rintro e w2 ⟨A1,c1,A2,c2,rfl,hL,ag⟩;have aw:=zH (HB.out.trans (ag.mono (by omega)));have HL:=zH hL;have OP:=ag.size;go_upto_region 2 with fail
 obtain⟨w3,dV,d3,eK,ct⟩:=zk w2 #[O U x.c,I A1 x.word.length c1,I A2 (K+1) c2] 58;rw[dV];have Cq:=zH (HL.out.keep (ct.mono OP));have aJ:=zH (Lc aw.out ct);have z2:=zh d3 2 rfl;obtain⟨bl,ol,A3,c3,eL,aL,y1,hI⟩:=Cq.out.at_ rr Ey;subst eL;obtain⟨b4,o4,e4,aG,z4⟩:=hI.at_ q hqr;subst e4;obtain⟨u,hu⟩:=Ki ((x.views[rr])[q]);rw[hu] at z4;have HU:=zH hu;obtain⟨nr,Ik⟩:=Ki ((x.views[rr]).length);rw[Ik] at y1 OR hqr;have h1:(0:Int)<=(rr:Int):=by omega
 have h22:(rr:Int)<(K:Int)+1:=by omega
 have h3:(0:Int)<=(q:Int):=by omega
 go_wp2_with fail;go_ret;exact⟨by rw[HU.out];rfl,aJ.out⟩
theorem rown_any(s:Sy)(K N:Nat)(hF:Fine s K N)(q:Nat)(hq:q<N)(A SV AV AX:Bb)(kc ks kv kx:Nat)(w:Ba)(hX:XAt w w.heap.size AX s.xs) :
  As Aq 119 #[.agg (s.vs_ A kc SV ks AV kv AX kx),O U (q:Int)] w (Xz (yB s q) w):=by
 obtain⟨w1,ab,d0,aK,hB⟩:=zk w (s.vs_ A kc SV ks AV kv AX kx) 35;have iD:=zH (fun (X:Ba)=>gi s K N hF A SV AV AX kc ks kv kx X);have nC:=zH (fun (i:Nat) (hi:i<ptn s) (X:Ba) (hX:XAt X X.heap.size AX s.xs)=>Qd s K N hF i q hi hq A SV AV AX kc ks kv kx X hX)
 have mQ:ptn s<=700:=by
  have hk:=hF.k;have oF:=hF.k6;have:=LU hF.lx (show s.p.k.toNat+1<=7 by omega);unfold ptn;omega
 have bY:(jr s q).length=ptn s:=by rw[Z1];rfl
 have nF:=zH (fun (A:Bb) (c:Nat) (X:Ba) (hI:IAt X X.heap.size A (jr s q))=>rlabels_any A c (jr s q) (by omega) X hI);have mL:Aw (yB s q=yE (jr s q)):=rfl;rw[mL.out];obtain⟨L,hL⟩:=Ki (jr s q);obtain⟨n,hn⟩:=Ki (ptn s);rw[hL] at nC nF bY ⊢;rw[hn] at iD nC mQ bY;have HX:=zH (hX.keep hB);unfold Sy.vs_ at ab d0 iD nC ⊢;have ai:=zH ab;have HB:=zH hB;have HD:=zH d0;clear ab d0 hB hF hX hL hn mL hq;go_enter func119,ntmps119;go_wp2_with fail;rw[ai.out];go_wp2_with fail
 go_loopw [5,6] (fun o i wr=>∃k:Nat,k<=n/\i=O U (k:Int)/\Aw (Own wr w1.heap.size o (L.take k))/\Aw (Ar w1.heap.size w1 wr)) (fun _ i _=>n-(Au i).toNat)
 case atStart=>exact⟨0,by omega,rfl,Own.nil _ _,Ll _ _⟩
 obtain⟨k,hk,rfl,HO,hb⟩:=hrel;obtain⟨Ao,co,rfl,_,_,M7⟩:=HO.out.form;have pj:(L.take k).length=k:=by simp;omega
 rw[pj] at HO ⊢;have dd:=La hb.out HD.out;obtain⟨p0,p1,p2,p3,p4,p5,p6,p7,p8,p9⟩:=zN dd;go_wp2_with fail;refine(iD.out wr).mono ?_;rintro e w2 ⟨rfl,ag⟩;have aX:=hb.out.size;have aw:=zH (hb.out.trans (ag.mono aX));have pK:=zH (HO.out.below ag (Le _));have dd:=La aw.out HD.out;obtain⟨p0,p1,p2,p3,p4,p5,p6,p7,p8,p9⟩:=zN dd
 by_cases aa:k<n
 . have MN:(k:Int)<(n:Int):=by omega
   have HC:=zH (nC.out k aa w2 ((HX.out.keep (aw.out.mono (by omega))).more (by have:=aw.out.size;omega)));have iG:L.take k++[L.getD k 0]=L.take (k+1):=by rw[xL (by omega),Lr (by omega)]
   have iC:=zH iG;obtain⟨u,hu⟩:=Ki (L.getD k 0);rw[hu] at HC iC;go_wp2_with fail;refine HC.out.mono ?_;rintro e w3 ⟨rfl,aj⟩;have dw:=aw.out.size;have aJ:=zH (aw.out.trans (aj.mono dw));have fw:=zH (pK.out.below aj (Le _));have iP:=aJ.out.size;go_wp2_with (at_builtin;go_must (refine xd rfl _ _ rfl w1.heap.size (I Ao k co) (L.take k) u rfl fw.out rfl (by omega) iP ?_);intro v' w5 aI fD aq)
   go_roundw
   case rel=>exact⟨k+1,by omega,by go_num,by rw[<-iC.out];exact aI,aJ.out.trans aq⟩
   simp[Au];omega
 obtain rfl:k=n:=by omega
 have tu:=pK.out;rw[<-bY,LC] at tu
 have HI9:Aw (IAt w2 w2.heap.size Ao L):=by
  obtain⟨A',c',e',_,_,tv⟩:=tu.form;simp only[Value.slice.injEq] at e';obtain⟨Kn,-,-⟩:=e';subst Kn;exact tv
 have HC:=zH (nF.out Ao co w2 HI9.out);rw[bY] at HC;go_wp2_with fail;refine HC.out.mono ?_;rintro e w3 ⟨A5,c5,rfl,lN,aA⟩;have dw:=aw.out.size;have lE:=zH lN;have cj:=zH (aw.out.trans (aA.mono dw));go_wp2_with fail;go_ret;exact⟨A5,c5,rfl,lE.out.low (by have:=aw.out.size;omega),HB.out.trans (cj.out.mono (by omega))⟩
theorem pcount_any(s:Sy)(K N:Nat)(hF:Fine s K N)(A SV AV AX:Bb)(kc ks kv kx:Nat)(w:Ba) :
  As Aq 96 #[.agg (s.vs_ A kc SV ks AV kv AX kx)] w fun e w'=>e=Am (O U (ptn s:Int))/\Ar w.heap.size w w':=by
 obtain⟨w1,ab,d0,aK,hB⟩:=zk w (s.vs_ A kc SV ks AV kv AX kx) 35;have tV:=hF.lx;have hk:=hF.k;have oF:=hF.k6;have hn:ptn s=s.xs.length*(K+1):=by unfold ptn;rw[hk];rfl
 have hb:=LU tV (show K+1<=7 by omega);rw[hn];unfold Sy.vs_ at ab d0 ⊢;rw[hk] at ab d0 ⊢;obtain⟨M,hM⟩:=Ki s.xs.length;rw[hM] at ab d0 hb tV ⊢;have ai:=zH ab;have HB:=zH hB
 have HWR:Aw (wrap64 ((M:Int)*((K:Int)+1))=((M*(K+1):Nat):Int)):=by
  show wrap64 _=_;rw[show(M:Int)*((K:Int)+1)=((M*(K+1):Nat):Int) by push_cast;rfl];exact IntWalk.wrap64_in _ (by omega)
 clear ab d0 hB hF hk hn hM hb;go_enter func96,ntmps96;go_wp2_with fail;rw[ai.out];go_wp2_with fail;go_ret;exact⟨by rw[<-HWR.out];rfl,HB.out⟩
def cntE(s:Sy):Int×Int:=if yh s≠0 then (0,yh s) else ((ptn s:Int),0)
theorem pCount_any(s:Sy)(hs:LowS s)(hf:xz s.p)(A SV AV AX:Bb)(kc ks kv kx:Nat)(w:Ba)(hS:SyAt w w.heap.size A SV AV AX s) :
  As Aq 55 #[.agg (s.vs_ A kc SV ks AV kv AX kx)] w fun e w'=>e=Am (.tuple #[O U (cntE s).1,O U (cntE s).2])/\Ar w.heap.size w w':=by
 obtain⟨w1,ab,d0,aK,hB⟩:=zk w (s.vs_ A kc SV ks AV kv AX kx) 35;have HV:=zH (wh s hs hf A SV AV AX kc ks kv kx w1 (hS.up hB));have dD:Aw (yh s≠0->cntE s=(0,yh s)):=fun h=>Li h
 have az:Aw (yh s=0->cntE s=((ptn s:Int),0)/\∀X,As Aq 96 #[.agg (s.vs_ A kc SV ks AV kv AX kx)] X fun e w'=>e=Am (O U (ptn s:Int))/\Ar X.heap.size X w'):=fun h=>by
  obtain⟨_,K,N,hF⟩:=yJ hf h;exact⟨Lg (by simpa using h),fun X=>pcount_any s K N hF A SV AV AX kc ks kv kx X⟩
 obtain⟨r,hr⟩:=Ki (yh s);rw[hr] at HV dD az;obtain⟨R,fE⟩:=Ki (cntE s);rw[fE] at dD az ⊢;unfold Sy.vs_ at ab d0 HV az ⊢;have ai:=zH ab;have HB:=zH hB;have HD:=zH d0;have p9:=zh (d0) 9 rfl;clear ab d0 hB hS hr fE hs hf;go_enter func55,ntmps55;go_wp2_with fail;rw[ai.out];go_wp2_with fail;refine HV.out.mono ?_;rintro e w2 ⟨rfl,ag⟩;have aw:=zH (HB.out.trans (ag.mono (by omega)));have d0:=Lb ag (by omega:w.heap.size<w1.heap.size) HD.out;clear p9 ag HV ai HD;obtain⟨p0,p1,p2,p3,p4,p5,p6,p7,p8,p9⟩:=zN (d0);clear d0
 by_cases h0:r=0
 case neg=>
  have hR:Aw (R=(0,r)):=dD.out h0;have e0:(r != 0)=AA:=by simpa using h0
  clear dD az;go_wp2_with fail
  go_ret2
  rw[hR.out];exact⟨rfl,aw.out⟩
 case pos=>
 subst h0;obtain⟨hRe,hC⟩:=az.out rfl;have HC:=zH (hC w2);have hR:=zH hRe;clear dD az hRe hC;go_wp2_with fail;refine HC.out.mono ?_;rintro e w3 ⟨rfl,aj⟩;have aJ:=zH (Lc aw.out aj);go_wp2_with fail
 go_ret2
 rw[hR.out];exact⟨rfl,aJ.out⟩
theorem grouped_any(s:Sy)(hs:LowS s)(hf:xz s.p)(g:Int)(A SV AV AX:Bb)(kc ks kv kx:Nat)(w:Ba)(hS:SyAt w w.heap.size A SV AV AX s) :
  As Aq 130 #[.agg (s.vs_ A kc SV ks AV kv AX kx),O U g] w fun e w'=>e=Am (O U (yn s g))/\Ar w.heap.size w w':=by
 obtain⟨w1,ab,d0,aK,hB⟩:=zk w (s.vs_ A kc SV ks AV kv AX kx) 35;have HV:=zH (wh s hs hf A SV AV AX kc ks kv kx w1 (hS.up hB));have dD:Aw (yh s≠0->yn s g=yh s):=fun h=>Li h
 have az:Aw (yh s=0->yn s g=if xC s.n g=0 then 0 else 2):=fun h=>by
  obtain⟨_,K,N,hF⟩:=yJ hf h;have hn:=hF.n;have cU:=hF.n1;have fl:=hF.n5;have h2:((2^N:Nat):Int)=(2:Int)^N:=by push_cast;rfl
  have h3:¬(s.n<1\/5<s.n):=by omega
  have e2:yn s g=if g<0\/(2:Int)^N<=g then 2 else 0:=by unfold yn;rw[Lg (by simpa using h),hn,Lo]
  have e3:xC s.n g=if g<0\/(2:Int)^N<=g then 2 else 0:=by unfold xC;rw[Lg h3,hn,Lo,h2]
  rw[e2,e3]
  by_cases hg:g<0\/(2:Int)^N<=g
  . simp only[if_pos hg];rfl
  . simp only[if_neg hg];rfl
 obtain⟨r,hr⟩:=Ki (yh s);rw[hr] at HV dD az;obtain⟨R,fE⟩:=Ki (yn s g);rw[fE] at dD az ⊢;unfold Sy.vs_ at ab d0 HV ⊢;have ai:=zH ab;have HB:=zH hB;have HD:=zH d0;clear ab d0 hB hS hr fE hs hf;go_enter func130,ntmps130;go_wp2_with fail;rw[ai.out];go_wp2_with fail;refine HV.out.mono ?_;rintro e w2 ⟨rfl,ag⟩;have aw:=zH (HB.out.trans (ag.mono (by omega)));have d0:=Lb ag (by omega:w.heap.size<w1.heap.size) HD.out
 by_cases h0:r=0
 case neg=>
  have hR:Aw (R=r):=dD.out h0;have e0:(r != 0)=AA:=by simpa using h0
  clear dD az d0;go_wp2_with fail;go_ret;rw[hR.out];exact⟨rfl,aw.out⟩
 case pos=>
 subst h0;have p7:=zh d0 7 rfl;have HC:=zH (QS s.n g w2);have hR:=zH (az.out rfl);obtain⟨q,hq⟩:=Ki (xC s.n g);rw[hq] at HC hR;clear dD az d0 hq;go_wp2_with fail;refine HC.out.mono ?_;rintro e w3 ⟨rfl,rfl⟩
 by_cases h1:q=0
 . subst h1
   have nB:Aw (R=0):=hR.out;go_wp2_with fail;go_ret;rw[nB.out];exact⟨rfl,aw.out⟩
 have nB:Aw (R=2):=by rw[Aw,hR.out,Lg h1]
 have e1:(q != 0)=AA:=by simpa using h1
 go_wp2_with fail;go_ret;rw[nB.out];exact⟨rfl,aw.out⟩
theorem XX{H:Nat}{w w':Ba}(h:Wrote (fun k=>k=H) w w')(hH:H<=w.heap.size):Ar H w w':=⟨h.os,h.tape,h.output,h.size,fun k hk=>h.block k (by omega) (by omega)⟩
def XN(r:Int)(i:Nat)(x:Int)(o:List Int):List Int:=if 0<r/\0<=x then o.set i (bits BinOp.or U (o.getD i 0) (o.getD x.toNat 0)) else o
def js(v:Vw)(i:Nat)(o:List Int):Nat->List Int
 | 0=>o.set i ((2^v.p.toNat:Nat):Int)
 | q+1=>XN v.r i (v.h q) (js v i o q)
def qK(vs:List Vw):Nat->List Int
 | 0=>List.replicate vs.length 0
 | k+1=>js (vs.getD k default) k (qK vs k) 5
theorem hrd1_len{r:Int}{i:Nat}{x:Int}{o:List Int}:(XN r i x o).length=o.length:=by unfold XN;split<;>simp
theorem Y6{v:Vw}{i:Nat}{o:List Int}(q:Nat):(js v i o q).length=o.length:=by
 induction q with
 | zero=>simp[js]
 | succ q ih=>rw[js,hrd1_len,ih]
theorem jH{vs:List Vw}(k:Nat):(qK vs k).length=vs.length:=by
 induction k with
 | zero=>simp[qK]
 | succ k ih=>rw[qK,Y6,ih]
theorem index_h5(v:Vw)(k:Nat)(hk:k<5)(w:Ba):(Instr.index 88 (Ak #[O U v.h0,O U v.h1,O U v.h2,O U v.h3,O U v.h4]) (O U (k:Int))).run Aq w=.ok (O U (v.h k)) w:=by
 obtain rfl | rfl | rfl | rfl | rfl:k=0\/k=1\/k=2\/k=3\/k=4:=by omega
 all_goals kernel_rfl
theorem pheard_any(s:Sy)(hn:s.vs.length<=2100)(hv:∀v∈s.vs,(∃q:Nat,v.p=(q:Int)/\q<5)/\∀q,q<5->v.h q<(s.vs.length:Int))(A SV AV AX:Bb)(kc ks kv kx:Nat)(w:Ba)(hV:VAt w w.heap.size AV s.vs) :
  As Aq 99 #[.agg (s.vs_ A kc SV ks AV kv AX kx)] w fun e w'=>∃g:Nat,e=Am (I (J ⟨g,0,Z⟩) s.vs.length s.vs.length)/\w.heap.size<=g/\RowAt w' g (qK s.vs s.vs.length)/\Ar w.heap.size w w':=by
 obtain⟨w1,ab,d0,aK,hB⟩:=zk w (s.vs_ A kc SV ks AV kv AX kx) 35;obtain⟨w2,bZ,d2,eQ,cH⟩:=zk w1 ((List.replicate s.vs.length 0).map (O U)).toArray 3;have eq:=gJ s.vs.length (by omega);have Ea:Ar w.heap.size w w2:=hB.trans (cH.mono (by omega));have EW:Aw (RowAt w2 (w.heap.size+1) (qK s.vs 0)):=by rw[<-aK];exact d2
 have HD:=zH (Lb cH (by omega:w.heap.size<w1.heap.size) d0);have HV:Aw (VAt w2 w.heap.size AV s.vs):=hV.keep Ea;obtain⟨vs,mz⟩:=Ki s.vs;unfold Sy.vs_ at ab d0 HD ⊢;rw[mz] at ab bZ d0 eq EW HV HD hn hv ⊢;obtain⟨n,Il⟩:=Ki vs.length;have o9:=zH Il;rw[Il] at ab bZ d0 HD eq hn hv ⊢;have Hc:=zH hv;have ai:=zH ab;have KR:=zH bZ;have cJ:=zH Ea;have p8:=zh d0 8 rfl;have HMK:=zH eq;clear ab bZ d0 d2 hB cH Ea hV hv mz eq Il;go_enter func99,ntmps99;go_upto_region 1 with fail
 rw[ai.out];have eq:=HMK.out;go_upto_region 2 with fail
 rw[show((w1.alloc (Ai (Array.replicate n (O U 0)) 3)))=w2 from(by rw[show Array.replicate n (O U 0)=((List.replicate n 0).map (O U)).toArray by simp];exact KR.out)];have p8:=zh HD.out 8 rfl;go_wp2_with fail
 go_loopw [17] (fun i wr=>∃k:Nat,k<=n/\i=O U (k:Int)/\Aw (RowAt wr (w.heap.size+1) (qK vs k))/\Aw (Ar (w.heap.size+1) w2 wr)) (fun i _=>n-(Au i).toNat)
 case atStart=>exact⟨0,by omega,rfl,EW,Ll _ _⟩
 obtain⟨k,hk,rfl,hRk,Tz⟩:=hrel;obtain⟨wE,rfl⟩:∃x,x=wr:=⟨_,rfl⟩
 by_cases MN:k<n
 . obtain⟨v,Dr⟩:∃v,vs[k]'(by have:=o9.out;omega)=v:=⟨_,rfl⟩
   have hvm:v∈vs:=by rw[<-Dr];exact Ld _
   have Oe:Aw (vs.getD k default=v):=by rw[zt (by have:=o9.out;omega),Dr];exact rfl
   obtain⟨⟨pp,hp,hp5⟩,hh⟩:=Hc.out v hvm;have CR:VAt wE w.heap.size AV vs:=HV.out.keep (Tz.out.mono (by omega));obtain⟨ba,oa,rfl,IM,ah⟩:=CR (by have:=o9.out;omega);have aP:=ah k (by have:=o9.out;omega);rw[Dr] at aP;have c0:wE.cell? ⟨ba,oa+k*8,Z⟩=J (O U v.p):=aP 0 _ rfl;have c1:wE.cell? ⟨ba,oa+k*8+1,Z⟩=J (O U v.r):=aP 1 _ rfl;have c2:wE.cell? ⟨ba,oa+k*8+2,Z⟩=J (O U v.i):=aP 2 _ rfl;have c3:wE.cell? ⟨ba,oa+k*8+3,Z⟩=J (O U v.h0):=aP 3 _ rfl;have c4:wE.cell? ⟨ba,oa+k*8+4,Z⟩=J (O U v.h1):=aP 4 _ rfl;have c5:wE.cell? ⟨ba,oa+k*8+5,Z⟩=J (O U v.h2):=aP 5 _ rfl;have c6:wE.cell? ⟨ba,oa+k*8+6,Z⟩=J (O U v.h3):=aP 6 _ rfl;have c7:wE.cell? ⟨ba,oa+k*8+7,Z⟩=J (O U v.h4):=aP 7 _ rfl;rw[hp] at c0;have dh:(0:Int)<=(k:Int):=by omega
   have aW:(k:Int)<(n:Int):=by omega
   obtain⟨W5,dM,d5,lL,nc⟩:=zk wE #[O U (pp:Int),O U v.r,O U v.i,O U v.h0,O U v.h1,O U v.h2,O U v.h3,O U v.h4] 111;have Hn:=zH d5;have nh:=zH dM;have cj:=zH nc;have HH:=zH hh;have HP:=zH hp;clear Dr hvm CR ah aP dM d5 nc hh hp;go_upto_region 5 with fail
   rw[nh.out];have dl:=hRk.out;obtain⟨o,ho⟩:=Ki (qK vs k);have HO:=zH ho;have l7:o.length=n:=by rw[<-ho,jH];exact o9.out
   have oZ:=zH l7;have hR5:RowAt W5 (w.heap.size+1) o:=by rw[<-ho];exact Lb cj.out dl.lt dl
   have ec:=zi hR5 k;obtain⟨zq,q0⟩:∃z,W5.cell? ⟨w.heap.size+1,k,Z⟩=J (O U z):=⟨_,hR5.cell k (by omega)⟩;have p0:=zh Hn.out 0 rfl;have hsh:=shl_one (N:=pp) (by omega);have fj:(0:Int)<=(pp:Int):=by omega
   have iM:=zH hR5;go_upto_region 6 with fail
   have bZ:wrap64 (2^pp)=((2^pp:Nat):Int):=by
    obtain rfl | rfl | rfl | rfl | rfl:pp=0\/pp=1\/pp=2\/pp=3\/pp=4:=by omega
    all_goals kernel_rfl
   rw[bZ];have ck:=iM.out.set k ((2^pp:Nat):Int);have lZ:∀z,z≠w.heap.size+1->(W5.setCell ⟨w.heap.size+1,k,Z⟩ (O U ((2^pp:Nat):Int))).heap[z]?=W5.heap[z]?:=fun z hz=>Lh W5 ⟨w.heap.size+1,k,Z⟩ _ z hz
   have DK:w.heap.size+1<=wE.heap.size:=by
    have:=Tz.out.size;have:=aK;have:=eQ;omega
   have mY:Ar (w.heap.size+1) wE (W5.setCell ⟨w.heap.size+1,k,Z⟩ (O U ((2^pp:Nat):Int))):=(cj.out.mono DK).setCell (Le _) _;obtain⟨W6,CQ⟩:=Ki (W5.setCell ⟨w.heap.size+1,k,Z⟩ (O U ((2^pp:Nat):Int)));rw[CQ] at ck lZ mY ⊢;have EZ:w.heap.size+2<=wE.heap.size:=by have:=Tz.out.size;omega
   have HEl:=zH EZ;have tF:=zH ((lZ wE.heap.size (by omega)).trans Hn.out)
   have UC:Aw (RowAt W6 (w.heap.size+1) (js v k o 0)):=by
    show RowAt W6 _ (o.set k ((2^v.p.toNat:Nat):Int));rw[HP.out,Lo];exact ck
   have fA:=zH mY;have HS6:Aw (wE.heap.size<W6.heap.size):=zj tF.out;have c3:=zh tF.out 3 rfl;have c4:=zh tF.out 4 rfl;have c5:=zh tF.out 5 rfl;have c6:=zh tF.out 6 rfl;have c7:=zh tF.out 7 rfl;go_wp2_with fail
   go_loopw [30] (fun i wr=>∃q:Nat,q<=5/\i=O U (q:Int)/\Aw (RowAt wr (w.heap.size+1) (js v k o q))/\Aw (Wrote (fun z=>z=w.heap.size+1) W6 wr)) (fun i _=>5-(Au i).toNat)
   case atStart=>exact⟨0,by omega,rfl,UC,Wrote.refl _ _⟩
   obtain⟨q,hq,rfl,EU,S7⟩:=hrel;have EZ:=HEl.out;have bk:=(S7.out.block wE.heap.size HS6.out (by show ¬wE.heap.size=w.heap.size+1;omega)).trans tF.out
   by_cases Ie:q<5
   . have DM:=index_h5 v q Ie wr
     have hxn:=HH.out q Ie;have dW:js v k o (q+1)=XN v.r k (v.h q) (js v k o q):=rfl;obtain⟨x,hx⟩:=Ki (v.h q);rw[hx] at DM hxn dW;obtain⟨oq,hoq⟩:=Ki (js v k o q);have hoql:oq.length=n:=by rw[<-hoq,Y6,oZ.out]
     rw[hoq] at EU dW;have r1:=zh bk 1 rfl;have dq:=zH dW;have pW:(q:Int)<5:=by omega
     by_cases OW:0<v.r
     case neg=>
      have IU:Aw (RowAt wr (w.heap.size+1) (js v k o (q+1))):=by rw[dq.out];unfold XN;rw[Lg (by omega)];exact EU.out
      go_wp2_with fail
      go_roundw
      case rel=>exact⟨q+1,by omega,by go_num,IU,S7⟩
      simp[Au];omega
     by_cases oK:0<=x
     case neg=>
      have IU:Aw (RowAt wr (w.heap.size+1) (js v k o (q+1))):=by rw[dq.out];unfold XN;rw[Lg (by omega)];exact EU.out
      go_wp2_with fail
      go_roundw
      case rel=>exact⟨q+1,by omega,by go_num,IU,S7⟩
      simp[Au];omega
     obtain⟨y,rfl⟩:=Lp oK;have c1:=EU.out.cell k (by omega);have c2:=EU.out.cell y (by omega);have hd1:oq.getD k 0=oq[k]'(by omega):=zt (by omega) 0;have Wk:oq.getD y 0=oq[y]'(by omega):=zt (by omega) 0;rw[<-hd1] at c1;rw[<-Wk] at c2;have hE:XN v.r k (y:Int) oq=oq.set k (bits BinOp.or U (oq.getD k 0) (oq.getD y 0)):=by unfold XN;rw[Li (by omega),Lo]
     rw[hE] at dq;obtain⟨a1,fK⟩:=Ki (oq.getD k 0);obtain⟨a2,iK⟩:=Ki (oq.getD y 0);rw[fK] at c1 dq;rw[iK] at c2 dq;have ec:=zi EU.out k;have CT:=EU.out.set k (bits BinOp.or U a1 a2);rw[<-dq.out] at CT;have IU:Aw (RowAt (wr.drew.setCell ⟨w.heap.size+1,k,Z⟩ (O U (bits BinOp.or U a1 a2))) (w.heap.size+1) (js v k o (q+1))):=CT;have MV:Aw (Wrote (fun z=>z=w.heap.size+1) W6 (wr.drew.setCell ⟨w.heap.size+1,k,Z⟩ (O U (bits BinOp.or U a1 a2)))):=(S7.out.trans (Wrote.of_below ((Ll _ wr).drew)) (fun _ _ h=>h)).trans (Wrote.of_grown (zV wr.drew (w.heap.size+1) k _) (fun z e _=>by cases e;rfl)) (fun _ _ h=>h);go_upto_region 10 with fail
     refine zw [(0,AA),(1,AA),(2,AA),(3,AA),(4,AA),(5,AA),(6,AA),(7,AA),(8,AA),(9,AC),(10,AC)] (fun X=>X=wr.drew) (by kernel_rfl) (by kernel_rfl) rfl ?_
     repeat
      apply zA rfl
      . rintro K' ac X rfl
        go_simp;exact ac
     refine zx rfl ?_;intro K' ac;go_simp;refine ac _ _ rfl ?_;refine xg rfl (by kernel_rfl) ?_;intro K' ac;go_simp;refine ac (fun _=>True) _ _ trivial ?_;refine zO ?_;go_wp2_with fail
     go_roundw
     case rel=>exact⟨_,_,_,_,_,_,_,_,_,_,_,_,_,_,_,_,_,_,_,_,_,_,⟨q+1,by omega,by go_num,IU,MV⟩,rfl⟩
     simp[Au];omega
   obtain rfl:q=5:=by omega
   have IU:Aw (RowAt wr (w.heap.size+1) (qK vs (k+1))):=by
    show RowAt wr _ (js (vs.getD k default) k (qK vs k) 5);rw[Oe.out,HO.out];exact EU.out
   have hBn:Aw (Ar (w.heap.size+1) w2 wr):=(Tz.out.trans fA.out).trans (XX S7.out (by have:=HEl.out;have:=HS6.out;omega));go_wp2_with fail
   go_roundw
   case rel=>exact⟨k+1,by omega,by go_num,IU,hBn⟩
   simp[Au];omega
 obtain rfl:n=k:=by omega
 go_wp2_with fail;go_ret;exact⟨w.heap.size+1,rfl,Nat.le_succ _,hRk.out,cJ.out.trans (Tz.out.mono (Nat.le_succ _))⟩
end
section
open Go.RowKit
def LowV(vs:List Vw):Prop:=∀i (hi:i<vs.length),∀q,q<5->vs[i].h q<(i:Int)
theorem LowV.snoc{vs:List Vw}{v:Vw}(h:LowV vs)(hv:∀q,q<5->v.h q<(vs.length:Int)):LowV (vs++[v]):=fun i hi q hq=>by
 by_cases aa:i<vs.length
 . rw[PP aa];exact h i aa q hq
 . rw[Lw,RL] at hi
   obtain rfl:i=vs.length:=by omega
   rw[N5 (by omega)];simpa using hv q hq
theorem putW_asc{vs:List Vw}{v:Vw}(h:LowV vs)(hv:∀q,q<5->v.h q<(vs.length:Int)):LowV (qu vs v).1:=by
 unfold qu
 split
 . exact h
 exact h.snoc hv
theorem Yx{f:Nat->Vw}{vs:List Vw}(h:LowV vs):∀n,(∀p,p<n->∀q,q<5->(f p).h q<(vs.length:Int))->LowV (yH f vs n).1
 | 0,_=>h
 | n+1,hf=>by
  rw[yH];refine putW_asc (Yx h n fun p hp=>hf p (by omega)) fun q hq=>?_
  have h1:=hf n (by omega) q hq;obtain⟨us,hu⟩:=vm f vs n;rw[hu,Lw];omega
theorem firstE_h(p:Nat)(i:Int)(q:Nat)(_hq:q<5):(xr p i).h q=-1:=by
 match q,_hq with
 | 0,_=>rfl
 | 1,_=>rfl
 | 2,_=>rfl
 | 3,_=>rfl
 | 4,_=>rfl
theorem play_asc{vs:List Vw}{n:Nat}{inp:List Int}{word:List Rd}(h:LowV vs):∀j,LowV (zI vs n inp word j).1
 | 0=>by
  rw[zI];refine Yx h n fun p _ q hq=>?_
  rw[firstE_h p _ q hq];omega
 | j+1=>by
  rw[zI];refine Yx (play_asc h j) n fun p _ q hq=>?_
  rw[jV _ _ _ _ q hq];unfold yo;rw[jW vs n inp word j j (Le _)]
  split
  . rename_i hc
    rw[jD] at hc;exact(vX vs n inp word j j q (Le _) hc.1).lt.2
  . omega
theorem runW_asc(p:Pb)(l:List (Nat×List Rd)):LowV (zK p l).1:=by
 have key:∀n,n<=l.length->LowV (zK p (l.take n)).1:=by
  intro n
  induction n with
  | zero=>intro _;rw[L1,jB];intro i hi;cases hi
  | succ n ih=>
   intro hn;rw[Lr (by omega),qz];exact play_asc (ih (by omega)) _
 have:=key l.length (Le _);rwa[LC] at this
theorem QW(p:Pb):LowV (yu p).vs:=runW_asc p _
theorem or_32{a b:Nat}(ha:a<32)(hb:b<32):bits BinOp.or U (a:Int) (b:Int)=((a ||| b:Nat):Int):=by
 have h:∀a:Nat,a<32->∀b:Nat,b<32->bits BinOp.or U (a:Int) (b:Int)=((a ||| b:Nat):Int):=by decide +kernel
 exact h a ha b hb
theorem uc{l:List Int}{i j:Nat}{x:Int}:(l.set i x).getD j 0=if i=j/\i<l.length then x else l.getD j 0:=by
 rw[Lk,Lk,P6]
 by_cases e:i=j
 . subst e
   by_cases h:i<l.length
   . simp[h]
   simp[h]
 simp[e]
theorem Y5{v:Vw}{i j:Nat}{o:List Int}(h:i≠j)(q:Nat):(js v i o q).getD j 0=o.getD j 0:=by
 induction q with
 | zero=>rw[js,uc,Lg (fun e=>h e.1)]
 | succ q ih=>
  rw[js];unfold XN
  split
  . rw[uc,Lg (fun e=>h e.1),ih]
  . exact ih
theorem gQ{vs:List Vw}{k:Nat}:∀m,k<=m->∀i,i<k->(qK vs m).getD i 0=(qK vs k).getD i 0
 | 0,hm,i,hi=>by omega
 | m+1,hm,i,hi=>by
  by_cases e:k=m+1
  . subst e;rfl
  . rw[qK,Y5 (by omega),gQ m (by omega) i hi]
theorem vA{vs:List Vw}(hl:LowV vs){i:Nat}(hi:i<vs.length){p:Nat}(hp:vs[i].p=(p:Int))(hp5:p<5)
  (hE:∀j,j<i->∃S:Nat,(qK vs vs.length).getD j 0=(S:Int)/\S<32) :
  ∃S:Nat,(qK vs vs.length).getD i 0=(S:Int)/\S<32/\∀o,o<5->(S.testBit o=AA↔o=p\/(0<vs[i].r/\∃q,q<5/\0<=vs[i].h q/\∃T:Nat,(qK vs vs.length).getD (vs[i].h q).toNat 0=(T:Int)/\T.testBit o=AA)):=by
 have hv:vs.getD i default=vs[i]:=by rw[Lk,Ln hi];rfl
 have key:∀q,q<=5->∃S:Nat,(js vs[i] i (qK vs i) q).getD i 0=(S:Int)/\S<32/\∀o,o<5->(S.testBit o=AA↔o=p\/(0<vs[i].r/\∃q',q'<q/\0<=vs[i].h q'/\∃T:Nat,(qK vs vs.length).getD (vs[i].h q').toNat 0=(T:Int)/\T.testBit o=AA)):=by
  intro q
  induction q with
  | zero=>
   intro _;refine⟨2^p,?_,?_,fun o ho=>?_⟩
   . rw[js,uc,Li ⟨rfl,by rw[jH];exact hi⟩,hp,Lo]
   . exact LF (Nat.pow_lt_pow_right (by omega) hp5) (by decide)
   . rw[Nat.testBit_two_pow]
     simp only[decide_eq_true_eq];constructor
     . intro e;exact .inl e.symm
     . rintro(e | ⟨_,q',OX,_⟩)
       . exact e.symm
       . omega
  | succ q ih=>
   intro hq;obtain⟨S,e,hS,hb⟩:=ih (by omega);rw[js];unfold XN
   by_cases hc:0<vs[i].r/\0<=vs[i].h q
   . rw[Li hc]
     have aa:=hl i hi q (by omega);obtain⟨T,eT,hT⟩:=hE (vs[i].h q).toNat (by omega)
     have eT2:(js vs[i] i (qK vs i) q).getD (vs[i].h q).toNat 0=(T:Int):=by
      rw[Y5 (by omega),<-gQ vs.length (show i<=vs.length by omega) _ (show(vs[i].h q).toNat<i by omega),eT]
     refine⟨S ||| T,?_,Nat.or_lt_two_pow (n:=5) hS hT,fun o ho=>?_⟩
     . rw[uc,Li ⟨rfl,by rw[Y6,jH];exact hi⟩,e,eT2]
       exact or_32 hS hT
     . rw[Nat.testBit_or,PE,hb o ho]
       constructor
       . rintro((e1 | ⟨h0,q',OX,r⟩) | h)
         . exact .inl e1
         . exact .inr ⟨h0,q',by omega,r⟩
         . exact .inr ⟨hc.1,q,by omega,hc.2,T,eT,h⟩
       . rintro(e1 | ⟨h0,q',OX,h2,T',WH,r⟩)
         . exact .inl (.inl e1)
         . by_cases e2:q'=q
           . subst e2
             rw[eT] at WH;have:T=T':=by omega
             subst this;exact .inr r
           . exact .inl (.inr ⟨h0,q',by omega,h2,T',WH,r⟩)
   . rw[Lg hc]
     refine⟨S,e,hS,fun o ho=>(hb o ho).trans ?_⟩;constructor
     . rintro(e1 | ⟨h0,q',OX,r⟩)
       . exact .inl e1
       . exact .inr ⟨h0,q',by omega,r⟩
     . rintro(e1 | ⟨h0,q',OX,h2,r⟩)
       . exact .inl e1
       . by_cases e2:q'=q
         . subst e2;exact absurd ⟨h0,h2⟩ hc
         . exact .inr ⟨h0,q',by omega,h2,r⟩
 obtain⟨S,e,hS,hb⟩:=key 5 (Le _);refine⟨S,?_,hS,hb⟩;rw[gQ vs.length (show i+1<=vs.length by omega) i (by omega),qK,hv];exact e
theorem QD{vs:List Vw}(hl:LowV vs)(hp:∀v∈vs,∃p:Nat,v.p=(p:Int)/\p<5):∀i,i<vs.length->∃S:Nat,(qK vs vs.length).getD i 0=(S:Int)/\S<32:=by
 intro i
 induction i using Nat.strongRecOn with
 | ind i ih=>
  intro hi;obtain⟨p,h1,h2⟩:=hp _ (Ld hi);obtain⟨S,e,hS,_⟩:=vA hl hi h1 h2 (fun j hj=>ih j hj (by omega));exact⟨S,e,hS⟩
def HR(N:Nat)(word:List Rd):Nat->Nat->Nat->Prop
 | 0,q,o=>o=q
 | k+1,q,o=>∃m,m<N/\((word.getD k default).h q).toNat.testBit m=AA/\HR N word k m o
theorem HR_own{s:Sy}{K N:Nat}(hF:Fine s K N){x:Exn}(hx:x∈s.xs):∀k,k<=K->∀q,q<N->HR N x.word k q q
 | 0,_,q,_=>rfl
 | k+1,hk,q,hq=>by
  obtain⟨r1,n1⟩:=hF.round hx (show k<K by omega);obtain⟨m,hm,_,hb⟩:=QE r1 n1 hF.n5 hq;exact⟨q,hq,by rw[hm,Lo];exact hb,HR_own hF hx k (by omega) q hq⟩
theorem hrd_view{s:Sy}{K N:Nat}(hF:Fine s K N)(hS:Sees s K N)(hl:LowV s.vs){x:Exn}(hx:x∈s.xs):∀k,k<=K->∀q,q<N->∃S:Nat,(qK s.vs s.vs.length).getD (xw x k q).toNat 0=(S:Int)/\S<32/\∀o,o<5->(S.testBit o=AA↔HR N x.word k q o):=by
 have fl:=hF.n5;have oN:=QD hl (fun v hv=>by obtain⟨⟨p,h1,h2⟩,_⟩:=hF.vs v hv;exact⟨p,h1,by omega⟩);intro k
 induction k with
 | zero=>
  intro _ q hq;have ha:=hS.v0 x hx q hq;obtain⟨hi,e⟩:=Lv.1 ha.2;obtain⟨S,e1,e2,e3⟩:=vA hl hi (p:=q) (by rw[e];rfl) (by omega) (fun j hj=>oN j (by omega));refine⟨S,e1,e2,fun o ho=>(e3 o ho).trans ?_⟩;rw[e];constructor
  . rintro(h | ⟨h0,_⟩)
    . exact h
    . exact absurd h0 (by show ¬((0:Int)<0);omega)
  . exact fun h=>.inl h
 | succ k ih=>
  intro hk q hq;have ha:=hS.vk x hx k (by omega) q hq;obtain⟨hi,e⟩:=Lv.1 ha.2;obtain⟨S,e1,e2,e3⟩:=vA hl hi (p:=q) (by rw[e];rfl) (by omega) (fun j hj=>oN j (by omega));obtain⟨r1,n1⟩:=hF.round hx (show k<K by omega);obtain⟨m0,lO,hmN,hb⟩:=QE r1 n1 fl hq;obtain⟨iR,hp1⟩:=hF.row hx (show k<=K by omega);refine⟨S,e1,e2,fun o ho=>(e3 o ho).trans ?_⟩;rw[e]
  have dt:∀m,((x.word.getD k default).h q).toNat.testBit m=AA->m<N:=fun m hm=>by
   rw[lO,Lo] at hm
   by_cases h:m<N
   . exact h
   . rw[Nat.testBit_lt_two_pow (LF hmN (L6 (by omega) (by omega)))] at hm
     cases hm
  constructor
  . rintro(rfl | ⟨_,m,oD,DF,T,eT,hT⟩)
    . exact HR_own hF hx (k+1) hk o hq
    . rw[jV _ _ _ _ m oD] at DF eT
      unfold yo at DF eT
      by_cases hc:m<(x.views.getD k []).length/\((x.word.getD k default).h q).toNat.testBit m=AA
      . rw[Li hc] at eT
        have tT:m<N:=by omega
        obtain⟨S',f1,f2,f3⟩:=ih (by omega) m tT;have e':(x.views.getD k []).getD m 0=xw x k m:=rfl;rw[e',f1] at eT;have:S'=T:=by omega
        subst this;exact⟨m,tT,hc.2,(f3 o ho).1 hT⟩
      . rw[Lg hc] at DF
        exact absurd DF (by omega)
  . rintro⟨m,tT,oS,hR⟩
    obtain⟨S',f1,f2,f3⟩:=ih (by omega) m tT;have e':(x.views.getD k []).getD m 0=xw x k m:=rfl;have hc:m<(x.views.getD k []).length/\((x.word.getD k default).h q).toNat.testBit m=AA:=⟨by omega,oS⟩;refine .inr ⟨by show(0:Int)<((k+1:Nat):Int);omega,m,by omega,?_,S',?_,(f3 o ho).2 hR⟩
    . rw[jV _ _ _ _ m (by omega)]
      unfold yo;rw[Li hc,e'];obtain⟨v,hv,_⟩:=hS.pr hx (show k<=K by omega) tT;exact hv.lt.1
    . rw[jV _ _ _ _ m (by omega)]
      unfold yo;rw[Li hc,e',f1]
def xN(s:Sy)(out:List Int)(h:Fh)(x:Nat×Nat):Bool:=
 if h.op=0 then AA
 else if h.op=1 then decide ((yt s.p (s.xs.getD x.1 default).c.toNat).getD h.p.toNat 0=h.v)
 else if h.op=2 then decide (h.v∈yt s.p (s.xs.getD x.1 default).c.toNat)
 else if h.op=3 then ((qK s.vs s.vs.length).getD (xw (s.xs.getD x.1 default) x.2 h.p.toNat).toNat 0).toNat.testBit h.o.toNat
 else if h.op=4 then decide (0<x.2)&&(((s.xs.getD x.1 default).word.getD (x.2-1) default).f).toNat.testBit h.p.toNat
 else if h.op=5 then decide (0<out.length)&&decide (out.getD (xw (s.xs.getD x.1 default) x.2 h.p.toNat).toNat 0=h.v)
 else decide ((x.2:Int)=h.v)
def qP(s:Sy)(out:List Int)(h:Fh):List Bool:=(zu (s.p.k.toNat+1) 0 s.xs.length).map (xN s out h)
def atmE(s:Sy)(out:List Int)(d:Nat)(f:Fm):List Bool×Int:=
 if yh s≠0 then ([],yh s) else if 0<out.length/\out.length≠s.vs.length then ([],15) else if qH s.n d f≠0 then ([],qH s.n d f) else if 0<f.args.length then ([],11) else (qP s out f.h,0)
theorem vQ(s:Sy)(out:List Int)(h:Fh):(qP s out h).length=s.xs.length*(s.p.k.toNat+1):=by unfold qP;rw[LJ,kM _ _ (by omega)]
structure AtmOk(N:Nat)(h:Fh):Prop where
 op0:0<=h.op
 op6:h.op<=6
 p:h.op=1\/h.op=3\/h.op=4\/h.op=5->0<=h.p/\h.p<(N:Int)
 o:h.op=3->0<=h.o/\h.o<(N:Int)
theorem atm_ok{n:Int}{N:Nat}(hn:n=(N:Int)){d:Nat}{f:Fm}(h:qH n d f=0)(ha:f.args.length=0):AtmOk N f.h:=by
 have dr:xV N f.h 0=0:=by
  unfold qH at h
  split at h
  . cases h
  split at h
  . rename_i h2;exact absurd h h2
  have e : kK n.toNat d f = if xV N f.h 0 ≠ 0 then xV N f.h 0 else kK n.toNat d f := by
   have hN:n.toNat=N:=by omega
   rw[hN]
   cases d<;>(unfold kK ZU;rw[ha];split<;>simp_all)
  rw[e] at h
  split at h
  . exact h
  rename_i h3;simpa using h3
 unfold xV at dr
 by_cases h1:f.h.op<0\/17<f.h.op
 . rw[Li h1] at dr;cases dr
 rw[Lg h1] at dr
 by_cases h2:((0:Nat):Int)≠arN f.h.op
 . rw[Li h2] at dr;cases dr
 rw[Lg h2] at dr
 have h6:f.h.op<=6:=by
  unfold arN at h2
  by_cases e1:f.h.op=8\/f.h.op=9\/f.h.op=17
  . rw[Li e1] at h2;simp at h2
  rw[Lg e1] at h2
  by_cases e2:f.h.op<=6
  . exact e2
  rw[Lg e2] at h2;simp at h2
 refine⟨by omega,h6,fun hp=>?_,fun ho=>?_⟩
 . have hu:usP f.h.op=AA:=by unfold usP;rw[Ng];omega
   by_cases hr:0<=f.h.p/\f.h.p<=(N:Int)-1
   . omega
   rw[Li (.inl ⟨hu,hr⟩)] at dr;cases dr
 have hu:usO f.h.op=AA:=by unfold usO;rw[Ng];omega
 by_cases hr:0<=f.h.o/\f.h.o<=(N:Int)-1
 . omega
 rw[Li (.inr (.inl ⟨hu,hr⟩))] at dr;cases dr
end
section
open Go.RowKit
structure K5 where
 a:Int
 b:Int
 c:Int
 d:Int
 e:Int
deriving DecidableEq
def k5C(x:K5):Array Ax:=#[O U x.a,O U x.b,O U x.c,O U x.d,O U x.e]
def k5E(x:K5):Ax:=.agg (k5C x)
theorem k5_inj(a b:K5)(h:k5E a=k5E b):a=b:=by
 unfold k5E k5C at h;injection h with h
 obtain⟨a0,a1,a2,a3,a4⟩:=a;obtain⟨b0,b1,b2,b3,b4⟩:=b;simpa using h
open Classical in
theorem Jz:KeyOk Aq 88 k5E where
 inj:=k5_inj
 check:=fun w em v=>QR w em _ v.a v.b v.c v.d v.e
 equal:=fun w a b=>by
  unfold Op.equal Op.maxDepth k5E k5C;rw[gT _ ⟨0,0,0,a.a,a.b,a.c,a.d,a.e⟩ ⟨0,0,0,b.a,b.b,b.c,b.d,b.e⟩ w]
  by_cases h:a=b
  . subst h;simp[hE]
  . have:¬(k5E a=k5E b):=fun e=>h (k5_inj a b e)
    unfold k5E k5C at this;rw[Lj this];obtain⟨a0,a1,a2,a3,a4⟩:=a;obtain⟨b0,b1,b2,b3,b4⟩:=b;simpa[hE] using h
 now:=fun d hd=>.inr fun a b=>by
  rw[Pt] at hd
  cases hd
  simp[Instr.sameNow]
 stays:=fun a=>by simp[Instr.sameBits,k5E,k5C]
 kind:=⟨_,Pt⟩
end
section
open Go.RowKit Go.Shelf
section
variable {κ:Type} [DecidableEq κ] {enc:κ->Ax}
def nuG(l:List κ):κ->Option Ax:=fun k=>if k∈l then J (O U (l.idxOf k:Int)) else Z
theorem nuG_nil:nuG ([]:List κ)=fun _=>Z:=by funext k;simp[nuG]
theorem nuG_put{l:List κ}{k:κ}(h:k∉l):xH (nuG l) k (O U (l.length:Int))=nuG (l++[k]):=by
 funext x
 unfold xH nuG
 by_cases e:x=k
 . subst e
   rw[Li rfl,Li (by simp),NO,Lg h];simp
 rw[Lg e]
 by_cases hx:x∈l
 . rw[Li hx,Li (by simp[hx]),NO,Li hx]
 rw[Lg hx,Lg (by simp[hx,e])]
theorem nuG_count{w:Ba}{b n:Nat}{us:List κ}(inj:∀a b,enc a=enc b->a=b)(h:MapOf enc w b n (nuG us))(hu:us.Nodup):∃es bG,w.heap[b]?=J (.map es bG)/\es.size=us.length:=
 h.count inj hu (fun k=>by
  unfold nuG
  by_cases hk:k∈us
  . simp[hk]
  . simp[hk])
end
structure NkIn{κ:Type}[DecidableEq κ](enc:κ->Ax)(FT MT:TypeId)(B:Nat)(S:Array Ax)(F:Ax)(R:Nat->Prop)(us:List κ)(ls:List Int)(w W:Ba):Prop where
 wrote:Wrote R w W
 b0:W.heap[B]?=J (Ai S 35 (0,0))
 b1:W.heap[B+1]?=J (Ai #[F] FT (0,0))
 b3:W.heap[B+1+1+1]?=J (Ai #[.map (J (B+1+1))] MT (0,0))
 b5:W.heap[B+1+1+1+1+1]?=J (Ai S 35 (0,0))
 hm:∃m,MapOf enc W (B+1+1) m (nuG us)
 box:∃P c,W.heap[B+1+1+1+1]?=J (Ai #[I P ls.length c] 36 (0,0))/\Own W (B+6) (I P ls.length c) ls
 sz:B+6<=W.heap.size
section
variable {B:Nat} {S:Array Ax} {F:Ax} {R:Nat->Prop} {κ:Type} [DecidableEq κ] {enc:κ->Ax} {FT MT:TypeId} {us:List κ} {ls:List Int} {w W W':Ba}
theorem NkIn.turn{row:Option Nat}(h:NkIn enc FT MT B S F R us ls w W)(hw:w.heap.size<=B)(hg:W.grownBy W' row)(hr:∀r,row=J r->B+6<=r/\∃o:Obj,W.heap[r]?=J o/\o.isCells=AC):NkIn enc FT MT B S F R us ls w W':=by
 obtain⟨P,c,hb,ho⟩:=h.box;obtain⟨m,hm⟩:=h.hm;have aX:=h.sz;have old:∀k,k<B+6->W'.heap[k]?=W.heap[k]?:=fun k hk=>hg.block k (by omega) (fun e=>by have:=(hr k e.symm).1;omega)
 refine⟨h.wrote.trans (Wrote.of_grown (R:=fun k=>w.heap.size<=k) hg (fun k e hk=>by have:=(hr k e).1;omega)) (fun k h1 h2=>by omega),(old B (by omega)).trans h.b0,(old _ (by omega)).trans h.b1,(old _ (by omega)).trans h.b3,(old _ (by omega)).trans h.b5,⟨m,hm.same (old _ (by omega))⟩,⟨P,c,(old _ (by omega)).trans hb,ho.kept hg ?_⟩,Lz aX hg.size⟩;rcases e:(I P ls.length c).ownBlock with _ | g
 . exact .inl rfl
 refine .inr fun e2=>?_
 obtain⟨o,h1,h2⟩:=(hr g e2.symm).2;have:=(vY ho g e).2 o h1;rw[this] at h2;cases h2
theorem NkIn.call(h:NkIn enc FT MT B S F R us ls w W)(hw:Wrote R W W')(hR:∀k,R k->k<B):NkIn enc FT MT B S F R us ls w W':=by
 obtain⟨P,c,hb,ho⟩:=h.box;obtain⟨m,hm⟩:=h.hm;have aX:=h.sz;have old:∀k,B<=k->k<W.heap.size->W'.heap[k]?=W.heap[k]?:=fun k hk hl=>hw.block k hl (fun e=>by have:=hR k e;omega)
 exact⟨h.wrote.trans hw (fun _ _ h=>h),(old B (by omega) (by omega)).trans h.b0,(old _ (by omega) (by omega)).trans h.b1,(old _ (by omega) (by omega)).trans h.b3,(old _ (by omega) (by omega)).trans h.b5,⟨m,hm.same (old _ (by omega) (by omega))⟩,⟨P,c,(old _ (by omega) (by omega)).trans hb,ho.same fun k hk hl=>old k (by omega) hl⟩,Lz aX hw.size⟩
theorem NkIn.put{Om:List κ}{m:Nat}(h:NkIn enc FT MT B S F R us ls w W)(hw:w.heap.size<=B)(hg:W.grownBy W' (J (B+1+1)))(hm:MapOf enc W' (B+1+1) m (nuG Om)):NkIn enc FT MT B S F R Om ls w W':=by
 obtain⟨P,c,hb,ho⟩:=h.box;have aX:=h.sz;have old:∀k,k<W.heap.size->k≠B+1+1->W'.heap[k]?=W.heap[k]?:=fun k hk hl=>hg.block k hk (fun e=>hl (by cases e;rfl))
 exact⟨h.wrote.trans (Wrote.of_grown (R:=fun k=>w.heap.size<=k) hg (fun k e hk=>by cases e;omega)) (fun k h1 h2=>by omega),(old B (by omega) (by omega)).trans h.b0,(old _ (by omega) (by omega)).trans h.b1,(old _ (by omega) (by omega)).trans h.b3,(old _ (by omega) (by omega)).trans h.b5,⟨m,hm⟩,⟨P,c,(old _ (by omega) (by omega)).trans hb,ho.same fun k hk hl=>old k hl (by omega)⟩,Lz aX hg.size⟩
theorem NkIn.push{P P2:Bb}{c c2:Nat}{u:Int}{W1:Ba}(h:NkIn enc FT MT B S F R us ls w W)(hw:w.heap.size<=B)(hb:W.heap[B+1+1+1+1]?=J (Ai #[I P ls.length c] 36 (0,0)))(ho:Own W (B+6) (I P ls.length c) ls)
  (mR:Own W1 (B+6) (I P2 (ls.length+1) c2) (ls++[u])) (hg:W.grownBy W1 (I P ls.length c).ownBlock) :
  NkIn enc FT MT B S F R us (ls++[u]) w (W1.setCell ⟨B+1+1+1+1,0,Z⟩ (I P2 (ls.length+1) c2)):=by
 obtain⟨m,hm⟩:=h.hm;have aX:=h.sz;have lc:=ho.lt;have aK:=hg.size;have tI:∀k,k<B+6->W1.heap[k]?=W.heap[k]?:=fun k hk=>hg.block k (by omega) (fun e=>by have:=(lc k e.symm).1;omega)
 have aq:=(tI _ (by omega)).trans hb;obtain⟨x1,x2,x3⟩:=kI aq (I P2 (ls.length+1) c2);have old:∀k,k<B+6->k≠B+1+1+1+1->(W1.setCell ⟨B+1+1+1+1,0,Z⟩ (I P2 (ls.length+1) c2)).heap[k]?=W.heap[k]?:=fun k hk bj=>(x3 k bj).trans (tI k hk)
 refine⟨?_,(old B (by omega) (by omega)).trans h.b0,(old _ (by omega) (by omega)).trans h.b1,(old _ (by omega) (by omega)).trans h.b3,(old _ (by omega) (by omega)).trans h.b5,⟨m,hm.same (old _ (by omega) (by omega))⟩,⟨P2,c2,by rw[Lw];exact x1,by rw[Lw];exact mR.same fun k hk _=>x3 k (by omega)⟩,by rw[show(W1.setCell ⟨B+1+1+1+1,0,Z⟩ (I P2 (ls.length+1) c2)).heap.size=W1.heap.size by simp[World.setCell]];omega⟩;have a1:Wrote (fun k=>w.heap.size<=k) W W1:=Wrote.of_grown hg (fun k e hk=>by have:=(lc k e).1;omega);have a2:Wrote (fun k=>w.heap.size<=k) W1 (W1.setCell ⟨B+1+1+1+1,0,Z⟩ (I P2 (ls.length+1) c2)):=Wrote.of_grown (zV W1 _ 0 _) (fun k e hk=>by cases e;omega);exact h.wrote.trans (a1.trans a2 (fun _ _ h=>h)) (fun k h1 h2=>by omega)
theorem NkIn.keeps{P:Bb}{c:Nat}{W1:Ba}(h:NkIn enc FT MT B S F R us ls w W)(hb:W.heap[B+1+1+1+1]?=J (Ai #[I P ls.length c] 36 (0,0)))(ho:Own W (B+6) (I P ls.length c) ls)
  (hg:W.grownBy W1 (I P ls.length c).ownBlock) (v:Ax):KeepsFrom (B+6) W (W1.setCell ⟨B+1+1+1+1,0,Z⟩ v)/\KeepB (fun k=>k=B+1+1+1+1+1) W (W1.setCell ⟨B+1+1+1+1,0,Z⟩ v):=by
 have lc:=ho.lt;have aX:=h.sz;have aK:=hg.size;have aq:=(hg.block (B+1+1+1+1) (by omega) (fun e=>by have:=(lc _ e.symm).1;omega)).trans hb;obtain⟨x1,x2,x3⟩:=kI aq v;refine⟨⟨by simp[World.setCell];omega,fun k o hk aW mR=>?_⟩,⟨by simp[World.setCell];omega,fun k hk hl=>?_⟩⟩
 . refine(x3 k (by omega)).trans ((hg.block k (zj aW) (fun e=>?_)).trans aW)
   have:=(vY ho k e.symm).2 o aW;rw[this] at mR;cases mR
 subst hk;exact(x3 _ (by omega)).trans (hg.block _ (by omega) (fun e=>by have:=(lc _ e.symm).1;omega))
end
end
section
open Go.RowKit Go.Shelf
attribute [local go_sem] Oper.semAt_some
theorem XJ(s:Sy)(K M:Nat)(hK:K<=100)(hM:M<=100)(hk:s.p.k=(K:Int))(hx:s.xs.length=M)(A SV AV AX:Bb)(kc ks kv kx:Nat)(kf:Nat)(kb:Array Ax)(ek:Enters Aq kf)(key:Nat×Nat->K5)
  (R:Nat->Prop) (Ah:Ba->Prop) (w:Ba) (hR:∀k,R k->k<w.heap.size) (mh:Ah w) (hJ:∀W W',Ah W->Wrote (fun k=>w.heap.size<=k) W W'->Ah W')
  (lq:∀x∈zu (K+1) 0 M,∀W,Ah W->w.heap.size<=W.heap.size->As Aq kf (#[Ak #[O U x.1,O U x.2]]++kb) W fun e w'=>e=Am (k5E (key x))/\Ah w'/\Wrote R W w') :
  As Aq 131 #[.agg (s.vs_ A kc SV ks AV kv AX kx),.func (.func kf) #[] kb] w fun e w'=>∃v,e=Am v/\Own w' w.heap.size v (yE ((zu (K+1) 0 M).map key))/\Ah w'/\Wrote R w w':=by
 have hC:PtC (s.vs_ A kc SV ks AV kv AX kx) K M AX kx:=⟨by unfold Sy.vs_;rw[<-hk];rfl,by unfold Sy.vs_;rw[<-hx];rfl⟩
 have aS:(zu (K+1) 0 M).length<=20000:=by
  rw[kM (K+1) M (by omega)];exact Lz (LU hM (show K+1<=101 by omega)) (by decide)
 have lh:=zH (fun (bs:Nat) (W:Ba) (hb:W.heap[bs]?=J (Ai (s.vs_ A kc SV ks AV kv AX kx) 35 (0,0)))=>hU (s.vs_ A kc SV ks AV kv AX kx) K M hK hM AX kx hC bs W hb);have sj:=zH (fun (W:Ba)=>JO s A SV AV AX kc ks kv kx W);have Cr:=zH lq;have HJ:=zH hJ;have HJ0:=zH mh;have hz:∀W:Ba,(zeroValue 3).run Aq W=.ok (O U 0) W:=fun W=>by kernel_rfl
 have ht:Aq.underlying 229=J (.map 88 3):=underlying229;have lm:=@run_makeMap Aq;obtain⟨L,hL⟩:=Ki (zu (K+1) 0 M);rw[hL] at lh Cr aS ⊢;unfold Sy.vs_ at lh sj ⊢;clear lq hJ mh hL hC hk hx;refine xm func131 rfl ?_;simp only[ntmps131,List.size_toArray,List.length_cons,List.length_nil,Nat.reduceAdd,Nat.reduceSub,Array.replicate_succ,Array.replicate_zero,List.push_toArray,List.append_toArray,List.nil_append,List.cons_append];go_wp2_with fail;refine(sj.out _).mono ?_;rintro e w2 ⟨rfl,bZ⟩;obtain⟨S,hS⟩:∃S,S=#[O U s.p.t.n,O U s.p.t.ins,O U s.p.t.outs,I A s.p.t.cases.length kc,O U s.p.a.n,I SV s.p.a.sts.length ks,O U s.p.k,O U s.n,I AV s.vs.length kv,I AX s.xs.length kx]:=⟨_,rfl⟩;rw[<-hS] at bZ lh
 have IX:NkIn k5E 190 229 w.heap.size S (.func (.func kf) #[] kb) R [] [] w w2/\Wrote (fun k=>w.heap.size<=k) w w2:=by
  obtain⟨a1,h1,x1,y1,z1⟩:=zk w S 35;rw[h1] at bZ;obtain⟨a2,h2,x2,y2,z2⟩:=zk a1 #[.func (.func kf) #[] kb] 190;rw[h2] at bZ;obtain⟨a3,h3⟩:=Ki (a2.alloc (.map #[] 0));have m3:MapOf k5E a3 a2.heap.size 0 (fun _=>Z):=by rw[<-h3];exact MapOf.made a2
  have y3:a3.heap.size=a2.heap.size+1:=by rw[<-h3];simp
  have z3:Ar a2.heap.size a2 a3:=by rw[<-h3];exact ye _ _
  rw[h3] at bZ;obtain⟨a4,h4,x4,y4,z4⟩:=zk a3 #[.map (J (w.heap.size+1+1))] 229;rw[h4] at bZ;obtain⟨a5,h5,x5,y5,z5⟩:=zk a4 #[I Z 0 0] 36;rw[h5] at bZ;obtain⟨a6,h6,x6,y6,z6⟩:=zk a5 S 35;rw[h6] at bZ;subst bZ;rw[y1] at x2 y2;rw[y2] at m3 y3;rw[y3] at x4 y4;rw[y4] at x5 y5;rw[y5] at x6 y6
  have w1:Wrote (fun k=>w.heap.size<=k) w a6:=by
   have b1:=(Wrote.of_below (R:=fun k=>w.heap.size<=k) z1).trans (Wrote.of_below (R:=fun k=>w.heap.size<=k) z2) (fun _ _ h=>h);have b2:=(b1.trans (Wrote.of_below (R:=fun k=>w.heap.size<=k) z3) (fun _ _ h=>h)).trans (Wrote.of_below (R:=fun k=>w.heap.size<=k) z4) (fun _ _ h=>h);exact((b2.trans (Wrote.of_below (R:=fun k=>w.heap.size<=k) z5) (fun _ _ h=>h)).trans (Wrote.of_below (R:=fun k=>w.heap.size<=k) z6) (fun _ _ h=>h))
  refine⟨⟨w1.more (fun k h1 h2=>by omega),?_,?_,?_,x6,⟨0,?_⟩,⟨Z,0,?_,Own.nil _ _⟩,by omega⟩,w1⟩
  . exact Lb z6 (by omega) (Lb z5 (by omega) (Lb z4 (by omega) (Lb z3 (by omega) (Lb z2 (by omega) x1))))
  . exact Lb z6 (by omega) (Lb z5 (by omega) (Lb z4 (by omega) (Lb z3 (by omega) x2)))
  . exact Lb z6 (by omega) (Lb z5 (by omega) x4)
  . rw[nuG_nil]
    exact m3.same (Lb z6 (by omega) (Lb z5 (by omega) (z4.block _ (by omega))))
  exact Lb z6 (by omega) x5
 have dw:w2.heap.size=w.heap.size+6:=by rw[<-bZ];simp
 have Od:Aw (Ah w2):=HJ.out w w2 HJ0.out IX.2;have Ma:=zH (lh.out (w.heap.size+1+1+1+1+1) w2 IX.1.b5);have HN:=zH IX.1;go_wp2_with fail
 refine jv rfl (Pg Sk (by kernel_rfl) rfl) Ma.out (by rintro x rfl;omega) (fun _=>rfl)
  (fun (pre:List { x:Nat×Nat // x∈L }) (X:Ba)=>NkIn k5E 190 229 w.heap.size S (.func (.func kf) #[] kb) R (yC (pre.map fun x=>key x.1)) (yE (pre.map fun x=>key x.1)) w X/\Ah X)
  (fun _ _ _=>False)
  ?hI (fun _ _ _ _ _ h _ _=>h)
  ⟨HN.out,Od.out⟩ (fun x=>#[O U x.1,O U x.2]) 164 ?a1 ?assign ?body ?done ?stop (fun _ _ h=>by have:=h.1.sz;omega)
 case hI=>
  intro pre X X' row hX hg hr;refine⟨hX.1.turn (Le _) hg (fun r e=>⟨by have:=(hr r e).1;omega,(hr r e).2⟩),HJ.out X X' hX.2 (Wrote.of_grown hg fun k e hk=>by have:=(hr k e).1;omega)⟩
 case assign=>
  intro l pre x X K' hI hK;obtain⟨g',mU⟩:∃g',g'=X.heap.size:=⟨_,rfl⟩;have HK:=zH (hK g' mU ⟨hI.1.turn (Le _) (row:=Z) ⟨rfl,rfl,rfl,by simp,fun k hk _=>N9 X _ k hk⟩ (fun r e=>by cases e),HJ.out X _ hI.2 (Wrote.of_below (ye X _))⟩);have HG:=zH mU;gi_wp2;rw[<-HG.out];exact HK.out
 case body=>
  intro l pre x g W3 hg lw hI aa;obtain⟨us,fF⟩:∃us,yC (pre.map fun x=>key x.1)=us:=⟨_,rfl⟩;obtain⟨ls,pu⟩:∃ls,yE (pre.map fun x=>key x.1)=ls:=⟨_,rfl⟩;have aU:ls.length<=20000:=by rw[<-pu,yv,LJ];omega
  have MC:us.Nodup:=by rw[<-fF];exact Zw _
  obtain⟨kk,CN⟩:=Ki (key x.1);have Hz:yC ((pre++[x]).map fun x=>key x.1)=qi us kk:=by rw[LM,L5,NE,qt,fF,CN]
  have Io:yE ((pre++[x]).map fun x=>key x.1)=ls++[if kk∈us then (us.idxOf kk:Int) else (us.length:Int)]:=by
   rw[LM,L5,NE,qZ,fF,pu,CN]
   congr 2
   by_cases h:kk∈us
   . rw[Li h,Li (yp.1 (fF▸h))]
   rw[Lg h,Lg (fun e=>h (fF▸yp.2 e))]
  rw[fF,pu] at hI;have ak:=Cr.out x.1 x.2 W3 hI.2 (by have:=hI.1.sz;omega);rw[CN] at ak;have HC:=zH ak;have Em:=zH hI.1;have iB:=zH Hz;have mI:=zH Io;have HUN:=zH MC;have q1:=zh hI.1.b1 0 rfl;obtain⟨g0,g1,_⟩:=Ka lw;gi_wp2_with fail;refine⟨trivial,?_⟩;rw[ek];refine⟨fun _=>by omega,(Sz l ((Se (n:=6)).2 HC.out)).mono ?_⟩;rintro e W4 ⟨rfl,M6,fN⟩;have hn4:=Em.out.call fN hR;obtain⟨nZ,sL,d8,CJ,dQ⟩:=zk W4 (k5C kk) 88;have lP:W4.grownBy nZ Z:=by rw[<-sL];exact⟨rfl,rfl,rfl,by simp,fun k hk _=>N9 W4 _ k hk⟩
  have oe:=zH (hn4.turn (Le _) lP (fun r e=>by cases e));have M6:=HJ.out W4 nZ M6 (Wrote.of_below dQ);have UL:=zH M6
  have fN:Aw (KeepsFrom w2.heap.size W3 nZ/\KeepB (fun k=>k=w.heap.size+1+1+1+1+1) W3 nZ):=by
   have hz4:=fN.size;refine⟨⟨by omega,fun k o hk aW _=>(dQ.block k (by have:=zj aW;omega)).trans ((fN.block k (zj aW) (fun e=>by have:=hR k e;omega)).trans aW)⟩,⟨by omega,fun k hk hl=>(dQ.block k (by omega)).trans (fN.block k hl (fun e=>by have:=hR k e;subst hk;omega))⟩⟩
  have mp:=fN;have HD8:=zH d8;have Nv:=zH sL;have hl8:=zj d8;unfold k5C at sL d8;have DL:k5E kk=Ak #[O U kk.a,O U kk.b,O U kk.c,O U kk.d,O U kk.e]:=rfl;have pd:=zH DL;rw[DL];obtain⟨v0,v1,v2,v3,v4,_⟩:=Kh d8;have hz34:w.heap.size+6<=W4.heap.size:=hn4.sz;have q3:=zh oe.out.b3 0 rfl;clear DL hn4 CJ dQ lP
  gi_upto_region 6 with fail
  unfold k5C at HD8;obtain⟨m,hm⟩:=oe.out.hm;have dl:=hm.look2 Jz ht (hz nZ) kk;have Co:=zH hm;clear q1 g0 g1 HC M6 fN hm sL d8
  by_cases dm:kk∈us
  case pos=>
   have hf:nuG us kk=J (O U (us.idxOf kk:Int)):=Li dm;have HNU:Aw ((nuG us kk).getD (O U 0)=O U (us.idxOf kk:Int)):=by rw[hf];rfl
   rw[hf,pd.out] at dl;simp only[Option.getD_some,Option.isSome_some] at dl;have sQ:Aw (yC ((pre++[x]).map fun x=>key x.1)=us):=iB.out.trans (Li dm);have Cq:Aw (yE ((pre++[x]).map fun x=>key x.1)=ls++[(us.idxOf kk:Int)]):=mI.out.trans (by rw[Li dm]);clear iB mI;have iB:=sQ;have mI:=Cq;clear sQ Cq hf dm Co;obtain⟨P,c,bk,ho⟩:=oe.out.box;have aV:=zH bk;have HO:=zH ho;have HJB:=UL;have sU:=mp;have Mh:=HD8.out;clear bk ho;have UU:Aw (nZ.heap[W4.heap.size]?=J (Ai #[O U kk.a,O U kk.b,O U kk.c,O U kk.d,O U kk.e] 88 (0,0))):=Mh;have LD:=zH (And.intro (zj oe.out.b3) (And.intro (zj aV.out) (zj UU.out)))
   have LX:Aw (∀X:Ba,(∀k,k<nZ.heap.size->X.heap[k]?=nZ.heap[k]?)->(Instr.lookup 229 (.map (J (w.heap.size+1+1))) (Ak #[O U kk.a,O U kk.b,O U kk.c,O U kk.d,O U kk.e]) AC).run Aq X=.ok (O U (us.idxOf kk:Int)) X):=fun X hX=>by
    obtain⟨m9,hm9⟩:=oe.out.hm;have h9:=(hm9.same (hX _ (by have:=oe.out.sz;omega))).look Jz ht (hz X) kk;rw[HNU.out,pd.out] at h9;exact h9
   have hzb:=oe.out.sz;gi_wp2_with fail;refine qg [(0,AA),(1,AA),(2,AA),(3,AA),(4,AC),(5,AC),(6,AC)] (fun X=>∀k,k<nZ.heap.size->X.heap[k]?=nZ.heap[k]?) (by kernel_rfl) (by kernel_rfl) (by kernel_rfl) (by rintro⟨_,_,h⟩;exact h) (fun _ _=>rfl) ?_
   repeat
    apply zA rfl
    . rintro K' ac X hX
      have y3:=zh ((hX _ LD.out.1).trans oe.out.b3) 0 rfl;have y4:=zh ((hX _ LD.out.2.1).trans aV.out) 0 rfl;obtain⟨y50,y51,y52,y53,y54,_⟩:=Kh ((hX _ LD.out.2.2).trans UU.out);have ylk:=LX.out X hX;clear hX;go_simp;exact ac
   refine zx rfl ?_;intro K' ac;go_simp;obtain⟨WA,hWA,dA,hsA,le⟩:=Z3 nZ #[O U (us.idxOf kk:Int)] 3;rw[hWA];have hgA:nZ.grownBy WA Z:=⟨le.os,le.tape,le.output,le.size,fun k hk _=>le.block k hk⟩;have UG:=zH (oe.out.turn (Le _) hgA (fun r e=>by cases e));have UK:=zH (HJ.out _ _ HJB.out (Wrote.of_below le));have mt:=zH le;refine ac _ _ (fun k hk=>le.block k hk) ?_;refine xg rfl (by kernel_rfl) ?_;intro K' ac;rw[Li (by rfl)];have iS:=Lb mt.out LD.out.2.1 aV.out;have sv:Own WA (w.heap.size+6) (I P ls.length c) ls:=HO.out.below le (Le _);refine jQ Y3 (.tmp 30) (.tmp 34) (by rfl) (w.heap.size+6) (I P ls.length c) ls.length (ls.map (O U)) (by rfl) sv nZ.heap.size #[O U (us.idxOf kk:Int)] (by rfl) dA rfl (by simp[Value.oneCell']) (by omega) (by omega) _ rfl ?_;intro g6 k6 W6 pV iI DR DG
   have oP:Own W6 (w.heap.size+6) (I (J ⟨g6,0,Z⟩) (ls.length+1) k6) (ls++[(us.idxOf kk:Int)]):=by
    have h:=pV;unfold Own;rw[LM,Lw];exact h
   have pF:=(iI.block (w.heap.size+1+1+1+1) (zj iS) (fun e=>wz sv iS (by decide) e.symm)).trans iS;have q6:=zh pF 0 rfl;have f6:=zi pF 0;have l6:=zj pF;have py:=UG.out.keeps iS sv iI (I (J ⟨g6,0,Z⟩) (ls.length+1) k6);have DC:=UG.out.push (Le _) iS sv oP iI
   have Tu:Ah (W6.setCell ⟨w.heap.size+1+1+1+1,0,Z⟩ (I (J ⟨g6,0,Z⟩) (ls.length+1) k6)):=by
    have a2:Wrote (fun k=>w.heap.size<=k) WA W6:=Wrote.of_grown iI (fun k e hk=>by have:=(sv.lt k e).1;omega);have a3:Wrote (fun k=>w.heap.size<=k) W6 (W6.setCell ⟨w.heap.size+1+1+1+1,0,Z⟩ (I (J ⟨g6,0,Z⟩) (ls.length+1) k6)):=Wrote.of_grown (zV W6 _ 0 _) (fun k e hk=>by cases e;omega);exact HJ.out _ _ UK.out (a2.trans a3 (fun _ _ h=>h))
   have UJ:=zH py;have KW:=zH DC;have HJ6:=zH Tu;refine ac (fun _=>True) _ _ trivial ?_;clear ac K' pV iI DR DG oP pF py DC Tu sv iS le dA hsA;refine zx rfl ?_;intro K' ac;go_simp;refine ac _ _ trivial ?_;clear ac K';refine zO ?_;gi_wp2_with fail;refine⟨(sU.out.1.trans (dw▸qE mt.out)).trans (dw▸UJ.out.1),(sU.out.2.trans (KeepB.of_below mt.out (by rintro k rfl;have:=oe.out.sz;omega))).trans UJ.out.2,?_,HJ6.out⟩;rw[iB.out,mI.out];exact KW.out
  have hf:nuG us kk=Z:=Lg dm;rw[hf,pd.out] at dl;simp only[Option.getD_none,Option.isSome_none] at dl;have sQ:Aw (yC ((pre++[x]).map fun x=>key x.1)=us++[kk]):=iB.out.trans (Lg dm);have Cq:Aw (yE ((pre++[x]).map fun x=>key x.1)=ls++[(us.length:Int)]):=mI.out.trans (by rw[Lg dm]);obtain⟨es,bG,Wh,DP⟩:=nuG_count k5_inj Co.out HUN.out;obtain⟨W5,fH,oD,dv⟩:=Co.out.put Jz ht kk (O U (us.length:Int));rw[nuG_put dm] at oD;have pc:=zH (oe.out.put (Le _) dv oD);have HG5:=zH dv
  have HNU:Aw ((nuG (us++[kk]) kk).getD (O U 0)=O U (us.length:Int)):=by
   unfold nuG Aw;rw[Li (by simp),NO,Lg dm];simp
  have HJB:=zH (HJ.out nZ W5 UL.out (Wrote.of_grown dv fun k e hk=>by cases e;omega))
  have nh:Aw (KeepsFrom w2.heap.size nZ W5/\KeepB (fun k=>k=w.heap.size+1+1+1+1+1) nZ W5):=by
   refine⟨⟨dv.size,fun k o hk aW _=>(dv.block k (zj aW) (fun e=>by cases e;omega)).trans aW⟩,⟨dv.size,fun k hk hl=>dv.block k hl (fun e=>by cases e;omega)⟩⟩
  have sU:=zH (And.intro (mp.out.1.trans nh.out.1) (mp.out.2.trans nh.out.2));obtain⟨P,c,bk,ho⟩:=pc.out.box;have aV:=zH bk;have HO:=zH ho;have q35:=zh pc.out.b3 0 rfl;have Mh:=(HG5.out.block _ (zj HD8.out) (fun e=>by have:=NR e;omega)).trans HD8.out;rw[pd.out] at fH;clear iB mI;have iB:=sQ;have mI:=Cq;clear sQ Cq hf dm Co oD dv bk ho nh
  have px:(Builtin.len_ #[229] 3 #[.map (J (w.heap.size+1+1))]).run Aq nZ=.ok (O U (us.length:Int)) nZ:=by
   rw[<-DP];exact run_len_map nZ _ _ _ es bG (by kernel_rfl) Wh
  clear Wh DP;have UU:Aw (W5.heap[W4.heap.size]?=J (Ai #[O U kk.a,O U kk.b,O U kk.c,O U kk.d,O U kk.e] 88 (0,0))):=Mh;have LD:=zH (And.intro (zj pc.out.b3) (And.intro (zj aV.out) (zj UU.out)))
  have LX:Aw (∀X:Ba,(∀k,k<W5.heap.size->X.heap[k]?=W5.heap[k]?)->(Instr.lookup 229 (.map (J (w.heap.size+1+1))) (Ak #[O U kk.a,O U kk.b,O U kk.c,O U kk.d,O U kk.e]) AC).run Aq X=.ok (O U (us.length:Int)) X):=fun X hX=>by
   obtain⟨m9,hm9⟩:=pc.out.hm;have h9:=(hm9.same (hX _ (by have:=pc.out.sz;omega))).look Jz ht (hz X) kk;rw[HNU.out,pd.out] at h9;exact h9
  have hzb:=pc.out.sz;gi_wp2_with fail;refine qg [(0,AA),(1,AA),(2,AA),(3,AA),(4,AC),(5,AC),(6,AC)] (fun X=>∀k,k<W5.heap.size->X.heap[k]?=W5.heap[k]?) (by kernel_rfl) (by kernel_rfl) (by kernel_rfl) (by rintro⟨_,_,h⟩;exact h) (fun _ _=>rfl) ?_
  repeat
   apply zA rfl
   . rintro K' ac X hX
     have y3:=zh ((hX _ LD.out.1).trans pc.out.b3) 0 rfl;have y4:=zh ((hX _ LD.out.2.1).trans aV.out) 0 rfl;obtain⟨y50,y51,y52,y53,y54,_⟩:=Kh ((hX _ LD.out.2.2).trans UU.out);have ylk:=LX.out X hX;clear hX;go_simp;exact ac
  refine zx rfl ?_;intro K' ac;go_simp;obtain⟨WA,hWA,dA,hsA,le⟩:=Z3 W5 #[O U (us.length:Int)] 3;rw[hWA];have hgA:W5.grownBy WA Z:=⟨le.os,le.tape,le.output,le.size,fun k hk _=>le.block k hk⟩;have UG:=zH (pc.out.turn (Le _) hgA (fun r e=>by cases e));have UK:=zH (HJ.out _ _ HJB.out (Wrote.of_below le));have mt:=zH le;refine ac _ _ (fun k hk=>le.block k hk) ?_;refine xg rfl (by kernel_rfl) ?_;intro K' ac;rw[Li (by rfl)];have iS:=Lb mt.out LD.out.2.1 aV.out;have sv:Own WA (w.heap.size+6) (I P ls.length c) ls:=HO.out.below le (Le _);refine jQ Y3 (.tmp 30) (.tmp 34) (by rfl) (w.heap.size+6) (I P ls.length c) ls.length (ls.map (O U)) (by rfl) sv W5.heap.size #[O U (us.length:Int)] (by rfl) dA rfl (by simp[Value.oneCell']) (by omega) (by omega) _ rfl ?_;intro g6 k6 W6 pV iI DR DG
  have oP:Own W6 (w.heap.size+6) (I (J ⟨g6,0,Z⟩) (ls.length+1) k6) (ls++[(us.length:Int)]):=by
   have h:=pV;unfold Own;rw[LM,Lw];exact h
  have pF:=(iI.block (w.heap.size+1+1+1+1) (zj iS) (fun e=>wz sv iS (by decide) e.symm)).trans iS;have q6:=zh pF 0 rfl;have f6:=zi pF 0;have py:=UG.out.keeps iS sv iI (I (J ⟨g6,0,Z⟩) (ls.length+1) k6);have DC:=UG.out.push (Le _) iS sv oP iI
  have Tu:Ah (W6.setCell ⟨w.heap.size+1+1+1+1,0,Z⟩ (I (J ⟨g6,0,Z⟩) (ls.length+1) k6)):=by
   have a2:Wrote (fun k=>w.heap.size<=k) WA W6:=Wrote.of_grown iI (fun k e hk=>by have:=(sv.lt k e).1;omega);have a3:Wrote (fun k=>w.heap.size<=k) W6 (W6.setCell ⟨w.heap.size+1+1+1+1,0,Z⟩ (I (J ⟨g6,0,Z⟩) (ls.length+1) k6)):=Wrote.of_grown (zV W6 _ 0 _) (fun k e hk=>by cases e;omega);exact HJ.out _ _ UK.out (a2.trans a3 (fun _ _ h=>h))
  have UJ:=zH py;have KW:=zH DC;have HJ6:=zH Tu;refine ac (fun _=>True) _ _ trivial ?_;clear ac K' pV iI DR DG oP pF py DC Tu sv iS le dA hsA;refine zx rfl ?_;intro K' ac;go_simp;refine ac _ _ trivial ?_;clear ac K';refine zO ?_;gi_wp2_with fail;refine⟨(sU.out.1.trans (dw▸qE mt.out)).trans (dw▸UJ.out.1),(sU.out.2.trans (KeepB.of_below mt.out (by rintro k rfl;have:=pc.out.sz;omega))).trans UJ.out.2,?_,HJ6.out⟩;rw[iB.out,mI.out];exact KW.out
 case done=>
  intro D ys W hD nI hI mi;have sx:ys.map (fun x=>key x.1)=L.map key:=by rw[show ys.map (fun x=>key x.1)=(ys.map (·.1)).map key by rw[P4];rfl,nI]
  rw[sx] at hI;obtain⟨hN,hJW⟩:=hI;obtain⟨P,c,bk,ho⟩:=hN.box;have q4:=zh bk 0 rfl;have HN9:=zH hN;have HO:=zH ho;have HJ9:=zH hJW;have Di:=zH mi;go_wp2_with fail;refine xP (B:=w2.heap.size) (w:=W) (show Marks w2.heap.size _ W from⟨[D],rfl,by simp,fun r hr=>by rw[L4] at hr;subst hr;exact⟨hD,Di.out⟩⟩) (v:=.slice P (yE (L.map key)).length c) (fun W=>by kernel_rfl) ?_;intro X hS;have hb:Ar w2.heap.size W X:=hS.below;refine⟨_,rfl,(HO.out.shut hS).low (by omega),HJ.out W X HJ9.out ⟨hb.os,hb.tape,hb.output,hb.size,fun k hk hn=>hb.block k (by omega)⟩,HN9.out.wrote.trans (R':=fun k=>w2.heap.size<=k) ⟨hb.os,hb.tape,hb.output,hb.size,fun k hk hn=>hb.block k (by omega)⟩ (fun k h1 h2=>by omega)⟩
 intro D c pre W _ _ h;exact h.elim
def kq(G:Nat)(f:Nat->Int)(j i:Nat):Int:=if i<j/\G.testBit i=AA then f i+1 else 0
def kz(G:Nat)(f:Nat->Int)(j:Nat):K5:=⟨kq G f j 0,kq G f j 1,kq G f j 2,kq G f j 3,kq G f j 4⟩
theorem kz_zero(G:Nat)(f:Nat->Int):k5C (kz G f 0)=#[O U 0,O U 0,O U 0,O U 0,O U 0]:=by simp[k5C,kz,kq]
theorem kq_not{G:Nat}{f:Nat->Int}{j:Nat}(h:G.testBit j=AC)(i:Nat):kq G f (j+1) i=kq G f j i:=by
 unfold kq
 by_cases e:i=j
 . subst e;simp[h]
 have:(i<j+1)=(i<j):=by apply propext;omega
 simp only[this]
theorem kz_not{G:Nat}{f:Nat->Int}{j:Nat}(h:G.testBit j=AC):kz G f (j+1)=kz G f j:=by
 unfold kz;simp only[kq_not h]
theorem kq_hit{G:Nat}{f:Nat->Int}{j:Nat}(h:G.testBit j=AA)(i:Nat):kq G f (j+1) i=if i=j then f j+1 else kq G f j i:=by
 unfold kq
 by_cases e:i=j
 . subst e;simp[h]
 have:(i<j+1)=(i<j):=by apply propext;omega
 simp only[this,if_neg e]
theorem kz_hit{G:Nat}{f:Nat->Int}{j:Nat}(h:G.testBit j=AA)(hj:j<5):k5C (kz G f (j+1))=(k5C (kz G f j)).set! j (O U (f j+1)):=by
 unfold kz k5C;simp only[kq_hit h];rcases j with _ | _ | _ | _ | _ | j
 . simp
 . simp
 . simp
 . simp
 . simp
 omega
theorem k5_cell{w:Ba}{b:Nat}{x:K5}(h:w.heap[b]?=J (Ai (k5C x) 88 (0,0)))(j:Nat)(hj:j<5):∃u,w.cell? ⟨b,j,Z⟩=J u/\∃m,u=O U m:=by
 rcases j with _ | _ | _ | _ | _ | j
 . exact⟨_,zh h 0 rfl,_,rfl⟩
 . exact⟨_,zh h 1 rfl,_,rfl⟩
 . exact⟨_,zh h 2 rfl,_,rfl⟩
 . exact⟨_,zh h 3 rfl,_,rfl⟩
 . exact⟨_,zh h 4 rfl,_,rfl⟩
 omega
theorem gY{h j:Nat}(hh:h<32)(hj:j<5):(bits BinOp.and U ((h:Int) / 2^j) 1==1)=h.testBit j:=by
 match j,hj with
 | 0,_=>exact LR (vf (p:=fun h=>decide ((bits BinOp.and U ((h:Int) / 2^0) 1==1)=h.testBit 0)) (by decide +kernel) hh)
 | 1,_=>exact LR (vf (p:=fun h=>decide ((bits BinOp.and U ((h:Int) / 2^1) 1==1)=h.testBit 1)) (by decide +kernel) hh)
 | 2,_=>exact LR (vf (p:=fun h=>decide ((bits BinOp.and U ((h:Int) / 2^2) 1==1)=h.testBit 2)) (by decide +kernel) hh)
 | 3,_=>exact LR (vf (p:=fun h=>decide ((bits BinOp.and U ((h:Int) / 2^3) 1==1)=h.testBit 3)) (by decide +kernel) hh)
 | 4,_=>exact LR (vf (p:=fun h=>decide ((bits BinOp.and U ((h:Int) / 2^4) 1==1)=h.testBit 4)) (by decide +kernel) hh)
theorem jU{w:Ba}{g:Nat}{cs:Array Ax}{t:TypeId}(h:w.heap[g]?=J (Ai cs t (0,0)))(i:Nat)(v:Ax) :
  (w.setCell ⟨g,i,Z⟩ v).heap[g]?=J (Ai (cs.set! i v) t (0,0))/\∀k,k≠g->(w.setCell ⟨g,i,Z⟩ v).heap[k]?=w.heap[k]?:=by
 refine⟨?_,fun k hk=>Lh w ⟨g,i,Z⟩ v k hk⟩;rw[World.setCell,PG,Li rfl,h]
 rfl
theorem tog1_any(s:Sy)(K N:Nat)(hF:Fine s K N)(G:Nat)(eZ:G<32)(e k:Nat)(he:e<s.xs.length)(hk:k<=K)(A SV AV AX:Bb)(kc ks kv kx bs bg:Nat)(w:Ba)(hX:XAt w w.heap.size AX s.xs)
  (hb:w.heap[bs]?=J (Ai (s.vs_ A kc SV ks AV kv AX kx) 35 (0,0))) (hg:w.heap[bg]?=J (Ai #[O U (G:Int)] 3 (0,0))) :
  As Aq 132 #[Ak #[O U (e:Int),O U (k:Int)],Al (J ⟨bs,0,Z⟩),Al (J ⟨bg,0,Z⟩)] w fun r w'=>r=Am (k5E (kz G (fun q=>xw s.xs[e] k q) N))/\Ar w.heap.size w w':=by
 obtain⟨w1,ab,d0,aK,hB⟩:=zk w #[O U (e:Int),O U (k:Int)] 164;obtain⟨w2,bZ,d1,eQ,cH⟩:=zk w1 #[O U 0,O U 0,O U 0,O U 0,O U 0] 88;obtain⟨w3,dV,d2,eK,ct⟩:=zk w2 #[O U 0,O U 0,O U 0,O U 0,O U 0] 88;have Ea:Ar w.heap.size w w3:=hB.trans ((cH.mono (by omega)).trans (ct.mono (by omega)));have mw:=Ld he;obtain⟨dI,aR⟩:=hF.views _ mw;obtain⟨bx,ox,A1,c1,A2,c2,eX,bk,x0,x1,x2,ii,sN⟩:=(hX.keep Ea).row e he;subst eX;obtain⟨x,hx⟩:∃x,x=s.xs[e]:=⟨_,rfl⟩;rw[<-hx] at dI aR x2 sN ⊢;obtain⟨bl,ol,A3,c3,eL,aL,y1,hI⟩:=sN.at_ k (by omega);subst eL;obtain⟨hl,nM⟩:=aR _ (Ld (by omega:k<x.views.length));have rI:∀row,x.views[k]'(by omega)=row->∀q,xw x k q=row.getD q 0:=fun row hr q=>by unfold xw;rw[zt (by omega:k<x.views.length),hr]
 obtain⟨row,pk⟩:=Ki (x.views[k]'(by omega));have hXW:=rI row pk;rw[pk] at y1 hI hl nM;obtain⟨V,hV⟩:∃V:Nat->Int,(fun q=>xw x k q)=V:=⟨_,rfl⟩;have HV:Aw (∀q,V q=row.getD q 0):=fun q=>by rw[<-hV];exact hXW q
 rw[hV];obtain⟨nv,oQ⟩:=Ki x.views.length;rw[oQ] at x2 dI;rw[hl] at y1;have dO:=zH hl;have HPO:=zH nM;have HIR:=zH hI;have Oa:=zH hF.lv;have pc:=zH hF.n5;have ai:=zH ab;have KR:=zH bZ;have io:=zH dV;have HB:=zH Ea;have lbs:=zj hb;have lbg:=zj hg;have HBG:=zH (Lb Ea lbg hg);have cN:=zH (Lb ct (by omega:w1.heap.size<w2.heap.size) d1);have oU:=Lb ct (by omega:w.heap.size<w2.heap.size) (Lb cH (by omega) d0);have nk:=zH d2;obtain⟨g0,g1,_⟩:=Ka oU;have p9:w3.cell? ⟨bs,9,Z⟩=J (I (J ⟨bx,ox,Z⟩) s.xs.length kx):=zh (Lb Ea lbs hb) 9 rfl;have h1:(0:Int)<=(e:Int):=by omega
 have h2:(e:Int)<(s.xs.length:Int):=by omega
 have h3:(0:Int)<=(k:Int):=by omega
 have h4:(k:Int)<(nv:Int):=by omega
 clear ab bZ dV d0 d1 d2 oU hB cH ct Ea hX hb hg hF hV hXW oQ hx ii sN hI nM aR mw rI pk x0 x1 hl dI;go_enter func132,ntmps132;go_wp2_with fail;rw[ai.out];rw[KR.out,io.out];refine zw [(0,AA),(1,AA),(2,AA),(3,AA),(4,AA),(5,AA),(6,AA),(7,AA),(8,AA),(9,AA),(10,AA),(11,AA),(12,AA)] (fun X=>X=w3.drew) (by kernel_rfl) (by kernel_rfl) rfl ?_
 repeat
  apply zA rfl
  . rintro K' ac X rfl
    go_simp;exact ac
 refine zO ?_;obtain⟨W5,dM⟩:=Ki w3.drew;have HH:Aw (W5.heap=w3.heap):=by rw[<-dM];exact rfl
 have cj:Aw (Ar w.heap.size w W5):=by rw[<-dM];exact HB.out.drew
 rw[dM];rw[show w3.heap=W5.heap from HH.out.symm] at HBG cN nk;have fX:Aw (∀z,z<w.heap.size->W5.heap[z]?=w3.heap[z]?):=fun z _=>by rw[HH.out]
 have e2:w2.heap.size=w.heap.size+1+1:=by rw[eQ,aK]
 rw[e2] at nk;rw[aK] at cN;have I7:Aw (W5.heap[w.heap.size+1+1]?=J (Ai (k5C (kz G V 0)) 88 (0,0))):=by rw[kz_zero];exact nk.out
 have hWl:w.heap.size+3<=W5.heap.size:=by rw[HH.out,eK,eQ,aK];omega
 go_wp2_with fail
 go_loopw [20] (fun i wr=>∃j:Nat,j<=N/\i=O U (j:Int)/\Aw (wr.heap[w.heap.size+1+1]?=J (Ai (k5C (kz G V j)) 88 (0,0)))/\Aw (Wrote (fun z=>z=w.heap.size+1+1) W5 wr)) (fun i _=>N-(Au i).toNat)
 case atStart=>exact⟨0,by omega,rfl,I7,Wrote.refl _ _⟩
 obtain⟨j,hj,rfl,CV,mD⟩:=hrel
 by_cases cq:j<N
 . have Iv:j<5:=by have:=pc.out;omega
   have aq:=gY eZ Iv
   have DZ:IAt wr w.heap.size A3 row:=HIR.out.sameB fun z hz=>by
    have:=mD.out.block z (by omega) (by show ¬z=w.heap.size+1+1;omega);rw[this];exact fX.out z hz
   obtain⟨b6,o6,rfl,cX,z0⟩:=DZ.at_ j (by rw[dO.out];exact cq);have H7:=HV.out j;rw[xL (by rw[dO.out];exact cq)] at H7;have hur:=HPO.out _ (Ld (by rw[dO.out];exact cq:j<row.length));obtain⟨u,hu⟩:=Ki (row[j]'(by rw[dO.out];exact cq));rw[hu] at z0 H7 hur;have HU0:=zH H7;have q0:=zh ((mD.out.block bg (by omega) (by show ¬bg=w.heap.size+1+1;omega)).trans HBG.out) 0 rfl;have hwv:IntKind.i64.wrap (u+1)=u+1:=by have:=Oa.out;rw[Ls];omega
   obtain⟨old,hold,m5,rfl⟩:=k5_cell CV.out j Iv;have hfr:=zi CV.out j;have CP:(0:Int)<=(j:Int):=by omega
   have rN:(j:Int)<(N:Int):=by omega
   have hj6:(j:Int)<5:=by omega
   have EI:min j 64=j:=by omega
   by_cases dt:G.testBit j=AA
   case neg=>
    have AJ:G.testBit j=AC:=by simpa using dt
    rw[AJ] at aq;have hKn:Aw (wr.heap[w.heap.size+1+1]?=J (Ai (k5C (kz G V (j+1))) 88 (0,0))):=by rw[kz_not AJ];exact CV.out
    go_wp2_with fail
    go_roundw
    case rel=>exact⟨j+1,by omega,by go_num,hKn,mD⟩
    simp[Au];omega
   rw[dt] at aq;have HK:=zH (kz_hit (f:=V) dt Iv);have h9:=jU CV.out j (O U (u+1));have hKn:Aw ((wr.setCell ⟨w.heap.size+1+1,j,Z⟩ (O U (u+1))).heap[w.heap.size+1+1]?=J (Ai (k5C (kz G V (j+1))) 88 (0,0))):=by rw[HK.out,HU0.out];exact h9.1
   have MV:Aw (Wrote (fun z=>z=w.heap.size+1+1) W5 (wr.setCell ⟨w.heap.size+1+1,j,Z⟩ (O U (u+1)))):=mD.out.trans (Wrote.of_grown (zV wr (w.heap.size+1+1) j _) (fun z e _=>by cases e;rfl)) (fun _ _ h=>h);go_wp2_with fail
   go_roundw
   case rel=>exact⟨j+1,by omega,by go_num,hKn,MV⟩
   simp[Au];omega
 obtain rfl:N=j:=by omega
 obtain⟨Ag,hZ⟩:=Ki (kz G V N);rw[hZ] at CV;obtain⟨za,zb,zc,zd,ze⟩:=Ag;have HZ:=zH hZ;have c0:wr.cell? ⟨w.heap.size+1+1,0,Z⟩=J (O U za):=zh CV.out 0 rfl;have c1:wr.cell? ⟨w.heap.size+1+1,1,Z⟩=J (O U zb):=zh CV.out 1 rfl;have c2:wr.cell? ⟨w.heap.size+1+1,2,Z⟩=J (O U zc):=zh CV.out 2 rfl;have c3:wr.cell? ⟨w.heap.size+1+1,3,Z⟩=J (O U zd):=zh CV.out 3 rfl;have c4:wr.cell? ⟨w.heap.size+1+1,4,Z⟩=J (O U ze):=zh CV.out 4 rfl;have lk:=(mD.out.block (w.heap.size+1) (by omega) (by show ¬w.heap.size+1=w.heap.size+1+1;omega)).trans cN.out;have r0:wr.cell? ⟨w.heap.size+1,0,Z⟩=J (O U 0):=zh lk 0 rfl;have r1:wr.cell? ⟨w.heap.size+1,1,Z⟩=J (O U 0):=zh lk 1 rfl;have r2:wr.cell? ⟨w.heap.size+1,2,Z⟩=J (O U 0):=zh lk 2 rfl;have r3:wr.cell? ⟨w.heap.size+1,3,Z⟩=J (O U 0):=zh lk 3 rfl;have r4:wr.cell? ⟨w.heap.size+1,4,Z⟩=J (O U 0):=zh lk 4 rfl;have f0:=zi lk 0;have f1:=zi lk 1;have f2:=zi lk 2;have f3:=zi lk 3;have f4:=zi lk 4;have HWr:Aw (Ar w.heap.size w wr):=cj.out.trans ((XX (H:=w.heap.size+1+1) mD.out (by omega)).mono (by omega));have KU:=zH lk;go_wp2_with fail
 have iM:Aw ((((((wr.setCell ⟨w.heap.size+1,0,Z⟩ (O U za)).setCell ⟨w.heap.size+1,1,Z⟩ (O U zb)).setCell ⟨w.heap.size+1,2,Z⟩ (O U zc)).setCell ⟨w.heap.size+1,3,Z⟩ (O U zd)).setCell ⟨w.heap.size+1,4,Z⟩ (O U ze)).heap[w.heap.size+1]?=J (Ai (k5C ⟨za,zb,zc,zd,ze⟩) 88 (0,0))):=(jU (jU (jU (jU (jU KU.out 0 _).1 1 _).1 2 _).1 3 _).1 4 _).1.trans (by simp[k5C])
 (try simp only[Exit.inBlock,Exit.then])
 refine LG (results_cell_row (P:=Aq) rfl _ _ (w.heap.size+1) 88 _ (0,0) _ rfl iM.out Pt rfl (by kernel_rfl)) rfl ?_;have eU:w.heap.size<=w.heap.size+1:=Nat.le_succ _;exact⟨by rw[HZ.out];rfl,(((((HWr.out.setCell eU _).setCell eU _).setCell eU _).setCell eU _).setCell eU _)⟩
def togK(s:Sy)(G:Nat)(x:Nat×Nat):K5:=kz G (fun q=>xw (s.xs.getD x.1 default) x.2 q) s.n.toNat
def kp(s:Sy)(g:Int):List Int:=yE ((zu (s.p.k.toNat+1) 0 s.xs.length).map (togK s g.toNat))
def togE(s:Sy)(g:Int):List Int×Int:=if yn s g≠0 then ([],yn s g) else (kp s g,0)
theorem Yj(s:Sy)(g:Int):(kp s g).length=s.xs.length*(s.p.k.toNat+1):=by unfold kp;rw[yv,LJ,kM _ _ (by omega)]
theorem Q3(s:Sy)(hs:LowS s)(hf:xz s.p)(g:Int)(A SV AV AX:Bb)(kc ks kv kx:Nat)(w:Ba)(hS:SyAt w w.heap.size A SV AV AX s) :
  As Aq 81 #[.agg (s.vs_ A kc SV ks AV kv AX kx),O U g] w (RetOE (togE s g).1 (togE s g).2 w):=by
 obtain⟨w1,ab,d0,d1,aK,hB⟩:=yV w (s.vs_ A kc SV ks AV kv AX kx) #[O U g] 35 3;have HG:=zH (grouped_any s hs hf g A SV AV AX kc ks kv kx w1 (hS.up hB));have dD:Aw (yn s g≠0->togE s g=([],yn s g)):=fun h=>Li h
 have az:Aw (yn s g=0->togE s g=(kp s g,0)):=fun h=>Lg (by simpa using h)
 have nD:=zH (fun h=>yJ hf (ww (s:=s) (g:=g) h).1);have Ej:=zH (fun h=>(ww (s:=s) (g:=g) h).2);have mG:=zH (hS.up hB)
 have Cm:=zH (fun (K N G:Nat) (hF:Fine s K N) (hG:G<32) (X:Ba) (hX:SyAt X X.heap.size A SV AV AX s) (bs bp:Nat) (hb:X.heap[bs]?=J (Ai (s.vs_ A kc SV ks AV kv AX kx) 35 (0,0))) (hp:X.heap[bp]?=J (Ai #[O U (G:Int)] 3 (0,0)))=>
  XJ s K s.xs.length (by have:=hF.k6;omega) (by have:=hF.lx;omega) hF.k rfl A SV AV AX kc ks kv kx 132 #[Al (J ⟨bs,0,Z⟩),Al (J ⟨bp,0,Z⟩)]
   (Pg func132 (by kernel_rfl) rfl) (togK s G) (fun _=>False)
   (fun W=>XAt W X.heap.size AX s.xs/\W.heap[bs]?=J (Ai (s.vs_ A kc SV ks AV kv AX kx) 35 (0,0))/\W.heap[bp]?=J (Ai #[O U (G:Int)] 3 (0,0))/\X.heap.size<=W.heap.size) X (fun _ h=>h.elim)
   ⟨hX.fx,hb,hp,Le _⟩
   (fun W W' h hw=>by
    have aL:Ar X.heap.size W W':=⟨hw.os,hw.tape,hw.output,hw.size,fun k hk=>hw.block k (by have:=h.2.2.2;omega) (fun h2=>by omega)⟩
    exact⟨h.1.keep aL,Lb aL (zj hb) h.2.1,Lb aL (zj hp) h.2.2.1,Lz h.2.2.2 hw.size⟩)
   (fun x hx W hJ hW=>by
    obtain⟨_,h1,h2⟩:=qC _ _ x hx;have he:x.1<s.xs.length:=by omega
    have:=tog1_any s K N hF G hG x.1 x.2 he (by omega) A SV AV AX kc ks kv kx bs bp W (hJ.1.more hJ.2.2.2) hJ.2.1 hJ.2.2.1;refine this.mono ?_;rintro r w' ⟨rfl,di⟩;unfold togK;rw[zt he,hF.n,Lo]
    refine⟨rfl,⟨hJ.1.keep (di.mono hJ.2.2.2),La di hJ.2.1,La di hJ.2.2.1,Lz hJ.2.2.2 di.size⟩,Wrote.of_below di⟩))
 have mJ:=zH (fun (K G:Nat) (h:s.p.k=(K:Int))=>(by unfold kp;rw[h];rfl:kp s (G:Int)=yE ((zu (K+1) 0 s.xs.length).map (togK s G))));obtain⟨r,hr⟩:=Ki (yn s g);rw[hr] at HG dD az nD Ej;obtain⟨R,fE⟩:=Ki (togE s g);rw[fE] at dD az ⊢;unfold Sy.vs_ at ab d0 HG Cm ⊢;have ai:=zH ab;have HB:=zH hB;have HD:=zH d0;have cN:=zH d1;have p9:=zh (d0) 9 rfl;clear ab d0 d1 hB hS hr fE hs hf;go_enter func81,ntmps81;go_wp2_with fail;rw[ai.out];go_wp2_with fail;refine HG.out.mono ?_;rintro e w2 ⟨rfl,ag⟩;have aw:=zH (HB.out.trans (ag.mono (by omega)));have HD:=zH (La ag HD.out);have cN:=zH (La ag cN.out);have dS:=zH (mG.out.up ag);clear p9 ag HG ai mG
 by_cases h0:r=0
 case neg=>
  have hR:Aw (R=([],r)):=dD.out h0;have e0:(r != 0)=AA:=by simpa using h0
  clear dD az HD cN nD Ej Cm mJ;go_wp2_with fail
  go_ret2
  rw[hR.out];exact⟨Z,0,rfl,Own.nil _ _,aw.out⟩
 case pos=>
 subst h0;obtain⟨fi,K,N,hF⟩:=nD.out rfl;clear fi;have hR:=zH (az.out rfl);obtain⟨mg,fD⟩:=Ej.out rfl;obtain⟨G,rfl⟩:=Lp mg
 have eZ:G<32:=by
  have fl:=hF.n5;rw[hF.n,Lo] at fD;have:=L6 (n:=2) (show 0<2 by omega) fl;have h2:((2^N:Nat):Int)=(2:Int)^N:=by push_cast;rfl
  omega
 have HC:=zH (Cm.out K N G hF eZ w2 dS.out w.heap.size (w.heap.size+1) HD.out cN.out);have bY:=mJ.out K G hF.k;rw[<-bY] at HC;obtain⟨p0,p1,p2,p3,p4,p5,p6,p7,p8,p9⟩:=zN HD.out;clear dD az HD cN nD Ej Cm mJ dS hF bY mg fD;go_wp2_with fail
 all_goals first | (exfalso;omega) | skip
 refine HC.out.mono ?_;rintro e w3 ⟨v,rfl,ho,_,dV⟩;have HO:=zH ho;have aj:=Zc dV;have aJ:=zH (Lc aw.out aj);obtain⟨A6,k6,rfl,_,_,_⟩:=HO.out.form;go_wp2_with fail
 go_ret2
 rw[hR.out];exact⟨A6,k6,rfl,HO.out.low aw.out.size,aJ.out⟩
end
section
def ex6C:List Int:=[0,1,0,2,3,4,3,5]
theorem snocI{α:Type}{P:List α->Prop}(h0:P [])(hs:∀l x,P l->P (l++[x]))(l:List α):P l:=by
 rw[<-List.reverse_reverse l]
 induction l.reverse with
 | nil=>exact h0
 | cons x t ih=>rw[List.reverse_cons];exact hs _ _ ih
def uk(ls:List Int)(set:List Bool):Nat->Int->Option Ax
 | 0=>fun _=>Z
 | k+1=>if set.getD k AC then uk ls set k else xH (uk ls set k) (ls.getD k 0) (Aj AA)
theorem va(ls:List Int)(set:List Bool)(v:Int):∀k,(uk ls set k v=J (Aj AA)/\∃i,i<k/\ls.getD i 0=v/\set.getD i AC=AC)\/(uk ls set k v=Z/\∀i,i<k->ls.getD i 0=v->set.getD i AC=AA)
 | 0=>.inr ⟨rfl,fun i h=>by omega⟩
 | k+1=>by
  unfold uk
  cases hs:set.getD k AC with
  | true=>
   rw[Li rfl];rcases va ls set v k with ⟨h1,i,h2,h3,h4⟩ | ⟨h1,h2⟩
   . exact .inl ⟨h1,i,by omega,h3,h4⟩
   . refine .inr ⟨h1,fun i hi he=>?_⟩
     by_cases e:i=k
     . subst e;exact hs
     . exact h2 i (by omega) he
  | false=>
   rw[Lg (by simp)];unfold xH
   by_cases e:v=ls.getD k 0
   . rw[Li e];exact .inl ⟨rfl,k,by omega,e.symm,hs⟩
   . rw[Lg e]
     rcases va ls set v k with ⟨h1,i,h2,h3,h4⟩ | ⟨h1,h2⟩
     . exact .inl ⟨h1,i,by omega,h3,h4⟩
     . refine .inr ⟨h1,fun i hi he=>?_⟩
       by_cases e2:i=k
       . subst e2;exact absurd he.symm e
       . exact h2 i (by omega) he
def xQ(n:Nat)(ls:List Int)(set:List Bool):List Bool:=(List.range n).map fun i=>decide (∀j,j<n->ls.getD j 0=ls.getD i 0->set.getD j AC=AA)
theorem yO(n:Nat)(ls:List Int)(set:List Bool):(xQ n ls set).length=n:=by simp[xQ]
theorem Z6{n:Nat}{ls:List Int}{set:List Bool}{i:Nat}(h:i<n):(xQ n ls set)[i]'(by rw[yO];exact h)=decide (∀j,j<n->ls.getD j 0=ls.getD i 0->set.getD j AC=AA):=by simp[xQ]
theorem insL_brk{n:Nat}{ls:List Int}{set:List Bool}{i:Nat}(h:i<n):(xQ n ls set)[i]'(by rw[yO];exact h)=(uk ls set n (ls.getD i 0)).isNone:=by
 rw[Z6 h];rcases va ls set (ls.getD i 0) n with ⟨h1,j,h2,h3,h4⟩ | ⟨h1,h2⟩
 . rw[h1]
   refine Lj fun ha=>?_
   have:=ha j h2 h3;rw[h4] at this;cases this
 rw[h1];exact Lm h2
def kj(n:Nat)(a b:List Bool):List Bool:=(List.range n).map fun i=>a.getD i AC&&b.getD i AC
theorem yP(n:Nat)(a b:List Bool):(kj n a b).length=n:=by simp[kj]
theorem wX{n:Nat}{a b:List Bool}{i:Nat}(h:i<n):(kj n a b)[i]'(by rw[yP];exact h)=(a.getD i AC&&b.getD i AC):=by simp[kj]
def evL(n:Nat)(cls:Nat->List Int)(ps:List Nat)(set:List Bool):List Bool:=ps.foldl (fun o p=>kj n o (xQ n (cls p) set)) (List.replicate n AA)
theorem xR(n:Nat)(cls:Nat->List Int)(set:List Bool)(ps:List Nat):(evL n cls ps set).length=n:=by
 unfold evL;refine snocI (P:=fun ps=>(ps.foldl (fun o p=>kj n o (xQ n (cls p) set)) (List.replicate n AA)).length=n) (by simp) (fun l x _=>?_) ps;rw[N2];exact yP _ _ _
theorem Xl(n:Nat)(cls:Nat->List Int)(set:List Bool)(ps:List Nat)(p:Nat):evL n cls (ps++[p]) set=kj n (evL n cls ps set) (xQ n (cls p) set):=by unfold evL;rw[N2];rfl
theorem JI{n:Nat}{cls:Nat->List Int}{set:List Bool}{i:Nat}(h:i<n)(ps:List Nat):(evL n cls ps set).getD i AC=AA↔∀p∈ps,∀j,j<n->(cls p).getD j 0=(cls p).getD i 0->set.getD j AC=AA:=by
 refine snocI (P:=fun ps=>(evL n cls ps set).getD i AC=AA↔∀p∈ps,∀j,j<n->(cls p).getD j 0=(cls p).getD i 0->set.getD j AC=AA) ?_ (fun l x ih=>?_) ps
 . simp[evL,List.getD_eq_getElem?_getD,h]
 rw[Xl,zt (by rw[yP];exact h),wX h,Nf,ih,zt (by rw[yO];exact h),Z6 h,Sa];constructor
 . rintro⟨h1,h2⟩ p hp
   rcases Nh.1 hp with hp | hp
   . exact h1 p hp
   rw[L4] at hp;subst hp;exact h2
 exact fun h1=>⟨fun p hp=>h1 p (Rf _ hp),h1 x (by simp)⟩
end
section
open Go.RowKit Go.Shelf
attribute [local go_sem] Oper.semAt_some
def RetB(xs:List Bool)(w:Ba)(e:Ending)(w':Ba):Prop:=∃g:Nat,e=Am (I (J ⟨g,0,Z⟩) xs.length xs.length)/\w.heap.size<=g/\BRow w' g xs/\Ar w.heap.size w w'
theorem gM(A B:Bb)(ca cb n:Nat)(hn:n<=100000)(a b:List Bool)(ha:a.length=n)(hb:b.length=n)(w:Ba)(hA:BAt w w.heap.size A a)(hB:BAt w w.heap.size B b) :
  As Aq 47 #[I A n ca,I B n cb] w (RetB (kj n a b) w):=by
 have HA:=zH hA;have HB:=zH hB;have iW:=zH ha;have pN:=zH hb;have eq:=qb n hn;obtain⟨rs,cD⟩:=Ki (kj n a b);have i8:rs.length=n:=by rw[<-cD];exact yP _ _ _
 have dO:=zH i8
 have fg:Aw (∀k (h:k<n),rs[k]'(by rw[dO.out];exact h)=(a[k]'(by rw[iW.out];exact h)&&b[k]'(by rw[pN.out];exact h))):=fun k h=>by
  subst cD;rw[wX h,zt (by omega),zt (by omega)]
 unfold RetB;rw[cD,i8];go_enter func47,ntmps47;go_upto_region 2 with fail
 obtain⟨w3,dV,d3,eK,ct⟩:=zk w (xT (List.replicate n AC)) 4;rw[dV];have lU:=zH (HA.out.keep ct);have aJ:=zH (HB.out.keep ct);have io:=zH ct;have lD:Aw (BRow w3 w.heap.size (yZ rs 0)):=by rw[jJ,dO.out];exact d3
 go_wp2_with fail
 go_loopw [12] (fun i wr=>∃k:Nat,k<=n/\i=O U (k:Int)/\Aw (BRow wr w.heap.size (yZ rs k))/\Aw (Ar w.heap.size w3 wr)) (fun i _=>n-(Au i).toNat)
 case atStart=>exact⟨0,by omega,rfl,lD,Ll _ _⟩
 obtain⟨k,hk,rfl,ay,aQ⟩:=hrel
 by_cases aa:k<n
 . obtain⟨b1,o1,rfl,aq,z0⟩:=(lU.out.keep aQ.out).at_ k (by rw[iW.out];exact aa)
   obtain⟨b2,o2,rfl,ag,z1⟩:=(aJ.out.keep aQ.out).at_ k (by rw[pN.out];exact aa);have bL:=fg.out k aa;obtain⟨x,hx⟩:=Ki (a[k]'(by rw[iW.out];exact aa));obtain⟨y,hy⟩:=Ki (b[k]'(by rw[pN.out];exact aa));rw[hx] at z0 bL;rw[hy] at z1 bL;have cP:k<rs.length:=by rw[dO.out];exact aa
   have fa:=vD rs (PK cP);have y0:=zh ay.out k (qN (yZ rs k) k (by omega));have f0:=zi ay.out k
   have dY:Aw (BRow (wr.setCell ⟨w.heap.size,k,Z⟩ (Aj (x&&y))) w.heap.size (yZ rs (k+1))):=by
    rw[<-bL,<-vC rs cP];show _=_;rw[Lq wr _ k _ _ _ ay.out,kh]
   have ot:=zH (aQ.out.setCell (p:=⟨w.heap.size,k,Z⟩) (by show w.heap.size<=w.heap.size;omega) (Aj (x&&y)));obtain⟨u,hu⟩:=Ki ((yZ rs k)[k]'(by omega));rw[hu] at y0;have dh:(0:Int)<=(k:Int):=by omega
   have aW:(k:Int)<(n:Int):=by omega
   cases x with
   | false=>
    go_wp2_with fail
    go_roundw
    case rel=>exact⟨k+1,by omega,by go_num,dY,ot⟩
    case measure=>simp[Au];omega
   | true=>
    go_wp2_with fail
    go_roundw
    case rel=>exact⟨k+1,by omega,by go_num,dY,ot⟩
    case measure=>simp[Au];omega
 obtain rfl:n=k:=by omega
 have HE:Aw (BRow wr w.heap.size rs):=by have:=ay.out;rwa[show yZ rs n=rs by rw[<-dO.out];exact vE rs] at this
 have rG:=zH (io.out.trans aQ.out);go_wp2_with fail;go_ret;exact⟨w.heap.size,rfl,Le _,HE.out,rG.out⟩
theorem ZC(A B:Bb)(ca cb n:Nat)(hn:n<=100000)(ls:List Int)(set:List Bool)(ha:ls.length=n)(hb:set.length=n)(w:Ba)(hA:IAt w w.heap.size A ls)(hB:BAt w w.heap.size B set) :
  As Aq 79 #[I A n ca,I B n cb] w (RetB (xQ n ls set) w):=by
 have HA:=zH hA;have HB:=zH hB;have iW:=zH ha;have pN:=zH hb;have eq:=qb n hn;have lm:=@run_makeMap Aq;have hz:∀W:Ba,(zeroValue 4).run Aq W=.ok (Aj AC) W:=fun W=>by kernel_rfl
 have ht:Aq.underlying 186=J (.map 3 4):=underlying186;have HZ:=zH hz;have HT:=zH ht;obtain⟨rs,cD⟩:=Ki (xQ n ls set);have i8:rs.length=n:=by rw[<-cD];exact yO _ _ _
 have dO:=zH i8
 have fg:Aw (∀k (h:k<n),rs[k]'(by rw[dO.out];exact h)=(uk ls set n (ls[k]'(by rw[iW.out];exact h))).isNone):=fun k h=>by
  subst cD;rw[insL_brk h,xL (by rw[iW.out];exact h)]
 unfold RetB;rw[cD,i8];go_enter func79,ntmps79;go_upto_region 2 with fail
 obtain⟨w1,h1⟩:=Ki (w.alloc (.map #[] 0));have m1:MapOf (O U) w1 w.heap.size 0 (fun _=>Z):=by rw[<-h1];exact MapOf.made w
 have z1:Ar w.heap.size w w1:=by rw[<-h1];exact ye _ _
 have iR:w.heap.size<w1.heap.size:=by rw[<-h1];simp
 rw[h1];have HM1:Aw (MapOf (O U) w1 w.heap.size 0 (uk ls set 0)):=m1;have mN:=zH z1;have HA1:=zH (HA.out.keep z1);have mG:=zH (HB.out.keep z1);go_wp2_with fail
 go_loopw [14] (fun i wr=>∃k m:Nat,k<=n/\i=O U (k:Int)/\Aw (MapOf (O U) wr w.heap.size m (uk ls set k))/\Aw (Ar w.heap.size w1 wr)) (fun i _=>n-(Au i).toNat)
 case atStart=>exact⟨0,0,by omega,rfl,HM1,Ll _ _⟩
 obtain⟨k,m,hk,rfl,hm,aQ⟩:=hrel
 by_cases aa:k<n
 . obtain⟨b1,o1,rfl,aq,z0⟩:=(HA1.out.keep aQ.out).at_ k (by rw[iW.out];exact aa)
   obtain⟨b2,o2,rfl,ag,z1⟩:=(mG.out.keep aQ.out).at_ k (by rw[pN.out];exact aa);have Ss:ls.getD k 0=ls[k]'(by rw[iW.out];exact aa):=xL (by rw[iW.out];exact aa) 0;have lw:set.getD k AC=set[k]'(by rw[pN.out];exact aa):=zt (by rw[pN.out];exact aa) AC;obtain⟨x,hx⟩:=Ki (ls[k]'(by rw[iW.out];exact aa));obtain⟨y,hy⟩:=Ki (set[k]'(by rw[pN.out];exact aa));rw[hx] at z0 Ss;rw[hy] at z1 lw;have dh:(0:Int)<=(k:Int):=by omega
   have aW:(k:Int)<(n:Int):=by omega
   have hG:uk ls set (k+1)=if y then uk ls set k else xH (uk ls set k) x (Aj AA):=by rw[uk,Ss,lw]
   cases y with
   | true=>
    have fC:Aw (MapOf (O U) wr w.heap.size m (uk ls set (k+1))):=by rw[hG,Li rfl];exact hm
    go_wp2_with fail
    go_roundw
    case rel=>exact⟨k+1,m,by omega,by go_num,fC,aQ⟩
    case measure=>simp[Au];omega
   | false=>
    obtain⟨W5,fH,oD,dv⟩:=hm.out.put yL HT.out x (Aj AA);have fC:Aw (MapOf (O U) W5 w.heap.size (m+1) (uk ls set (k+1))):=by rw[hG,Lg (by simp)];exact oD
    have cj:Aw (Ar w.heap.size w1 W5):=aQ.out.grown dv (by have:=aQ.out.size;omega) (fun r e=>by cases e;omega);go_wp2_with fail
    go_roundw
    case rel=>exact⟨k+1,m+1,by omega,by go_num,fC,cj⟩
    case measure=>simp[Au];omega
 obtain rfl:n=k:=by omega
 have Dx:=aQ.out.size;obtain⟨wE,rfl⟩:∃x,x=wr:=⟨_,rfl⟩;go_upto_region 9 with fail
 obtain⟨w3,dV,d3,eK,ct⟩:=zk wE (xT (List.replicate n AC)) 4;rw[dV];have lU:=zH ((HA1.out.keep aQ.out).keep (ct.mono (by omega)));have HM3:=zH (hm.out.same (ct.block _ (by omega)));have io:=zH (mN.out.trans (aQ.out.trans (ct.mono (by omega))));have lD:Aw (BRow w3 wE.heap.size (yZ rs 0)):=by rw[jJ,dO.out];exact d3
 have hwE:w.heap.size<wE.heap.size:=by omega
 go_wp2_with fail
 go_loopw [32] (fun i wr=>∃k:Nat,k<=n/\i=O U (k:Int)/\Aw (BRow wr wE.heap.size (yZ rs k))/\Aw (Ar wE.heap.size w3 wr)) (fun i _=>n-(Au i).toNat)
 case atStart=>exact⟨0,by omega,rfl,lD,Ll _ _⟩
 obtain⟨k,hk,rfl,ay,aQ⟩:=hrel
 by_cases aa:k<n
 . obtain⟨b1,o1,rfl,aq,z0⟩:=(lU.out.keep (aQ.out.mono (by omega))).at_ k (by rw[iW.out];exact aa)
   have bL:=fg.out k aa;obtain⟨x,hx⟩:=Ki (ls[k]'(by rw[iW.out];exact aa));rw[hx] at z0 bL;have hm:=HM3.out.same (aQ.out.block _ hwE);have dl:=hm.look yL HT.out (HZ.out wr) x
   have bJ:∃y:Bool,(uk ls set n x).getD (Aj AC)=Aj y/\rs[k]'(by rw[dO.out];exact aa)=!y:=by
    rcases va ls set x n with ⟨h1,_⟩ | ⟨h1,_⟩
    . exact⟨AA,by rw[h1];rfl,by rw[bL,h1];rfl⟩
    exact⟨AC,by rw[h1];rfl,by rw[bL,h1];rfl⟩
   obtain⟨y,hy1,Ou⟩:=bJ;rw[hy1] at dl;have cP:k<rs.length:=by rw[dO.out];exact aa
   have fa:=vD rs (PK cP);have y0:=zh ay.out k (qN (yZ rs k) k (by omega));have f0:=zi ay.out k
   have dY:Aw (BRow (wr.setCell ⟨wE.heap.size,k,Z⟩ (Aj (!y))) wE.heap.size (yZ rs (k+1))):=by
    rw[<-Ou,<-vC rs cP];show _=_;rw[Lq wr _ k _ _ _ ay.out,kh]
   have ot:=zH (aQ.out.setCell (p:=⟨wE.heap.size,k,Z⟩) (by show wE.heap.size<=wE.heap.size;omega) (Aj (!y)));obtain⟨u,hu⟩:=Ki ((yZ rs k)[k]'(by omega));rw[hu] at y0;have dh:(0:Int)<=(k:Int):=by omega
   have aW:(k:Int)<(n:Int):=by omega
   go_wp2_with fail
   go_roundw
   case rel=>exact⟨k+1,by omega,by go_num,dY,ot⟩
   simp[Au];omega
 obtain rfl:n=k:=by omega
 have HE:Aw (BRow wr wE.heap.size rs):=by have:=ay.out;rwa[show yZ rs n=rs by rw[<-dO.out];exact vE rs] at this
 have rG:=zH (io.out.trans (aQ.out.mono (by omega)));go_wp2_with fail;go_ret;exact⟨wE.heap.size,rfl,by omega,HE.out,rG.out⟩
end
section
open Go.RowKit
theorem Yo:(Aq.info? 4).map (·.size)=J 1:=by kernel_rfl
theorem repeatB_any(n b:Nat)(h1:1<=n)(h5:n<=100000)(u:Bool)(w:Ba)(hb:w.heap[b]?=J (Ai #[Aj u] 4 (0,0))) :
  As Aq 129 #[I (J ⟨b,0,Z⟩) 1 1,O U n] w fun e w'=>∃g,e=Am (I (J ⟨g,0,Z⟩) n n)/\w.heap.size<=g/\BRow w' g (List.replicate n u)/\Ar w.heap.size w w':=by
 have eq:=qb n h5;obtain⟨ar,pC⟩:∃ar:List Ax,(List.replicate n AC).map Aj=ar:=⟨_,rfl⟩;unfold xT at eq;rw[pC] at eq;have sK:ar.length=n:=by rw[<-pC];simp
 have hc:=zh hb 0 rfl;have aL:=zj hb;have hm:=Tryz.bits_Mul 1 n (by omega) (by omega) w;have e1:(1*n / 18446744073709551616:Nat)=0:=by omega
 have e2:(1*n % 18446744073709551616:Nat)=n:=by omega
 rw[e1,e2] at hm;have MI:¬(n:Int)<0:=by omega
 go_enter func129,ntmps129;go_wp2_with fail;refine hm.mono ?_;rintro e w1 ⟨rfl,ab⟩;obtain rfl:=ab;obtain⟨W0,dN,b0,aX,ce⟩:=zk w1 ar.toArray 4;have hx:W0.cell? ⟨b,0,Z⟩=J (Aj u):=(ce.cell (p:=⟨b,0,Z⟩) aL).trans hc;have BB:=zH ce;have BX:=zH b0;have HX:=zH hx;go_wp2_with ((refine R9 rfl (.tmp 31) (.tmp 32) 46 46 rfl 4 Pu Yo (J ⟨w1.heap.size,0,Z⟩) (J ⟨b,0,Z⟩) n n 1 1 rfl rfl w1.heap.size 0 ar 4 BX.out [Aj u] (by simp[Nat.min_def];omega) (fun _=>⟨rfl,_,rfl,Jn HX.out⟩) (by simp;omega) (by simp[Value.oneCell']) w1.heap.size w1 BB.out (Le _) ?_);intro w2 ef ag);obtain⟨g,hg⟩:=Ki w1.heap.size;have s1:=qX (cur:=ar) (x:=Aj u) (k:=0) (m:=1) (n:=n) sK (by simp) (by omega);have S1:=zH s1;have tC:=zH hg;rw[hg] at ef ag ⊢
 go_loopw [8] (fun l wr=>∃(k:Nat) (cur:List Ax),1<=k/\k<=n/\l=O U k/\Aw (cur.length=n)/\Aw (cur.take k=List.replicate k (Aj u))/\Aw (wr.heap[g]?=J (Ai cur.toArray 4 (0,0)))/\Ar g w1 wr) (fun l _=>n-(Au l).toNat)
 case atStart=>exact⟨1,splice ar 0 [Aj u],by omega,h1,rfl,S1.out.2,S1.out.1,ef,ag⟩
 obtain⟨k,cur,aW,MN,rfl,aP,AD,ah,iT⟩:=hrel
 by_cases aa:k<n
 . clear S1 ef ag
   have dh:(0:Int)<=(k:Int):=by omega
   have iH:(k:Int)<=(n:Int):=by omega
   have bj:¬n=k:=by omega
   go_upto_region 9 with fail
   obtain⟨d,hd⟩:=Ki (n-k);obtain⟨m,hm⟩:=Ki (Nat.min k d);have lO:min k d=m:=hm;have po:1<=m:=by omega
   have fC:k+m<=n:=by omega
   have V7:m<=k:=by omega
   have oM:∀j v,(List.replicate m (Aj u))[j]?=J v->wr.cell? ((⟨g,0,Z⟩:Addr).add j)=J v:=by
    intro j v hj;have P5:j<m:=by have:=(Lv.1 hj).1;simpa using this
    rw[NY,Li P5] at hj
    cases hj
    rw[Pn,LO];refine zh ah.out j ?_;rw[RN];have h2:=congrArg (fun l=>l[j]?) AD.out;simp only[List.getElem?_take,List.getElem?_replicate] at h2;rwa[Li (by omega),Li (by omega)] at h2
   have SP:=zH (qX (cur:=cur) (x:=Aj u) (k:=k) (m:=m) (n:=n) aP.out AD.out fC);have Ch:=zH oM;have HM:=zH hm;have mr:=zH iT;have aK:IntKind.i64.wrap ((k:Int)+(m:Int))=(k:Int)+(m:Int):=SG _ (by omega);have mG:=zH aK;clear oM hm iT aK
   go_region_law ((refine Sr (by rfl) (.tmp 41) (.tmp 44) 46 46 (by rfl) 4 Pu Yo (J ⟨g,k,Z⟩) (J ⟨g,0,Z⟩) d d k n (by simp[go_sem]) (by simp[go_sem]) g k cur 4 ah.out (List.replicate m (Aj u)) (by rw[LQ];exact HM.out.symm) (fun _=>⟨rfl,_,rfl,Ch.out⟩) (by rw[LQ,aP.out];exact fC) (by intro v hv;rw[RD hv];rfl) g w1 mr.out.drew (Le _) ?_;intro w3 mA aj;rw[LQ]))
   all_goals
    rw[mG.out];go_wp2_with fail
    go_frame
    go_roundw
    case rel=>
     (repeat apply Exists.intro)
     exact⟨⟨k+m,splice cur k (List.replicate m (Aj u)),by omega,by omega,rfl,SP.out.2,SP.out.1,mA,aj⟩,by first | rfl | (go_frame;rfl) | (simp[Act.put];done)⟩
    case measure=>simp[Au];omega
 obtain rfl:k=n:=by omega
 go_wp2_with fail;go_ret;refine⟨g,rfl,by have:=tC.out;omega,?_,by have:=tC.out;rw[this];exact iT⟩;unfold BRow xT;have e:=AD.out;rw[Nd (by have:=aP.out;omega)] at e;rw[ah.out,e];simp
theorem clone_kBl(A:Bb)(n cap:Nat)(cs:List Ax)(w:Ba)(hl:cs.length=n*1)(hA:Raw w A n cs)(h1:∀u∈cs,u.oneCell'=AA)(hn:n<=1000000) :
  As Aq 46 #[I A n cap] w (RetR kBl n cs w):=by
 have HT:=zH hA;have H1:=zH h1;have HL:=zH hl;have q:∀(w:Ba) (a:Bb) (n c n' c':Nat),(binOp .eql 46 (I a n c) (I Z n' c')).run Aq w=.ok (Aj a.isNone) w:=fun w a n c n' c'=>Pq w _ _ a n c n' c' Pu
 obtain⟨i0,hi,ec,cO,dP⟩:=xu kBl_ok
 cases A with
 | none=>
  have mz:n=0:=by
   rcases Nw n with h | h
   . exact h
   . obtain⟨b,off,e,_⟩:=HT.out h;cases e
  subst mz;have cK:cs=[]:=LA (by have:=HL.out;omega);subst cK;go_enter func46,ntmps46;go_wp2;go_ret;exact⟨_,rfl,OwnR.nil _ _ _,Ll _ _⟩
 | some ad=>
  have HC:Aw (∀(j:Nat) (u:Ax),cs[j]?=J u->(w.alloc (Ai #[] 4)).cell? (ad.add j)=J u):=fun j u hj=>by
   have cq:j<n*1:=by rw[<-HL.out];exact(Lv.1 hj).1
   obtain⟨b,off,e,aa,hc⟩:=HT.out (by omega)
   cases e
   rw[Pn];exact Pw _ (hc j u hj)
  go_enter func46,ntmps46;go_wp2_with (at_builtin;refine Ps _ rfl _ _ 46 rfl w.heap.size 4 i0 _ 1 1 Pu hi ec cO dP rfl (by decide) _ _ _ rfl (PB w #[] 0 (Le _) (NF _) rfl) ad n cap cs rfl HL.out HC.out H1.out ?qc4 ?qc5 ?qc6 ?_)
  case qc4=>unfold maxLen;omega
  case qc5=>omega
  case qc6=>simp
  intro v' w1 an bW pZ;go_wp2;go_ret;refine⟨v',rfl,an,?_⟩;exact((Ll _ w).alloc (Le _) _).grown bW (by simp) (by intro k hk;simp[Value.ownBlock] at hk;omega)
end
section
open Go.RowKit Go.Shelf
attribute [local go_sem] Oper.semAt_some
structure KwAt(w:Ba)(B bw n N:Nat)(cls:Nat->List Int):Prop where
 lt:bw<B
 size:w.cell? ⟨bw,10,Z⟩=J (O U (n:Int))
 rows:∃b off cC,w.cell? ⟨bw,11,Z⟩=J (I (J ⟨b,off,Z⟩) N cC)/\b<B/\∀q,q<N->∃A c,w.cell? ⟨b,off+q,Z⟩=J (I A n c)/\IAt w B A (cls q)
 len:∀q,(cls q).length=n
theorem KwAt.keep{w w':Ba}{B bw n N:Nat}{cls:Nat->List Int}(h:KwAt w B bw n N cls)(hb:Ar B w w'):KwAt w' B bw n N cls:=by
 obtain⟨b,off,cC,h1,h2,h3⟩:=h.rows;refine⟨h.lt,(hb.cell (p:=⟨bw,10,Z⟩) h.lt).trans h.size,⟨b,off,cC,(hb.cell (p:=⟨bw,11,Z⟩) h.lt).trans h1,h2,fun q hq=>?_⟩,h.len⟩;obtain⟨A,c,h4,h5⟩:=h3 q hq;exact⟨A,c,(hb.cell (p:=⟨b,off+q,Z⟩) h2).trans h4,h5.keep hb⟩
theorem KwAt.more{w:Ba}{B B' bw n N:Nat}{cls:Nat->List Int}(h:KwAt w B bw n N cls)(hB:B<=B'):KwAt w B' bw n N cls:=by
 obtain⟨b,off,cC,h1,h2,h3⟩:=h.rows;refine⟨by have:=h.lt;omega,h.size,⟨b,off,cC,h1,by omega,fun q hq=>?_⟩,h.len⟩;obtain⟨A,c,h4,h5⟩:=h3 q hq;exact⟨A,c,h4,h5.more hB⟩
theorem kall_any(bw n N:Nat)(cls:Nat->List Int)(h1:1<=n)(hn:n<=100000)(w:Ba)(hK:KwAt w w.heap.size bw n N cls) :
  As Aq 80 #[Al (J ⟨bw,0,Z⟩)] w (RetB (List.replicate n AA) w):=by
 obtain⟨w1,ab,d1,aK,hB⟩:=zk w #[Aj AA] 4;have HC:=zH (repeatB_any n w.heap.size h1 hn AA w1 d1);have z0:=hK.size;have hl:=hK.lt;have ai:=zH ab;have HB:=zH hB;unfold RetB;rw[LQ];clear ab d1 hB hK;go_enter func80,ntmps80;go_wp2_with fail;rw[ai.out];refine HC.out.mono ?_;rintro e w2 ⟨g,rfl,hg,hr,ag⟩;have HR:=zH hr;have aw:=zH (HB.out.trans (ag.mono (by omega)));go_wp2_with fail;go_ret;exact⟨g,rfl,by omega,HR.out,aw.out⟩
theorem uP(bw n N:Nat)(cls:Nat->List Int)(hn:n<=100000)(q:Nat)(hq:q<N)(B:Bb)(cb:Nat)(set:List Bool)(hb:set.length=n)(w:Ba)(hK:KwAt w w.heap.size bw n N cls)(hB:BAt w w.heap.size B set) :
  As Aq 40 #[Al (J ⟨bw,0,Z⟩),O U (q:Int),I B n cb] w (RetB (xQ n (cls q) set) w):=by
 obtain⟨b,off,cC,z1,ag,hr⟩:=hK.rows;obtain⟨A,c,z2,hI⟩:=hr q hq;have HC:=zH (ZC A B c cb n hn (cls q) set (hK.len q) hb w hI hB);have pX:(0:Int)<=(q:Int):=by omega
 have pW:(q:Int)<(N:Int):=by omega
 unfold RetB at HC ⊢;rw[yO] at HC ⊢;go_enter func40,ntmps40;go_wp2_with fail;refine HC.out.mono ?_;rintro e w2 ⟨g,rfl,hg,ef,aj⟩;have HR:=zH ef;have aw:=zH aj;go_wp2_with fail;go_ret;exact⟨g,rfl,hg,HR.out,aw.out⟩
theorem ko(bw n N:Nat)(cls:Nat->List Int)(h1:1<=n)(hn:n<=100000)(hN:N<=5)(G:Nat)(hG:G<32)(B:Bb)(cb:Nat)(set:List Bool)(hb:set.length=n)(w:Ba)(hK:KwAt w w.heap.size bw n N cls)(hB:BAt w w.heap.size B set) :
  As Aq 42 #[Al (J ⟨bw,0,Z⟩),O U (G:Int),I B n cb] w (RetB (evL n cls (zS G N) set) w):=by
 have HA:=zH (kall_any bw n N cls h1 hn w hK);have sc:=zH (fun (q:Nat) (hq:q<N) (X:Ba) (hX:Ar w.heap.size w X)=>uP bw n N cls hn q hq B cb set hb X ((hK.keep hX).more hX.size) ((hB.keep hX).more hX.size));have cx:=zH (fun (g g':Nat) (a b:List Bool) (ha:a.length=n) (hb:b.length=n) (X:Ba) (r1:BRow X g a) (r2:BRow X g' b)=>gM (J ⟨g,0,Z⟩) (J ⟨g',0,Z⟩) n n n hn a b ha hb X (r1.at_ r1.lt) (r2.at_ r2.lt));have HK:=zH hK;unfold RetB at HA sc cx ⊢;rw[LQ] at HA;simp only[yO] at sc;simp only[yP] at cx;rw[xR];go_enter func42,ntmps42;go_wp2_with fail;refine HA.out.mono ?_;rintro e w2 ⟨g2,rfl,ib,ef,ag⟩;have dk:=zH ef;have aw:=zH ag;obtain⟨b,off,cC,z1,aY,_⟩:=(HK.out.keep ag).rows;go_wp2_with fail
 go_loopw [7,16] (fun o i wr=>∃k g:Nat,k<=N/\i=O U (k:Int)/\o=I (J ⟨g,0,Z⟩) n n/\w.heap.size<=g/\Aw (BRow wr g (evL n cls (zS G k) set))/\Aw (Ar w.heap.size w wr)) (fun _ i _=>N-(Au i).toNat)
 case atStart=>exact⟨0,g2,by omega,rfl,rfl,ib,dk,aw⟩
 obtain⟨k,g,hk,rfl,rfl,hg,hr,aQ⟩:=hrel
 by_cases aa:k<N
 . have aq:=bit_test hG (show k<5 by omega)
   have aW:(k:Int)<(N:Int):=by omega
   have EI:min k 64=k:=by omega
   by_cases dt:G.testBit k=AA
   case neg=>
    have AJ:G.testBit k=AC:=by simpa using dt
    rw[AJ] at aq;have hE:zS G (k+1)=zS G k:=by rw[jn,Lg dt]
    have ef:Aw (BRow wr g (evL n cls (zS G (k+1)) set)):=by rw[hE];exact hr
    go_wp2_with fail
    go_roundw
    case rel=>exact⟨k+1,g,by omega,by go_num,rfl,hg,ef,aQ⟩
    simp[Au];omega
   case pos=>
   rw[dt] at aq;have HE:Aw (evL n cls (zS G (k+1)) set=kj n (evL n cls (zS G k) set) (xQ n (cls k) set)):=by rw[Aw,jn,Li dt,Xl]
   have HC:=zH (sc.out k aa wr aQ.out);go_wp2_with fail;refine HC.out.mono ?_;rintro e w3 ⟨g3,rfl,u',mA,aj⟩;have eK:=aQ.out.size;have pk:BRow w3 g (evL n cls (zS G k) set):=Lb aj hr.out.lt hr.out;have cI:=zH (cx.out g g3 _ _ (xR n cls set (zS G k)) (yO n (cls k) set) w3 pk mA);rw[<-HE.out] at cI;have aJ:=zH (aQ.out.trans (aj.mono eK));go_wp2_with fail;refine cI.out.mono ?_;rintro e w4 ⟨g4,rfl,tm,CK,aG⟩;have pJ:=zH CK;have dT:=zH (Lc aJ.out aG);have Iz:w.heap.size<=g4:=by have:=aJ.out.size;omega
   go_wp2_with fail
   go_roundw
   case rel=>exact⟨k+1,g4,by omega,by go_num,rfl,Iz,pJ,dT⟩
   simp[Au];omega
 obtain rfl:N=k:=by omega
 go_wp2_with fail;go_ret;exact⟨g,rfl,hg,hr.out,aQ.out⟩
end
section
open Go.RowKit Go.Shelf
attribute [local go_sem] Oper.semAt_some
section
variable {B D pt:Nat} {wD w W W':Ba}
theorem ownR_same{K:Kd}{base:Nat}{v:Ax}{n:Nat}{cs:List Ax}(h:OwnR K W base v n cs)(hs:∀k,v.ownBlock=J k->W'.heap[k]?=W.heap[k]?):OwnR K W' base v n cs:=by
 refine⟨h.1,?_⟩;rcases h.2 with hn | ⟨g,cap,cur,rfl,hb,hg,rest⟩
 . exact .inl hn
 exact .inr ⟨g,cap,cur,rfl,hb,(hs g rfl).trans hg,rest⟩
end
end
section
open Go.RowKit Go.Shelf
attribute [local go_sem] Oper.semAt_some
theorem own_ne{w:Ba}{base base' n:Nat}{v V:Ax}{xs:List Int}{cs:List Ax}(h:Own w base v xs)(g:OwnR kIs w base' V n cs):v.ownBlock=Z\/v.ownBlock≠V.ownBlock:=by
 rcases h.2 with ⟨rfl,_⟩ | ⟨b,cap,cur,rfl,_,hb,_⟩
 . exact .inl rfl
 refine .inr fun e=>?_
 rcases g.2 with ⟨rfl,_⟩ | ⟨b',aD,cur',rfl,_,di,_⟩
 . cases e
 have:b=b':=by simpa[Value.ownBlock] using e
 subst this;rw[hb] at di
 cases di
structure NwIn(B bw n:Nat)(S SW:Array Ax)(cls:Nat->List Int)(w W:Ba)(A:Bb)(k c:Nat)(cs:List Ax):Prop where
 below:Ar B w W
 b0:W.heap[B]?=J (Ai S 35 (0,0))
 bx:W.heap[bw]?=J (Ai SW 100 (0,0))
 own:OwnR kIs W (bw+1) (I A k c) k cs
 rows:∀q,q<k->∃A' c',cs[q]?=J (I A' n c')/\Own W (bw+1) (I A' n c') (cls q)
 len:cs.length=k
 lo:B<bw
theorem NwIn.on{B bw n k c:Nat}{S SW:Array Ax}{cls:Nat->List Int}{w W W':Ba}{A:Bb}{cs:List Ax}(h:NwIn B bw n S SW cls w W A k c cs)(hb:Ar W.heap.size W W'):NwIn B bw n S SW cls w W' A k c cs:=by
 have l1:=zj h.bx;have l0:=zj h.b0;refine⟨h.below.trans (hb.mono (by omega)),Lb hb l0 h.b0,Lb hb l1 h.bx,h.own.below hb (Le _),fun q hq=>?_,h.len,h.lo⟩;obtain⟨A',c',e1,e2⟩:=h.rows q hq;exact⟨A',c',e1,e2.below hb (Le _)⟩
theorem NwIn.push{B bw n k c c2:Nat}{S SW SW':Array Ax}{cls:Nat->List Int}{w W W1 W2:Ba}{A A2 A3:Bb}{c3:Nat}{cs:List Ax}(h:NwIn B bw n S SW cls w W A k c cs)(aR:Own W (bw+1) (I A3 n c3) (cls k))
  (ho:OwnR kIs W1 (bw+1) (I A2 (k+1) c2) (k+1) (cs++[I A3 n c3])) (hg:W.grownBy W1 (I A k c).ownBlock) (hs:∀z,z≠bw->W2.heap[z]?=W1.heap[z]?) (hb:Ar B W1 W2) (hx:W2.heap[bw]?=J (Ai SW' 100 (0,0))) :
  NwIn B bw n S SW' cls w W2 A2 (k+1) c2 (cs++[I A3 n c3]):=by
 have l1:=zj h.bx;have l0:=zj h.b0;have lo:=h.lo;have bj:∀z,z<=bw->(I A k c).ownBlock≠J z:=fun z hz e=>by have:=(h.own.lt z e).1;omega
 have keep:∀(v:Ax) (xs:List Int),Own W (bw+1) v xs->Own W2 (bw+1) v xs:=fun v xs hv=>by
  have h1:=hv.kept hg (own_ne hv h.own);exact h1.same fun z hz _=>hs z (by omega)
 refine⟨h.below.trans (((Ll _ _).grown hg (by omega) (fun r e=>by have:=(h.own.lt r e).1;omega)).trans hb),(hs B (by omega)).trans ((hg.block B l0 (fun e=>bj B (by omega) e.symm)).trans h.b0),hx,ownR_same ho (fun z e=>hs z (by have:=(ho.lt z e).1;omega)),fun q hq=>?_,by simp[h.len],lo⟩
 by_cases e:q=k
 . subst e
   exact⟨A3,c3,by rw[LW (by rw[h.len];exact Le _),h.len,N0];rfl,keep _ _ aR⟩
 obtain⟨A',c',e1,e2⟩:=h.rows q (by omega);exact⟨A',c',by rw[LY (by rw[h.len];omega)];exact e1,keep _ _ e2⟩
def RetKw(s:Sy)(w:Ba)(e:Ending)(w':Ba):Prop:=Ar w.heap.size w w'/\((yh s≠0/\e=Am (.tuple #[Al Z,O U (yh s)])) \/
 (yh s=0/\∃bw,e=Am (.tuple #[Al (J ⟨bw,0,Z⟩),O U 0])/\KwAt w' w'.heap.size bw (ptn s) s.n.toNat (yB s)))
def JP(s:Sy)(A SV AV AX:Bb)(kc ks kv kx:Nat)(w:Ba)(e:Ending)(w':Ba):Prop:=Ar w.heap.size w w'/\((yh s≠0/\e=Am (.tuple #[Al Z,O U (yh s)])) \/
 (yh s=0/\∃bw,e=Am (.tuple #[Al (J ⟨bw,0,Z⟩),O U 0])/\KwAt w' w'.heap.size bw (ptn s) s.n.toNat (yB s) /\
  ∃mb,w.heap.size<=mb/\MapOf (O U) w' mb 0 (fun _=>Z)/\∃AQ cQ,w'.heap[bw]?=J (Ai #[O U s.p.t.n,O U s.p.t.ins,O U s.p.t.outs,I A s.p.t.cases.length kc,O U s.p.a.n,I SV s.p.a.sts.length ks,O U s.p.k,O U s.n,I AV s.vs.length kv,I AX s.xs.length kx,O U (ptn s:Int),I AQ s.n.toNat cQ,.map (J mb)] 100 (0,0))))
theorem jp(s:Sy)(hs:LowS s)(hf:xz s.p)(A SV AV AX:Bb)(kc ks kv kx:Nat)(w:Ba)(hS:SyAt w w.heap.size A SV AV AX s) :
  As Aq 27 #[.agg (s.vs_ A kc SV ks AV kv AX kx)] w (JP s A SV AV AX kc ks kv kx w):=by
 obtain⟨w1,ab,d0,aK,hB⟩:=zk w (s.vs_ A kc SV ks AV kv AX kx) 35;have CA:=zH (pCount_any s hs hf A SV AV AX kc ks kv kx w1 (hS.up hB));have mL:=zH (fun (q:Nat) (X:Ba) (hX:Ar w.heap.size w X)=>classes_any s hs hf (q:Int) A SV AV AX kc ks kv kx X ((hS.keep hX).more hX.size));have dD:Aw (yh s≠0->cntE s=(0,yh s)):=fun h=>Li h
 have az:Aw (yh s=0->cntE s=((ptn s:Int),0)/\1<=ptn s/\(∃N:Nat,s.n=(N:Int)/\1<=N/\N<=5)/\∀q:Nat,(q:Int)<s.n->clsE s (q:Int)=(yB s q,0)):=fun h=>by
  obtain⟨_,K,N,hF⟩:=yJ hf h;have hx:=xs_pos hf h;have:=LU hx (show 1<=s.p.k.toNat+1 by omega);refine⟨Lg (by simpa using h),by unfold ptn;omega,⟨N,hF.n,hF.n1,hF.n5⟩,fun q hq=>?_⟩;unfold clsE;rw[Lg (by simpa using h),Lg (by omega),Lo]
 have mJ:Aw (∀q,(yB s q).length=ptn s):=fun q=>jL s q
 unfold JP;obtain⟨r,hr⟩:=Ki (yh s);rw[hr] at dD az ⊢;obtain⟨R,fE⟩:=Ki (cntE s);rw[fE] at CA dD az;obtain⟨Dj,AZ⟩:=Ki (yB s);rw[AZ] at az mJ ⊢;obtain⟨n,hn⟩:=Ki (ptn s);rw[hn] at az mJ ⊢;unfold Sy.vs_ at ab d0 CA mL ⊢;have ai:=zH ab;have HB:=zH hB;have HD:=zH d0;have p7:=zh (d0) 7 rfl;have p8:=zh (d0) 8 rfl;have p9:=zh (d0) 9 rfl;clear ab d0 hB hS hr fE hs hf hn AZ;go_enter func27,ntmps27;go_wp2_with fail;rw[ai.out];go_wp2_with fail;refine CA.out.mono ?_;rintro e w2 ⟨rfl,ag⟩;have aw:=zH (HB.out.trans (ag.mono (by omega)));have HD:=zH (La ag HD.out);clear p7 p8 p9 ag CA ai HB
 by_cases h0:r=0
 case neg=>
  have hR:Aw (R=(0,r)):=dD.out h0;have e0:(r != 0)=AA:=by simpa using h0
  clear dD az HD mL mJ;rw[hR.out];go_wp2_with fail
  go_ret2
  exact⟨aw.out,.inl ⟨h0,rfl⟩⟩
 case pos=>
 subst h0;obtain⟨e1,cU,⟨N,hN,EX,Tn⟩,aP⟩:=az.out rfl;rw[e1];have ff:=zH hN;have pP:=zH aP;have De:=zH (And.intro cU (And.intro EX Tn));have lm:=@run_makeMap Aq;obtain⟨p0,p1,p2,p3,p4,p5,p6,p7,p8,p9⟩:=zN (HD.out);clear dD az e1 cU EX Tn hN aP;go_upto_region 5 with fail
 obtain⟨a3,h3⟩:=Ki (w2.alloc (.map #[] 0));have y3:a3.heap.size=w2.heap.size+1:=by rw[<-h3];simp
 have z3:Ar w2.heap.size w2 a3:=by rw[<-h3];exact ye _ _
 have m3:MapOf (O U) a3 w2.heap.size 0 (fun _=>Z):=by rw[<-h3];exact MapOf.made w2
 rw[h3];obtain⟨a4,h4,x4,y4,z4⟩:=zk a3 #[O U s.p.t.n,O U s.p.t.ins,O U s.p.t.outs,I A s.p.t.cases.length kc,O U s.p.a.n,I SV s.p.a.sts.length ks,O U s.p.k,O U s.n,I AV s.vs.length kv,I AX s.xs.length kx,O U (n:Int),I Z 0 0,.map (J w2.heap.size)] 100;rw[h4];rw[y3] at x4 y4;have pR:=zj HD.out
 have hIN:NwIn w.heap.size (w2.heap.size+1) n #[O U s.p.t.n,O U s.p.t.ins,O U s.p.t.outs,I A s.p.t.cases.length kc,O U s.p.a.n,I SV s.p.a.sts.length ks,O U s.p.k,O U s.n,I AV s.vs.length kv,I AX s.xs.length kx] #[O U s.p.t.n,O U s.p.t.ins,O U s.p.t.outs,I A s.p.t.cases.length kc,O U s.p.a.n,I SV s.p.a.sts.length ks,O U s.p.k,O U s.n,I AV s.vs.length kv,I AX s.xs.length kx,O U (n:Int),I Z 0 0,.map (J w2.heap.size)] Dj w a4 Z 0 0 []:=
  ⟨aw.out.trans ((z3.trans (z4.mono (by omega))).mono (by omega)),Lb z4 (by omega) (Lb z3 pR HD.out),x4,OwnR.nil _ _ _,fun q hq=>by omega,rfl,by omega⟩
 have pf:=zH hIN;have Co:Aw (MapOf (O U) a4 w2.heap.size 0 (fun _=>Z)):=m3.same (z4.block _ (by omega));have hmw:Aw (w.heap.size<=w2.heap.size):=aw.out.size;have q7:a4.cell? ⟨w.heap.size,7,Z⟩=J (O U (N:Int)):=by rw[<-ff.out];exact zh hIN.b0 7 rfl
 obtain⟨bw,aQ⟩:=Ki (w2.heap.size+1);have cu:Aw (w2.heap.size<bw):=by rw[Aw];omega
 rw[aQ] at pf ⊢;clear h3 y3 z3 m3 h4 x4 y4 z4 pR hIN HD aQ lm p7 p8 p9;go_wp2_with fail
 go_loopw [26] (fun i wr=>∃k:Nat,k<=N/\i=O U (k:Int)/\∃AQ cQ cs,Aw (NwIn w.heap.size bw n #[O U s.p.t.n,O U s.p.t.ins,O U s.p.t.outs,I A s.p.t.cases.length kc,O U s.p.a.n,I SV s.p.a.sts.length ks,O U s.p.k,O U s.n,I AV s.vs.length kv,I AX s.xs.length kx] #[O U s.p.t.n,O U s.p.t.ins,O U s.p.t.outs,I A s.p.t.cases.length kc,O U s.p.a.n,I SV s.p.a.sts.length ks,O U s.p.k,O U s.n,I AV s.vs.length kv,I AX s.xs.length kx,O U (n:Int),I AQ k cQ,.map (J w2.heap.size)] Dj w wr AQ k cQ cs)/\Aw (MapOf (O U) wr w2.heap.size 0 (fun _=>Z))) (fun i _=>N-(Au i).toNat)
 case atStart=>exact⟨0,by omega,rfl,Z,0,[],pf,Co⟩
 obtain⟨k,hk,rfl,AQ,cQ,cs,hI,HM⟩:=hrel;clear pf q7 Co
 by_cases aa:k<N
 . have hc:=mL.out k wr hI.out.below
   rw[pP.out k (by rw[ff.out];omega)] at hc;have HC:=zH hc;have dh:(0:Int)<=(k:Int):=by omega
   have aW:(k:Int)<(N:Int):=by omega
   have bY:=mJ.out k;have p':k<=5:=by have:=De.out;omega
   obtain⟨p0,p1,p2,p3,p4,p5,p6,p7,p8,p9⟩:=zN (hI.out.b0);clear hc;go_wp2_with fail;refine HC.out.mono ?_;rintro e w3 ⟨A3,c3,rfl,mc,aj⟩;have lA:=hI.out.on aj;have lc:=hI.out.lo;have tV:=zj hI.out.bx;have oS:=cu.out;have HM:=zH (HM.out.same (aj.block _ (by omega)));have ho3':Own w3 (bw+1) (I A3 n c3) (Dj k):=by rw[<-bY];exact mc.low (by omega)
   dsimp only;rw[bY];have mK:=zH lA;have fw:=zH ho3';have WK:=zh lA.bx 11 rfl;have hlx3:=zj lA.bx;go_upto_region 11 with fail
   obtain⟨W4,rk,d4,oA,aG⟩:=zk w3 #[I A3 n c3] 36;have Cv:=zH (mK.out.on aG);have HM:=zH (HM.out.same (aG.block _ (by omega)));have lg:=zH (fw.out.below aG (Le _));have pJ:=zH Cv.out.own;have hb4s:bw+1<=W4.heap.size:=by omega
   have mp:=zH rk;clear mK fw rk aG
   go_wp2_with (at_builtin; go_must (rw [mp.out]; refine xb Jy rfl _ _ (by rfl) (bw + 1) (I AQ k cQ) k cs (by rfl) pJ.out w3.heap.size #[I A3 n c3] (by rfl) d4 rfl (by simp [Value.oneCell']) (by omega) hb4s _ rfl ?_); intro g' aD w5 fO dv oX nO
                have My:=(dv.block bw (zj Cv.out.bx) (fun e=>by have:=(pJ.out.lt bw e.symm).1;omega)).trans Cv.out.bx;have u11:=zh My 11 rfl;have f11:=zi My 11;have HX5:=zH My;have HM:=zH (HM.out.same (dv.block _ (by have:=zj Cv.out.bx;omega) (fun e=>by have:=(pJ.out.lt _ e.symm).1;omega)));have iM:=zH fO;have HG5:=zH dv
                clear My fO dv oX nO)
   have hnew:=Lq w5 bw 11 _ _ (I (J ⟨g',0,Z⟩) (k+1) aD) HX5.out;have hI6:=Cv.out.push lg.out iM.out HG5.out (W2:=w5.setCell ⟨bw,11,Z⟩ (I (J ⟨g',0,Z⟩) (k+1) aD)) (fun z hz=>Lh w5 ⟨bw,11,Z⟩ _ z hz) ((Ll _ _).setCell (by show w.heap.size<=bw;omega) _) hnew;have HI6:=zH hI6;have HM:=zH (HM.out.same (Lh w5 ⟨bw,11,Z⟩ (I (J ⟨g',0,Z⟩) (k+1) aD) w2.heap.size (by show ¬w2.heap.size=bw;omega)))
   go_roundw
   case rel=>exact⟨k+1,by omega,by go_num,_,_,_,HI6,HM⟩
   simp[Au];omega
 obtain rfl:N=k:=by omega
 have oT:Aw (KwAt wr wr.heap.size bw n N Dj):=by
  have hl:=zj hI.out.bx;obtain⟨A0,c0,e0,_,_,hf⟩:=hI.out.own.form
  cases e0
  obtain⟨g,rfl,_,hg,cK⟩:=hf (by have:=De.out;omega);refine⟨hl,zh hI.out.bx 10 rfl,⟨g,0,cQ,zh hI.out.bx 11 rfl,hg,fun q hq=>?_⟩,mJ.out⟩;obtain⟨A',c',e1,e2⟩:=hI.out.rows q hq;exact⟨A',c',by rw[LO];exact cK q _ e1,own_on e2 (fun _ _ _=>rfl)⟩
 have rG:=zH hI.out.below;have aV:=zH hI.out.bx;go_wp2_with fail
 go_ret2
 refine⟨rG.out,bw,rfl,?_,w2.heap.size,hmw.out,HM.out,AQ,cQ,?_⟩
 . rw[ff.out,Lo]
   exact oT.out
 have h9:=aV.out;rw[ff.out] at h9 ⊢;rw[Lo];exact h9
theorem Jr(s:Sy)(hs:LowS s)(hf:xz s.p)(A SV AV AX:Bb)(kc ks kv kx:Nat)(w:Ba)(hS:SyAt w w.heap.size A SV AV AX s) :
  As Aq 27 #[.agg (s.vs_ A kc SV ks AV kv AX kx)] w (RetKw s w):=
 (jp s hs hf A SV AV AX kc ks kv kx w hS).mono fun e w' h=>by
  obtain⟨hb,h | ⟨h1,bw,h2,h3,_⟩⟩:=h
  . exact⟨hb,.inl h⟩
  . exact⟨hb,.inr ⟨h1,bw,h2,h3⟩⟩
end
section
theorem QO:∀(a b:List Bool),a.length=b.length->(∀i,a.getD i AC=AA->b.getD i AC=AA)->a.count AA<=b.count AA/\(a≠b->a.count AA<b.count AA)
 | [],[],_,_=>⟨Le _,fun h=>absurd rfl h⟩
 | x::a,y::b,hl,h=>by
  obtain⟨h1,h2⟩:=QO a b (by simpa using hl) (fun i hi=>h (i+1) hi);have h0:=h 0;simp only[List.getD_cons_zero] at h0;simp only[List.count_cons]
  cases x with
  | false=>
   cases y with
   | false=>exact⟨by simpa using h1,fun bj=>by simpa using h2 (fun e=>bj (by rw[e]))⟩
   | true=>simp;omega
  | true=>
   rw[h0 rfl];exact⟨by simpa using h1,fun bj=>by have:=h2 (fun e=>bj (by rw[e]));simpa using this⟩
theorem QY{n:Nat}{a b:List Bool}(ha:a.length=n)(hb:b.length=n)(h:∀i,i<n->(a.getD i AC=AA↔b.getD i AC=AA)):a=b:=by
 refine NZ (by omega) fun i h1 h2=>?_
 have:=h i (by omega);rw[zt h1,zt h2] at this;exact NG.2 this
theorem ZZ{n:Nat}{F:Nat->List Bool}(hl:∀m,(F m).length=n)(hd:∀m i,(F (m+1)).getD i AC=AA->(F m).getD i AC=AA):∃M,M<=n/\F (M+1)=F M/\∀m,m<M->F (m+1)≠F m:=by
 have key:∀k,(∀m,m<k->F (m+1)≠F m)->(F k).count AA+k<=n:=by
  intro k
  induction k with
  | zero=>intro _;have:=List.count_le_length (a:=AA) (l:=F 0);rw[hl] at this;omega
  | succ k ih=>
   intro h;have h1:=ih fun m hm=>h m (by omega)
   have h2:=(QO (F (k+1)) (F k) (by rw[hl,hl]) (hd k)).2 (h k (by omega));omega
 have y':∃m,F (m+1)=F m:=by
  refine NL fun hn=>?_
  have:=key (n+1) fun m _ e=>hn ⟨m,e⟩
  omega
 obtain⟨m,hm⟩:=y';obtain⟨M,_,h2,h3⟩:=least_of (p:=fun m=>F (m+1)=F m) m hm;exact⟨M,by have:=key M h3;omega,h2,h3⟩
def yg(n:Nat)(ev:List Bool->List Bool)(set:List Bool):Nat->List Bool
 | 0=>List.replicate n AA
 | m+1=>ev (kj n set (yg n ev set m))
def qc(n:Nat)(ev:List Bool->List Bool)(set:List Bool):Nat->List Bool
 | 0=>set
 | m+1=>kj n (qc n ev set m) (ev (qc n ev set m))
def qG(n:Nat)(ev:List Bool->List Bool)(set:List Bool):Nat->List Int
 | 0=>List.replicate n (-1)
 | m+1=>(List.range n).map fun i=>if (qc n ev set m).getD i AC then (m:Int) else (qG n ev set m).getD i 0
theorem outS_len(n:Nat)(ev:List Bool->List Bool)(set:List Bool):∀m,(qG n ev set m).length=n
 | 0=>by simp[qG]
 | m+1=>by simp[qG]
def Jk(n:Nat)(ev:List Bool->List Bool)(set:List Bool)(M:Nat):List Int:=(List.range n).map fun i=>if (qc n ev set M).getD i AC then (n:Int) else (qG n ev set M).getD i 0
theorem gZ{n:Nat}{a b:List Bool}{i:Nat}(h:i<n):(kj n a b).getD i AC=(a.getD i AC&&b.getD i AC):=by rw[zt (by rw[yP];exact h),wX h]
section
variable {n:Nat} {cls:Nat->List Int} {ps:List Nat} {set:List Bool}
theorem qp:∀m,(yg n (evL n cls ps) set m).length=n
 | 0=>by simp[yg]
 | m+1=>xR _ _ _ _
theorem YX(hs:set.length=n):∀m,(qc n (evL n cls ps) set m).length=n
 | 0=>hs
 | _+1=>yP _ _ _
theorem Xc{l:List Bool}{i:Nat}(h:l.length<=i):l.getD i AC=AC:=by rw[Lk,RO h];rfl
theorem evL_mono{a b:List Bool}(h:∀i,i<n->a.getD i AC=AA->b.getD i AC=AA){i:Nat}(hi:i<n)(ha:(evL n cls ps a).getD i AC=AA):(evL n cls ps b).getD i AC=AA:=
 (JI hi ps).2 fun p hp j hj e=>h j hj ((JI hi ps).1 ha p hp j hj e)
theorem jX:∀m i,(yg n (evL n cls ps) set (m+1)).getD i AC=AA->(yg n (evL n cls ps) set m).getD i AC=AA
 | 0,i,h=>by
  by_cases hi:i<n
  . simp[yg,List.getD_eq_getElem?_getD,hi]
  . rw[Xc (by rw[qp];omega)] at h;cases h
 | m+1,i,h=>by
  by_cases hi:i<n
  . refine evL_mono (fun j hj hh=>?_) hi h
    rw[gZ hj,Nf] at hh ⊢;exact⟨hh.1,jX m j hh.2⟩
  . rw[Xc (by rw[qp];omega)] at h;cases h
theorem levS_falls(hs:set.length=n)(m i:Nat)(h:(qc n (evL n cls ps) set (m+1)).getD i AC=AA):(qc n (evL n cls ps) set m).getD i AC=AA:=by
 by_cases hi:i<n
 . rw[qc,gZ hi,Nf] at h;exact h.1
 rw[Xc (by rw[YX hs];omega)] at h;cases h
variable {f:List Int}
end
end
section
open Go.RowKit
attribute [local go_sem] Oper.semAt_some
theorem Yb(A A':Bb)(cap aD:Nat)(vs us:List Bool)(w:Ba)(B:Nat)(_hB:B<=w.heap.size)(hA:BAt w B A vs)(nd:BAt w B A' us)(_hl:vs.length<=1000000)(MM:us.length<=1000000) :
  As Aq 11 #[I A vs.length cap,I A' us.length aD] w fun e w'=>e=Am (Aj (decide (vs=us)))/\∃n,w'=w.drewN n:=by
 by_cases aU:vs.length=us.length
 . have HL:=zH aU
   have iR:((vs.length:Int) != (us.length:Int))=AC:=by simp[aU]
   go_enter func11,ntmps11;go_wp2_with fail
   go_loopw [13] (fun i wr=>∃k m:Nat,k<=vs.length/\i=O U k/\wr=w.drewN m/\Aw (vs.take k=us.take k)) (fun i _=>vs.length-(Au i).toNat)
   case atStart=>exact⟨0,0,by omega,rfl,rfl,by show vs.take 0=us.take 0;simp⟩
   obtain⟨k,m,hk,rfl,rfl,aO⟩:=hrel;have eU:k<=us.length:=by have:=HL.out;omega
   by_cases aa:k<vs.length
   . have cB:k<us.length:=by have:=HL.out;omega
     obtain⟨b,off,rfl,aq,c0⟩:=hA.at_ k aa;obtain⟨b',eh,rfl,dp,d0⟩:=nd.at_ k cB
     by_cases hv:vs[k]=us[k]
     . have hz:Aw (vs.take (k+1)=us.take (k+1)):=vT aa cB aO.out hv
       obtain⟨x,hx⟩:=Ki (vs[k]);obtain⟨y,hy⟩:=Ki (us[k]);rw[hx] at c0 hv;rw[hy] at d0 hv;subst hv;go_wp2_with fail;go_quiet (fail);go_wp2_with fail
       go_roundw
       case rel=>exact⟨k+1,_,by omega,by go_num,rfl,hz⟩
       simp[Au];omega
     have hz:Aw (decide (vs=us)=AC):=Lj (qY aa cB hv);obtain⟨x,hx⟩:=Ki (vs[k]);obtain⟨y,hy⟩:=Ki (us[k]);rw[hx] at c0 hv;rw[hy] at d0 hv;have q1:(x != y)=AA:=by simpa using hv
     have q2:(x==y)=AC:=by simpa using hv
     clear hx hy hv;go_wp2_with fail;go_quiet (fail);go_wp2_with fail;go_ret;exact⟨zn hz.out.symm,_,je _ _ _⟩
   obtain rfl:k=vs.length:=by omega
   have hz:Aw (decide (vs=us)=AA):=Lm (ka HL.out aO.out);go_wp2_with fail;go_ret;exact⟨zn hz.out.symm,_,rfl⟩
 have hz:Aw (decide (vs=us)=AC):=Lj (by rintro rfl;exact aU rfl);have iR:((vs.length:Int) != (us.length:Int))=AA:=by simp;omega
 go_enter func11,ntmps11;go_wp2_with fail;go_ret;exact⟨zn hz.out.symm,0,rfl⟩
end
section
open Go.RowKit Go.Shelf
attribute [local go_sem] Oper.semAt_some
def RetOp(s:Sy)(g:Int)(set:List Bool)(w:Ba)(e:Ending)(w':Ba):Prop:=Ar w.heap.size w w'/\((yi s g set≠0/\e=Am (.tuple #[Al Z,O U (yi s g set)])) \/
 (yi s g set=0/\∃bw,e=Am (.tuple #[Al (J ⟨bw,0,Z⟩),O U 0])/\KwAt w' w'.heap.size bw (ptn s) s.n.toNat (yB s)))
def RetOpG(s:Sy)(g:Int)(set:List Bool)(A SV AV AX:Bb)(kc ks kv kx:Nat)(w:Ba)(e:Ending)(w':Ba):Prop:=Ar w.heap.size w w'/\((yi s g set≠0/\e=Am (.tuple #[Al Z,O U (yi s g set)])) \/
 (yi s g set=0/\∃bw,e=Am (.tuple #[Al (J ⟨bw,0,Z⟩),O U 0])/\KwAt w' w'.heap.size bw (ptn s) s.n.toNat (yB s) /\
  ∃mb,w.heap.size<=mb/\MapOf (O U) w' mb 0 (fun _=>Z)/\∃AQ cQ,w'.heap[bw]?=J (Ai #[O U s.p.t.n,O U s.p.t.ins,O U s.p.t.outs,I A s.p.t.cases.length kc,O U s.p.a.n,I SV s.p.a.sts.length ks,O U s.p.k,O U s.n,I AV s.vs.length kv,I AX s.xs.length kx,O U (ptn s:Int),I AQ s.n.toNat cQ,.map (J mb)] 100 (0,0))))
theorem Zv(s:Sy)(hs:LowS s)(hf:xz s.p)(g:Int)(set:List Bool)(A SV AV AX AB:Bb)(kc ks kv kx kb:Nat)(_Kq:set.length<=1000000)(w:Ba)(hS:SyAt w w.heap.size A SV AV AX s) :
  As Aq 41 #[.agg (s.vs_ A kc SV ks AV kv AX kx),O U g,I AB set.length kb] w (RetOpG s g set A SV AV AX kc ks kv kx w):=by
 obtain⟨w1,ab,d0,aK,hB⟩:=zk w (s.vs_ A kc SV ks AV kv AX kx) 35;have o8:=zH (jp s hs hf A SV AV AX kc ks kv kx w1 (hS.up hB))
 have dD:Aw (yh s≠0->yi s g set=yh s):=fun h=>by
  have:yn s g=yh s:=Li h;unfold yi;rw[this,Li h]
 have az:Aw (yh s=0->(∃N:Nat,s.n=(N:Int)/\1<=N/\N<=5/\((g<0\/(2:Int)^N<=g)->yi s g set=2)/\(¬(g<0\/(2:Int)^N<=g)->yi s g set=if set.length≠ptn s then 15 else 0))/\ptn s<=700):=fun h=>by
  obtain⟨_,K,N,hF⟩:=yJ hf h;have hr:yn s g=if g<0\/(2:Int)^N<=g then 2 else 0:=by unfold yn;rw[Lg (by simpa using h),hF.n,Lo]
  have mQ:ptn s<=700:=by
   have hk:=hF.k;have oF:=hF.k6;have:=LU hF.lx (show K+1<=7 by omega);unfold ptn;rw[hk,Lo];omega
  refine⟨⟨N,hF.n,hF.n1,hF.n5,fun h2=>?_,fun h2=>?_⟩,mQ⟩
  . unfold yi;rw[hr,Li h2];rfl
  . unfold yi;rw[hr,Lg h2,Lg (by simp)]
 unfold JP at o8;unfold RetOpG;obtain⟨r,hr⟩:=Ki (yh s);rw[hr] at o8 dD az;obtain⟨E,hE⟩:=Ki (yi s g set);rw[hE] at dD az ⊢;obtain⟨n,hn⟩:=Ki (ptn s);rw[hn] at o8 az ⊢;unfold Sy.vs_ at ab d0 o8 ⊢;have ai:=zH ab;have HB:=zH hB;have HD:=zH d0;clear ab d0 hB hS hr hs hf hn hE;go_enter func41,ntmps41;go_wp2_with fail;rw[ai.out];go_wp2_with fail;refine o8.out.mono ?_;rintro e w2 ⟨ag,dX⟩;have aw:=zH (HB.out.trans (ag.mono (by omega)));have HD:=zH (La ag HD.out);rcases dX with ⟨h0,rfl⟩ | ⟨rfl,bw,rfl,hK,mb,oS,lm,AQ,cQ,bk⟩
 . have hR:Aw (E=r):=dD.out h0
   go_wp2_with fail
   go_ret2
   rw[hR.out];exact⟨aw.out,.inl ⟨h0,rfl⟩⟩
 have C9:=zH (And.intro (show w.heap.size<=mb by omega) (And.intro lm bk));obtain⟨⟨N,hN,EX,Tn,dG,fB⟩,mQ⟩:=az.out rfl;have U3:=zH dG;have mH:=zH fB;have ff:=zH hN;have HK:=zH hK;have z10:=hK.size
 have h2b:(1:Int)<=(2:Int)^N/\(2:Int)^N<=32:=by
  obtain rfl | rfl | rfl | rfl | rfl:N=1\/N=2\/N=3\/N=4\/N=5:=by omega
  all_goals decide
 have hwT:IntKind.i64.wrap ((2:Int)^N)=(2:Int)^N:=by rw[Ls];omega
 have EI:min N 64=N:=by omega
 have q7:w2.cell? ⟨w.heap.size,7,Z⟩=J (O U (N:Int)):=by rw[<-ff.out];exact zh HD.out 7 rfl
 by_cases hneg:g<0
 . have hR:Aw (E=2):=U3.out (.inl hneg)
   go_wp2_with fail
   go_ret2
   rw[hR.out];exact⟨aw.out,.inl ⟨by decide,rfl⟩⟩
 by_cases hbig:(2:Int)^N<=g
 . have hR:Aw (E=2):=U3.out (.inr hbig)
   go_wp2_with fail
   go_ret2
   rw[hR.out];exact⟨aw.out,.inl ⟨by decide,rfl⟩⟩
 have EW:=mH.out (by omega)
 by_cases aS:set.length=n
 . have hR:Aw (E=0):=by rw[Aw,EW,Lg (by simpa using aS)]
   have iN:=zH aS;obtain⟨ln,px⟩:=Ki set.length;rw[px] at aS;subst aS;rw[px] at *;go_wp2_with fail
   go_ret2
   rw[hR.out];exact⟨aw.out,.inr ⟨rfl,bw,rfl,HK.out,mb,C9.out.1,C9.out.2.1,AQ,cQ,C9.out.2.2⟩⟩
 have hR:Aw (E=15):=by rw[Aw,EW,Li aS]
 have e3:((set.length:Int) != (n:Int))=AA:=by simp;omega
 go_wp2_with fail
 go_ret2
 rw[hR.out];exact⟨aw.out,.inl ⟨by decide,rfl⟩⟩
theorem uN(s:Sy)(hs:LowS s)(hf:xz s.p)(g:Int)(set:List Bool)(A SV AV AX AB:Bb)(kc ks kv kx kb:Nat)(f':set.length<=1000000)(w:Ba)(hS:SyAt w w.heap.size A SV AV AX s) :
  As Aq 41 #[.agg (s.vs_ A kc SV ks AV kv AX kx),O U g,I AB set.length kb] w (RetOp s g set w):=
 (Zv s hs hf g set A SV AV AX AB kc ks kv kx kb f' w hS).mono fun e w' h=>by
  obtain⟨hb,h | ⟨h1,bw,h2,h3,_⟩⟩:=h
  . exact⟨hb,.inl h⟩
  . exact⟨hb,.inr ⟨h1,bw,h2,h3⟩⟩
theorem ZD(bw n N:Nat)(cls:Nat->List Int)(h1:1<=n)(hn:n<=100000)(hN:N<=5)(G:Nat)(hG:G<32)(B:Bb)(cb:Nat)(set:List Bool)(hb:set.length=n)(M:Nat)(M5:M<=n)(hM:yg n (evL n cls (zS G N)) set (M+1)=yg n (evL n cls (zS G N)) set M)(aa:∀m,m<M->yg n (evL n cls (zS G N)) set (m+1)≠yg n (evL n cls (zS G N)) set m)
  (w:Ba) (hK:KwAt w w.heap.size bw n N cls) (hB:BAt w w.heap.size B set) :
  As Aq 44 #[Al (J ⟨bw,0,Z⟩),O U (G:Int),I B n cb] w fun e w'=>∃g:Nat,e=Am (.tuple #[I (J ⟨g,0,Z⟩) n n,O U (M:Int)])/\w.heap.size<=g/\BRow w' g (yg n (evL n cls (zS G N)) set M)/\Ar w.heap.size w w':=by
 have HA:=zH (kall_any bw n N cls h1 hn w hK);have dH:=zH (fun (g:Nat) (x:List Bool) (hx:x.length=n) (X:Ba) (hX:Ar w.heap.size w X) (hr:BRow X g x)=>ko bw n N cls h1 hn hN G hG (J ⟨g,0,Z⟩) n x hx X ((hK.keep hX).more hX.size) (hr.at_ hr.lt));have cx:=zH (fun (g:Nat) (x:List Bool) (hx:x.length=n) (X:Ba) (hX:Ar w.heap.size w X) (hr:BRow X g x)=>gM B (J ⟨g,0,Z⟩) cb n n hn set x hb hx X ((hB.keep hX).more hX.size) (hr.at_ hr.lt));have iN:Aw (∀m,(yg n (evL n cls (zS G N)) set m).length=n):=fun m=>qp m
 have dq:Aw (∀m,evL n cls (zS G N) (kj n set (yg n (evL n cls (zS G N)) set m))=yg n (evL n cls (zS G N)) set (m+1)):=fun _=>rfl
 have HM:=zH hM;have K9:=zH aa;unfold RetB at HA dH cx;rw[LQ] at HA;simp only[xR] at dH;simp only[yP] at cx;have Fa:Aw (yg n (evL n cls (zS G N)) set 0=List.replicate n AA):=rfl;obtain⟨F,hF⟩:=Ki (yg n (evL n cls (zS G N)) set);rw[hF] at iN dq HM K9 Fa ⊢;go_enter func44,ntmps44;go_wp2_with fail;refine HA.out.mono ?_;rintro e w2 ⟨g2,rfl,ib,ef,ag⟩;have dk:Aw (BRow w2 g2 (F 0)):=by rw[Fa.out];exact ef
 have aw:=zH ag;go_wp2_with fail
 go_loopw [8,9] (fun o i wr=>∃k g:Nat,k<=M/\i=O U (k:Int)/\o=I (J ⟨g,0,Z⟩) n n/\w.heap.size<=g/\Aw (BRow wr g (F k))/\Aw (Ar w.heap.size w wr)) (fun _ i _=>M+1-(Au i).toNat)
 case atStart=>exact⟨0,g2,by omega,rfl,rfl,ib,dk,aw⟩
 obtain⟨k,g,hk,rfl,rfl,hg,hr,aQ⟩:=hrel;have Dv:=aQ.out.size;have HC:=zH (cx.out g (F k) (iN.out k) wr aQ.out hr.out);go_wp2_with fail;refine HC.out.mono ?_;rintro e w3 ⟨g3,rfl,u',mA,aj⟩;have ir:Aw (BRow w3 g (F k)):=Lb aj hr.out.lt hr.out;have aJ:=zH (aQ.out.trans (aj.mono Dv));have cI:=zH (dH.out g3 _ (yP _ _ _) w3 aJ.out mA);simp only[dq.out] at cI;go_wp2_with fail;refine cI.out.mono ?_;rintro e w4 ⟨g4,rfl,tm,CK,aG⟩;have pJ:=zH CK;have iM:Aw (BRow w4 g (F k)):=Lb aG ir.out.lt ir.out;have dT:=zH (Lc aJ.out aG);have iJ:=Yb (J ⟨g4,0,Z⟩) (J ⟨g,0,Z⟩) n n (F (k+1)) (F k) w4 w4.heap.size (Le _) (pJ.out.at_ pJ.out.lt) (iM.out.at_ iM.out.lt) (by rw[iN.out];omega) (by rw[iN.out];omega);rw[iN.out,iN.out] at iJ;have tD:=zH iJ;have Iz:w.heap.size<=g4:=by have:=aJ.out.size;omega
 go_wp2_with fail;refine tD.out.mono ?_;rintro e w5 ⟨rfl,q,rfl⟩;have cj:=zH (dT.out.trans (zP (Ll _ _) q));have rz:Aw (BRow (w4.drewN q) g4 (F (k+1))):=pJ.out;have Hf:Aw (BRow (w4.drewN q) g (F k)):=iM.out;obtain⟨w5,MB⟩:=Ki (w4.drewN q);rw[MB] at cj rz Hf ⊢
 by_cases fh:F (k+1)=F k
 · have PW : k = M := by
    refine NL fun bj=>?_
    exact K9.out k (by omega) fh
   subst PW;have e0:decide (F (k+1)=F k)=AA:=Lm fh;rw[e0];go_wp2_with fail
   go_ret2
   exact⟨g,rfl,hg,Hf.out,cj.out⟩
 have PW : k < M := by
  refine NL fun bj=>?_
  have:k=M:=by omega
  subst this;exact fh HM.out
 have e0:decide (F (k+1)=F k)=AC:=Lj fh;rw[e0];go_wp2_with fail
 go_roundw
 case rel=>exact⟨k+1,g4,by omega,by go_num,rfl,Iz,rz,cj⟩
 simp[Au];omega
end
section
open Go.RowKit
attribute [local go_sem] Oper.semAt_some
theorem wM{S:Nat->Prop}{W:Ba}{b:Nat}{xs:List Int}{t:TypeId}(hS:S b)(h:W.heap[b]?=J (Ai ((xs.map (O U)).toArray) t (0,0))):IAtS S W (J ⟨b,0,Z⟩) xs:=fun _=>
 ⟨b,0,rfl,hS,zj h,fun i hi=>by rw[LO];exact zh h i (by simp[hi])⟩
theorem lats_one{S:Nat->Prop}{W:Ba}{b:Nat}{v:List Int}{A:Bb}{c:Nat}{t:TypeId}(hS:S b)(h:W.heap[b]?=J (Ai #[I A v.length c] t (0,0)))(h2:IAtS S W A v):LAtS S W (J ⟨b,0,Z⟩) [v]:=fun _=>
 ⟨b,0,rfl,hS,zj h,fun i hi=>by
  obtain rfl:i=0:=by simpa using hi
  exact⟨A,c,zh h 0 rfl,h2⟩⟩
theorem set10{w:Ba}{g:Nat}{a0 a1 a2 a3 a4 a5 a6 a7 a8 a9:Ax}{t:TypeId}(h:w.heap[g]?=J (Ai #[a0,a1,a2,a3,a4,a5,a6,a7,a8,a9] t (0,0)))(v0 v1 v2 v3 v4 v5 v6 v7 v8 v9:Ax) :
  ∃W,((((((((((w.setCell ⟨g,0,Z⟩ v0).setCell ⟨g,1,Z⟩ v1).setCell ⟨g,2,Z⟩ v2).setCell ⟨g,3,Z⟩ v3).setCell ⟨g,4,Z⟩ v4).setCell ⟨g,5,Z⟩ v5).setCell ⟨g,6,Z⟩ v6).setCell ⟨g,7,Z⟩ v7).setCell ⟨g,8,Z⟩ v8).setCell ⟨g,9,Z⟩ v9)=W/\W.heap[g]?=J (Ai #[v0,v1,v2,v3,v4,v5,v6,v7,v8,v9] t (0,0))/\(∀k,k≠g->W.heap[k]?=w.heap[k]?)/\(∀B,B<=g->Ar B w W)/\W.heap.size=w.heap.size:=by
 refine⟨_,rfl,?_,fun k hk=>?_,fun B hB=>?_,by simp[World.setCell]⟩
 . have k0:(w.setCell ⟨g,0,Z⟩ v0).heap[g]?=J (Ai #[v0,a1,a2,a3,a4,a5,a6,a7,a8,a9] t (0,0)):=Lq _ g 0 _ _ v0 h
   have k1:((w.setCell ⟨g,0,Z⟩ v0).setCell ⟨g,1,Z⟩ v1).heap[g]?=J (Ai #[v0,v1,a2,a3,a4,a5,a6,a7,a8,a9] t (0,0)):=Lq _ g 1 _ _ v1 k0;have k2:(((w.setCell ⟨g,0,Z⟩ v0).setCell ⟨g,1,Z⟩ v1).setCell ⟨g,2,Z⟩ v2).heap[g]?=J (Ai #[v0,v1,v2,a3,a4,a5,a6,a7,a8,a9] t (0,0)):=Lq _ g 2 _ _ v2 k1;have k3:((((w.setCell ⟨g,0,Z⟩ v0).setCell ⟨g,1,Z⟩ v1).setCell ⟨g,2,Z⟩ v2).setCell ⟨g,3,Z⟩ v3).heap[g]?=J (Ai #[v0,v1,v2,v3,a4,a5,a6,a7,a8,a9] t (0,0)):=Lq _ g 3 _ _ v3 k2;have k4:(((((w.setCell ⟨g,0,Z⟩ v0).setCell ⟨g,1,Z⟩ v1).setCell ⟨g,2,Z⟩ v2).setCell ⟨g,3,Z⟩ v3).setCell ⟨g,4,Z⟩ v4).heap[g]?=J (Ai #[v0,v1,v2,v3,v4,a5,a6,a7,a8,a9] t (0,0)):=Lq _ g 4 _ _ v4 k3;have k5:((((((w.setCell ⟨g,0,Z⟩ v0).setCell ⟨g,1,Z⟩ v1).setCell ⟨g,2,Z⟩ v2).setCell ⟨g,3,Z⟩ v3).setCell ⟨g,4,Z⟩ v4).setCell ⟨g,5,Z⟩ v5).heap[g]?=J (Ai #[v0,v1,v2,v3,v4,v5,a6,a7,a8,a9] t (0,0)):=Lq _ g 5 _ _ v5 k4;have k6:(((((((w.setCell ⟨g,0,Z⟩ v0).setCell ⟨g,1,Z⟩ v1).setCell ⟨g,2,Z⟩ v2).setCell ⟨g,3,Z⟩ v3).setCell ⟨g,4,Z⟩ v4).setCell ⟨g,5,Z⟩ v5).setCell ⟨g,6,Z⟩ v6).heap[g]?=J (Ai #[v0,v1,v2,v3,v4,v5,v6,a7,a8,a9] t (0,0)):=Lq _ g 6 _ _ v6 k5
   have k7:((((((((w.setCell ⟨g,0,Z⟩ v0).setCell ⟨g,1,Z⟩ v1).setCell ⟨g,2,Z⟩ v2).setCell ⟨g,3,Z⟩ v3).setCell ⟨g,4,Z⟩ v4).setCell ⟨g,5,Z⟩ v5).setCell ⟨g,6,Z⟩ v6).setCell ⟨g,7,Z⟩ v7).heap[g]?=J (Ai #[v0,v1,v2,v3,v4,v5,v6,v7,a8,a9] t (0,0)):=Lq _ g 7 _ _ v7 k6;have k8:(((((((((w.setCell ⟨g,0,Z⟩ v0).setCell ⟨g,1,Z⟩ v1).setCell ⟨g,2,Z⟩ v2).setCell ⟨g,3,Z⟩ v3).setCell ⟨g,4,Z⟩ v4).setCell ⟨g,5,Z⟩ v5).setCell ⟨g,6,Z⟩ v6).setCell ⟨g,7,Z⟩ v7).setCell ⟨g,8,Z⟩ v8).heap[g]?=J (Ai #[v0,v1,v2,v3,v4,v5,v6,v7,v8,a9] t (0,0)):=Lq _ g 8 _ _ v8 k7;have k9:((((((((((w.setCell ⟨g,0,Z⟩ v0).setCell ⟨g,1,Z⟩ v1).setCell ⟨g,2,Z⟩ v2).setCell ⟨g,3,Z⟩ v3).setCell ⟨g,4,Z⟩ v4).setCell ⟨g,5,Z⟩ v5).setCell ⟨g,6,Z⟩ v6).setCell ⟨g,7,Z⟩ v7).setCell ⟨g,8,Z⟩ v8).setCell ⟨g,9,Z⟩ v9).heap[g]?=J (Ai #[v0,v1,v2,v3,v4,v5,v6,v7,v8,v9] t (0,0)):=Lq _ g 9 _ _ v9 k8;exact k9
 . exact(Lh _ ⟨g,9,Z⟩ v9 k hk).trans ((Lh _ ⟨g,8,Z⟩ v8 k hk).trans ((Lh _ ⟨g,7,Z⟩ v7 k hk).trans ((Lh _ ⟨g,6,Z⟩ v6 k hk).trans ((Lh _ ⟨g,5,Z⟩ v5 k hk).trans ((Lh _ ⟨g,4,Z⟩ v4 k hk).trans ((Lh _ ⟨g,3,Z⟩ v3 k hk).trans ((Lh _ ⟨g,2,Z⟩ v2 k hk).trans ((Lh _ ⟨g,1,Z⟩ v1 k hk).trans (Lh _ ⟨g,0,Z⟩ v0 k hk)))))))))
 refine Ly (p:=⟨g,9,Z⟩) ?_ hB _;refine Ly (p:=⟨g,8,Z⟩) ?_ hB _;refine Ly (p:=⟨g,7,Z⟩) ?_ hB _;refine Ly (p:=⟨g,6,Z⟩) ?_ hB _;refine Ly (p:=⟨g,5,Z⟩) ?_ hB _;refine Ly (p:=⟨g,4,Z⟩) ?_ hB _;refine Ly (p:=⟨g,3,Z⟩) ?_ hB _;refine Ly (p:=⟨g,2,Z⟩) ?_ hB _;refine Ly (p:=⟨g,1,Z⟩) ?_ hB _;refine Ly (p:=⟨g,0,Z⟩) ?_ hB _;exact Ll B w
end
section
open Go.RowKit Go.Shelf
attribute [local go_sem] Oper.semAt_some
theorem BAt.of_own{w w':Ba}{base:Nat}{A':Bb}{n c:Nat}{bs:List Bool}(h:OwnR kBl w base (I A' n c) n (bs.map .bool))(hn:bs.length=n)(hk:∀k,base<=k->w'.heap[k]?=w.heap[k]?)(hz:w.heap.size<=w'.heap.size):BAt w' w'.heap.size A' bs:=fun h0=>by
 have aa:=h.lt;obtain⟨A,cap,e,_,_,h3⟩:=h.form
 cases e
 obtain⟨g,rfl,ho,hg,hc⟩:=h3 (by omega);have hb:=(aa g ho).1;exact⟨g,0,rfl,by omega,fun i hi=>by rw[LO];exact(LH (hk g hb)).trans (hc _ _ (by rw[Ry,Ln hi];rfl))⟩
theorem BAt.raw{w:Ba}{A:Bb}{bs:List Bool}(h:BAt w w.heap.size A bs):Raw w A bs.length (bs.map Aj):=fun h0=>by
 obtain⟨b,off,e,aa,hc⟩:=h h0;refine⟨b,off,e,aa,fun j u hj=>?_⟩;rw[Ry] at hj;obtain⟨x,hx,rfl⟩:=Option.map_eq_some_iff.1 hj;obtain⟨hl,rfl⟩:=Lv.1 hx;exact hc j hl
theorem row_ne{w:Ba}{g b o:Nat}{xs:List Int}{x:Bool}(h:RowAt w g xs)(hb:w.cell? ⟨b,o,Z⟩=J (Aj x)):b≠g:=by
 rintro rfl
 by_cases ho:o<xs.length
 . rw[h.cell o ho] at hb;cases hb
 have : w.cell? ⟨b, o, Z⟩ = Z := by
  unfold RowAt at h;simp[World.cell?,h];omega
 rw[this] at hb;cases hb
def evG(s:Sy)(g:Int):List Bool->List Bool:=evL (ptn s) (yB s) (psG s g)
def RetCo(s:Sy)(g:Int)(set:List Bool)(w:Ba)(e:Ending)(w':Ba):Prop:=Ar w.heap.size w w'/\((yi s g set≠0/\e=Am (.tuple #[I Z 0 0,O U 0,O U (yi s g set)])) \/
 (yi s g set=0/\∃(M gr:Nat),e=Am (.tuple #[I (J ⟨gr,0,Z⟩) (ptn s) (ptn s),O U (M:Int),O U 0])/\M<=ptn s/\yg (ptn s) (evG s g) set (M+1)=yg (ptn s) (evG s g) set M/\(∀m,m<M->yg (ptn s) (evG s g) set (m+1)≠yg (ptn s) (evG s g) set m)/\w.heap.size<=gr/\BRow w' gr (yg (ptn s) (evG s g) set M)))
def RetLv(s:Sy)(g:Int)(set:List Bool)(w:Ba)(e:Ending)(w':Ba):Prop:=Ar w.heap.size w w'/\((yi s g set≠0/\e=Am (.tuple #[I Z 0 0,O U (yi s g set)])) \/
 (yi s g set=0/\∃(M gr:Nat),e=Am (.tuple #[I (J ⟨gr,0,Z⟩) (ptn s) (ptn s),O U 0])/\qc (ptn s) (evG s g) set (M+1)=qc (ptn s) (evG s g) set M/\(∀m,m<M->qc (ptn s) (evG s g) set (m+1)≠qc (ptn s) (evG s g) set m)/\w.heap.size<=gr/\RowAt w' gr (Jk (ptn s) (evG s g) set M)))
theorem jm{s:Sy}{g:Int}{set:List Bool}(hf:xz s.p)(h:yi s g set=0):∃G:Nat,g=(G:Int)/\G<32/\s.n.toNat<=5/\1<=ptn s/\ptn s<=700/\set.length=ptn s/\psG s g=zS G s.n.toNat:=by
 obtain⟨h1,h2⟩:=Xb h;obtain⟨hv,mg,fD⟩:=ww h1;obtain⟨_,K,N,hF⟩:=yJ hf hv;obtain⟨f1,f2,_⟩:=Qh hf h1;obtain⟨G,rfl⟩:=Lp mg;have hN:s.n.toNat=N:=by rw[hF.n];rfl
 have fl:=hF.n5;refine⟨G,rfl,?_,by omega,f1,f2,h2,rfl⟩;rw[hN] at fD;have:=L6 (n:=2) (show 0<2 by omega) fl;have h2':((2^N:Nat):Int)=(2:Int)^N:=by push_cast;rfl
 omega
theorem kCommon_any(s:Sy)(hs:LowS s)(hf:xz s.p)(g:Int)(set:List Bool)(A SV AV AX AB:Bb)(kc ks kv kx kb:Nat)(f':set.length<=1000000)(w:Ba)(hS:SyAt w w.heap.size A SV AV AX s)(ce:BAt w w.heap.size AB set) :
  As Aq 21 #[.agg (s.vs_ A kc SV ks AV kv AX kx),O U g,I AB set.length kb] w (RetCo s g set w):=by
 obtain⟨w1,ab,d0,aK,hB⟩:=zk w (s.vs_ A kc SV ks AV kv AX kx) 35;have HO:=zH (uN s hs hf g set A SV AV AX AB kc ks kv kx kb f' w1 (hS.up hB));have mt:Aw (∀X,Ar w1.heap.size w1 X->BAt X X.heap.size AB set):=fun X hX=>(((ce.keep hB).more hB.size).keep hX).more hX.size
 have HC:Aw (yi s g set=0->∃(G M:Nat),g=(G:Int)/\M<=ptn s/\yg (ptn s) (evG s g) set (M+1)=yg (ptn s) (evG s g) set M/\(∀m,m<M->yg (ptn s) (evG s g) set (m+1)≠yg (ptn s) (evG s g) set m)/\set.length=ptn s /\
   ∀(bw:Nat) (X:Ba),Ar w1.heap.size w1 X->KwAt X X.heap.size bw (ptn s) s.n.toNat (yB s)->As Aq 44 #[Al (J ⟨bw,0,Z⟩),O U (G:Int),I AB (ptn s) kb] X fun e w'=>∃g':Nat,e=Am (.tuple #[I (J ⟨g',0,Z⟩) (ptn s) (ptn s),O U (M:Int)])/\X.heap.size<=g'/\BRow w' g' (yg (ptn s) (evG s g) set M)/\Ar X.heap.size X w'):=fun h=>by
  obtain⟨G,hg,hG,hN,cU,oC,hl,i9⟩:=jm hf h;obtain⟨M,m1,m2,m3⟩:=ZZ (F:=yg (ptn s) (evL (ptn s) (yB s) (psG s g)) set) qp jX;refine⟨G,M,hg,m1,m2,m3,hl,fun bw X hX hK=>?_⟩;unfold evG;rw[i9] at m2 m3 ⊢;exact ZD bw (ptn s) s.n.toNat (yB s) cU (by omega) hN G hG AB kb set hl M m1 m2 m3 X hK (mt.out X hX)
 unfold RetOp at HO;unfold RetCo;obtain⟨E,hE⟩:=Ki (yi s g set);rw[hE] at HO HC ⊢;obtain⟨n,hn⟩:=Ki (ptn s);rw[hn] at HO HC ⊢;unfold Sy.vs_ at ab d0 HO ⊢;have ai:=zH ab;have HB:=zH hB;clear ab d0 hB hS ce hs hf hE mt hn;go_enter func21,ntmps21;go_wp2_with fail;rw[ai.out];go_wp2_with fail;refine HO.out.mono ?_;rintro e w2 ⟨ag,dX⟩;have aw:=zH ag;rcases dX with ⟨h0,rfl⟩ | ⟨rfl,bw,rfl,hK⟩
 . have e0:(E != 0)=AA:=by simpa using h0
   go_wp2_with fail
   go_ret3
   exact⟨Lc HB.out aw.out,.inl ⟨h0,rfl⟩⟩
 obtain⟨G,M,rfl,m1,m2,m3,hl,hc⟩:=HC.out rfl;have sg:=zH (hc bw w2 aw.out hK);have HM:=zH (And.intro m1 (And.intro m2 m3));rw[hl];go_wp2_with fail;refine sg.out.mono ?_;rintro e w3 ⟨g3,rfl,u',mA,aj⟩;have ir:=zH mA;have aJ:=zH (HB.out.trans ((Lc aw.out aj).mono HB.out.size));have ie:w.heap.size<=g3:=by have:=HB.out.size;have:=aw.out.size;omega
 go_wp2_with fail
 go_ret3
 exact⟨aJ.out,M,g3,rfl,HM.out.1,HM.out.2.1,HM.out.2.2,ie,ir.out⟩
end
section
open Go.RowKit
structure K2 where
 a:Int
 b:Int
deriving DecidableEq
theorem lab_zero{α:Type}[DecidableEq α](c:α):∀n,yE (List.replicate n c)=List.replicate n (0:Int)
 | 0=>rfl
 | n+1=>by
  have ih:=lab_zero c n;rw[List.replicate_succ',qZ,ih,List.replicate_succ']
  congr 2
  by_cases hn:0<n
  . rw[Li (by rw[List.mem_replicate];exact⟨by omega,rfl⟩)]
    have h:=jY (List.replicate n c) 0 (by simpa using hn);simp only[ih,List.getElem_replicate] at h;exact h.symm
  . obtain rfl:n=0:=by omega
    rfl
theorem kz_same{G:Nat}{f g:Nat->Int}{p:Nat}(h:G.testBit p=AA)(hp:p<5):kz G f (p+1)=kz G g (p+1)↔kz G f p=kz G g p/\f p=g p:=by
 have z:∀f:Nat->Int,kq G f p p=0:=fun f=>by unfold kq;rw[Lg (by omega)]
 have zf:=z f;have zg:=z g;unfold kz;simp only[kq_hit h,K5.mk.injEq];obtain rfl | rfl | rfl | rfl | rfl:p=0\/p=1\/p=2\/p=3\/p=4:=by omega
 all_goals
  simp[zf,zg]
  try omega
def tgK(s:Sy)(G p:Nat)(x:Nat×Nat):K5:=kz G (fun q=>xw (s.xs.getD x.1 default) x.2 q) p
def tgP(s:Sy)(G p:Nat):List Int:=yE ((zu (s.p.k.toNat+1) 0 s.xs.length).map (tgK s G p))
theorem ZY(s:Sy)(G p:Nat):(tgP s G p).length=ptn s:=by unfold tgP;rw[yv,LJ,kM _ _ (by omega)];rfl
theorem tgP_zero(s:Sy)(G:Nat):tgP s G 0=List.replicate (ptn s) 0:=by
 have e:(zu (s.p.k.toNat+1) 0 s.xs.length).map (tgK s G 0)=List.replicate (ptn s) (⟨0,0,0,0,0⟩:K5):=by
  rw[List.eq_replicate_iff];refine⟨by rw[LJ,kM _ _ (by omega)];rfl,fun b hb=>?_⟩;obtain⟨x,_,rfl⟩:=LZ.1 hb;simp[tgK,kz,kq]
 unfold tgP;rw[e,lab_zero]
theorem tgP_not{s:Sy}{G p:Nat}(h:G.testBit p=AC):tgP s G (p+1)=tgP s G p:=by
 unfold tgP
 congr 1
 exact N3 fun x _=>kz_not h
theorem tgP_hit{s:Sy}{G p:Nat}(h:G.testBit p=AA)(hp:p<5):yE (List.zipWith K2.mk (tgP s G p) (yB s p))=tgP s G (p+1):=by
 obtain⟨L,hL⟩:=Ki (zu (s.p.k.toNat+1) 0 s.xs.length);have Wz:L.length=ptn s:=by rw[<-hL,kM _ _ (by omega)];rfl
 have hz:(List.zipWith K2.mk (tgP s G p) (yB s p)).length=ptn s:=by rw[List.length_zipWith,ZY,jL,Nat.min_self]
 have e:tgP s G (p+1)=yE (L.map (tgK s G (p+1))):=by unfold tgP;rw[hL]
 rw[e];refine lab_kernel (by rw[hz,LJ,Wz]) fun i j h1 h2=>?_
 rw[hz] at h1 h2;rw[List.getElem_zipWith,List.getElem_zipWith,K2.mk.injEq,LS,LS]
 have a1:(tgP s G p)[i]'(by rw[ZY];exact h1)=(tgP s G p)[j]'(by rw[ZY];exact h2)↔tgK s G p (L[i]'(by omega))=tgK s G p (L[j]'(by omega)):=by
  have e2:tgP s G p=yE (L.map (tgK s G p)):=by unfold tgP;rw[hL]
  simp only[e2];rw[Qw _ (by rw[LJ];omega) (by rw[LJ];omega),LS,LS]
 have a2:(yB s p)[i]'(by rw[jL];exact h1)=(yB s p)[j]'(by rw[jL];exact h2)↔xw (s.xs.getD (L[i]'(by omega)).1 default) (L[i]'(by omega)).2 p=xw (s.xs.getD (L[j]'(by omega)).1 default) (L[j]'(by omega)).2 p:=by
  have e2:yB s p=yE (L.map fun x=>xw (s.xs.getD x.1 default) x.2 p):=by unfold yB jr;rw[hL]
  simp only[e2];rw[Qw _ (by rw[LJ];omega) (by rw[LJ];omega),LS,LS]
 rw[a1,a2];exact(kz_same h hp).symm
theorem togL_tgP{s:Sy}{N:Nat}(hN:s.n=(N:Int))(G:Nat):kp s (G:Int)=tgP s G N:=by
 unfold kp tgP
 congr 1
 refine N3 fun x _=>?_
 unfold togK tgK;rw[hN,Lo,Lo]
def ja(n:Nat)(a:List Bool):List Bool:=(List.range n).map fun i=>!(a.getD i AC)
theorem qa(n:Nat)(a:List Bool):(ja n a).length=n:=by simp[ja]
theorem ua{n:Nat}{a:List Bool}{i:Nat}(h:i<n):(ja n a).getD i AC=!(a.getD i AC):=by
 rw[zt (by rw[qa];exact h)];simp[ja]
theorem insL_iff{n:Nat}{ls:List Int}{set:List Bool}{i:Nat}(h:i<n):(xQ n ls set).getD i AC=AA↔∀j,j<n->ls.getD j 0=ls.getD i 0->set.getD j AC=AA:=by
 rw[zt (by rw[yO];exact h),Z6 h,Sa]
end
section
open Go.RowKit Go.Shelf
attribute [local go_sem] Oper.semAt_some
def vR(R:List Bool×Int)(w:Ba)(e:Ending)(w':Ba):Prop:=∃A c,e=Am (.tuple #[I A R.1.length c,O U R.2])/\BAt w' w'.heap.size A R.1/\Ar w.heap.size w w'
def evyE(s:Sy)(g:Int)(set:List Bool):List Bool×Int:=if yi s g set≠0 then ([],yi s g set) else (evG s g set,0)
def dstE(s:Sy)(g:Int)(set:List Bool):List Bool×Int:=if yi s g set≠0 then ([],yi s g set) else (xQ (ptn s) (kp s g) set,0)
def knwE(s:Sy)(q:Int)(set:List Bool):List Bool×Int:=if yh s≠0 then ([],yh s) else if q<0\/s.n<=q then ([],2) else if set.length≠ptn s then ([],15) else (xQ (ptn s) (yB s q.toNat) set,0)
theorem YM{w:Ba}{base:Nat}{A:Bb}{n c:Nat}{xs:List Int}(h:Own w base (I A n c) xs):IAt w w.heap.size A xs:=own_on h (fun _ _ _=>rfl)
theorem map_cell{w:Ba}{mb m o:Nat}{F:Int->Option Ax}(h:MapOf (O U) w mb m F)(v:Ax):w.cell? ⟨mb,o,Z⟩≠J v:=by
 obtain⟨es,bG,hb,_⟩:=h;intro e;unfold World.cell? at e;rw[hb] at e;simp at e
section
variable {w w':Ba} {mb m:Nat} {F:Int->Option Ax}
theorem vp(h:MapOf (O U) w mb m F)(hg:w.grownBy w' (J mb)){b o:Nat}{v:Ax}(hc:w.cell? ⟨b,o,Z⟩=J v):w'.cell? ⟨b,o,Z⟩=J v:=by
 have bj:b≠mb:=fun e=>map_cell h v (by rw[<-e];exact hc)
 have aa:=PS w _ hc;exact(LH (a:=⟨b,o,Z⟩) (hg.block b aa (fun e=>bj (by cases e;rfl)))).trans hc
theorem IAt.put{B:Nat}{A:Bb}{xs:List Int}(hx:IAt w B A xs)(h:MapOf (O U) w mb m F)(hg:w.grownBy w' (J mb)):IAt w' B A xs:=fun h0=>by
 obtain⟨b,off,e,aa,hc⟩:=hx h0;exact⟨b,off,e,aa,fun i hi=>vp h hg (hc i hi)⟩
theorem BAt.put{B:Nat}{A:Bb}{xs:List Bool}(hx:BAt w B A xs)(h:MapOf (O U) w mb m F)(hg:w.grownBy w' (J mb)):BAt w' B A xs:=fun h0=>by
 obtain⟨b,off,e,aa,hc⟩:=hx h0;exact⟨b,off,e,aa,fun i hi=>vp h hg (hc i hi)⟩
theorem KwAt.put{B bw n N:Nat}{cls:Nat->List Int}(hk:KwAt w B bw n N cls)(h:MapOf (O U) w mb m F)(hg:w.grownBy w' (J mb)):KwAt w' B bw n N cls:=by
 obtain⟨b,off,cC,h1,h2,h3⟩:=hk.rows;refine⟨hk.lt,vp h hg hk.size,⟨b,off,cC,vp h hg h1,h2,fun q hq=>?_⟩,hk.len⟩;obtain⟨A,c,h4,h5⟩:=h3 q hq;exact⟨A,c,vp h hg h4,h5.put h hg⟩
end
structure KwD(s:Sy)(A SV AV AX:Bb)(kc ks kv kx B:Nat)(w:Ba)(bw mb m:Nat)(F:Int->Option Ax):Prop where
 kw:KwAt w w.heap.size bw (ptn s) s.n.toNat (yB s)
 blk:∃AQ cQ,w.heap[bw]?=J (Ai #[O U s.p.t.n,O U s.p.t.ins,O U s.p.t.outs,I A s.p.t.cases.length kc,O U s.p.a.n,I SV s.p.a.sts.length ks,O U s.p.k,O U s.n,I AV s.vs.length kv,I AX s.xs.length kx,O U (ptn s:Int),I AQ s.n.toNat cQ,.map (J mb)] 100 (0,0))
 map:MapOf (O U) w mb m F
 vals:∀g v,F g=J v->∃A c,v=I A (ptn s) c/\IAt w w.heap.size A (kp s g)
 sys:SyAt w B A SV AV AX s
 lowB:B<=w.heap.size
 low:B<=mb
section
variable {s:Sy} {A SV AV AX:Bb} {kc ks kv kx B:Nat} {w w':Ba} {bw mb m:Nat} {F:Int->Option Ax}
theorem KwD.call(h:KwD s A SV AV AX kc ks kv kx B w bw mb m F)(hb:Ar w.heap.size w w'):KwD s A SV AV AX kc ks kv kx B w' bw mb m F:=by
 obtain⟨AQ,cQ,h1⟩:=h.blk;refine⟨(h.kw.keep hb).more hb.size,⟨AQ,cQ,La hb h1⟩,h.map.same (hb.block _ h.map.lt),fun g v hv=>?_,h.sys.keep (hb.mono h.lowB),Lz h.lowB hb.size,h.low⟩;obtain⟨A',c',e,hI⟩:=h.vals g v hv;exact⟨A',c',e,(hI.keep hb).more hb.size⟩
theorem KwD.put(h:KwD s A SV AV AX kc ks kv kx B w bw mb m F)(hg:w.grownBy w' (J mb)){g:Int}{A':Bb}{c':Nat}(hI:IAt w w.heap.size A' (kp s g))(hm:MapOf (O U) w' mb (m+1) (xH F g (I A' (ptn s) c'))) :
  KwD s A SV AV AX kc ks kv kx B w' bw mb (m+1) (xH F g (I A' (ptn s) c')):=by
 obtain⟨AQ,cQ,h1⟩:=h.blk;have hs:w.heap.size<=w'.heap.size:=hg.size
 have bj:bw≠mb:=fun e=>by
  obtain⟨es,bG,hb,_⟩:=h.map;rw[<-e,h1] at hb;cases hb
 have hB:Ar B w w':=(Ll B w).grown hg h.lowB (fun k e=>by cases e;exact h.low);refine⟨(h.kw.put h.map hg).more hs,⟨AQ,cQ,(hg.block _ (zj h1) (fun e=>bj (by cases e;rfl))).trans h1⟩,hm,fun g' v hv=>?_,h.sys.keep hB,Lz h.lowB hs,h.low⟩;unfold xH at hv
 by_cases e:g'=g
 . subst e
   rw[Li rfl] at hv
   cases hv
   exact⟨A',c',rfl,(hI.put h.map hg).more hs⟩
 rw[Lg e] at hv;obtain⟨A2,c2,e2,AU⟩:=h.vals g' v hv;exact⟨A2,c2,e2,(AU.put h.map hg).more hs⟩
end
theorem QB(s:Sy)(hs:LowS s)(hf:xz s.p)(A SV AV AX:Bb)(kc ks kv kx B:Nat)(g:Int)(mg:yn s g=0)(hp:ptn s<=100000)(AB:Bb)(kb:Nat)(set:List Bool)(f':set.length=ptn s)(bw mb m:Nat)(F:Int->Option Ax)(w:Ba)(hK:KwD s A SV AV AX kc ks kv kx B w bw mb m F)(ce:BAt w w.heap.size AB set) :
  As Aq 43 #[Al (J ⟨bw,0,Z⟩),O U g,I AB (ptn s) kb] w fun e w'=>∃g' m' F',e=Am (I (J ⟨g',0,Z⟩) (ptn s) (ptn s))/\w.heap.size<=g'/\BRow w' g' (xQ (ptn s) (kp s g) set)/\KwD s A SV AV AX kc ks kv kx B w' bw mb m' F'/\Wrote (fun z=>z=mb) w w':=by
 obtain⟨AQ,cQ,h1⟩:=hK.blk;have hT:togE s g=(kp s g,0):=Lg (by simpa using mg);have hTL:(kp s g).length=ptn s:=Yj s g;have HC:=zH (fun (X:Ba) (hX:SyAt X X.heap.size A SV AV AX s)=>Q3 s hs hf g A SV AV AX kc ks kv kx X hX);rw[hT] at HC;unfold RetOE at HC;simp only[hTL] at HC;have pf:=zH (fun (A:Bb) (c:Nat) (X:Ba) (hI:IAt X X.heap.size A (kp s g)) (hB:BAt X X.heap.size AB set)=>ZC A AB c kb (ptn s) hp (kp s g) set hTL f' X hI hB);unfold RetB at pf;simp only[yO] at pf;have HK:=zH hK;have iZ:=zH ce;have hz:∀W:Ba,(zeroValue 36).run Aq W=.ok (I Z 0 0) W:=fun W=>by kernel_rfl
 have ht:Aq.underlying 98=J (.map 3 36):=underlying98;have dl:=hK.map.look2 yL ht (hz w) g;have HZ:=zH hz;have HT:=zH ht;have z12:w.cell? ⟨bw,12,Z⟩=J (.map (J mb)):=zh h1 12 rfl;have lbw:=zj h1;unfold Sy.vs_ at HC;obtain⟨n,hn⟩:=Ki (ptn s);have ff:=zH hn;rw[hn] at h1 HC pf ⊢;have H1:=zH h1;go_enter func43,ntmps43
 cases M8:F g with
 | some v=>
  obtain⟨A4,c4,rfl,WB⟩:=HK.out.vals g v M8;rw[ff.out] at M8;rw[M8] at dl;simp only[Option.getD_some,Option.isSome_some] at dl;have tX:=HK.out.map.look yL HT.out (HZ.out w) g;rw[M8] at tX;simp only[Option.getD_some] at tX;have cI:=zH (pf.out A4 c4 w WB iZ.out);go_wp2_with fail;refine cI.out.mono ?_;rintro e w2 ⟨g2,rfl,ib,ef,ag⟩;have dk:=zH ef;have aw:=zH ag;go_wp2_with fail;go_ret;exact⟨g2,m,F,rfl,ib,dk.out,HK.out.call aw.out,Wrote.of_below aw.out⟩
 | none=>
  rw[M8] at dl;simp only[Option.getD_none,Option.isSome_none] at dl;have hKP:∀X,Ar w.heap.size w X->X.heap[bw]?=J (Ai #[O U s.p.t.n,O U s.p.t.ins,O U s.p.t.outs,I A s.p.t.cases.length kc,O U s.p.a.n,I SV s.p.a.sts.length ks,O U s.p.k,O U s.n,I AV s.vs.length kv,I AX s.xs.length kx,O U (n:Int),I AQ s.n.toNat cQ,.map (J mb)] 100 (0,0)):=fun X hX=>Lb hX lbw H1.out
  have eG:=zH hKP;clear M8;go_upto_region 3 with fail
  refine zw [(0,AA),(1,AA),(2,AA),(3,AA),(4,AA),(5,AA),(6,AA),(7,AA),(8,AA),(9,AA),(10,AC),(11,AA),(12,AA),(13,AA),(14,AC)] (fun X=>X.heap[bw]?=J (Ai #[O U s.p.t.n,O U s.p.t.ins,O U s.p.t.outs,I A s.p.t.cases.length kc,O U s.p.a.n,I SV s.p.a.sts.length ks,O U s.p.k,O U s.n,I AV s.vs.length kv,I AX s.xs.length kx,O U (n:Int),I AQ s.n.toNat cQ,.map (J mb)] 100 (0,0))) (by kernel_rfl) (by kernel_rfl) (eG.out _ (Ll _ w).drew) ?_
  repeat
   apply zA rfl
   . rintro K' ac X u
     have q0:=zh (u) 0 rfl;have q1:=zh (u) 1 rfl;have q2:=zh (u) 2 rfl;have q3:=zh (u) 3 rfl;have q4:=zh (u) 4 rfl;have q5:=zh (u) 5 rfl;have q6:=zh (u) 6 rfl;have q7:=zh (u) 7 rfl;have q8:=zh (u) 8 rfl;have q9:=zh (u) 9 rfl;have q10:=zh (u) 10 rfl;have q11:=zh (u) 11 rfl;have q12:=zh (u) 12 rfl;clear u;go_simp;exact ac
  refine zx rfl ?_;intro K' ac;go_simp;refine(HC.out w.drew ((HK.out.sys.keep ((Ll _ w).drew.mono HK.out.lowB)).more HK.out.lowB)).mono ?_;rintro e w5 ⟨A5,c5,rfl,lN,aA⟩;have G5:Aw (Ar w.heap.size w w5):=(Ll _ w).drew.trans aA;have K5:=zH (HK.out.call G5.out);have lE:=zH (YM lN);obtain⟨W6,fH,hm6,iI⟩:=K5.out.map.put yL HT.out g (I A5 n c5);have HM6:=zH hm6;have pg:=zH iI;have nO:=zj (eG.out w5 G5.out)
  have bj:bw≠mb:=fun e=>by
   obtain⟨es,bG,hb,_⟩:=K5.out.map;rw[<-e,eG.out w5 G5.out] at hb;cases hb
  have oJ:Aw (W6.heap[bw]?=J (Ai #[O U s.p.t.n,O U s.p.t.ins,O U s.p.t.outs,I A s.p.t.cases.length kc,O U s.p.a.n,I SV s.p.a.sts.length ks,O U s.p.k,O U s.n,I AV s.vs.length kv,I AX s.xs.length kx,O U (n:Int),I AQ s.n.toNat cQ,.map (J mb)] 100 (0,0))):=(iI.block _ nO (fun e=>bj (by cases e;rfl))).trans (eG.out w5 G5.out);refine ac _ _ (eG.out w5 G5.out) ?_
  repeat
   apply zA rfl
   . rintro K' ac X u
     go_simp;exact ac
  refine zx rfl ?_;intro K' ac;go_simp;refine ac _ _ oJ.out ?_;refine zO ?_;have hK7:KwD s A SV AV AX kc ks kv kx B W6 bw mb (m+1) (xH F g (I A5 (ptn s) c5)):=K5.out.put pg.out lE.out (by rw[ff.out];exact HM6.out);have L9:=zH hK7;have tX:=hK7.map.look yL HT.out (HZ.out W6) g;rw[show xH F g (I A5 (ptn s) c5) g=J (I A5 (ptn s) c5) from Li rfl,ff.out] at tX;simp only[Option.getD_some] at tX;have z12:W6.cell? ⟨bw,12,Z⟩=J (.map (J mb)):=zh oJ.out 12 rfl;have fA:Aw (BAt W6 W6.heap.size AB set):=(((iZ.out.keep G5.out).more G5.out.size).put K5.out.map pg.out).more pg.out.size;have cI:=zH (pf.out A5 c5 W6 ((lE.out.put K5.out.map pg.out).more pg.out.size) fA.out);have MA:Aw (Wrote (fun z=>z=mb) w W6):=(Wrote.of_below G5.out).trans (Wrote.of_grown pg.out (fun z e _=>by cases e;rfl)) (fun _ _ h=>h);have lY:w.heap.size<=W6.heap.size:=Lz G5.out.size pg.out.size;go_wp2_with fail;refine cI.out.mono ?_;rintro e w8 ⟨g8,rfl,hg8,hr8,dQ⟩;have HR8:=zH hr8;have U8:=zH dQ;have hg9:w.heap.size<=g8:=by omega
  go_wp2_with fail;go_ret;exact⟨g8,m+1,_,rfl,hg9,HR8.out,L9.out.call U8.out,MA.out.trans (Wrote.of_below U8.out) (fun _ _ h=>h)⟩
end
end Go.Proofs.YtjedjoeidcbffaaGreatDoor
