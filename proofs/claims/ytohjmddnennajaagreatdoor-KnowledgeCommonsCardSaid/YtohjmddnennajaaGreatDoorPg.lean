/- Parts Rf36B Pcnt PtsG ReaA HrdA HrP AtmP KeysT PtsM PtsV TogB TogA ExF36 ParP KnwP KnwA RepB KnwB CmnW KnwC KnwQ EqS KnwD Ex39 Scene KnwE KnlP. -/
import Derived.Test.YtohjmddnennajaaGreatDoorProg
import Derived.Test.YtohjmddnennajaaGreatDoorPf
import Derived.Test.YtohjmddnennajaaGreatDoorPc
import Derived.Test.YtohjmddnennajaaGreatDoorPe
import Derived.Test.YtohjmddnennajaaGreatDoorPa
import Derived.Test.YtohjmddnennajaaGreatDoorPd
import Derived.Test.YtohjmddnennajaaGreatDoorPb
import Derived.Sort.CutIn
import Derived.Carry
import Derived.Deep.LoopGhost
import Derived.Laws.EntriesVeiled

namespace Go.Proofs.YtohjmddnennajaaGreatDoor
abbrev NB:=@Classical.byContradiction
abbrev RQ:=@List.getElem?_map
set_option maxRecDepth 100000
set_option maxHeartbeats 4000000
section
open Go.RowKit Go.Shelf
attribute [local go_sem] Oper.semAt_some
theorem set3{w:Ba}{g:Nat}{x0 x1 x2:Value}{t:TypeId}(h:w.heap[g]?=some (.cells #[x0,x1,x2] t (0,0)))(y0 y1 y2:Value) :
  ∃W,(((w.setCell ⟨g,0,none⟩ y0).setCell ⟨g,1,none⟩ y1).setCell ⟨g,2,none⟩ y2)=W/\W.heap[g]?=some (.cells #[y0,y1,y2] t (0,0))/\(∀k,k≠g->W.heap[k]?=w.heap[k]?)/\∀B,B<=g->Below B w W:=by
 refine⟨_,rfl,?_,fun k hk=>?_,fun B hB=>?_⟩
 . have a1:=Ll w g 0 _ _ y0 h
   have a2:=Ll _ g 1 _ _ y1 a1;exact Ll _ g 2 _ _ y2 a2
 . exact(Lf _ ⟨g,2,none⟩ y2 k hk).trans ((Lf _ ⟨g,1,none⟩ y1 k hk).trans (Lf _ ⟨g,0,none⟩ y0 k hk))
 . exact(((Lo B w).setCell (by show B<=g;omega) y0).setCell (by show B<=g;omega) y1).setCell (by show B<=g;omega) y2
theorem YE(s:Sy)(K N:Nat)(hF:Fine s K N)(A SV AV AX:Bb)(kc ks kv kx:Nat)(w:Ba) :
  Calls Tryz.prog 74 #[.agg (s.vs_ A kc SV ks AV kv AX kx)] w fun e w'=>e=.returned (.int .i64 (ptn s:Int))/\Below w.heap.size w w':=by
 obtain⟨w1,hw1,d0,hs1,hB⟩:=zn w (s.vs_ A kc SV ks AV kv AX kx) 35;have hlx:=hF.lx;have hk:=hF.k;have hk6:=hF.k6;have hn:ptn s=s.xs.length*(K+1):=by unfold ptn;rw[hk];rfl
 have hb:=LO hlx (show K+1<=7 by omega);rw[hn];unfold Sy.vs_ at hw1 d0 ⊢;rw[hk] at hw1 d0 ⊢;obtain⟨M,hM⟩:=Ki s.xs.length;rw[hM] at hw1 d0 hb hlx ⊢;have HW1:=zH hw1;have HB:=zH hB
 have HWR:Hid (wrap64 ((M:Int)*((K:Int)+1))=((M*(K+1):Nat):Int)):=by
  show wrap64 _=_;rw[show(M:Int)*((K:Int)+1)=((M*(K+1):Nat):Int) by push_cast;rfl];exact IntWalk.wrap64_in _ (by omega)
 have p6:=zh d0 6 rfl;have p9:=zh d0 9 rfl;clear hw1 d0 hB hF hk hn hM hb;go_enter Tryz.func74,Tryz.ntmps74;go_wp2_with fail;rw[HW1.out];go_wp2_with fail;go_ret;exact⟨by rw[<-HWR.out];rfl,HB.out⟩
theorem X5(s:Sy)(K N:Nat)(hF:Fine s K N)(i:Nat)(hi:i<ptn s)(A SV AV AX:Bb)(kc ks kv kx:Nat)(w:Ba)(hX:XAt w w.heap.size AX s.xs) :
  Calls Tryz.prog 119 #[.agg (s.vs_ A kc SV ks AV kv AX kx),.int .i64 (i:Int)] w fun e w'=>∃A1 c1 A2 c2,e=.returned (.tuple #[.agg #[.int .i64 (s.xs.getD (i / (K+1)) default).c,.slice A1 (s.xs.getD (i / (K+1)) default).word.length c1,.slice A2 (s.xs.getD (i / (K+1)) default).views.length c2],.int .i64 ((i % (K+1):Nat):Int)]) /\
   LAt w' w.heap.size A2 (s.xs.getD (i / (K+1)) default).views/\RAt w' w.heap.size A1 (s.xs.getD (i / (K+1)) default).word/\Below w.heap.size w w':=by
 obtain⟨w1,hw1,d0,d1,hs1,hB⟩:=yB w (s.vs_ A kc SV ks AV kv AX kx) #[.int .i64 0,.slice none 0 0,.slice none 0 0] 35 56;have hlx:=hF.lx;have hk:=hF.k;have hk6:=hF.k6;have hn:ptn s=s.xs.length*(K+1):=by unfold ptn;rw[hk];rfl
 have hq:i / (K+1)<s.xs.length:=by rw[hn,Po] at hi;exact Nat.div_lt_of_lt_mul hi
 have hb:=LO hlx (show K+1<=7 by omega);have hil:i<=700:=by omega
 rw[zt hq];obtain⟨bx,ox,A1,c1,A2,c2,eX,hbx,x0,x1,x2,hRw,hL⟩:=(hX.keep hB).row _ hq;subst eX;obtain⟨q,hqq⟩:=Ki (i / (K+1))
 have hq1:((i:Int)).tdiv ((K:Int)+1)=(q:Int):=by
  rw[<-hqq,Int.tdiv_eq_ediv_of_nonneg (by omega)]
  push_cast;rfl
 have hr1:((i:Int)).tmod ((K:Int)+1)=((i % (K+1):Nat):Int):=by
  rw[Int.tmod_eq_emod_of_nonneg (by omega)]
  push_cast;rfl
 simp only[hqq] at hq x0 x1 x2 hRw hL ⊢;have hql:q<=100:=by omega
 obtain⟨rr,hrr⟩:=Ki (i % (K+1));have hrl:rr<K+1:=by rw[<-hrr];exact Nat.mod_lt _ (by omega)
 rw[hrr] at hr1 ⊢;obtain⟨x,hx⟩:=Ki (s.xs[q]);rw[hx] at x0 x1 x2 hRw hL ⊢;unfold Sy.vs_ at hw1 d0 ⊢;rw[hk] at hw1 d0 ⊢;obtain⟨M,hM⟩:=Ki s.xs.length;rw[hM] at hw1 d0 hq ⊢;have HW1:=zH hw1;have HB:=zH hB;have HL:=zH hL;have HRw:=zH hRw;have HD1:=zH d1;have p6:=zh d0 6 rfl;have hd0:=zH d0;have hq0:(0:Int)<=(q:Int):=by omega
 have hq2:(q:Int)<(M:Int):=by omega
 have hkz:¬((K:Int)+1)=0:=by omega
 have hwk:IntKind.i64.wrap ((K:Int)+1)=(K:Int)+1:=by rw[Lp];omega
 have hwq:IntKind.i64.wrap (q:Int)=(q:Int):=by rw[Lp];omega
 have hwr:IntKind.i64.wrap (rr:Int)=(rr:Int):=by rw[Lp];omega
 clear hw1 d0 d1 hB hF hk hn hM hb hX hL hRw hx hqq hrr hlx;go_enter Tryz.func119,Tryz.ntmps119;go_wp2_with fail;rw[HW1.out];go_wp2_with fail;have hbxw:bx<w.heap.size:=by omega
 refine zz [(0,true),(1,true),(2,true),(3,true),(4,true),(5,true),(6,true),(7,true),(8,true),(9,true),(10,false),(11,false)] (fun X=>X.heap[w.heap.size]?=w1.heap[w.heap.size]?/\X.heap[bx]?=w1.heap[bx]?) (by kernel_rfl) (by kernel_rfl) ⟨rfl,rfl⟩ ?_
 repeat
  apply zG rfl
  . rintro K' hK' X ⟨u1,u2⟩
    have y0:=(LA u2).trans x0;have y1:=(LA u2).trans x1;have y2:=(LA u2).trans x2;have y9:X.cell? ⟨w.heap.size,9,none⟩=some (.slice (some ⟨bx,ox,none⟩) M kx):=zh (u1.trans hd0.out) 9 rfl;clear u1 u2;go_simp;exact hK'
 have HBd:=zH (HB.out.drew);have HDd:Hid (w1.drew.heap[w.heap.size+1]?=some (.cells #[.int .i64 0,.slice none 0 0,.slice none 0 0] 56 (0,0))):=HD1.out;have HLd:Hid (LAt w1.drew w.heap.size A2 x.views):=HL.out.keep (Lo _ _).drew;have HRd:Hid (RAt w1.drew w.heap.size A1 x.word):=HRw.out.keep (Lo _ _).drew;have HO0:Hid (w1.drew.heap[w.heap.size]?=w1.heap[w.heap.size]?/\w1.drew.heap[bx]?=w1.heap[bx]?):=⟨rfl,rfl⟩;obtain⟨W5,hW5⟩:=Ki w1.drew;rw[hW5] at HBd HDd HLd HRd HO0 ⊢;clear hW5 HL HRw x0 x1 x2;obtain⟨r0,r1,r2,_⟩:=Kc HDd.out;have g0:=zi HDd.out 0;have g1:=zi HDd.out 1;have g2:=zi HDd.out 2;have l1:=zj HDd.out;refine zE rfl ?_;intro K' hK';go_simp;obtain⟨W,hW,e1,e2,e3⟩:=set3 HDd.out (.int .i64 x.c) (.slice A1 x.word.length c1) (.slice A2 x.views.length c2);rw[hW];have HWB:=zH (e3 w.heap.size (by omega));have hkp:W.heap[w.heap.size]?=w1.heap[w.heap.size]?/\W.heap[bx]?=w1.heap[bx]?:=⟨(e2 _ (by omega)).trans HO0.out.1,(e2 bx (by omega)).trans HO0.out.2⟩;refine hK' _ _ hkp ?_;clear hK' K' r0 r1 r2 g0 g1 g2 l1 hW;refine zE rfl ?_;intro K' hK';go_simp;refine hK' _ _ hkp ?_;refine zQ ?_;clear hK' K';go_wp2_with fail;obtain⟨q0,q1,q2,_⟩:=Kc e1;refine L1 (v:=.tuple #[.agg #[.int .i64 x.c,.slice A1 x.word.length c1,.slice A2 x.views.length c2],.int .i64 (rr:Int)]) (by simp[results,Tryz.results119,go_sem,q0,q1,q2]) rfl ?_;exact⟨A1,c1,A2,c2,rfl,HLd.out.keep HWB.out,HRd.out.keep HWB.out,HBd.out.trans HWB.out⟩
theorem Jw(s:Sy)(K N:Nat)(hF:Fine s K N)(i:Nat)(hi:i<ptn s)(A SV AV AX:Bb)(kc ks kv kx:Nat)(w:Ba)(hX:XAt w w.heap.size AX s.xs) :
  Calls Tryz.prog 119 #[.agg (s.vs_ A kc SV ks AV kv AX kx),.int .i64 (i:Int)] w fun e w'=>∃A1 c1 A2 c2,e=.returned (.tuple #[.agg #[.int .i64 (s.xs.getD (i / (K+1)) default).c,.slice A1 (s.xs.getD (i / (K+1)) default).word.length c1,.slice A2 (s.xs.getD (i / (K+1)) default).views.length c2],.int .i64 ((i % (K+1):Nat):Int)]) /\
   LAt w' w.heap.size A2 (s.xs.getD (i / (K+1)) default).views/\Below w.heap.size w w':=
 (X5 s K N hF i hi A SV AV AX kc ks kv kx w hX).mono fun e w' h=>by
  obtain⟨A1,c1,A2,c2,h1,h2,_,h3⟩:=h;exact⟨A1,c1,A2,c2,h1,h2,h3⟩
theorem rview_any(s:Sy)(K N:Nat)(hF:Fine s K N)(i q:Nat)(hi:i<ptn s)(hq:q<N)(A SV AV AX:Bb)(kc ks kv kx:Nat)(w:Ba)(hX:XAt w w.heap.size AX s.xs) :
  Calls Tryz.prog 79 #[.agg (s.vs_ A kc SV ks AV kv AX kx),.int .i64 (i:Int),.int .i64 (q:Int)] w fun e w'=>e=.returned (.int .i64 ((jy s q).getD i 0))/\Below w.heap.size w w':=by
 obtain⟨w1,hw1,d0,hs1,hB⟩:=zn w (s.vs_ A kc SV ks AV kv AX kx) 35;have hk:=hF.k;have hn:ptn s=s.xs.length*(K+1):=by unfold ptn;rw[hk];rfl
 have hql:i / (K+1)<s.xs.length:=by rw[hn,Po] at hi;exact Nat.div_lt_of_lt_mul hi
 have HP:=zH (Jw s K N hF i hi A SV AV AX kc ks kv kx w1 ((hX.keep hB).more hB.size));obtain⟨hvl,hrow⟩:=hF.views _ (Ld hql)
 have hkey:(jy s q).getD i 0=xw (s.xs.getD (i / (K+1)) default) (i % (K+1)) q:=by
  have hil:i<(jy s q).length:=by rw[Xl];exact hi
  rw[yL hil,keyL_at,hk,Ls]
 rw[hkey];rw[zt hql] at HP ⊢;obtain⟨x,hx⟩:=Ki (s.xs[i / (K+1)]);rw[hx] at HP hvl hrow ⊢;obtain⟨rr,hrr⟩:=Ki (i % (K+1));have hrl:rr<K+1:=by rw[<-hrr];exact Nat.mod_lt _ (by omega)
 rw[hrr] at HP ⊢;have hrv:rr<x.views.length:=by omega
 have hrow2:=(hrow _ (Ld hrv)).1;have hxw:xw x rr q=(x.views[rr]).getD q 0:=by unfold xw;rw[zt hrv]
 rw[hxw];have hqr:q<(x.views[rr]).length:=by omega
 rw[yL hqr];have HVLn:=zH hvl;rw[hvl] at HP;unfold Sy.vs_ at hw1 d0 HP ⊢;have HW1:=zH hw1;have HB:=zH hB;obtain⟨p0,p1,p2,p3,p4,p5,p6,p7,p8,p9⟩:=zB d0;clear hw1 d0 hB hF hk hn hX hkey hx hrr hrow hxw hvl;go_enter Tryz.func79,Tryz.ntmps79;go_wp2_with fail;rw[HW1.out];go_wp2_with fail;refine HP.out.mono ?_;rintro e w2 ⟨A1,c1,A2,c2,rfl,hL,hb2⟩;have HB2:=zH (HB.out.trans (hb2.mono (by omega)));have HL:=zH hL;have hs12:=hb2.size;clear p0 p1 p2 p3 p4 p5 p6 p7 p8 p9 hb2 hL HW1 HP;go_upto_region 2 with fail
 obtain⟨w3,hw3,d3,hs3,hB3⟩:=zn w2 #[.int .i64 x.c,.slice A1 x.word.length c1,.slice A2 (K+1) c2] 56;rw[hw3];have HL3:=zH (HL.out.keep (hB3.mono hs12));have HB3:=zH (Lc HB2.out hB3);have z2:=zh d3 2 rfl;clear hw3 d3 hB3 HL;obtain⟨bl,ol,A3,c3,eL,hbl,y1,hI⟩:=HL3.out.at_ rr hrv;subst eL;obtain⟨b4,o4,e4,hb4,z4⟩:=hI.at_ q hqr;subst e4;obtain⟨u,hu⟩:=Ki ((x.views[rr])[q]);rw[hu] at z4;have HU:=zH hu;obtain⟨nr,hnr⟩:=Ki ((x.views[rr]).length);rw[hnr] at y1 hrow2 hqr;have h1:(0:Int)<=(rr:Int):=by omega
 have h2:(rr:Int)<((K+1:Nat):Int):=by omega
 have h22:(rr:Int)<(K:Int)+1:=by omega
 have h3:(0:Int)<=(q:Int):=by omega
 have h4:(q:Int)<(nr:Int):=by omega
 clear hu hnr hI;go_wp2_with fail;go_ret;exact⟨by rw[HU.out];rfl,HB3.out⟩
theorem rown_any(s:Sy)(K N:Nat)(hF:Fine s K N)(q:Nat)(hq:q<N)(A SV AV AX:Bb)(kc ks kv kx:Nat)(w:Ba)(hX:XAt w w.heap.size AX s.xs) :
  Calls Tryz.prog 49 #[.agg (s.vs_ A kc SV ks AV kv AX kx),.int .i64 (q:Int)] w (RetOw (yx s q) w):=by
 obtain⟨w1,hw1,d0,hs1,hB⟩:=zn w (s.vs_ A kc SV ks AV kv AX kx) 35;have HSZ:=zH (fun (X:Ba)=>YE s K N hF A SV AV AX kc ks kv kx X);have HVW:=zH (fun (i:Nat) (hi:i<ptn s) (X:Ba) (hX:XAt X X.heap.size AX s.xs)=>rview_any s K N hF i q hi hq A SV AV AX kc ks kv kx X hX)
 have hpn:ptn s<=700:=by
  have hk:=hF.k;have hk6:=hF.k6;have:=LO hF.lx (show s.p.k.toNat+1<=7 by omega);unfold ptn;omega
 have hkl:(jy s q).length=ptn s:=by rw[Xl];rfl
 have HLB:=zH (fun (A:Bb) (c:Nat) (X:Ba) (hI:IAt X X.heap.size A (jy s q))=>X8 A c (jy s q) (by omega) X hI);have HCL:Hid (yx s q=xr (jy s q)):=rfl;rw[HCL.out];obtain⟨L,hL⟩:=Ki (jy s q);obtain⟨n,hn⟩:=Ki (ptn s);rw[hL] at HVW HLB hkl ⊢;rw[hn] at HSZ HVW hpn hkl;have HX:=zH (hX.keep hB);unfold Sy.vs_ at hw1 d0 HSZ HVW ⊢;have HW1:=zH hw1;have HB:=zH hB;have HD:=zH d0;clear hw1 d0 hB hF hX hL hn HCL hq;go_enter Tryz.func49,Tryz.ntmps49;go_wp2_with fail;rw[HW1.out];go_wp2_with fail;clear HW1
 go_loopw [5,6] (fun o i wr=>∃k:Nat,k<=n/\i=.int .i64 (k:Int)/\Hid (Own wr w1.heap.size o (L.take k))/\Hid (Below w1.heap.size w1 wr)) (fun _ i _=>n-(intOf i).toNat)
 case atStart=>exact⟨0,by omega,rfl,Own.nil _ _,Lo _ _⟩
 case round=>
  obtain⟨k,hk,rfl,HO,hb⟩:=hrel;obtain⟨Ao,co,rfl,_,_,hIo⟩:=HO.out.form;have htl:(L.take k).length=k:=by simp;omega
  rw[htl] at HO ⊢;have dd:=La hb.out HD.out;obtain⟨p0,p1,p2,p3,p4,p5,p6,p7,p8,p9⟩:=zB dd;clear dd hIo;go_wp2_with fail;refine(HSZ.out wr).mono ?_;rintro e w2 ⟨rfl,hb2⟩;have hsz:=hb.out.size;have HB2:=zH (hb.out.trans (hb2.mono hsz));have HO2:=zH (HO.out.below hb2 (Le _));clear p0 p1 p2 p3 p4 p5 p6 p7 p8 p9 hb2;have dd:=La HB2.out HD.out;obtain⟨p0,p1,p2,p3,p4,p5,p6,p7,p8,p9⟩:=zB dd;clear dd
  by_cases hlt:k<n
  . have hkn:(k:Int)<(n:Int):=by omega
    have HC:=zH (HVW.out k hlt w2 ((HX.out.keep (HB2.out.mono (by omega))).more (by have:=HB2.out.size;omega)));have htk:L.take k++[L.getD k 0]=L.take (k+1):=by rw[yL (by omega),Lu (by omega)]
    have HTK:=zH htk;obtain⟨u,hu⟩:=Ki (L.getD k 0);rw[hu] at HC HTK;clear htk hu;go_wp2_with fail;refine HC.out.mono ?_;rintro e w3 ⟨rfl,hb3⟩;have hsz2:=HB2.out.size;have HB3:=zH (HB2.out.trans (hb3.mono hsz2));have HO3:=zH (HO2.out.below hb3 (Le _));have hsz3:=HB3.out.size;clear hb3 HC p0 p1 p2 p3 p4 p5 p6 p7 p8 p9 HO2 HO HB2;go_wp2_with (at_builtin;go_must (refine xZ rfl _ _ rfl w1.heap.size (.slice Ao k co) (L.take k) u rfl HO3.out rfl (by omega) hsz3 ?_);intro v' w5 hown1 hg1 hb1)
    go_roundw
    case rel=>exact⟨k+1,by omega,by go_num,by rw[<-HTK.out];exact hown1,HB3.out.trans hb1⟩
    case measure=>simp[intOf];omega
  . obtain rfl:k=n:=by omega
    have hO9:=HO2.out;rw[<-hkl,LG] at hO9
    have HI9:Hid (IAt w2 w2.heap.size Ao L):=by
     obtain⟨A',c',e',_,_,hI'⟩:=hO9.form;simp only[Value.slice.injEq] at e';obtain⟨e1',-,-⟩:=e';subst e1';exact hI'
    have HC:=zH (HLB.out Ao co w2 HI9.out);rw[hkl] at HC;clear hO9 HO HO2 HSZ HVW HLB p0 p1 p2 p3 p4 p5 p6 p7 p8 p9;go_wp2_with fail;refine HC.out.mono ?_;rintro e w3 ⟨A5,c5,rfl,ho5,hb5⟩;have hsz2:=HB2.out.size;have HO5:=zH ho5;have HB5:=zH (HB2.out.trans (hb5.mono hsz2));clear hb5 ho5;go_wp2_with fail;go_ret;exact⟨A5,c5,rfl,HO5.out.low (by have:=HB2.out.size;omega),HB.out.trans (HB5.out.mono (by omega))⟩
theorem JJ(s:Sy)(K N:Nat)(hF:Fine s K N)(A SV AV AX:Bb)(kc ks kv kx:Nat)(w:Ba) :
  Calls Tryz.prog 88 #[.agg (s.vs_ A kc SV ks AV kv AX kx)] w fun e w'=>e=.returned (.int .i64 (ptn s:Int))/\Below w.heap.size w w':=by
 obtain⟨w1,hw1,d0,hs1,hB⟩:=zn w (s.vs_ A kc SV ks AV kv AX kx) 35;have hlx:=hF.lx;have hk:=hF.k;have hk6:=hF.k6;have hn:ptn s=s.xs.length*(K+1):=by unfold ptn;rw[hk];rfl
 have hb:=LO hlx (show K+1<=7 by omega);rw[hn];unfold Sy.vs_ at hw1 d0 ⊢;rw[hk] at hw1 d0 ⊢;obtain⟨M,hM⟩:=Ki s.xs.length;rw[hM] at hw1 d0 hb hlx ⊢;have HW1:=zH hw1;have HB:=zH hB
 have HWR:Hid (wrap64 ((M:Int)*((K:Int)+1))=((M*(K+1):Nat):Int)):=by
  show wrap64 _=_;rw[show(M:Int)*((K:Int)+1)=((M*(K+1):Nat):Int) by push_cast;rfl];exact IntWalk.wrap64_in _ (by omega)
 have p6:=zh d0 6 rfl;have p9:=zh d0 9 rfl;clear hw1 d0 hB hF hk hn hM hb;go_enter Tryz.func88,Tryz.ntmps88;go_wp2_with fail;rw[HW1.out];go_wp2_with fail;go_ret;exact⟨by rw[<-HWR.out];rfl,HB.out⟩
def j6(s:Sy):Int×Int:=if zV s≠0 then (0,zV s) else ((ptn s:Int),0)
theorem JL(s:Sy)(hs:LowS s)(hf:yR s.p)(A SV AV AX:Bb)(kc ks kv kx:Nat)(w:Ba)(hS:SyAt w w.heap.size A SV AV AX s) :
  Calls Tryz.prog 56 #[.agg (s.vs_ A kc SV ks AV kv AX kx)] w fun e w'=>e=.returned (.tuple #[.int .i64 (j6 s).1,.int .i64 (j6 s).2])/\Below w.heap.size w w':=by
 obtain⟨w1,hw1,d0,hs1,hB⟩:=zn w (s.vs_ A kc SV ks AV kv AX kx) 35;have HV:=zH (vO s hs hf A SV AV AX kc ks kv kx w1 (hS.up hB));have HE0:Hid (zV s≠0->j6 s=(0,zV s)):=fun h=>Lh h
 have HE1:Hid (zV s=0->j6 s=((ptn s:Int),0)/\∀X,Calls Tryz.prog 88 #[.agg (s.vs_ A kc SV ks AV kv AX kx)] X fun e w'=>e=.returned (.int .i64 (ptn s:Int))/\Below X.heap.size X w'):=fun h=>by
  obtain⟨_,K,N,hF⟩:=yn hf h;exact⟨Lg (by simpa using h),fun X=>JJ s K N hF A SV AV AX kc ks kv kx X⟩
 obtain⟨r,hr⟩:=Ki (zV s);rw[hr] at HV HE0 HE1;obtain⟨R,hRR⟩:=Ki (j6 s);rw[hRR] at HE0 HE1 ⊢;unfold Sy.vs_ at hw1 d0 HV HE1 ⊢;have HW1:=zH hw1;have HB:=zH hB;have HD:=zH d0;obtain⟨p0,p1,p2,p3,p4,p5,p6,p7,p8,p9⟩:=zB (d0);clear hw1 d0 hB hS hr hRR hs hf;go_enter Tryz.func56,Tryz.ntmps56;go_wp2_with fail;rw[HW1.out];go_wp2_with fail;refine HV.out.mono ?_;rintro e w2 ⟨rfl,hb2⟩;have HB2:=zH (HB.out.trans (hb2.mono (by omega)));have d0:=Lb hb2 (by omega:w.heap.size<w1.heap.size) HD.out;clear p0 p1 p2 p3 p4 p5 p6 p7 p8 p9 hb2 HV HW1 HD;obtain⟨p0,p1,p2,p3,p4,p5,p6,p7,p8,p9⟩:=zB (d0);clear d0
 by_cases h0:r=0
 case neg=>
  have hR:Hid (R=(0,r)):=HE0.out h0;have e0:(r != 0)=true:=by simpa using h0
  clear HE0 HE1;go_wp2_with fail
  go_ret2
  rw[hR.out];exact⟨rfl,HB2.out⟩
 case pos=>
 subst h0;obtain⟨hRe,hC⟩:=HE1.out rfl;have HC:=zH (hC w2);have hR:=zH hRe;clear HE0 HE1 hRe hC;go_wp2_with fail;refine HC.out.mono ?_;rintro e w3 ⟨rfl,hb3⟩;have HB3:=zH (Lc HB2.out hb3);clear hb3 HC HB2 p0 p1 p2 p3 p4 p5 p6 p7 p8 p9;go_wp2_with fail
 go_ret2
 rw[hR.out];exact⟨rfl,HB3.out⟩
theorem QP(s:Sy)(hs:LowS s)(hf:yR s.p)(g:Int)(A SV AV AX:Bb)(kc ks kv kx:Nat)(w:Ba)(hS:SyAt w w.heap.size A SV AV AX s) :
  Calls Tryz.prog 91 #[.agg (s.vs_ A kc SV ks AV kv AX kx),.int .i64 g] w fun e w'=>e=.returned (.int .i64 (zZ s g))/\Below w.heap.size w w':=by
 obtain⟨w1,hw1,d0,hs1,hB⟩:=zn w (s.vs_ A kc SV ks AV kv AX kx) 35;have HV:=zH (vO s hs hf A SV AV AX kc ks kv kx w1 (hS.up hB));have HE0:Hid (zV s≠0->zZ s g=zV s):=fun h=>Lh h
 have HE1:Hid (zV s=0->zZ s g=if yY s.n g=0 then 0 else 2):=fun h=>by
  obtain⟨_,K,N,hF⟩:=yn hf h;have hn:=hF.n;have hn1:=hF.n1;have hn5:=hF.n5;have h2:((2^N:Nat):Int)=(2:Int)^N:=by push_cast;rfl
  have h3:¬(s.n<1\/5<s.n):=by omega
  have e2:zZ s g=if g<0\/(2:Int)^N<=g then 2 else 0:=by unfold zZ;rw[Lg (by simpa using h),hn,Ls]
  have e3:yY s.n g=if g<0\/(2:Int)^N<=g then 2 else 0:=by unfold yY;rw[Lg h3,hn,Ls,h2]
  rw[e2,e3]
  by_cases hg:g<0\/(2:Int)^N<=g
  . simp only[if_pos hg];rfl
  . simp only[if_neg hg];rfl
 obtain⟨r,hr⟩:=Ki (zV s);rw[hr] at HV HE0 HE1;obtain⟨R,hRR⟩:=Ki (zZ s g);rw[hRR] at HE0 HE1 ⊢;unfold Sy.vs_ at hw1 d0 HV ⊢;have HW1:=zH hw1;have HB:=zH hB;have HD:=zH d0;obtain⟨p0,p1,p2,p3,p4,p5,p6,p7,p8,p9⟩:=zB (d0);clear hw1 d0 hB hS hr hRR hs hf;go_enter Tryz.func91,Tryz.ntmps91;go_wp2_with fail;rw[HW1.out];go_wp2_with fail;refine HV.out.mono ?_;rintro e w2 ⟨rfl,hb2⟩;have HB2:=zH (HB.out.trans (hb2.mono (by omega)));have d0:=Lb hb2 (by omega:w.heap.size<w1.heap.size) HD.out;clear p0 p1 p2 p3 p4 p5 p6 p7 p8 p9 hb2 HV HW1 HD
 by_cases h0:r=0
 case neg=>
  have hR:Hid (R=r):=HE0.out h0;have e0:(r != 0)=true:=by simpa using h0
  clear HE0 HE1 d0;go_wp2_with fail;go_ret;rw[hR.out];exact⟨rfl,HB2.out⟩
 case pos=>
 subst h0;have p7:=zh d0 7 rfl;have HC:=zH (Y6 s.n g w2);have hR:=zH (HE1.out rfl);obtain⟨q,hq⟩:=Ki (yY s.n g);rw[hq] at HC hR;clear HE0 HE1 d0 hq;go_wp2_with fail;refine HC.out.mono ?_;rintro e w3 ⟨rfl,rfl⟩;clear HC p7
 by_cases h1:q=0
 . subst h1
   have hR2:Hid (R=0):=hR.out;clear hR;go_wp2_with fail;go_ret;rw[hR2.out];exact⟨rfl,HB2.out⟩
 . have hR2:Hid (R=2):=by rw[Hid,hR.out,Lg h1]
   have e1:(q != 0)=true:=by simpa using h1
   clear hR;go_wp2_with fail;go_ret;rw[hR2.out];exact⟨rfl,HB2.out⟩
end
section
open Go.RowKit Go.Shelf
attribute [local go_sem] Oper.semAt_some
section
variable {H E n c c':Nat} {S:Array Value} {w X X':Ba} {L L':List (Nat×Int)}
end
theorem Yt{H:Nat}{w w':Ba}(h:Wrote (fun k=>k=H) w w')(hH:H<=w.heap.size):Below H w w':=⟨h.os,h.tape,h.output,h.size,fun k hk=>h.block k (by omega) (by omega)⟩
end
section
open Go.RowKit Go.Shelf
attribute [local go_sem] Oper.semAt_some
def Yk(r:Int)(i:Nat)(x:Int)(o:List Int):List Int:=if 0<r/\0<=x then o.set i (bits BinOp.or IntKind.i64 (o.getD i 0) (o.getD x.toNat 0)) else o
def kB(v:Vw)(i:Nat)(o:List Int):Nat->List Int
 | 0=>o.set i ((2^v.p.toNat:Nat):Int)
 | q+1=>Yk v.r i (v.h q) (kB v i o q)
def qD(vs:List Vw):Nat->List Int
 | 0=>List.replicate vs.length 0
 | k+1=>kB (vs.getD k default) k (qD vs k) 5
theorem hrd1_len{r:Int}{i:Nat}{x:Int}{o:List Int}:(Yk r i x o).length=o.length:=by unfold Yk;split<;>simp
theorem ZJ{v:Vw}{i:Nat}{o:List Int}(q:Nat):(kB v i o q).length=o.length:=by
 induction q with
 | zero=>simp[kB]
 | succ q ih=>rw[kB,hrd1_len,ih]
theorem kO{vs:List Vw}(k:Nat):(qD vs k).length=vs.length:=by
 induction k with
 | zero=>simp[qD]
 | succ k ih=>rw[qD,ZJ,ih]
theorem index_h5(v:Vw)(k:Nat)(hk:k<5)(w:Ba):(Instr.index 88 (.agg #[.int .i64 v.h0,.int .i64 v.h1,.int .i64 v.h2,.int .i64 v.h3,.int .i64 v.h4]) (.int .i64 (k:Int))).run Tryz.prog w=.ok (.int .i64 (v.h k)) w:=by
 obtain rfl | rfl | rfl | rfl | rfl:k=0\/k=1\/k=2\/k=3\/k=4:=by omega
 all_goals kernel_rfl
theorem JI(s:Sy)(hn:s.vs.length<=2100)(hv:∀v∈s.vs,(∃q:Nat,v.p=(q:Int)/\q<5)/\∀q,q<5->v.h q<(s.vs.length:Int))(A SV AV AX:Bb)(kc ks kv kx:Nat)(w:Ba)(hV:VAt w w.heap.size AV s.vs) :
  Calls Tryz.prog 107 #[.agg (s.vs_ A kc SV ks AV kv AX kx)] w fun e w'=>∃g:Nat,e=.returned (.slice (some ⟨g,0,none⟩) s.vs.length s.vs.length)/\w.heap.size<=g/\RowAt w' g (qD s.vs s.vs.length)/\Below w.heap.size w w':=by
 obtain⟨w1,hw1,d0,hs1,hB⟩:=zn w (s.vs_ A kc SV ks AV kv AX kx) 35;obtain⟨w2,hw2,d2,hs2,hB2⟩:=zn w1 ((List.replicate s.vs.length 0).map (Value.int .i64)).toArray 3;have hmk:=uO s.vs.length (by omega);have hBB:Below w.heap.size w w2:=hB.trans (hB2.mono (by omega));have hR0:Hid (RowAt w2 (w.heap.size+1) (qD s.vs 0)):=by rw[<-hs1];exact d2
 have HD:=zH (Lb hB2 (by omega:w.heap.size<w1.heap.size) d0);have HV:Hid (VAt w2 w.heap.size AV s.vs):=hV.keep hBB;obtain⟨vs,hvs⟩:=Ki s.vs;unfold Sy.vs_ at hw1 d0 HD ⊢;rw[hvs] at hw1 hw2 d0 hmk hR0 HV HD hn hv ⊢;obtain⟨n,hnn⟩:=Ki vs.length;have HNL:=zH hnn;rw[hnn] at hw1 hw2 d0 HD hmk hn hv ⊢;have HVV:=zH hv;have HW1:=zH hw1;have HW2:=zH hw2;have HBB:=zH hBB;have p8:=zh d0 8 rfl;have HMK:=zH hmk;clear hw1 hw2 d0 d2 hB hB2 hBB hV hv hvs hmk hnn;go_enter Tryz.func107,Tryz.ntmps107;go_upto_region 1 with fail
 rw[HW1.out];have hmk:=HMK.out;go_upto_region 2 with fail
 rw[show((w1.alloc (.cells (Array.replicate n (Value.int .i64 0)) 3)))=w2 from(by rw[show Array.replicate n (Value.int .i64 0)=((List.replicate n 0).map (Value.int .i64)).toArray by simp];exact HW2.out)];clear hmk HMK HW1 HW2 p8;have p8:=zh HD.out 8 rfl;go_wp2_with fail
 go_loopw [17] (fun i wr=>∃k:Nat,k<=n/\i=.int .i64 (k:Int)/\Hid (RowAt wr (w.heap.size+1) (qD vs k))/\Hid (Below (w.heap.size+1) w2 wr)) (fun i _=>n-(intOf i).toNat)
 case atStart=>exact⟨0,by omega,rfl,hR0,Lo _ _⟩
 case round=>
  obtain⟨k,hk,rfl,hRk,hBk⟩:=hrel;clear hR0;obtain⟨wE,rfl⟩:∃x,x=wr:=⟨_,rfl⟩
  by_cases hkn:k<n
  . obtain⟨v,hvk⟩:∃v,vs[k]'(by have:=HNL.out;omega)=v:=⟨_,rfl⟩
    have hvm:v∈vs:=by rw[<-hvk];exact Ld _
    have HGV:Hid (vs.getD k default=v):=by rw[zt (by have:=HNL.out;omega),hvk];exact rfl
    obtain⟨⟨pp,hp,hp5⟩,hh⟩:=HVV.out v hvm;have hVE:VAt wE w.heap.size AV vs:=HV.out.keep (hBk.out.mono (by omega));obtain⟨ba,oa,rfl,hba,hcell⟩:=hVE (by have:=HNL.out;omega);have hcl:=hcell k (by have:=HNL.out;omega);rw[hvk] at hcl;have c0:wE.cell? ⟨ba,oa+k*8,none⟩=some (.int .i64 v.p):=hcl 0 _ rfl;have c1:wE.cell? ⟨ba,oa+k*8+1,none⟩=some (.int .i64 v.r):=hcl 1 _ rfl;have c2:wE.cell? ⟨ba,oa+k*8+2,none⟩=some (.int .i64 v.i):=hcl 2 _ rfl;have c3:wE.cell? ⟨ba,oa+k*8+3,none⟩=some (.int .i64 v.h0):=hcl 3 _ rfl;have c4:wE.cell? ⟨ba,oa+k*8+4,none⟩=some (.int .i64 v.h1):=hcl 4 _ rfl;have c5:wE.cell? ⟨ba,oa+k*8+5,none⟩=some (.int .i64 v.h2):=hcl 5 _ rfl;have c6:wE.cell? ⟨ba,oa+k*8+6,none⟩=some (.int .i64 v.h3):=hcl 6 _ rfl;have c7:wE.cell? ⟨ba,oa+k*8+7,none⟩=some (.int .i64 v.h4):=hcl 7 _ rfl;rw[hp] at c0;have hk0:(0:Int)<=(k:Int):=by omega
    have hk1:(k:Int)<(n:Int):=by omega
    obtain⟨W5,hW5,d5,hs5,hB5⟩:=zn wE #[.int .i64 (pp:Int),.int .i64 v.r,.int .i64 v.i,.int .i64 v.h0,.int .i64 v.h1,.int .i64 v.h2,.int .i64 v.h3,.int .i64 v.h4] 128;have HD5:=zH d5;have HW5:=zH hW5;have HB5:=zH hB5;have HH:=zH hh;have HP:=zH hp;clear hvk hvm hVE hcell hcl hW5 d5 hB5 hh hp;go_upto_region 5 with fail
    rw[HW5.out];clear HW5 c0 c1 c2 c3 c4 c5 c6 c7;have hlk:=hRk.out;obtain⟨o,ho⟩:=Ki (qD vs k);have HO:=zH ho;have hol:o.length=n:=by rw[<-ho,kO];exact HNL.out
    have HOL:=zH hol;have hR5:RowAt W5 (w.heap.size+1) o:=by rw[<-ho];exact Lb HB5.out hlk.lt hlk
    have hz0:=zi hR5 k;obtain⟨zq,q0⟩:∃z,W5.cell? ⟨w.heap.size+1,k,none⟩=some (.int .i64 z):=⟨_,hR5.cell k (by omega)⟩;have p0:=zh HD5.out 0 rfl;have hsh:=shl_one (N:=pp) (by omega);have hlg:=hR5.lt;have hp0:(0:Int)<=(pp:Int):=by omega
    have HR5:=zH hR5;clear hlk ho hol hR5 hRk;go_upto_region 6 with fail
    have hw2:wrap64 (2^pp)=((2^pp:Nat):Int):=by
     obtain rfl | rfl | rfl | rfl | rfl:pp=0\/pp=1\/pp=2\/pp=3\/pp=4:=by omega
     all_goals kernel_rfl
    rw[hw2];have hset:=HR5.out.set k ((2^pp:Nat):Int);have hoth:∀z,z≠w.heap.size+1->(W5.setCell ⟨w.heap.size+1,k,none⟩ (.int .i64 ((2^pp:Nat):Int))).heap[z]?=W5.heap[z]?:=fun z hz=>Lf W5 ⟨w.heap.size+1,k,none⟩ _ z hz
    have hle1:w.heap.size+1<=wE.heap.size:=by
     have:=hBk.out.size;have:=hs1;have:=hs2;omega
    have hbel:Below (w.heap.size+1) wE (W5.setCell ⟨w.heap.size+1,k,none⟩ (.int .i64 ((2^pp:Nat):Int))):=(HB5.out.mono hle1).setCell (Le _) _;obtain⟨W6,hW6⟩:=Ki (W5.setCell ⟨w.heap.size+1,k,none⟩ (.int .i64 ((2^pp:Nat):Int)));rw[hW6] at hset hoth hbel ⊢;have hEl:w.heap.size+2<=wE.heap.size:=by have:=hBk.out.size;omega
    have HEl:=zH hEl;have HD6:=zH ((hoth wE.heap.size (by omega)).trans HD5.out)
    have HQ0:Hid (RowAt W6 (w.heap.size+1) (kB v k o 0)):=by
     show RowAt W6 _ (o.set k ((2^v.p.toNat:Nat):Int));rw[HP.out,Ls];exact hset
    have HB6:=zH hbel;have HS6:Hid (wE.heap.size<W6.heap.size):=zj HD6.out;have c3:=zh HD6.out 3 rfl;have c4:=zh HD6.out 4 rfl;have c5:=zh HD6.out 5 rfl;have c6:=zh HD6.out 6 rfl;have c7:=zh HD6.out 7 rfl;clear hz0 q0 p0 hsh hlg hp0 HR5 hw2 hset hoth hbel hW6 HD5 hs5 HB5 hEl;go_wp2_with fail
    go_loopw [30] (fun i wr=>∃q:Nat,q<=5/\i=.int .i64 (q:Int)/\Hid (RowAt wr (w.heap.size+1) (kB v k o q))/\Hid (Wrote (fun z=>z=w.heap.size+1) W6 wr)) (fun i _=>5-(intOf i).toNat)
    case atStart=>exact⟨0,by omega,rfl,HQ0,Wrote.refl _ _⟩
    case round=>
     obtain⟨q,hq,rfl,hRq,hWq⟩:=hrel;clear HQ0;have hEl:=HEl.out;have hbx:=(hWq.out.block wE.heap.size HS6.out (by show ¬wE.heap.size=w.heap.size+1;omega)).trans HD6.out;clear hEl
     by_cases hq5:q<5
     . have hix:=index_h5 v q hq5 wr
       have hxn:=HH.out q hq5;have hstep:kB v k o (q+1)=Yk v.r k (v.h q) (kB v k o q):=rfl;obtain⟨x,hx⟩:=Ki (v.h q);rw[hx] at hix hxn hstep;obtain⟨oq,hoq⟩:=Ki (kB v k o q);have hoql:oq.length=n:=by rw[<-hoq,ZJ,HOL.out]
       rw[hoq] at hRq hstep;have r1:=zh hbx 1 rfl;have HST:=zH hstep;have hq0:(0:Int)<=(q:Int):=by omega
       have hq1:(q:Int)<5:=by omega
       clear hx hoq hbx hstep
       by_cases hr0:0<v.r
       case neg=>
        have hRn:Hid (RowAt wr (w.heap.size+1) (kB v k o (q+1))):=by rw[HST.out];unfold Yk;rw[Lg (by omega)];exact hRq.out
        have e0:decide (v.r>0)=false:=Li (by omega);clear hRq HST hoql;go_wp2_with fail
        go_roundw
        case rel=>exact⟨q+1,by omega,by go_num,hRn,hWq⟩
        case measure=>simp[intOf];omega
       have e0:decide (v.r>0)=true:=Lk (by omega)
       by_cases hx0:0<=x
       case neg=>
        have hRn:Hid (RowAt wr (w.heap.size+1) (kB v k o (q+1))):=by rw[HST.out];unfold Yk;rw[Lg (by omega)];exact hRq.out
        have e1:decide (x>=0)=false:=Li (by omega);clear hRq HST hoql;go_wp2_with fail
        go_roundw
        case rel=>exact⟨q+1,by omega,by go_num,hRn,hWq⟩
        case measure=>simp[intOf];omega
       obtain⟨y,rfl⟩:=Lr hx0;have e1:decide ((y:Int)>=0)=true:=Lk (by omega);have hyn:y<n:=by omega
       have c1:=hRq.out.cell k (by omega);have c2:=hRq.out.cell y (by omega);have hd1:oq.getD k 0=oq[k]'(by omega):=zt (by omega) 0;have hd2:oq.getD y 0=oq[y]'(by omega):=zt (by omega) 0;rw[<-hd1] at c1;rw[<-hd2] at c2;have hE:Yk v.r k (y:Int) oq=oq.set k (bits BinOp.or IntKind.i64 (oq.getD k 0) (oq.getD y 0)):=by unfold Yk;rw[Lh (by omega),Ls]
       rw[hE] at HST;obtain⟨a1,ha1⟩:=Ki (oq.getD k 0);obtain⟨a2,ha2⟩:=Ki (oq.getD y 0);rw[ha1] at c1 HST;rw[ha2] at c2 HST;have hz0:=zi hRq.out k;have hlg:=hRq.out.lt;clear hd1 hd2 hE ha1 ha2;have hRs:=hRq.out.set k (bits BinOp.or IntKind.i64 a1 a2);rw[<-HST.out] at hRs;have hRn:Hid (RowAt (wr.drew.setCell ⟨w.heap.size+1,k,none⟩ (.int .i64 (bits BinOp.or IntKind.i64 a1 a2))) (w.heap.size+1) (kB v k o (q+1))):=hRs;have hWn:Hid (Wrote (fun z=>z=w.heap.size+1) W6 (wr.drew.setCell ⟨w.heap.size+1,k,none⟩ (.int .i64 (bits BinOp.or IntKind.i64 a1 a2)))):=(hWq.out.trans (Wrote.of_below ((Lo _ wr).drew)) (fun _ _ h=>h)).trans (Wrote.of_grown (zS wr.drew (w.heap.size+1) k _) (fun z e _=>by cases e;rfl)) (fun _ _ h=>h);clear hRs hRq hWq HST;go_upto_region 10 with fail
       refine zz [(0,true),(1,true),(2,true),(3,true),(4,true),(5,true),(6,true),(7,true),(8,true),(9,false),(10,false)] (fun X=>X=wr.drew) (by kernel_rfl) (by kernel_rfl) rfl ?_
       repeat
        apply zG rfl
        . rintro K' hK' X rfl
          go_simp;exact hK'
       refine zE rfl ?_;intro K' hK';go_simp;refine hK' _ _ rfl ?_;clear hK' K';refine xa rfl (by kernel_rfl) ?_;intro K' hK';go_simp;refine hK' (fun _=>True) _ _ trivial ?_;refine zQ ?_;clear hK' K';go_wp2_with fail
       go_roundw
       case rel=>exact⟨_,_,_,_,_,_,_,_,_,_,_,_,_,_,_,_,_,_,_,_,_,_,⟨q+1,by omega,by go_num,hRn,hWn⟩,rfl⟩
       case measure=>simp[intOf];omega
     . obtain rfl:q=5:=by omega
       have hRn:Hid (RowAt wr (w.heap.size+1) (qD vs (k+1))):=by
        show RowAt wr _ (kB (vs.getD k default) k (qD vs k) 5);rw[HGV.out,HO.out];exact hRq.out
       have hBn:Hid (Below (w.heap.size+1) w2 wr):=(hBk.out.trans HB6.out).trans (Yt hWq.out (by have:=HEl.out;have:=HS6.out;omega));clear hbx hRq hWq c3 c4 c5 c6 c7;go_wp2_with fail
       go_roundw
       case rel=>exact⟨k+1,by omega,by go_num,hRn,hBn⟩
       case measure=>simp[intOf];omega
  . obtain rfl:n=k:=by omega
    clear p8;go_wp2_with fail;go_ret;exact⟨w.heap.size+1,rfl,Nat.le_succ _,hRk.out,HBB.out.trans (hBk.out.mono (Nat.le_succ _))⟩
end
section
open Go.RowKit
def LowV(vs:List Vw):Prop:=∀i (hi:i<vs.length),∀q,q<5->vs[i].h q<(i:Int)
theorem LowV.snoc{vs:List Vw}{v:Vw}(h:LowV vs)(hv:∀q,q<5->v.h q<(vs.length:Int)):LowV (vs++[v]):=fun i hi q hq=>by
 by_cases hlt:i<vs.length
 . rw[Rf hlt];exact h i hlt q hq
 . rw[Lv,Rn] at hi
   obtain rfl:i=vs.length:=by omega
   rw[N9 (by omega)];simpa using hv q hq
theorem putW_asc{vs:List Vw}{v:Vw}(h:LowV vs)(hv:∀q,q<5->v.h q<(vs.length:Int)):LowV (qg vs v).1:=by
 unfold qg
 split
 . exact h
 . exact h.snoc hv
theorem Zl{f:Nat->Vw}{vs:List Vw}(h:LowV vs):∀n,(∀p,p<n->∀q,q<5->(f p).h q<(vs.length:Int))->LowV (yl f vs n).1
 | 0,_=>h
 | n+1,hf=>by
  rw[yl];refine putW_asc (Zl h n fun p hp=>hf p (by omega)) fun q hq=>?_
  have h1:=hf n (by omega) q hq;obtain⟨us,hu⟩:=vV f vs n;rw[hu,Lv];omega
theorem firstE_h(p:Nat)(i:Int)(q:Nat)(_hq:q<5):(yP p i).h q=-1:=by
 match q,_hq with
 | 0,_=>rfl
 | 1,_=>rfl
 | 2,_=>rfl
 | 3,_=>rfl
 | 4,_=>rfl
theorem Qo{vs:List Vw}{n:Nat}{inp:List Int}{word:List Rd}(h:LowV vs):∀j,LowV (zA vs n inp word j).1
 | 0=>by
  rw[zA];refine Zl h n fun p _ q hq=>?_
  rw[firstE_h p _ q hq];omega
 | j+1=>by
  rw[zA];refine Zl (Qo h j) n fun p _ q hq=>?_
  rw[vT _ _ _ _ q hq];unfold yc;rw[ja vs n inp word j j (Le _)]
  split
  . rename_i hc
    rw[jp] at hc;exact(gK vs n inp word j j q (Le _) hc.1).lt.2
  . omega
theorem runW_asc(p:Pb)(l:List (Nat×List Rd)):LowV (zC p l).1:=by
 have key:∀n,n<=l.length->LowV (zC p (l.take n)).1:=by
  intro n
  induction n with
  | zero=>intro _;rw[LS,jn];intro i hi;cases hi
  | succ n ih=>
   intro hn;rw[Lu (by omega),qr];exact Qo (ih (by omega)) _
 have:=key l.length (Le _);rwa[LG] at this
theorem built_asc(p:Pb):LowV (kD p).vs:=runW_asc p _
theorem or_32{a b:Nat}(ha:a<32)(hb:b<32):bits BinOp.or IntKind.i64 (a:Int) (b:Int)=((a ||| b:Nat):Int):=by
 have h:∀a:Nat,a<32->∀b:Nat,b<32->bits BinOp.or IntKind.i64 (a:Int) (b:Int)=((a ||| b:Nat):Int):=by decide +kernel
 exact h a ha b hb
theorem jV{l:List Int}{i j:Nat}{x:Int}:(l.set i x).getD j 0=if i=j/\i<l.length then x else l.getD j 0:=by
 rw[Lj,Lj,RP]
 by_cases e:i=j
 . subst e
   by_cases h:i<l.length
   . simp[h]
   . simp[h]
 . simp[e]
theorem ZI{v:Vw}{i j:Nat}{o:List Int}(h:i≠j)(q:Nat):(kB v i o q).getD j 0=o.getD j 0:=by
 induction q with
 | zero=>rw[kB,jV,Lg (fun e=>h e.1)]
 | succ q ih=>
  rw[kB];unfold Yk
  split
  . rw[jV,Lg (fun e=>h e.1),ih]
  . exact ih
theorem uW{vs:List Vw}{k:Nat}:∀m,k<=m->∀i,i<k->(qD vs m).getD i 0=(qD vs k).getD i 0
 | 0,hm,i,hi=>by omega
 | m+1,hm,i,hi=>by
  by_cases e:k=m+1
  . subst e;rfl
  . rw[qD,ZI (by omega),uW m (by omega) i hi]
theorem ZH{vs:List Vw}(hl:LowV vs){i:Nat}(hi:i<vs.length){p:Nat}(hp:vs[i].p=(p:Int))(hp5:p<5)
  (hE:∀j,j<i->∃S:Nat,(qD vs vs.length).getD j 0=(S:Int)/\S<32) :
  ∃S:Nat,(qD vs vs.length).getD i 0=(S:Int)/\S<32/\∀o,o<5->(S.testBit o=true↔o=p\/(0<vs[i].r/\∃q,q<5/\0<=vs[i].h q/\∃T:Nat,(qD vs vs.length).getD (vs[i].h q).toNat 0=(T:Int)/\T.testBit o=true)):=by
 have hv:vs.getD i default=vs[i]:=by rw[Lj,Lm hi];rfl
 have key:∀q,q<=5->∃S:Nat,(kB vs[i] i (qD vs i) q).getD i 0=(S:Int)/\S<32/\∀o,o<5->(S.testBit o=true↔o=p\/(0<vs[i].r/\∃q',q'<q/\0<=vs[i].h q'/\∃T:Nat,(qD vs vs.length).getD (vs[i].h q').toNat 0=(T:Int)/\T.testBit o=true)):=by
  intro q
  induction q with
  | zero=>
   intro _;refine⟨2^p,?_,?_,fun o ho=>?_⟩
   . rw[kB,jV,Lh ⟨rfl,by rw[kO];exact hi⟩,hp,Ls]
   . exact LC (Nat.pow_lt_pow_right (by omega) hp5) (by decide)
   . rw[Nat.testBit_two_pow]
     simp only[decide_eq_true_eq];constructor
     . intro e;exact .inl e.symm
     . rintro(e | ⟨_,q',hq',_⟩)
       . exact e.symm
       . omega
  | succ q ih=>
   intro hq;obtain⟨S,e,hS,hb⟩:=ih (by omega);rw[kB];unfold Yk
   by_cases hc:0<vs[i].r/\0<=vs[i].h q
   . rw[Lh hc]
     have hlt:=hl i hi q (by omega);obtain⟨T,eT,hT⟩:=hE (vs[i].h q).toNat (by omega)
     have eT2:(kB vs[i] i (qD vs i) q).getD (vs[i].h q).toNat 0=(T:Int):=by
      rw[ZI (by omega),<-uW vs.length (show i<=vs.length by omega) _ (show(vs[i].h q).toNat<i by omega),eT]
     refine⟨S ||| T,?_,Nat.or_lt_two_pow (n:=5) hS hT,fun o ho=>?_⟩
     . rw[jV,Lh ⟨rfl,by rw[ZJ,kO];exact hi⟩,e,eT2]
       exact or_32 hS hT
     . rw[Nat.testBit_or,Rm,hb o ho]
       constructor
       . rintro((e1 | ⟨h0,q',hq',r⟩) | h)
         . exact .inl e1
         . exact .inr ⟨h0,q',by omega,r⟩
         . exact .inr ⟨hc.1,q,by omega,hc.2,T,eT,h⟩
       . rintro(e1 | ⟨h0,q',hq',h2,T',eT',r⟩)
         . exact .inl (.inl e1)
         . by_cases e2:q'=q
           . subst e2
             rw[eT] at eT';have:T=T':=by omega
             subst this;exact .inr r
           . exact .inl (.inr ⟨h0,q',by omega,h2,T',eT',r⟩)
   . rw[Lg hc]
     refine⟨S,e,hS,fun o ho=>(hb o ho).trans ?_⟩;constructor
     . rintro(e1 | ⟨h0,q',hq',r⟩)
       . exact .inl e1
       . exact .inr ⟨h0,q',by omega,r⟩
     . rintro(e1 | ⟨h0,q',hq',h2,r⟩)
       . exact .inl e1
       . by_cases e2:q'=q
         . subst e2;exact absurd ⟨h0,h2⟩ hc
         . exact .inr ⟨h0,q',by omega,h2,r⟩
 obtain⟨S,e,hS,hb⟩:=key 5 (Le _);refine⟨S,?_,hS,hb⟩;rw[uW vs.length (show i+1<=vs.length by omega) i (by omega),qD,hv];exact e
theorem hrd_small{vs:List Vw}(hl:LowV vs)(hp:∀v∈vs,∃p:Nat,v.p=(p:Int)/\p<5):∀i,i<vs.length->∃S:Nat,(qD vs vs.length).getD i 0=(S:Int)/\S<32:=by
 intro i
 induction i using Nat.strongRecOn with
 | ind i ih=>
  intro hi;obtain⟨p,h1,h2⟩:=hp _ (Ld hi);obtain⟨S,e,hS,_⟩:=ZH hl hi h1 h2 (fun j hj=>ih j hj (by omega));exact⟨S,e,hS⟩
def HR(N:Nat)(word:List Rd):Nat->Nat->Nat->Prop
 | 0,q,o=>o=q
 | k+1,q,o=>∃m,m<N/\((word.getD k default).h q).toNat.testBit m=true/\HR N word k m o
theorem HR_own{s:Sy}{K N:Nat}(hF:Fine s K N){x:Exn}(hx:x∈s.xs):∀k,k<=K->∀q,q<N->HR N x.word k q q
 | 0,_,q,_=>rfl
 | k+1,hk,q,hq=>by
  obtain⟨r1,n1⟩:=hF.round hx (show k<K by omega);obtain⟨m,hm,_,hb⟩:=YT r1 n1 hF.n5 hq;exact⟨q,hq,by rw[hm,Ls];exact hb,HR_own hF hx k (by omega) q hq⟩
theorem hrd_view{s:Sy}{K N:Nat}(hF:Fine s K N)(hS:Sees s K N)(hl:LowV s.vs){x:Exn}(hx:x∈s.xs):∀k,k<=K->∀q,q<N->∃S:Nat,(qD s.vs s.vs.length).getD (xw x k q).toNat 0=(S:Int)/\S<32/\∀o,o<5->(S.testBit o=true↔HR N x.word k q o):=by
 have hn5:=hF.n5;have hsm:=hrd_small hl (fun v hv=>by obtain⟨⟨p,h1,h2⟩,_⟩:=hF.vs v hv;exact⟨p,h1,by omega⟩);intro k
 induction k with
 | zero=>
  intro _ q hq;have ha:=hS.v0 x hx q hq;have hlt:=ha.lt;obtain⟨hi,e⟩:=Lq.1 ha.2;obtain⟨S,e1,e2,e3⟩:=ZH hl hi (p:=q) (by rw[e];rfl) (by omega) (fun j hj=>hsm j (by omega));refine⟨S,e1,e2,fun o ho=>(e3 o ho).trans ?_⟩;rw[e];constructor
  . rintro(h | ⟨h0,_⟩)
    . exact h
    . exact absurd h0 (by show ¬((0:Int)<0);omega)
  . exact fun h=>.inl h
 | succ k ih=>
  intro hk q hq;have ha:=hS.vk x hx k (by omega) q hq;obtain⟨hi,e⟩:=Lq.1 ha.2;obtain⟨S,e1,e2,e3⟩:=ZH hl hi (p:=q) (by rw[e];rfl) (by omega) (fun j hj=>hsm j (by omega));obtain⟨r1,n1⟩:=hF.round hx (show k<K by omega);obtain⟨m0,hm0,hmN,hb⟩:=YT r1 n1 hn5 hq;obtain⟨hl1,hp1⟩:=hF.row hx (show k<=K by omega);refine⟨S,e1,e2,fun o ho=>(e3 o ho).trans ?_⟩;rw[e]
  have hbit:∀m,((x.word.getD k default).h q).toNat.testBit m=true->m<N:=fun m hm=>by
   rw[hm0,Ls] at hm
   by_cases h:m<N
   . exact h
   . rw[Nat.testBit_lt_two_pow (LC hmN (Ni (by omega) (by omega)))] at hm
     cases hm
  constructor
  . rintro(rfl | ⟨_,m,hm5,hm0',T,eT,hT⟩)
    . exact HR_own hF hx (k+1) hk o hq
    . rw[vT _ _ _ _ m hm5] at hm0' eT
      unfold yc at hm0' eT
      by_cases hc:m<(x.views.getD k []).length/\((x.word.getD k default).h q).toNat.testBit m=true
      . rw[Lh hc] at eT
        have hmN':m<N:=by omega
        obtain⟨S',f1,f2,f3⟩:=ih (by omega) m hmN';have e':(x.views.getD k []).getD m 0=xw x k m:=rfl;rw[e',f1] at eT;have:S'=T:=by omega
        subst this;exact⟨m,hmN',hc.2,(f3 o ho).1 hT⟩
      . rw[Lg hc] at hm0'
        exact absurd hm0' (by omega)
  . rintro⟨m,hmN',hmb,hR⟩
    obtain⟨S',f1,f2,f3⟩:=ih (by omega) m hmN';have e':(x.views.getD k []).getD m 0=xw x k m:=rfl;have hc:m<(x.views.getD k []).length/\((x.word.getD k default).h q).toNat.testBit m=true:=⟨by omega,hmb⟩;refine .inr ⟨by show(0:Int)<((k+1:Nat):Int);omega,m,by omega,?_,S',?_,(f3 o ho).2 hR⟩
    . rw[vT _ _ _ _ m (by omega)]
      unfold yc;rw[Lh hc,e'];obtain⟨v,hv,_⟩:=hS.pr hx (show k<=K by omega) hmN';exact hv.lt.1
    . rw[vT _ _ _ _ m (by omega)]
      unfold yc;rw[Lh hc,e',f1]
def xP(s:Sy)(out:List Int)(h:Fh)(x:Nat×Nat):Bool:=
 if h.op=0 then true
 else if h.op=1 then decide ((yt s.p (s.xs.getD x.1 default).c.toNat).getD h.p.toNat 0=h.v)
 else if h.op=2 then decide (h.v∈yt s.p (s.xs.getD x.1 default).c.toNat)
 else if h.op=3 then ((qD s.vs s.vs.length).getD (xw (s.xs.getD x.1 default) x.2 h.p.toNat).toNat 0).toNat.testBit h.o.toNat
 else if h.op=4 then decide (0<x.2)&&(((s.xs.getD x.1 default).word.getD (x.2-1) default).f).toNat.testBit h.p.toNat
 else if h.op=5 then decide (0<out.length)&&decide (out.getD (xw (s.xs.getD x.1 default) x.2 h.p.toNat).toNat 0=h.v)
 else decide ((x.2:Int)=h.v)
def ur(s:Sy)(out:List Int)(h:Fh):List Bool:=(zr (s.p.k.toNat+1) 0 s.xs.length).map (xP s out h)
def atmE(s:Sy)(out:List Int)(d:Nat)(f:Fm):List Bool×Int:=
 if zV s≠0 then ([],zV s) else if 0<out.length/\out.length≠s.vs.length then ([],15) else if qW s.n d f≠0 then ([],qW s.n d f) else if 0<f.args.length then ([],11) else (ur s out f.h,0)
theorem Z5(s:Sy)(out:List Int)(h:Fh):(ur s out h).length=s.xs.length*(s.p.k.toNat+1):=by unfold ur;rw[LR,jS _ _ (by omega)]
structure AtmOk(N:Nat)(h:Fh):Prop where
 op0:0<=h.op
 op6:h.op<=6
 p:h.op=1\/h.op=3\/h.op=4\/h.op=5->0<=h.p/\h.p<(N:Int)
 o:h.op=3->0<=h.o/\h.o<(N:Int)
theorem atm_ok{n:Int}{N:Nat}(hn:n=(N:Int)){d:Nat}{f:Fm}(h:qW n d f=0)(ha:f.args.length=0):AtmOk N f.h:=by
 have hnod:qL N f.h 0=0:=by
  unfold qW at h
  split at h
  . cases h
  . split at h
    . rename_i h2;exact absurd h h2
    · have e : kK n.toNat d f = if qL N f.h 0 ≠ 0 then qL N f.h 0 else kK n.toNat d f := by
       have hN:n.toNat=N:=by omega
       rw[hN]
       cases d<;>(unfold kK Qu;rw[ha];split<;>simp_all)
      rw[e] at h
      split at h
      . exact h
      . rename_i h3;simpa using h3
 unfold qL at hnod
 by_cases h1:f.h.op<0\/17<f.h.op
 . rw[Lh h1] at hnod;cases hnod
 rw[Lg h1] at hnod
 by_cases h2:((0:Nat):Int)≠arN f.h.op
 . rw[Lh h2] at hnod;cases hnod
 rw[Lg h2] at hnod
 have h6:f.h.op<=6:=by
  unfold arN at h2
  by_cases e1:f.h.op=8\/f.h.op=9\/f.h.op=17
  . rw[Lh e1] at h2;simp at h2
  . rw[Lg e1] at h2
    by_cases e2:f.h.op<=6
    . exact e2
    . rw[Lg e2] at h2;simp at h2
 refine⟨by omega,h6,fun hp=>?_,fun ho=>?_⟩
 . have hu:usP f.h.op=true:=by unfold usP;rw[Np];omega
   by_cases hr:0<=f.h.p/\f.h.p<=(N:Int)-1
   . omega
   . rw[Lh (.inl ⟨hu,hr⟩)] at hnod;cases hnod
 . have hu:usO f.h.op=true:=by unfold usO;rw[Np];omega
   by_cases hr:0<=f.h.o/\f.h.o<=(N:Int)-1
   . omega
   . rw[Lh (.inr (.inl ⟨hu,hr⟩))] at hnod;cases hnod
end
section
open Go.RowKit
structure K5 where
 a:Int
 b:Int
 c:Int
 d:Int
 e:Int
deriving DecidableEq
def k5C(x:K5):Array Value:=#[.int .i64 x.a,.int .i64 x.b,.int .i64 x.c,.int .i64 x.d,.int .i64 x.e]
def k5E(x:K5):Value:=.agg (k5C x)
theorem J9(a b:K5)(h:k5E a=k5E b):a=b:=by
 unfold k5E k5C at h;injection h with h
 obtain⟨a0,a1,a2,a3,a4⟩:=a;obtain⟨b0,b1,b2,b3,b4⟩:=b;simpa using h
open Classical in
theorem XC:KeyOk Tryz.prog 88 k5E where
 inj:=J9
 check:=fun w em v=>Y5 w em _ v.a v.b v.c v.d v.e
 equal:=fun w a b=>by
  unfold Op.equal Op.maxDepth k5E k5C;rw[uY _ ⟨0,0,0,a.a,a.b,a.c,a.d,a.e⟩ ⟨0,0,0,b.a,b.b,b.c,b.d,b.e⟩ w]
  by_cases h:a=b
  . subst h;simp[hE]
  . have:¬(k5E a=k5E b):=fun e=>h (J9 a b e)
    unfold k5E k5C at this;rw[Li this];obtain⟨a0,a1,a2,a3,a4⟩:=a;obtain⟨b0,b1,b2,b3,b4⟩:=b;simpa[hE] using h
 now:=fun d hd=>.inr fun a b=>by
  rw[Pf] at hd
  cases hd
  simp[Instr.sameNow]
 stays:=fun a=>by simp[Instr.sameBits,k5E,k5C]
 kind:=⟨_,Pf⟩
end
section
open Go.RowKit Go.Shelf
section
variable {κ:Type} [DecidableEq κ] {enc:κ->Value}
def nuG(l:List κ):κ->Option Value:=fun k=>if k∈l then some (.int .i64 (l.idxOf k:Int)) else none
theorem nuG_nil:nuG ([]:List κ)=fun _=>none:=by funext k;simp[nuG]
theorem nuG_put{l:List κ}{k:κ}(h:k∉l):xf (nuG l) k (.int .i64 (l.length:Int))=nuG (l++[k]):=by
 funext x
 unfold xf nuG
 by_cases e:x=k
 . subst e
   rw[Lh rfl,Lh (by simp),NF,Lg h];simp
 . rw[Lg e]
   by_cases hx:x∈l
   . rw[Lh hx,Lh (by simp[hx]),NF,Lh hx]
   . rw[Lg hx,Lg (by simp[hx,e])]
theorem nuG_count{w:Ba}{b n:Nat}{us:List κ}(inj:∀a b,enc a=enc b->a=b)(h:MapOf enc w b n (nuG us))(hu:us.Nodup):∃es clock,w.heap[b]?=some (.map es clock)/\es.size=us.length:=
 h.count inj hu (fun k=>by
  unfold nuG
  by_cases hk:k∈us
  . simp[hk]
  . simp[hk])
end
structure NkIn{κ:Type}[DecidableEq κ](enc:κ->Value)(FT MT:TypeId)(B:Nat)(S:Array Value)(F:Value)(R:Nat->Prop)(us:List κ)(ls:List Int)(w W:Ba):Prop where
 wrote:Wrote R w W
 b0:W.heap[B]?=some (.cells S 35 (0,0))
 b1:W.heap[B+1]?=some (.cells #[F] FT (0,0))
 b3:W.heap[B+1+1+1]?=some (.cells #[.map (some (B+1+1))] MT (0,0))
 b5:W.heap[B+1+1+1+1+1]?=some (.cells S 35 (0,0))
 hm:∃m,MapOf enc W (B+1+1) m (nuG us)
 box:∃P c,W.heap[B+1+1+1+1]?=some (.cells #[.slice P ls.length c] 44 (0,0))/\Own W (B+6) (.slice P ls.length c) ls
 sz:B+6<=W.heap.size
section
variable {B:Nat} {S:Array Value} {F:Value} {R:Nat->Prop} {κ:Type} [DecidableEq κ] {enc:κ->Value} {FT MT:TypeId} {us:List κ} {ls:List Int} {w W W':Ba}
theorem NkIn.turn{row:Option Nat}(h:NkIn enc FT MT B S F R us ls w W)(hw:w.heap.size<=B)(hg:W.grownBy W' row)(hr:∀r,row=some r->B+6<=r/\∃o:Obj,W.heap[r]?=some o/\o.isCells=false):NkIn enc FT MT B S F R us ls w W':=by
 obtain⟨P,c,hb,ho⟩:=h.box;obtain⟨m,hm⟩:=h.hm;have hsz:=h.sz;have old:∀k,k<B+6->W'.heap[k]?=W.heap[k]?:=fun k hk=>hg.block k (by omega) (fun e=>by have:=(hr k e.symm).1;omega)
 refine⟨h.wrote.trans (Wrote.of_grown (R:=fun k=>w.heap.size<=k) hg (fun k e hk=>by have:=(hr k e).1;omega)) (fun k h1 h2=>by omega),(old B (by omega)).trans h.b0,(old _ (by omega)).trans h.b1,(old _ (by omega)).trans h.b3,(old _ (by omega)).trans h.b5,⟨m,hm.same (old _ (by omega))⟩,⟨P,c,(old _ (by omega)).trans hb,ho.kept hg ?_⟩,Lz hsz hg.size⟩;rcases e:(Value.slice P ls.length c).ownBlock with _ | g
 . exact .inl rfl
 . refine .inr fun e2=>?_
   obtain⟨o,h1,h2⟩:=(hr g e2.symm).2;have:=(jT ho g e).2 o h1;rw[this] at h2;cases h2
theorem NkIn.call(h:NkIn enc FT MT B S F R us ls w W)(hw:Wrote R W W')(hR:∀k,R k->k<B):NkIn enc FT MT B S F R us ls w W':=by
 obtain⟨P,c,hb,ho⟩:=h.box;obtain⟨m,hm⟩:=h.hm;have hsz:=h.sz;have old:∀k,B<=k->k<W.heap.size->W'.heap[k]?=W.heap[k]?:=fun k hk hl=>hw.block k hl (fun e=>by have:=hR k e;omega)
 exact⟨h.wrote.trans hw (fun _ _ h=>h),(old B (by omega) (by omega)).trans h.b0,(old _ (by omega) (by omega)).trans h.b1,(old _ (by omega) (by omega)).trans h.b3,(old _ (by omega) (by omega)).trans h.b5,⟨m,hm.same (old _ (by omega) (by omega))⟩,⟨P,c,(old _ (by omega) (by omega)).trans hb,ho.same fun k hk hl=>old k (by omega) hl⟩,Lz hsz hw.size⟩
theorem NkIn.put{us':List κ}{m:Nat}(h:NkIn enc FT MT B S F R us ls w W)(hw:w.heap.size<=B)(hg:W.grownBy W' (some (B+1+1)))(hm:MapOf enc W' (B+1+1) m (nuG us')):NkIn enc FT MT B S F R us' ls w W':=by
 obtain⟨P,c,hb,ho⟩:=h.box;have hsz:=h.sz;have old:∀k,k<W.heap.size->k≠B+1+1->W'.heap[k]?=W.heap[k]?:=fun k hk hl=>hg.block k hk (fun e=>hl (by cases e;rfl))
 exact⟨h.wrote.trans (Wrote.of_grown (R:=fun k=>w.heap.size<=k) hg (fun k e hk=>by cases e;omega)) (fun k h1 h2=>by omega),(old B (by omega) (by omega)).trans h.b0,(old _ (by omega) (by omega)).trans h.b1,(old _ (by omega) (by omega)).trans h.b3,(old _ (by omega) (by omega)).trans h.b5,⟨m,hm⟩,⟨P,c,(old _ (by omega) (by omega)).trans hb,ho.same fun k hk hl=>old k hl (by omega)⟩,Lz hsz hg.size⟩
theorem NkIn.push{P P2:Bb}{c c2:Nat}{u:Int}{W1:Ba}(h:NkIn enc FT MT B S F R us ls w W)(hw:w.heap.size<=B)(hb:W.heap[B+1+1+1+1]?=some (.cells #[.slice P ls.length c] 44 (0,0)))(ho:Own W (B+6) (.slice P ls.length c) ls)
  (ho1:Own W1 (B+6) (.slice P2 (ls.length+1) c2) (ls++[u])) (hg:W.grownBy W1 (Value.slice P ls.length c).ownBlock) :
  NkIn enc FT MT B S F R us (ls++[u]) w (W1.setCell ⟨B+1+1+1+1,0,none⟩ (.slice P2 (ls.length+1) c2)):=by
 obtain⟨m,hm⟩:=h.hm;have hsz:=h.sz;have hlo:=ho.lt;have hs1:=hg.size;have old1:∀k,k<B+6->W1.heap[k]?=W.heap[k]?:=fun k hk=>hg.block k (by omega) (fun e=>by have:=(hlo k e.symm).1;omega)
 have hb1:=(old1 _ (by omega)).trans hb;obtain⟨x1,x2,x3⟩:=qI hb1 (.slice P2 (ls.length+1) c2);have old:∀k,k<B+6->k≠B+1+1+1+1->(W1.setCell ⟨B+1+1+1+1,0,none⟩ (.slice P2 (ls.length+1) c2)).heap[k]?=W.heap[k]?:=fun k hk hne=>(x3 k hne).trans (old1 k hk)
 refine⟨?_,(old B (by omega) (by omega)).trans h.b0,(old _ (by omega) (by omega)).trans h.b1,(old _ (by omega) (by omega)).trans h.b3,(old _ (by omega) (by omega)).trans h.b5,⟨m,hm.same (old _ (by omega) (by omega))⟩,⟨P2,c2,by rw[Lv];exact x1,by rw[Lv];exact ho1.same fun k hk _=>x3 k (by omega)⟩,by rw[show(W1.setCell ⟨B+1+1+1+1,0,none⟩ (.slice P2 (ls.length+1) c2)).heap.size=W1.heap.size by simp[World.setCell]];omega⟩;have a1:Wrote (fun k=>w.heap.size<=k) W W1:=Wrote.of_grown hg (fun k e hk=>by have:=(hlo k e).1;omega);have a2:Wrote (fun k=>w.heap.size<=k) W1 (W1.setCell ⟨B+1+1+1+1,0,none⟩ (.slice P2 (ls.length+1) c2)):=Wrote.of_grown (zS W1 _ 0 _) (fun k e hk=>by cases e;omega);exact h.wrote.trans (a1.trans a2 (fun _ _ h=>h)) (fun k h1 h2=>by omega)
theorem NkIn.keeps{P:Bb}{c:Nat}{W1:Ba}(h:NkIn enc FT MT B S F R us ls w W)(hb:W.heap[B+1+1+1+1]?=some (.cells #[.slice P ls.length c] 44 (0,0)))(ho:Own W (B+6) (.slice P ls.length c) ls)
  (hg:W.grownBy W1 (Value.slice P ls.length c).ownBlock) (v:Value):KeepsFrom (B+6) W (W1.setCell ⟨B+1+1+1+1,0,none⟩ v)/\KeepB (fun k=>k=B+1+1+1+1+1) W (W1.setCell ⟨B+1+1+1+1,0,none⟩ v):=by
 have hlo:=ho.lt;have hsz:=h.sz;have hs1:=hg.size;have hb1:=(hg.block (B+1+1+1+1) (by omega) (fun e=>by have:=(hlo _ e.symm).1;omega)).trans hb;obtain⟨x1,x2,x3⟩:=qI hb1 v;refine⟨⟨by simp[World.setCell];omega,fun k o hk hk1 ho1=>?_⟩,⟨by simp[World.setCell];omega,fun k hk hl=>?_⟩⟩
 . refine(x3 k (by omega)).trans ((hg.block k (zj hk1) (fun e=>?_)).trans hk1)
   have:=(jT ho k e.symm).2 o hk1;rw[this] at ho1;cases ho1
 . subst hk
   exact(x3 _ (by omega)).trans (hg.block _ (by omega) (fun e=>by have:=(hlo _ e.symm).1;omega))
end
end
section
open Go.RowKit Go.Shelf
attribute [local go_sem] Oper.semAt_some
theorem Yh(s:Sy)(K M:Nat)(hK:K<=100)(hM:M<=100)(hk:s.p.k=(K:Int))(hx:s.xs.length=M)(A SV AV AX:Bb)(kc ks kv kx:Nat)(kf:Nat)(kb:Array Value)(ek:Enters Tryz.prog kf)(key:Nat×Nat->K5)
  (R:Nat->Prop) (J:Ba->Prop) (w:Ba) (hR:∀k,R k->k<w.heap.size) (hJ0:J w) (hJ:∀W W',J W->Wrote (fun k=>w.heap.size<=k) W W'->J W')
  (hkey:∀x∈zr (K+1) 0 M,∀W,J W->w.heap.size<=W.heap.size->Calls Tryz.prog kf (#[.agg #[.int .i64 x.1,.int .i64 x.2]]++kb) W fun e w'=>e=.returned (k5E (key x))/\J w'/\Wrote R W w') :
  Calls Tryz.prog 92 #[.agg (s.vs_ A kc SV ks AV kv AX kx),.func (.func kf) #[] kb] w fun e w'=>∃v,e=.returned v/\Own w' w.heap.size v (xr ((zr (K+1) 0 M).map key))/\J w'/\Wrote R w w':=by
 have hC:PtC (s.vs_ A kc SV ks AV kv AX kx) K M AX kx:=⟨by unfold Sy.vs_;rw[<-hk];rfl,by unfold Sy.vs_;rw[<-hx];rfl⟩
 have hlen:(zr (K+1) 0 M).length<=20000:=by
  rw[jS (K+1) M (by omega)];exact Lz (LO hM (show K+1<=101 by omega)) (by decide)
 have HIT:=zH (fun (bs:Nat) (W:Ba) (hb:W.heap[bs]?=some (.cells (s.vs_ A kc SV ks AV kv AX kx) 35 (0,0)))=>wj (s.vs_ A kc SV ks AV kv AX kx) K M hK hM AX kx hC bs W hb);have HAL:=zH (fun (W:Ba)=>XO s A SV AV AX kc ks kv kx W);have HKEY:=zH hkey;have HJ:=zH hJ;have HJ0:=zH hJ0;have hz:∀W:Ba,(zeroValue 3).run Tryz.prog W=.ok (.int .i64 0) W:=fun W=>by kernel_rfl
 have ht:Tryz.prog.underlying 203=some (.map 88 3):=Tryz.underlying203;have hmm:=@run_makeMap Tryz.prog;obtain⟨L,hL⟩:=Ki (zr (K+1) 0 M);rw[hL] at HIT HKEY hlen ⊢;unfold Sy.vs_ at HIT HAL ⊢;clear hkey hJ hJ0 hL hC hk hx;refine yK Tryz.func92 rfl ?_;simp only[Tryz.ntmps92,List.size_toArray,List.length_cons,List.length_nil,Nat.reduceAdd,Nat.reduceSub,Array.replicate_succ,Array.replicate_zero,List.push_toArray,List.append_toArray,List.nil_append,List.cons_append];go_wp2_with fail;refine(HAL.out _).mono ?_;rintro e w2 ⟨rfl,hw2⟩;obtain⟨S,hS⟩:∃S,S=#[Value.int .i64 s.p.t.n,.int .i64 s.p.t.ins,.int .i64 s.p.t.outs,.slice A s.p.t.cases.length kc,.int .i64 s.p.a.n,.slice SV s.p.a.sts.length ks,.int .i64 s.p.k,.int .i64 s.n,.slice AV s.vs.length kv,.slice AX s.xs.length kx]:=⟨_,rfl⟩;rw[<-hS] at hw2 HIT
 have hNW:NkIn k5E 164 203 w.heap.size S (.func (.func kf) #[] kb) R [] [] w w2/\Wrote (fun k=>w.heap.size<=k) w w2:=by
  obtain⟨a1,h1,x1,y1,z1⟩:=zn w S 35;rw[h1] at hw2;obtain⟨a2,h2,x2,y2,z2⟩:=zn a1 #[.func (.func kf) #[] kb] 164;rw[h2] at hw2;obtain⟨a3,h3⟩:=Ki (a2.alloc (.map #[] 0));have m3:MapOf k5E a3 a2.heap.size 0 (fun _=>none):=by rw[<-h3];exact MapOf.made a2
  have y3:a3.heap.size=a2.heap.size+1:=by rw[<-h3];simp
  have z3:Below a2.heap.size a2 a3:=by rw[<-h3];exact zW _ _
  rw[h3] at hw2;obtain⟨a4,h4,x4,y4,z4⟩:=zn a3 #[.map (some (w.heap.size+1+1))] 203;rw[h4] at hw2;obtain⟨a5,h5,x5,y5,z5⟩:=zn a4 #[.slice none 0 0] 44;rw[h5] at hw2;obtain⟨a6,h6,x6,y6,z6⟩:=zn a5 S 35;rw[h6] at hw2;subst hw2;rw[y1] at x2 y2;rw[y2] at m3 y3;rw[y3] at x4 y4;rw[y4] at x5 y5;rw[y5] at x6 y6
  have w1:Wrote (fun k=>w.heap.size<=k) w a6:=by
   have b1:=(Wrote.of_below (R:=fun k=>w.heap.size<=k) z1).trans (Wrote.of_below (R:=fun k=>w.heap.size<=k) z2) (fun _ _ h=>h);have b2:=(b1.trans (Wrote.of_below (R:=fun k=>w.heap.size<=k) z3) (fun _ _ h=>h)).trans (Wrote.of_below (R:=fun k=>w.heap.size<=k) z4) (fun _ _ h=>h);exact((b2.trans (Wrote.of_below (R:=fun k=>w.heap.size<=k) z5) (fun _ _ h=>h)).trans (Wrote.of_below (R:=fun k=>w.heap.size<=k) z6) (fun _ _ h=>h))
  refine⟨⟨w1.more (fun k h1 h2=>by omega),?_,?_,?_,x6,⟨0,?_⟩,⟨none,0,?_,Own.nil _ _⟩,by omega⟩,w1⟩
  . exact Lb z6 (by omega) (Lb z5 (by omega) (Lb z4 (by omega) (Lb z3 (by omega) (Lb z2 (by omega) x1))))
  . exact Lb z6 (by omega) (Lb z5 (by omega) (Lb z4 (by omega) (Lb z3 (by omega) x2)))
  . exact Lb z6 (by omega) (Lb z5 (by omega) x4)
  . rw[nuG_nil]
    exact m3.same (Lb z6 (by omega) (Lb z5 (by omega) (z4.block _ (by omega))))
  . exact Lb z6 (by omega) x5
 have hsz2:w2.heap.size=w.heap.size+6:=by rw[<-hw2];simp
 have HJ2:Hid (J w2):=HJ.out w w2 HJ0.out hNW.2;have HIT2:=zH (HIT.out (w.heap.size+1+1+1+1+1) w2 hNW.1.b5);have HN:=zH hNW.1;clear hNW hw2 HIT HAL HJ0 hmm hS;go_wp2_with fail
 refine kE rfl (N0 RL (by kernel_rfl) rfl) HIT2.out (by rintro x rfl;omega) (fun _=>rfl)
  (fun (pre:List { x:Nat×Nat // x∈L }) (X:Ba)=>NkIn k5E 164 203 w.heap.size S (.func (.func kf) #[] kb) R (yH (pre.map fun x=>key x.1)) (xr (pre.map fun x=>key x.1)) w X/\J X)
  (fun _ _ _=>False)
  ?hI (fun _ _ _ _ _ h _ _=>h)
  ⟨HN.out,HJ2.out⟩ (fun x=>#[.int .i64 x.1,.int .i64 x.2]) 159 ?a1 ?assign ?body ?done ?stop (fun _ _ h=>by have:=h.1.sz;omega)
 case hI=>
  intro pre X X' row hX hg hr;refine⟨hX.1.turn (Le _) hg (fun r e=>⟨by have:=(hr r e).1;omega,(hr r e).2⟩),HJ.out X X' hX.2 (Wrote.of_grown hg fun k e hk=>by have:=(hr k e).1;omega)⟩
 case assign=>
  intro l pre x X K' hI hK;obtain⟨g',hg'⟩:∃g',g'=X.heap.size:=⟨_,rfl⟩;have HK:=zH (hK g' hg' ⟨hI.1.turn (Le _) (row:=none) ⟨rfl,rfl,rfl,by simp,fun k hk _=>NS X _ k hk⟩ (fun r e=>by cases e),HJ.out X _ hI.2 (Wrote.of_below (zW X _))⟩);have HG:=zH hg';clear hK hg' hI;gi_wp2;rw[<-HG.out];exact HK.out
 case body=>
  intro l pre x g W3 hg hgb hI hlt;obtain⟨us,hus⟩:∃us,yH (pre.map fun x=>key x.1)=us:=⟨_,rfl⟩;obtain⟨ls,hls⟩:∃ls,xr (pre.map fun x=>key x.1)=ls:=⟨_,rfl⟩;have hll:ls.length<=20000:=by rw[<-hls,xq,LR];omega
  have hun:us.Nodup:=by rw[<-hus];exact wP _
  obtain⟨kk,hkk⟩:=Ki (key x.1);have hus2:yH ((pre++[x]).map fun x=>key x.1)=qe us kk:=by rw[LI,LT,Ns,kW,hus,hkk]
  have hls2:xr ((pre++[x]).map fun x=>key x.1)=ls++[if kk∈us then (us.idxOf kk:Int) else (us.length:Int)]:=by
   rw[LI,LT,Ns,uR,hus,hls,hkk]
   congr 2
   by_cases h:kk∈us
   . rw[Lh h,Lh (xb.1 (hus▸h))]
   . rw[Lg h,Lg (fun e=>h (hus▸xb.2 e))]
  rw[hus,hls] at hI;have hcall:=HKEY.out x.1 x.2 W3 hI.2 (by have:=hI.1.sz;omega);rw[hkk] at hcall;have HC:=zH hcall;have HN3:=zH hI.1;have HU2:=zH hus2;have HL2:=zH hls2;have HUN:=zH hun;have q1:=zh hI.1.b1 0 rfl;obtain⟨g0,g1,_⟩:=Ka hgb;clear hI hcall hus hls hus2 hls2 hkk hgb hun HKEY HIT2 HN HJ2;gi_wp2_with fail;refine⟨trivial,?_⟩;rw[ek];refine⟨fun _=>by omega,(R9 l ((RH (n:=6)).2 HC.out)).mono ?_⟩;rintro e W4 ⟨rfl,hJ4,hw4⟩;have hn4:=HN3.out.call hw4 hR;obtain⟨W4',hW4',d8,hs8,hb8⟩:=zn W4 (k5C kk) 88;have hgr:W4.grownBy W4' none:=by rw[<-hW4'];exact⟨rfl,rfl,rfl,by simp,fun k hk _=>NS W4 _ k hk⟩
  have HN4:=zH (hn4.turn (Le _) hgr (fun r e=>by cases e));have hJ4:=HJ.out W4 W4' hJ4 (Wrote.of_below hb8);have HJ4:=zH hJ4
  have hw4:Hid (KeepsFrom w2.heap.size W3 W4'/\KeepB (fun k=>k=w.heap.size+1+1+1+1+1) W3 W4'):=by
   have hz4:=hw4.size;refine⟨⟨by omega,fun k o hk hk1 _=>(hb8.block k (by have:=zj hk1;omega)).trans ((hw4.block k (zj hk1) (fun e=>by have:=hR k e;omega)).trans hk1)⟩,⟨by omega,fun k hk hl=>(hb8.block k (by omega)).trans (hw4.block k hl (fun e=>by have:=hR k e;subst hk;omega))⟩⟩
  have HW4:=hw4;have HD8:=zH d8;have HWW:=zH hW4';have hl8:=zj d8;unfold k5C at hW4' d8;have hke:k5E kk=.agg #[.int .i64 kk.a,.int .i64 kk.b,.int .i64 kk.c,.int .i64 kk.d,.int .i64 kk.e]:=rfl;have HKE:=zH hke;rw[hke];obtain⟨v0,v1,v2,v3,v4,_⟩:=Kh d8;have hz34:w.heap.size+6<=W4.heap.size:=hn4.sz;have q3:=zh HN4.out.b3 0 rfl;clear hke hn4 hs8 hb8 hgr
  gi_upto_region 6 with fail
  unfold k5C at HD8;obtain⟨m,hm⟩:=HN4.out.hm;have hlk:=hm.look2 XC ht (hz W4') kk;have HM4:=zH hm;clear q1 g0 g1 HC hJ4 hw4 hm hW4' d8
  by_cases hin:kk∈us
  case pos=>
   have hf:nuG us kk=some (.int .i64 (us.idxOf kk:Int)):=Lh hin;have HNU:Hid ((nuG us kk).getD (.int .i64 0)=.int .i64 (us.idxOf kk:Int)):=by rw[hf];rfl
   rw[hf,HKE.out] at hlk;simp only[Option.getD_some,Option.isSome_some] at hlk;have HU3:Hid (yH ((pre++[x]).map fun x=>key x.1)=us):=HU2.out.trans (Lh hin);have HL3:Hid (xr ((pre++[x]).map fun x=>key x.1)=ls++[(us.idxOf kk:Int)]):=HL2.out.trans (by rw[Lh hin]);clear HU2 HL2;have HU2:=HU3;have HL2:=HL3;clear HU3 HL3 hf hin HM4;obtain⟨P,c,hbx,ho⟩:=HN4.out.box;have HBX:=zH hbx;have HO:=zH ho;have HJB:=HJ4;have HKB:=HW4;have HDBX:=HD8.out;clear hbx ho;have HDB:Hid (W4'.heap[W4.heap.size]?=some (.cells #[.int .i64 kk.a,.int .i64 kk.b,.int .i64 kk.c,.int .i64 kk.d,.int .i64 kk.e] 88 (0,0))):=HDBX;have LD:=zH (And.intro (zj HN4.out.b3) (And.intro (zj HBX.out) (zj HDB.out)))
   have HLK:Hid (∀X:Ba,(∀k,k<W4'.heap.size->X.heap[k]?=W4'.heap[k]?)->(Instr.lookup 203 (.map (some (w.heap.size+1+1))) (.agg #[.int .i64 kk.a,.int .i64 kk.b,.int .i64 kk.c,.int .i64 kk.d,.int .i64 kk.e]) false).run Tryz.prog X=.ok (.int .i64 (us.idxOf kk:Int)) X):=fun X hX=>by
    obtain⟨m9,hm9⟩:=HN4.out.hm;have h9:=(hm9.same (hX _ (by have:=HN4.out.sz;omega))).look XC ht (hz X) kk;rw[HNU.out,HKE.out] at h9;exact h9
   have hzb:=HN4.out.sz;gi_wp2_with fail;refine xJ [(0,true),(1,true),(2,true),(3,true),(4,false),(5,false),(6,false)] (fun X=>∀k,k<W4'.heap.size->X.heap[k]?=W4'.heap[k]?) (by kernel_rfl) (by kernel_rfl) (by kernel_rfl) (by rintro⟨_,_,h⟩;exact h) (fun _ _=>rfl) ?_
   repeat
    apply zG rfl
    . rintro K' hK' X hX
      have y3:=zh ((hX _ LD.out.1).trans HN4.out.b3) 0 rfl;have y4:=zh ((hX _ LD.out.2.1).trans HBX.out) 0 rfl;obtain⟨y50,y51,y52,y53,y54,_⟩:=Kh ((hX _ LD.out.2.2).trans HDB.out);have ylk:=HLK.out X hX;clear hX;go_simp;exact hK'
   refine zE rfl ?_;intro K' hK';go_simp;obtain⟨WA,hWA,dA,hsA,hbA⟩:=gO W4' #[.int .i64 (us.idxOf kk:Int)] 3;rw[hWA];have hgA:W4'.grownBy WA none:=⟨hbA.os,hbA.tape,hbA.output,hbA.size,fun k hk _=>hbA.block k hk⟩;have HNA:=zH (HN4.out.turn (Le _) hgA (fun r e=>by cases e));have HJA:=zH (HJ.out _ _ HJB.out (Wrote.of_below hbA));have HBA:=zH hbA;refine hK' _ _ (fun k hk=>hbA.block k hk) ?_;clear hK' K' hWA hgA;refine xa rfl (by kernel_rfl) ?_;intro K' hK';rw[Lh (by rfl)];have hbxA:=Lb HBA.out LD.out.2.1 HBX.out;have hoA:Own WA (w.heap.size+6) (.slice P ls.length c) ls:=HO.out.below hbA (Le _);refine kU ZG (.tmp 30) (.tmp 34) (by rfl) (w.heap.size+6) (.slice P ls.length c) ls.length (ls.map (Value.int .i64)) (by rfl) hoA W4'.heap.size #[.int .i64 (us.idxOf kk:Int)] (by rfl) dA rfl (by simp[Value.oneCell']) (by omega) (by omega) _ rfl ?_;intro g6 k6 W6 hr6 hg6 hat6 hlt6
   have hown6:Own W6 (w.heap.size+6) (.slice (some ⟨g6,0,none⟩) (ls.length+1) k6) (ls++[(us.idxOf kk:Int)]):=by
    have h:=hr6;unfold Own;rw[LI,Lv];exact h
   have h4b:=(hg6.block (w.heap.size+1+1+1+1) (zj hbxA) (fun e=>vZ hoA hbxA (by decide) e.symm)).trans hbxA;have q6:=zh h4b 0 rfl;have f6:=zi h4b 0;have l6:=zj h4b;have hka:=HNA.out.keeps hbxA hoA hg6 (.slice (some ⟨g6,0,none⟩) (ls.length+1) k6);have hpu:=HNA.out.push (Le _) hbxA hoA hown6 hg6
   have hJ6:J (W6.setCell ⟨w.heap.size+1+1+1+1,0,none⟩ (.slice (some ⟨g6,0,none⟩) (ls.length+1) k6)):=by
    have a2:Wrote (fun k=>w.heap.size<=k) WA W6:=Wrote.of_grown hg6 (fun k e hk=>by have:=(hoA.lt k e).1;omega);have a3:Wrote (fun k=>w.heap.size<=k) W6 (W6.setCell ⟨w.heap.size+1+1+1+1,0,none⟩ (.slice (some ⟨g6,0,none⟩) (ls.length+1) k6)):=Wrote.of_grown (zS W6 _ 0 _) (fun k e hk=>by cases e;omega);exact HJ.out _ _ HJA.out (a2.trans a3 (fun _ _ h=>h))
   have HKa:=zH hka;have HPU:=zH hpu;have HJ6:=zH hJ6;refine hK' (fun _=>True) _ _ trivial ?_;clear hK' K' hr6 hg6 hat6 hlt6 hown6 h4b hka hpu hJ6 hoA hbxA hbA dA hsA;refine zE rfl ?_;intro K' hK';go_simp;refine hK' _ _ trivial ?_;clear hK' K';refine zQ ?_;gi_wp2_with fail;refine⟨(HKB.out.1.trans (hsz2▸qd HBA.out)).trans (hsz2▸HKa.out.1),(HKB.out.2.trans (KeepB.of_below HBA.out (by rintro k rfl;have:=HN4.out.sz;omega))).trans HKa.out.2,?_,HJ6.out⟩;rw[HU2.out,HL2.out];exact HPU.out
  case neg=>
   have hf:nuG us kk=none:=Lg hin;rw[hf,HKE.out] at hlk;simp only[Option.getD_none,Option.isSome_none] at hlk;have HU3:Hid (yH ((pre++[x]).map fun x=>key x.1)=us++[kk]):=HU2.out.trans (Lg hin);have HL3:Hid (xr ((pre++[x]).map fun x=>key x.1)=ls++[(us.length:Int)]):=HL2.out.trans (by rw[Lg hin]);obtain⟨es,clock,hes,hesz⟩:=nuG_count J9 HM4.out HUN.out;obtain⟨W5,hrun,hm5,hg5⟩:=HM4.out.put XC ht kk (.int .i64 (us.length:Int));rw[nuG_put hin] at hm5;have HN5:=zH (HN4.out.put (Le _) hg5 hm5);have HG5:=zH hg5
   have HNU:Hid ((nuG (us++[kk]) kk).getD (.int .i64 0)=.int .i64 (us.length:Int)):=by
    unfold nuG Hid;rw[Lh (by simp),NF,Lg hin];simp
   have HJB:=zH (HJ.out W4' W5 HJ4.out (Wrote.of_grown hg5 fun k e hk=>by cases e;omega))
   have HW5:Hid (KeepsFrom w2.heap.size W4' W5/\KeepB (fun k=>k=w.heap.size+1+1+1+1+1) W4' W5):=by
    refine⟨⟨hg5.size,fun k o hk hk1 _=>(hg5.block k (zj hk1) (fun e=>by cases e;omega)).trans hk1⟩,⟨hg5.size,fun k hk hl=>hg5.block k hl (fun e=>by cases e;omega)⟩⟩
   have HKB:=zH (And.intro (HW4.out.1.trans HW5.out.1) (HW4.out.2.trans HW5.out.2));obtain⟨P,c,hbx,ho⟩:=HN5.out.box;have HBX:=zH hbx;have HO:=zH ho;have q35:=zh HN5.out.b3 0 rfl;have HDBX:=(HG5.out.block _ (zj HD8.out) (fun e=>by have:=NI e;omega)).trans HD8.out;rw[HKE.out] at hrun;clear HU2 HL2;have HU2:=HU3;have HL2:=HL3;clear HU3 HL3 hf hin HM4 hm5 hg5 hbx ho HW5
   have hln:(Builtin.len_ #[203] 3 #[.map (some (w.heap.size+1+1))]).run Tryz.prog W4'=.ok (.int .i64 (us.length:Int)) W4':=by
    rw[<-hesz];exact run_len_map W4' _ _ _ es clock (by kernel_rfl) hes
   clear hes hesz;have HDB:Hid (W5.heap[W4.heap.size]?=some (.cells #[.int .i64 kk.a,.int .i64 kk.b,.int .i64 kk.c,.int .i64 kk.d,.int .i64 kk.e] 88 (0,0))):=HDBX;have LD:=zH (And.intro (zj HN5.out.b3) (And.intro (zj HBX.out) (zj HDB.out)))
   have HLK:Hid (∀X:Ba,(∀k,k<W5.heap.size->X.heap[k]?=W5.heap[k]?)->(Instr.lookup 203 (.map (some (w.heap.size+1+1))) (.agg #[.int .i64 kk.a,.int .i64 kk.b,.int .i64 kk.c,.int .i64 kk.d,.int .i64 kk.e]) false).run Tryz.prog X=.ok (.int .i64 (us.length:Int)) X):=fun X hX=>by
    obtain⟨m9,hm9⟩:=HN5.out.hm;have h9:=(hm9.same (hX _ (by have:=HN5.out.sz;omega))).look XC ht (hz X) kk;rw[HNU.out,HKE.out] at h9;exact h9
   have hzb:=HN5.out.sz;gi_wp2_with fail;refine xJ [(0,true),(1,true),(2,true),(3,true),(4,false),(5,false),(6,false)] (fun X=>∀k,k<W5.heap.size->X.heap[k]?=W5.heap[k]?) (by kernel_rfl) (by kernel_rfl) (by kernel_rfl) (by rintro⟨_,_,h⟩;exact h) (fun _ _=>rfl) ?_
   repeat
    apply zG rfl
    . rintro K' hK' X hX
      have y3:=zh ((hX _ LD.out.1).trans HN5.out.b3) 0 rfl;have y4:=zh ((hX _ LD.out.2.1).trans HBX.out) 0 rfl;obtain⟨y50,y51,y52,y53,y54,_⟩:=Kh ((hX _ LD.out.2.2).trans HDB.out);have ylk:=HLK.out X hX;clear hX;go_simp;exact hK'
   refine zE rfl ?_;intro K' hK';go_simp;obtain⟨WA,hWA,dA,hsA,hbA⟩:=gO W5 #[.int .i64 (us.length:Int)] 3;rw[hWA];have hgA:W5.grownBy WA none:=⟨hbA.os,hbA.tape,hbA.output,hbA.size,fun k hk _=>hbA.block k hk⟩;have HNA:=zH (HN5.out.turn (Le _) hgA (fun r e=>by cases e));have HJA:=zH (HJ.out _ _ HJB.out (Wrote.of_below hbA));have HBA:=zH hbA;refine hK' _ _ (fun k hk=>hbA.block k hk) ?_;clear hK' K' hWA hgA;refine xa rfl (by kernel_rfl) ?_;intro K' hK';rw[Lh (by rfl)];have hbxA:=Lb HBA.out LD.out.2.1 HBX.out;have hoA:Own WA (w.heap.size+6) (.slice P ls.length c) ls:=HO.out.below hbA (Le _);refine kU ZG (.tmp 30) (.tmp 34) (by rfl) (w.heap.size+6) (.slice P ls.length c) ls.length (ls.map (Value.int .i64)) (by rfl) hoA W5.heap.size #[.int .i64 (us.length:Int)] (by rfl) dA rfl (by simp[Value.oneCell']) (by omega) (by omega) _ rfl ?_;intro g6 k6 W6 hr6 hg6 hat6 hlt6
   have hown6:Own W6 (w.heap.size+6) (.slice (some ⟨g6,0,none⟩) (ls.length+1) k6) (ls++[(us.length:Int)]):=by
    have h:=hr6;unfold Own;rw[LI,Lv];exact h
   have h4b:=(hg6.block (w.heap.size+1+1+1+1) (zj hbxA) (fun e=>vZ hoA hbxA (by decide) e.symm)).trans hbxA;have q6:=zh h4b 0 rfl;have f6:=zi h4b 0;have l6:=zj h4b;have hka:=HNA.out.keeps hbxA hoA hg6 (.slice (some ⟨g6,0,none⟩) (ls.length+1) k6);have hpu:=HNA.out.push (Le _) hbxA hoA hown6 hg6
   have hJ6:J (W6.setCell ⟨w.heap.size+1+1+1+1,0,none⟩ (.slice (some ⟨g6,0,none⟩) (ls.length+1) k6)):=by
    have a2:Wrote (fun k=>w.heap.size<=k) WA W6:=Wrote.of_grown hg6 (fun k e hk=>by have:=(hoA.lt k e).1;omega);have a3:Wrote (fun k=>w.heap.size<=k) W6 (W6.setCell ⟨w.heap.size+1+1+1+1,0,none⟩ (.slice (some ⟨g6,0,none⟩) (ls.length+1) k6)):=Wrote.of_grown (zS W6 _ 0 _) (fun k e hk=>by cases e;omega);exact HJ.out _ _ HJA.out (a2.trans a3 (fun _ _ h=>h))
   have HKa:=zH hka;have HPU:=zH hpu;have HJ6:=zH hJ6;refine hK' (fun _=>True) _ _ trivial ?_;clear hK' K' hr6 hg6 hat6 hlt6 hown6 h4b hka hpu hJ6 hoA hbxA hbA dA hsA;refine zE rfl ?_;intro K' hK';go_simp;refine hK' _ _ trivial ?_;clear hK' K';refine zQ ?_;gi_wp2_with fail;refine⟨(HKB.out.1.trans (hsz2▸qd HBA.out)).trans (hsz2▸HKa.out.1),(HKB.out.2.trans (KeepB.of_below HBA.out (by rintro k rfl;have:=HN5.out.sz;omega))).trans HKa.out.2,?_,HJ6.out⟩;rw[HU2.out,HL2.out];exact HPU.out
 case done=>
  intro D ys W hD hys hI hDk;have hmap:ys.map (fun x=>key x.1)=L.map key:=by rw[show ys.map (fun x=>key x.1)=(ys.map (·.1)).map key by rw[PU];rfl,hys]
  rw[hmap] at hI;obtain⟨hN,hJW⟩:=hI;obtain⟨P,c,hbx,ho⟩:=hN.box;have q4:=zh hbx 0 rfl;have HN9:=zH hN;have HO:=zH ho;have HJ9:=zH hJW;have HDk:=zH hDk;clear hN ho hbx hJW hDk hys hmap;go_wp2_with fail;refine xu (B:=w2.heap.size) (w:=W) (show Marks w2.heap.size _ W from⟨[D],rfl,by simp,fun r hr=>by rw[L8] at hr;subst hr;exact⟨hD,HDk.out⟩⟩) (v:=.slice P (xr (L.map key)).length c) (fun W=>by kernel_rfl) ?_;intro X hS;have hb:Below w2.heap.size W X:=hS.below;refine⟨_,rfl,(HO.out.shut hS).low (by omega),HJ.out W X HJ9.out ⟨hb.os,hb.tape,hb.output,hb.size,fun k hk hn=>hb.block k (by omega)⟩,HN9.out.wrote.trans (R':=fun k=>w2.heap.size<=k) ⟨hb.os,hb.tape,hb.output,hb.size,fun k hk hn=>hb.block k (by omega)⟩ (fun k h1 h2=>by omega)⟩
 case stop=>
  intro D c pre W _ _ h;exact h.elim
def kq(G:Nat)(f:Nat->Int)(j i:Nat):Int:=if i<j/\G.testBit i=true then f i+1 else 0
def kz(G:Nat)(f:Nat->Int)(j:Nat):K5:=⟨kq G f j 0,kq G f j 1,kq G f j 2,kq G f j 3,kq G f j 4⟩
theorem kz_zero(G:Nat)(f:Nat->Int):k5C (kz G f 0)=#[.int .i64 0,.int .i64 0,.int .i64 0,.int .i64 0,.int .i64 0]:=by simp[k5C,kz,kq]
theorem kq_not{G:Nat}{f:Nat->Int}{j:Nat}(h:G.testBit j=false)(i:Nat):kq G f (j+1) i=kq G f j i:=by
 unfold kq
 by_cases e:i=j
 . subst e;simp[h]
 . have:(i<j+1)=(i<j):=by apply propext;omega
   simp only[this]
theorem kz_not{G:Nat}{f:Nat->Int}{j:Nat}(h:G.testBit j=false):kz G f (j+1)=kz G f j:=by
 unfold kz;simp only[kq_not h]
theorem kq_hit{G:Nat}{f:Nat->Int}{j:Nat}(h:G.testBit j=true)(i:Nat):kq G f (j+1) i=if i=j then f j+1 else kq G f j i:=by
 unfold kq
 by_cases e:i=j
 . subst e;simp[h]
 . have:(i<j+1)=(i<j):=by apply propext;omega
   simp only[this,if_neg e]
theorem kz_hit{G:Nat}{f:Nat->Int}{j:Nat}(h:G.testBit j=true)(hj:j<5):k5C (kz G f (j+1))=(k5C (kz G f j)).set! j (.int .i64 (f j+1)):=by
 unfold kz k5C;simp only[kq_hit h];rcases j with _ | _ | _ | _ | _ | j
 . simp
 . simp
 . simp
 . simp
 . simp
 . omega
theorem k5_cell{w:Ba}{b:Nat}{x:K5}(h:w.heap[b]?=some (.cells (k5C x) 88 (0,0)))(j:Nat)(hj:j<5):∃u,w.cell? ⟨b,j,none⟩=some u/\∃m,u=.int .i64 m:=by
 rcases j with _ | _ | _ | _ | _ | j
 . exact⟨_,zh h 0 rfl,_,rfl⟩
 . exact⟨_,zh h 1 rfl,_,rfl⟩
 . exact⟨_,zh h 2 rfl,_,rfl⟩
 . exact⟨_,zh h 3 rfl,_,rfl⟩
 . exact⟨_,zh h 4 rfl,_,rfl⟩
 . omega
theorem wi{h j:Nat}(hh:h<32)(hj:j<5):(bits BinOp.and IntKind.i64 ((h:Int) / 2^j) 1==1)=h.testBit j:=by
 match j,hj with
 | 0,_=>exact LF (jk (p:=fun h=>decide ((bits BinOp.and IntKind.i64 ((h:Int) / 2^0) 1==1)=h.testBit 0)) (by decide +kernel) hh)
 | 1,_=>exact LF (jk (p:=fun h=>decide ((bits BinOp.and IntKind.i64 ((h:Int) / 2^1) 1==1)=h.testBit 1)) (by decide +kernel) hh)
 | 2,_=>exact LF (jk (p:=fun h=>decide ((bits BinOp.and IntKind.i64 ((h:Int) / 2^2) 1==1)=h.testBit 2)) (by decide +kernel) hh)
 | 3,_=>exact LF (jk (p:=fun h=>decide ((bits BinOp.and IntKind.i64 ((h:Int) / 2^3) 1==1)=h.testBit 3)) (by decide +kernel) hh)
 | 4,_=>exact LF (jk (p:=fun h=>decide ((bits BinOp.and IntKind.i64 ((h:Int) / 2^4) 1==1)=h.testBit 4)) (by decide +kernel) hh)
theorem kZ{w:Ba}{g:Nat}{cs:Array Value}{t:TypeId}(h:w.heap[g]?=some (.cells cs t (0,0)))(i:Nat)(v:Value) :
  (w.setCell ⟨g,i,none⟩ v).heap[g]?=some (.cells (cs.set! i v) t (0,0))/\∀k,k≠g->(w.setCell ⟨g,i,none⟩ v).heap[k]?=w.heap[k]?:=by
 have hlt:=zj h;refine⟨?_,fun k hk=>Lf w ⟨g,i,none⟩ v k hk⟩;rw[World.setCell,Pq,Lh rfl,h]
 rfl
theorem tog1_any(s:Sy)(K N:Nat)(hF:Fine s K N)(G:Nat)(hG32:G<32)(e k:Nat)(he:e<s.xs.length)(hk:k<=K)(A SV AV AX:Bb)(kc ks kv kx bs bg:Nat)(w:Ba)(hX:XAt w w.heap.size AX s.xs)
  (hb:w.heap[bs]?=some (.cells (s.vs_ A kc SV ks AV kv AX kx) 35 (0,0))) (hg:w.heap[bg]?=some (.cells #[.int .i64 (G:Int)] 3 (0,0))) :
  Calls Tryz.prog 93 #[.agg #[.int .i64 (e:Int),.int .i64 (k:Int)],.pointer (some ⟨bs,0,none⟩),.pointer (some ⟨bg,0,none⟩)] w fun r w'=>r=.returned (k5E (kz G (fun q=>xw s.xs[e] k q) N))/\Below w.heap.size w w':=by
 obtain⟨w1,hw1,d0,hs1,hB⟩:=zn w #[.int .i64 (e:Int),.int .i64 (k:Int)] 159;obtain⟨w2,hw2,d1,hs2,hB2⟩:=zn w1 #[.int .i64 0,.int .i64 0,.int .i64 0,.int .i64 0,.int .i64 0] 88;obtain⟨w3,hw3,d2,hs3,hB3⟩:=zn w2 #[.int .i64 0,.int .i64 0,.int .i64 0,.int .i64 0,.int .i64 0] 88;have hBB:Below w.heap.size w w3:=hB.trans ((hB2.mono (by omega)).trans (hB3.mono (by omega)));have hxm:=Ld he;obtain⟨hvl,hrow⟩:=hF.views _ hxm;obtain⟨bx,ox,A1,c1,A2,c2,eX,hbx,x0,x1,x2,hRw,hLv⟩:=(hX.keep hBB).row e he;subst eX;obtain⟨x,hx⟩:∃x,x=s.xs[e]:=⟨_,rfl⟩;rw[<-hx] at hvl hrow x2 hLv ⊢;obtain⟨bl,ol,A3,c3,eL,hbl,y1,hI⟩:=hLv.at_ k (by omega);subst eL;obtain⟨hl,hpos⟩:=hrow _ (Ld (by omega:k<x.views.length));have hxw:∀row,x.views[k]'(by omega)=row->∀q,xw x k q=row.getD q 0:=fun row hr q=>by unfold xw;rw[zt (by omega:k<x.views.length),hr]
 obtain⟨row,hrw⟩:=Ki (x.views[k]'(by omega));have hXW:=hxw row hrw;rw[hrw] at y1 hI hl hpos;obtain⟨V,hV⟩:∃V:Nat->Int,(fun q=>xw x k q)=V:=⟨_,rfl⟩;have HV:Hid (∀q,V q=row.getD q 0):=fun q=>by rw[<-hV];exact hXW q
 rw[hV];obtain⟨nv,hnv⟩:=Ki x.views.length;rw[hnv] at x2 hvl;rw[hl] at y1;have HRL:=zH hl;have HPO:=zH hpos;have HIR:=zH hI;have HLV:=zH hF.lv;have HN5:=zH hF.n5;have HW1:=zH hw1;have HW2:=zH hw2;have HW3:=zH hw3;have HB:=zH hBB;have lbs:=zj hb;have lbg:=zj hg;have HBG:=zH (Lb hBB lbg hg);have HD1:=zH (Lb hB3 (by omega:w1.heap.size<w2.heap.size) d1);have hd0:=Lb hB3 (by omega:w.heap.size<w2.heap.size) (Lb hB2 (by omega) d0);have HD2:=zH d2;obtain⟨g0,g1,_⟩:=Ka hd0;have p9:w3.cell? ⟨bs,9,none⟩=some (.slice (some ⟨bx,ox,none⟩) s.xs.length kx):=zh (Lb hBB lbs hb) 9 rfl;have h1:(0:Int)<=(e:Int):=by omega
 have h2:(e:Int)<(s.xs.length:Int):=by omega
 have h3:(0:Int)<=(k:Int):=by omega
 have h4:(k:Int)<(nv:Int):=by omega
 have hS1:=hs1;clear hw1 hw2 hw3 d0 d1 d2 hd0 hB hB2 hB3 hBB hX hb hg hF hV hXW hnv hx hRw hLv hI hpos hrow hxm hxw hrw x0 x1 hl hvl;go_enter Tryz.func93,Tryz.ntmps93;go_wp2_with fail;rw[HW1.out];rw[HW2.out,HW3.out];clear HW1 HW2 HW3;refine zz [(0,true),(1,true),(2,true),(3,true),(4,true),(5,true),(6,true),(7,true),(8,true),(9,true),(10,true),(11,true),(12,true)] (fun X=>X=w3.drew) (by kernel_rfl) (by kernel_rfl) rfl ?_
 repeat
  apply zG rfl
  . rintro K' hK' X rfl
    go_simp;exact hK'
 refine zQ ?_;obtain⟨W5,hW5⟩:=Ki w3.drew;have HH:Hid (W5.heap=w3.heap):=by rw[<-hW5];exact rfl
 have HB5:Hid (Below w.heap.size w W5):=by rw[<-hW5];exact HB.out.drew
 rw[hW5];rw[show w3.heap=W5.heap from HH.out.symm] at HBG HD1 HD2;have HK5:Hid (∀z,z<w.heap.size->W5.heap[z]?=w3.heap[z]?):=fun z _=>by rw[HH.out]
 clear hW5 g0 g1 p9 x2 y1 h1 h2 h3 h4 HB;have e2:w2.heap.size=w.heap.size+1+1:=by rw[hs2,hs1]
 rw[e2] at HD2;rw[hs1] at HD1;have hK0:Hid (W5.heap[w.heap.size+1+1]?=some (.cells (k5C (kz G V 0)) 88 (0,0))):=by rw[kz_zero];exact HD2.out
 have hWl:w.heap.size+3<=W5.heap.size:=by rw[HH.out,hs3,hs2,hs1];omega
 clear HD2 hs2 hs3 e2 HH;go_wp2_with fail
 go_loopw [20] (fun i wr=>∃j:Nat,j<=N/\i=.int .i64 (j:Int)/\Hid (wr.heap[w.heap.size+1+1]?=some (.cells (k5C (kz G V j)) 88 (0,0)))/\Hid (Wrote (fun z=>z=w.heap.size+1+1) W5 wr)) (fun i _=>N-(intOf i).toNat)
 case atStart=>exact⟨0,by omega,rfl,hK0,Wrote.refl _ _⟩
 case round=>
  obtain⟨j,hj,rfl,hKj,hWr⟩:=hrel;clear hK0;have hws:=hWr.out.size
  by_cases hjl:j<N
  . have hj5:j<5:=by have:=HN5.out;omega
    have hb1:=wi hG32 hj5
    have hIw:IAt wr w.heap.size A3 row:=HIR.out.sameB fun z hz=>by
     have:=hWr.out.block z (by omega) (by show ¬z=w.heap.size+1+1;omega);rw[this];exact HK5.out z hz
    obtain⟨b6,o6,rfl,hb6,z0⟩:=hIw.at_ j (by rw[HRL.out];exact hjl);have hu0:=HV.out j;rw[yL (by rw[HRL.out];exact hjl)] at hu0;have hur:=HPO.out _ (Ld (by rw[HRL.out];exact hjl:j<row.length));obtain⟨u,hu⟩:=Ki (row[j]'(by rw[HRL.out];exact hjl));rw[hu] at z0 hu0 hur;have HU0:=zH hu0;have q0:=zh ((hWr.out.block bg (by omega) (by show ¬bg=w.heap.size+1+1;omega)).trans HBG.out) 0 rfl;have hwv:IntKind.i64.wrap (u+1)=u+1:=by have:=HLV.out;rw[Lp];omega
    obtain⟨old,hold,m5,rfl⟩:=k5_cell hKj.out j hj5;have hfr:=zi hKj.out j;have hj0:(0:Int)<=(j:Int):=by omega
    have hj1:(j:Int)<(N:Int):=by omega
    have hj6:(j:Int)<5:=by omega
    have hG00:(0:Int)<=(G:Int):=by omega
    have hmn:min j 64=j:=by omega
    clear hu hu0 hur hIw
    by_cases hbit:G.testBit j=true
    case neg=>
     have hbf:G.testBit j=false:=by simpa using hbit
     rw[hbf] at hb1;have hKn:Hid (wr.heap[w.heap.size+1+1]?=some (.cells (k5C (kz G V (j+1))) 88 (0,0))):=by rw[kz_not hbf];exact hKj.out
     clear hKj hbit hbf;go_wp2_with fail
     go_roundw
     case rel=>exact⟨j+1,by omega,by go_num,hKn,hWr⟩
     case measure=>simp[intOf];omega
    case pos=>
     rw[hbit] at hb1;have HK:=zH (kz_hit (f:=V) hbit hj5);have h9:=kZ hKj.out j (.int .i64 (u+1));have hKn:Hid ((wr.setCell ⟨w.heap.size+1+1,j,none⟩ (.int .i64 (u+1))).heap[w.heap.size+1+1]?=some (.cells (k5C (kz G V (j+1))) 88 (0,0))):=by rw[HK.out,HU0.out];exact h9.1
     have hWn:Hid (Wrote (fun z=>z=w.heap.size+1+1) W5 (wr.setCell ⟨w.heap.size+1+1,j,none⟩ (.int .i64 (u+1)))):=hWr.out.trans (Wrote.of_grown (zS wr (w.heap.size+1+1) j _) (fun z e _=>by cases e;rfl)) (fun _ _ h=>h);clear h9 hKj hWr hbit HK;go_wp2_with fail
     go_roundw
     case rel=>exact⟨j+1,by omega,by go_num,hKn,hWn⟩
     case measure=>simp[intOf];omega
  . obtain rfl:N=j:=by omega
    obtain⟨Z,hZ⟩:=Ki (kz G V N);rw[hZ] at hKj;obtain⟨za,zb,zc,zd,ze⟩:=Z;have HZ:=zH hZ;clear hZ;have c0:wr.cell? ⟨w.heap.size+1+1,0,none⟩=some (.int .i64 za):=zh hKj.out 0 rfl;have c1:wr.cell? ⟨w.heap.size+1+1,1,none⟩=some (.int .i64 zb):=zh hKj.out 1 rfl;have c2:wr.cell? ⟨w.heap.size+1+1,2,none⟩=some (.int .i64 zc):=zh hKj.out 2 rfl;have c3:wr.cell? ⟨w.heap.size+1+1,3,none⟩=some (.int .i64 zd):=zh hKj.out 3 rfl;have c4:wr.cell? ⟨w.heap.size+1+1,4,none⟩=some (.int .i64 ze):=zh hKj.out 4 rfl;have hr1:=(hWr.out.block (w.heap.size+1) (by omega) (by show ¬w.heap.size+1=w.heap.size+1+1;omega)).trans HD1.out;have r0:wr.cell? ⟨w.heap.size+1,0,none⟩=some (.int .i64 0):=zh hr1 0 rfl;have r1:wr.cell? ⟨w.heap.size+1,1,none⟩=some (.int .i64 0):=zh hr1 1 rfl;have r2:wr.cell? ⟨w.heap.size+1,2,none⟩=some (.int .i64 0):=zh hr1 2 rfl;have r3:wr.cell? ⟨w.heap.size+1,3,none⟩=some (.int .i64 0):=zh hr1 3 rfl;have r4:wr.cell? ⟨w.heap.size+1,4,none⟩=some (.int .i64 0):=zh hr1 4 rfl;have f0:=zi hr1 0;have f1:=zi hr1 1;have f2:=zi hr1 2;have f3:=zi hr1 3;have f4:=zi hr1 4;have l0:=zj hr1;have HWr:Hid (Below w.heap.size w wr):=HB5.out.trans ((Yt (H:=w.heap.size+1+1) hWr.out (by omega)).mono (by omega));have HR1:=zH hr1;clear hKj hWr HIR HPO HV hr1;go_wp2_with fail
    have HR5:Hid ((((((wr.setCell ⟨w.heap.size+1,0,none⟩ (.int .i64 za)).setCell ⟨w.heap.size+1,1,none⟩ (.int .i64 zb)).setCell ⟨w.heap.size+1,2,none⟩ (.int .i64 zc)).setCell ⟨w.heap.size+1,3,none⟩ (.int .i64 zd)).setCell ⟨w.heap.size+1,4,none⟩ (.int .i64 ze)).heap[w.heap.size+1]?=some (.cells (k5C ⟨za,zb,zc,zd,ze⟩) 88 (0,0))):=(kZ (kZ (kZ (kZ (kZ HR1.out 0 _).1 1 _).1 2 _).1 3 _).1 4 _).1.trans (by simp[k5C])
    (try simp only[Exit.inBlock,Exit.then])
    refine L1 (results_cell_row (P:=Tryz.prog) rfl _ _ (w.heap.size+1) 88 _ (0,0) _ rfl HR5.out Pf rfl (by kernel_rfl)) rfl ?_;have hle:w.heap.size<=w.heap.size+1:=Nat.le_succ _;exact⟨by rw[HZ.out];rfl,(((((HWr.out.setCell hle _).setCell hle _).setCell hle _).setCell hle _).setCell hle _)⟩
def togK(s:Sy)(G:Nat)(x:Nat×Nat):K5:=kz G (fun q=>xw (s.xs.getD x.1 default) x.2 q) s.n.toNat
def kn(s:Sy)(g:Int):List Int:=xr ((zr (s.p.k.toNat+1) 0 s.xs.length).map (togK s g.toNat))
def togE(s:Sy)(g:Int):List Int×Int:=if zZ s g≠0 then ([],zZ s g) else (kn s g,0)
theorem togL_len(s:Sy)(g:Int):(kn s g).length=s.xs.length*(s.p.k.toNat+1):=by unfold kn;rw[xq,LR,jS _ _ (by omega)]
theorem Xg(s:Sy)(hs:LowS s)(hf:yR s.p)(g:Int)(A SV AV AX:Bb)(kc ks kv kx:Nat)(w:Ba)(hS:SyAt w w.heap.size A SV AV AX s) :
  Calls Tryz.prog 59 #[.agg (s.vs_ A kc SV ks AV kv AX kx),.int .i64 g] w (RetOE (togE s g).1 (togE s g).2 w):=by
 obtain⟨w1,hw1,d0,d1,hs1,hB⟩:=yB w (s.vs_ A kc SV ks AV kv AX kx) #[.int .i64 g] 35 3;have HG:=zH (QP s hs hf g A SV AV AX kc ks kv kx w1 (hS.up hB));have HE0:Hid (zZ s g≠0->togE s g=([],zZ s g)):=fun h=>Lh h
 have HE1:Hid (zZ s g=0->togE s g=(kn s g,0)):=fun h=>Lg (by simpa using h)
 have HVF:=zH (fun h=>yn hf (jq (s:=s) (g:=g) h).1);have HRV:=zH (fun h=>(jq (s:=s) (g:=g) h).2);have HS1:=zH (hS.up hB)
 have HNB:=zH (fun (K N G:Nat) (hF:Fine s K N) (hG:G<32) (X:Ba) (hX:SyAt X X.heap.size A SV AV AX s) (bs bp:Nat) (hb:X.heap[bs]?=some (.cells (s.vs_ A kc SV ks AV kv AX kx) 35 (0,0))) (hp:X.heap[bp]?=some (.cells #[.int .i64 (G:Int)] 3 (0,0)))=>
  Yh s K s.xs.length (by have:=hF.k6;omega) (by have:=hF.lx;omega) hF.k rfl A SV AV AX kc ks kv kx 93 #[.pointer (some ⟨bs,0,none⟩),.pointer (some ⟨bp,0,none⟩)]
   (N0 Tryz.func93 (by kernel_rfl) rfl) (togK s G) (fun _=>False)
   (fun W=>XAt W X.heap.size AX s.xs/\W.heap[bs]?=some (.cells (s.vs_ A kc SV ks AV kv AX kx) 35 (0,0))/\W.heap[bp]?=some (.cells #[.int .i64 (G:Int)] 3 (0,0))/\X.heap.size<=W.heap.size) X (fun _ h=>h.elim)
   ⟨hX.fx,hb,hp,Le _⟩
   (fun W W' h hw=>by
    have hbl:Below X.heap.size W W':=⟨hw.os,hw.tape,hw.output,hw.size,fun k hk=>hw.block k (by have:=h.2.2.2;omega) (fun h2=>by omega)⟩
    exact⟨h.1.keep hbl,Lb hbl (zj hb) h.2.1,Lb hbl (zj hp) h.2.2.1,Lz h.2.2.2 hw.size⟩)
   (fun x hx W hJ hW=>by
    obtain⟨_,h1,h2⟩:=qc _ _ x hx;have he:x.1<s.xs.length:=by omega
    have:=tog1_any s K N hF G hG x.1 x.2 he (by omega) A SV AV AX kc ks kv kx bs bp W (hJ.1.more hJ.2.2.2) hJ.2.1 hJ.2.2.1;refine this.mono ?_;rintro r w' ⟨rfl,hb'⟩;unfold togK;rw[zt he,hF.n,Ls]
    refine⟨rfl,⟨hJ.1.keep (hb'.mono hJ.2.2.2),La hb' hJ.2.1,La hb' hJ.2.2.1,Lz hJ.2.2.2 hb'.size⟩,Wrote.of_below hb'⟩))
 have HKL:=zH (fun (K G:Nat) (h:s.p.k=(K:Int))=>(by unfold kn;rw[h];rfl:kn s (G:Int)=xr ((zr (K+1) 0 s.xs.length).map (togK s G))));obtain⟨r,hr⟩:=Ki (zZ s g);rw[hr] at HG HE0 HE1 HVF HRV;obtain⟨R,hRR⟩:=Ki (togE s g);rw[hRR] at HE0 HE1 ⊢;unfold Sy.vs_ at hw1 d0 HG HNB ⊢;have HW1:=zH hw1;have HB:=zH hB;have HD:=zH d0;have HD1:=zH d1;have q0:=zh d1 0 rfl;obtain⟨p0,p1,p2,p3,p4,p5,p6,p7,p8,p9⟩:=zB (d0);clear hw1 d0 d1 hB hS hr hRR hs hf;go_enter Tryz.func59,Tryz.ntmps59;go_wp2_with fail;rw[HW1.out];go_wp2_with fail;refine HG.out.mono ?_;rintro e w2 ⟨rfl,hb2⟩;have HB2:=zH (HB.out.trans (hb2.mono (by omega)));have HD:=zH (La hb2 HD.out);have HD1:=zH (La hb2 HD1.out);have HS2:=zH (HS1.out.up hb2);clear p0 p1 p2 p3 p4 p5 p6 p7 p8 p9 q0 hb2 HG HW1 HS1
 by_cases h0:r=0
 case neg=>
  have hR:Hid (R=([],r)):=HE0.out h0;have e0:(r != 0)=true:=by simpa using h0
  clear HE0 HE1 HD HD1 HVF HRV HNB HKL;go_wp2_with fail
  go_ret2
  rw[hR.out];exact⟨none,0,rfl,Own.nil _ _,HB2.out⟩
 case pos=>
 subst h0;obtain⟨hsb,K,N,hF⟩:=HVF.out rfl;clear hsb;have hR:=zH (HE1.out rfl);obtain⟨hg0,hg1⟩:=HRV.out rfl;obtain⟨G,rfl⟩:=Lr hg0
 have hG32:G<32:=by
  have hn5:=hF.n5;rw[hF.n,Ls] at hg1;have:=Ni (n:=2) (show 0<2 by omega) hn5;have h2:((2^N:Nat):Int)=(2:Int)^N:=by push_cast;rfl
  omega
 have HC:=zH (HNB.out K N G hF hG32 w2 HS2.out w.heap.size (w.heap.size+1) HD.out HD1.out);have hkl:=HKL.out K G hF.k;rw[<-hkl] at HC;obtain⟨p0,p1,p2,p3,p4,p5,p6,p7,p8,p9⟩:=zB HD.out;clear HE0 HE1 HD HD1 HVF HRV HNB HKL HS2 hF hkl hg0 hg1;go_wp2_with fail
 all_goals first | (exfalso;omega) | skip
 refine HC.out.mono ?_;rintro e w3 ⟨v,rfl,ho,_,hw3⟩;have HO:=zH ho;have hb3:=wn hw3;have HB3:=zH (Lc HB2.out hb3);clear ho hw3 hb3 HC p0 p1 p2 p3 p4 p5 p6 p7 p8 p9;obtain⟨A6,k6,rfl,_,_,_⟩:=HO.out.form;go_wp2_with fail
 go_ret2
 rw[hR.out];exact⟨A6,k6,rfl,HO.out.low HB2.out.size,HB3.out⟩
end
section
def ex6C:List Int:=[0,1,0,2,3,4,3,5]
theorem snocI{α:Type}{P:List α->Prop}(h0:P [])(hs:∀l x,P l->P (l++[x]))(l:List α):P l:=by
 rw[<-List.reverse_reverse l]
 induction l.reverse with
 | nil=>exact h0
 | cons x t ih=>rw[List.reverse_cons];exact hs _ _ ih
def j7(ls:List Int)(set:List Bool):Nat->Int->Option Value
 | 0=>fun _=>none
 | k+1=>if set.getD k false then j7 ls set k else xf (j7 ls set k) (ls.getD k 0) (.bool true)
theorem jh(ls:List Int)(set:List Bool)(v:Int):∀k,(j7 ls set k v=some (.bool true)/\∃i,i<k/\ls.getD i 0=v/\set.getD i false=false)\/(j7 ls set k v=none/\∀i,i<k->ls.getD i 0=v->set.getD i false=true)
 | 0=>.inr ⟨rfl,fun i h=>by omega⟩
 | k+1=>by
  unfold j7
  cases hs:set.getD k false with
  | true=>
   rw[Lh rfl];rcases jh ls set v k with ⟨h1,i,h2,h3,h4⟩ | ⟨h1,h2⟩
   . exact .inl ⟨h1,i,by omega,h3,h4⟩
   . refine .inr ⟨h1,fun i hi he=>?_⟩
     by_cases e:i=k
     . subst e;exact hs
     . exact h2 i (by omega) he
  | false=>
   rw[Lg (by simp)];unfold xf
   by_cases e:v=ls.getD k 0
   . rw[Lh e];exact .inl ⟨rfl,k,by omega,e.symm,hs⟩
   . rw[Lg e]
     rcases jh ls set v k with ⟨h1,i,h2,h3,h4⟩ | ⟨h1,h2⟩
     . exact .inl ⟨h1,i,by omega,h3,h4⟩
     . refine .inr ⟨h1,fun i hi he=>?_⟩
       by_cases e2:i=k
       . subst e2;exact absurd he.symm e
       . exact h2 i (by omega) he
def xU(n:Nat)(ls:List Int)(set:List Bool):List Bool:=(List.range n).map fun i=>decide (∀j,j<n->ls.getD j 0=ls.getD i 0->set.getD j false=true)
theorem yI(n:Nat)(ls:List Int)(set:List Bool):(xU n ls set).length=n:=by simp[xU]
theorem XD{n:Nat}{ls:List Int}{set:List Bool}{i:Nat}(h:i<n):(xU n ls set)[i]'(by rw[yI];exact h)=decide (∀j,j<n->ls.getD j 0=ls.getD i 0->set.getD j false=true):=by simp[xU]
theorem insL_brk{n:Nat}{ls:List Int}{set:List Bool}{i:Nat}(h:i<n):(xU n ls set)[i]'(by rw[yI];exact h)=(j7 ls set n (ls.getD i 0)).isNone:=by
 rw[XD h];rcases jh ls set (ls.getD i 0) n with ⟨h1,j,h2,h3,h4⟩ | ⟨h1,h2⟩
 . rw[h1]
   refine Li fun ha=>?_
   have:=ha j h2 h3;rw[h4] at this;cases this
 . rw[h1];exact Lk h2
def qG(n:Nat)(a b:List Bool):List Bool:=(List.range n).map fun i=>a.getD i false&&b.getD i false
theorem yr(n:Nat)(a b:List Bool):(qG n a b).length=n:=by simp[qG]
theorem uu{n:Nat}{a b:List Bool}{i:Nat}(h:i<n):(qG n a b)[i]'(by rw[yr];exact h)=(a.getD i false&&b.getD i false):=by simp[qG]
def evL(n:Nat)(cls:Nat->List Int)(ps:List Nat)(set:List Bool):List Bool:=ps.foldl (fun o p=>qG n o (xU n (cls p) set)) (List.replicate n true)
theorem xL(n:Nat)(cls:Nat->List Int)(set:List Bool)(ps:List Nat):(evL n cls ps set).length=n:=by
 unfold evL;refine snocI (P:=fun ps=>(ps.foldl (fun o p=>qG n o (xU n (cls p) set)) (List.replicate n true)).length=n) (by simp) (fun l x _=>?_) ps;rw[N1];exact yr _ _ _
theorem ZV(n:Nat)(cls:Nat->List Int)(set:List Bool)(ps:List Nat)(p:Nat):evL n cls (ps++[p]) set=qG n (evL n cls ps set) (xU n (cls p) set):=by unfold evL;rw[N1];rfl
theorem evL_iff{n:Nat}{cls:Nat->List Int}{set:List Bool}{i:Nat}(h:i<n)(ps:List Nat):(evL n cls ps set).getD i false=true↔∀p∈ps,∀j,j<n->(cls p).getD j 0=(cls p).getD i 0->set.getD j false=true:=by
 refine snocI (P:=fun ps=>(evL n cls ps set).getD i false=true↔∀p∈ps,∀j,j<n->(cls p).getD j 0=(cls p).getD i 0->set.getD j false=true) ?_ (fun l x ih=>?_) ps
 . simp[evL,List.getD_eq_getElem?_getD,h]
 . rw[ZV,zt (by rw[yr];exact h),uu h,L7,ih,zt (by rw[yI];exact h),XD h,decide_eq_true_iff]
   constructor
   . rintro⟨h1,h2⟩ p hp
     rcases Nd.1 hp with hp | hp
     . exact h1 p hp
     . rw[L8] at hp;subst hp;exact h2
   . exact fun h1=>⟨fun p hp=>h1 p (PN _ hp),h1 x (by simp)⟩
end
section
open Go.RowKit Go.Shelf
attribute [local go_sem] Oper.semAt_some
def xe(xs:List Bool)(w:Ba)(e:Ending)(w':Ba):Prop:=∃g:Nat,e=.returned (.slice (some ⟨g,0,none⟩) xs.length xs.length)/\w.heap.size<=g/\BRow w' g xs/\Below w.heap.size w w'
theorem uT(A B:Bb)(ca cb n:Nat)(hn:n<=100000)(a b:List Bool)(ha:a.length=n)(hb:b.length=n)(w:Ba)(hA:BAt w w.heap.size A a)(hB:BAt w w.heap.size B b) :
  Calls Tryz.prog 25 #[.slice A n ca,.slice B n cb] w (xe (qG n a b) w):=by
 have HA:=zH hA;have HB:=zH hB;have HLa:=zH ha;have HLb:=zH hb;have hmk:=xC n hn;obtain⟨rs,hrs⟩:=Ki (qG n a b);have hrl:rs.length=n:=by rw[<-hrs];exact yr _ _ _
 have HRL:=zH hrl
 have HAT:Hid (∀k (h:k<n),rs[k]'(by rw[HRL.out];exact h)=(a[k]'(by rw[HLa.out];exact h)&&b[k]'(by rw[HLb.out];exact h))):=fun k h=>by
  subst hrs;rw[uu h,zt (by omega),zt (by omega)]
 unfold xe;rw[hrs,hrl];clear hA hB ha hb hrs;go_enter Tryz.func25,Tryz.ntmps25;go_upto_region 2 with fail
 obtain⟨w3,hw3,d3,hs3,hB3⟩:=zn w (xv (List.replicate n false)) 4;rw[hw3];have HA3:=zH (HA.out.keep hB3);have HB3:=zH (HB.out.keep hB3);have HW3:=zH hB3;have HZ0:Hid (BRow w3 w.heap.size (yD rs 0)):=by rw[kP,HRL.out];exact d3
 clear hw3 d3 hB3 hmk HA HB hrl;go_wp2_with fail
 go_loopw [12] (fun i wr=>∃k:Nat,k<=n/\i=.int .i64 (k:Int)/\Hid (BRow wr w.heap.size (yD rs k))/\Hid (Below w.heap.size w3 wr)) (fun i _=>n-(intOf i).toNat)
 case atStart=>exact⟨0,by omega,rfl,HZ0,Lo _ _⟩
 case round=>
  obtain⟨k,hk,rfl,hbr,hbw⟩:=hrel;clear HZ0
  by_cases hlt:k<n
  . obtain⟨b1,o1,rfl,hb1,z0⟩:=(HA3.out.keep hbw.out).at_ k (by rw[HLa.out];exact hlt)
    obtain⟨b2,o2,rfl,hb2,z1⟩:=(HB3.out.keep hbw.out).at_ k (by rw[HLb.out];exact hlt);have hat:=HAT.out k hlt;obtain⟨x,hx⟩:=Ki (a[k]'(by rw[HLa.out];exact hlt));obtain⟨y,hy⟩:=Ki (b[k]'(by rw[HLb.out];exact hlt));rw[hx] at z0 hat;rw[hy] at z1 hat;have hkb:k<rs.length:=by rw[HRL.out];exact hlt
    have hml:=jC rs (PT hkb);have y0:=zh hbr.out k (qi (yD rs k) k (by omega));have f0:=zi hbr.out k
    have HNEW:Hid (BRow (wr.setCell ⟨w.heap.size,k,none⟩ (.bool (x&&y))) w.heap.size (yD rs (k+1))):=by
     rw[<-hat,<-jB rs hkb];show _=_;rw[Ll wr _ k _ _ _ hbr.out,qw]
    have HBN:=zH (hbw.out.setCell (p:=⟨w.heap.size,k,none⟩) (by show w.heap.size<=w.heap.size;omega) (.bool (x&&y)));obtain⟨u,hu⟩:=Ki ((yD rs k)[k]'(by omega));rw[hu] at y0;have hk0:(0:Int)<=(k:Int):=by omega
    have hk1:(k:Int)<(n:Int):=by omega
    have hl3:=zj hbr.out;clear hx hy hat hkb hml hbr hbw hu
    cases x with
    | false=>
     go_wp2_with fail
     go_roundw
     case rel=>exact⟨k+1,by omega,by go_num,HNEW,HBN⟩
     case measure=>simp[intOf];omega
    | true=>
     go_wp2_with fail
     go_roundw
     case rel=>exact⟨k+1,by omega,by go_num,HNEW,HBN⟩
     case measure=>simp[intOf];omega
  . obtain rfl:n=k:=by omega
    have HE:Hid (BRow wr w.heap.size rs):=by have:=hbr.out;rwa[show yD rs n=rs by rw[<-HRL.out];exact jD rs] at this
    have HBE:=zH (HW3.out.trans hbw.out);clear hbr hbw HA3 HB3 HAT;go_wp2_with fail;go_ret;exact⟨w.heap.size,rfl,Le _,HE.out,HBE.out⟩
theorem wV(A B:Bb)(ca cb n:Nat)(hn:n<=100000)(ls:List Int)(set:List Bool)(ha:ls.length=n)(hb:set.length=n)(w:Ba)(hA:IAt w w.heap.size A ls)(hB:BAt w w.heap.size B set) :
  Calls Tryz.prog 58 #[.slice A n ca,.slice B n cb] w (xe (xU n ls set) w):=by
 have HA:=zH hA;have HB:=zH hB;have HLa:=zH ha;have HLb:=zH hb;have hmk:=xC n hn;have hmm:=@run_makeMap Tryz.prog;have hz:∀W:Ba,(zeroValue 4).run Tryz.prog W=.ok (.bool false) W:=fun W=>by kernel_rfl
 have ht:Tryz.prog.underlying 161=some (.map 3 4):=Tryz.underlying161;have HZ:=zH hz;have HT:=zH ht;obtain⟨rs,hrs⟩:=Ki (xU n ls set);have hrl:rs.length=n:=by rw[<-hrs];exact yI _ _ _
 have HRL:=zH hrl
 have HAT:Hid (∀k (h:k<n),rs[k]'(by rw[HRL.out];exact h)=(j7 ls set n (ls[k]'(by rw[HLa.out];exact h))).isNone):=fun k h=>by
  subst hrs;rw[insL_brk h,yL (by rw[HLa.out];exact h)]
 unfold xe;rw[hrs,hrl];clear hA hB ha hb hrs hz ht;go_enter Tryz.func58,Tryz.ntmps58;go_upto_region 2 with fail
 obtain⟨w1,h1⟩:=Ki (w.alloc (.map #[] 0));have m1:MapOf (Value.int .i64) w1 w.heap.size 0 (fun _=>none):=by rw[<-h1];exact MapOf.made w
 have z1:Below w.heap.size w w1:=by rw[<-h1];exact zW _ _
 have hl1:w.heap.size<w1.heap.size:=by rw[<-h1];simp
 rw[h1];have HM1:Hid (MapOf (Value.int .i64) w1 w.heap.size 0 (j7 ls set 0)):=m1;have HB1:=zH z1;have HA1:=zH (HA.out.keep z1);have HS1:=zH (HB.out.keep z1);clear h1 m1 z1 hmm HA HB hrl;go_wp2_with fail
 go_loopw [14] (fun i wr=>∃k m:Nat,k<=n/\i=.int .i64 (k:Int)/\Hid (MapOf (Value.int .i64) wr w.heap.size m (j7 ls set k))/\Hid (Below w.heap.size w1 wr)) (fun i _=>n-(intOf i).toNat)
 case atStart=>exact⟨0,0,by omega,rfl,HM1,Lo _ _⟩
 case round=>
  obtain⟨k,m,hk,rfl,hm,hbw⟩:=hrel;clear HM1
  by_cases hlt:k<n
  . obtain⟨b1,o1,rfl,hb1,z0⟩:=(HA1.out.keep hbw.out).at_ k (by rw[HLa.out];exact hlt)
    obtain⟨b2,o2,rfl,hb2,z1⟩:=(HS1.out.keep hbw.out).at_ k (by rw[HLb.out];exact hlt);have hga:ls.getD k 0=ls[k]'(by rw[HLa.out];exact hlt):=yL (by rw[HLa.out];exact hlt) 0;have hgb:set.getD k false=set[k]'(by rw[HLb.out];exact hlt):=zt (by rw[HLb.out];exact hlt) false;obtain⟨x,hx⟩:=Ki (ls[k]'(by rw[HLa.out];exact hlt));obtain⟨y,hy⟩:=Ki (set[k]'(by rw[HLb.out];exact hlt));rw[hx] at z0 hga;rw[hy] at z1 hgb;have hk0:(0:Int)<=(k:Int):=by omega
    have hk1:(k:Int)<(n:Int):=by omega
    have hG:j7 ls set (k+1)=if y then j7 ls set k else xf (j7 ls set k) x (.bool true):=by rw[j7,hga,hgb]
    cases y with
    | true=>
     have hm2:Hid (MapOf (Value.int .i64) wr w.heap.size m (j7 ls set (k+1))):=by rw[hG,Lh rfl];exact hm
     clear hx hy hga hgb hG hm;go_wp2_with fail
     go_roundw
     case rel=>exact⟨k+1,m,by omega,by go_num,hm2,hbw⟩
     case measure=>simp[intOf];omega
    | false=>
     obtain⟨W5,hrun,hm5,hg5⟩:=hm.out.put yp HT.out x (.bool true);have hm2:Hid (MapOf (Value.int .i64) W5 w.heap.size (m+1) (j7 ls set (k+1))):=by rw[hG,Lg (by simp)];exact hm5
     have HB5:Hid (Below w.heap.size w1 W5):=hbw.out.grown hg5 (by have:=hbw.out.size;omega) (fun r e=>by cases e;omega);clear hx hy hga hgb hG hm hm5 hg5 hbw;go_wp2_with fail
     go_roundw
     case rel=>exact⟨k+1,m+1,by omega,by go_num,hm2,HB5⟩
     case measure=>simp[intOf];omega
  . obtain rfl:n=k:=by omega
    have hsr:=hbw.out.size;obtain⟨wE,rfl⟩:∃x,x=wr:=⟨_,rfl⟩;go_upto_region 9 with fail
    obtain⟨w3,hw3,d3,hs3,hB3⟩:=zn wE (xv (List.replicate n false)) 4;rw[hw3];have HA3:=zH ((HA1.out.keep hbw.out).keep (hB3.mono (by omega)));have HM3:=zH (hm.out.same (hB3.block _ (by omega)));have HW3:=zH (HB1.out.trans (hbw.out.trans (hB3.mono (by omega))));have HZ0:Hid (BRow w3 wE.heap.size (yD rs 0)):=by rw[kP,HRL.out];exact d3
    have hwE:w.heap.size<wE.heap.size:=by omega
    clear hw3 d3 hB3 hmk HA1 HS1 hm hbw hsr;go_wp2_with fail
    go_loopw [32] (fun i wr=>∃k:Nat,k<=n/\i=.int .i64 (k:Int)/\Hid (BRow wr wE.heap.size (yD rs k))/\Hid (Below wE.heap.size w3 wr)) (fun i _=>n-(intOf i).toNat)
    case atStart=>exact⟨0,by omega,rfl,HZ0,Lo _ _⟩
    case round=>
     obtain⟨k,hk,rfl,hbr,hbw⟩:=hrel;clear HZ0
     by_cases hlt:k<n
     . obtain⟨b1,o1,rfl,hb1,z0⟩:=(HA3.out.keep (hbw.out.mono (by omega))).at_ k (by rw[HLa.out];exact hlt)
       have hat:=HAT.out k hlt;obtain⟨x,hx⟩:=Ki (ls[k]'(by rw[HLa.out];exact hlt));rw[hx] at z0 hat;have hm:=HM3.out.same (hbw.out.block _ hwE);have hlk:=hm.look yp HT.out (HZ.out wr) x
       have hres:∃y:Bool,(j7 ls set n x).getD (.bool false)=.bool y/\rs[k]'(by rw[HRL.out];exact hlt)=!y:=by
        rcases jh ls set x n with ⟨h1,_⟩ | ⟨h1,_⟩
        . exact⟨true,by rw[h1];rfl,by rw[hat,h1];rfl⟩
        . exact⟨false,by rw[h1];rfl,by rw[hat,h1];rfl⟩
       obtain⟨y,hy1,hy2⟩:=hres;rw[hy1] at hlk;have hkb:k<rs.length:=by rw[HRL.out];exact hlt
       have hml:=jC rs (PT hkb);have y0:=zh hbr.out k (qi (yD rs k) k (by omega));have f0:=zi hbr.out k
       have HNEW:Hid (BRow (wr.setCell ⟨wE.heap.size,k,none⟩ (.bool (!y))) wE.heap.size (yD rs (k+1))):=by
        rw[<-hy2,<-jB rs hkb];show _=_;rw[Ll wr _ k _ _ _ hbr.out,qw]
       have HBN:=zH (hbw.out.setCell (p:=⟨wE.heap.size,k,none⟩) (by show wE.heap.size<=wE.heap.size;omega) (.bool (!y)));obtain⟨u,hu⟩:=Ki ((yD rs k)[k]'(by omega));rw[hu] at y0;have hk0:(0:Int)<=(k:Int):=by omega
       have hk1:(k:Int)<(n:Int):=by omega
       have hl3:=zj hbr.out;clear hx hat hkb hml hbr hbw hu hm hy1 hy2;go_wp2_with fail
       go_roundw
       case rel=>exact⟨k+1,by omega,by go_num,HNEW,HBN⟩
       case measure=>simp[intOf];omega
     . obtain rfl:n=k:=by omega
       have HE:Hid (BRow wr wE.heap.size rs):=by have:=hbr.out;rwa[show yD rs n=rs by rw[<-HRL.out];exact jD rs] at this
       have HBE:=zH (HW3.out.trans (hbw.out.mono (by omega)));clear hbr hbw HA3 HAT HM3;go_wp2_with fail;go_ret;exact⟨wE.heap.size,rfl,by omega,HE.out,HBE.out⟩
end
section
open Go.RowKit
theorem Ze:(Tryz.prog.info? 4).map (·.size)=some 1:=by kernel_rfl
theorem Qc(n b:Nat)(h1:1<=n)(h5:n<=100000)(u:Bool)(w:Ba)(hb:w.heap[b]?=some (.cells #[.bool u] 4 (0,0))) :
  Calls Tryz.prog 72 #[.slice (some ⟨b,0,none⟩) 1 1,.int .i64 n] w fun e w'=>∃g,e=.returned (.slice (some ⟨g,0,none⟩) n n)/\w.heap.size<=g/\BRow w' g (List.replicate n u)/\Below w.heap.size w w':=by
 have hmk:=xC n h5;obtain⟨ar,har⟩:∃ar:List Value,(List.replicate n false).map Value.bool=ar:=⟨_,rfl⟩;unfold xv at hmk;rw[har] at hmk;have hal:ar.length=n:=by rw[<-har];simp
 have hc:=zh hb 0 rfl;have hbl:=zj hb;have hm:=Tryz.bits_Mul 1 n (by omega) (by omega) w;have e1:(1*n / 18446744073709551616:Nat)=0:=by omega
 have e2:(1*n % 18446744073709551616:Nat)=n:=by omega
 rw[e1,e2] at hm;have hn0:¬(n:Int)<0:=by omega
 clear har e1 e2;go_enter Tryz.func72,Tryz.ntmps72;go_wp2_with fail;refine hm.mono ?_;rintro e w1 ⟨rfl,hw1⟩;obtain rfl:=hw1;clear hm;obtain⟨W0,hW0,b0,hsz,hB0⟩:=zn w1 ar.toArray 4;have hx:W0.cell? ⟨b,0,none⟩=some (.bool u):=(hB0.cell (p:=⟨b,0,none⟩) hbl).trans hc;have BB:=zH hB0;have BX:=zH b0;have HX:=zH hx;clear hc hB0 b0 hx hb;go_wp2_with ((refine Rz rfl (.tmp 31) (.tmp 32) 36 36 rfl 4 NM Ze (some ⟨w1.heap.size,0,none⟩) (some ⟨b,0,none⟩) n n 1 1 rfl rfl w1.heap.size 0 ar 4 BX.out [.bool u] (by simp[Nat.min_def];omega) (fun _=>⟨rfl,_,rfl,Xr HX.out⟩) (by simp;omega) (by simp[Value.oneCell']) w1.heap.size w1 BB.out (Le _) ?_);intro w2 hr2 hb2);obtain⟨g,hg⟩:=Ki w1.heap.size;have s1:=qq (cur:=ar) (x:=.bool u) (k:=0) (m:=1) (n:=n) hal (by simp) (by omega);have S1:=zH s1;have HGG:=zH hg;rw[hg] at hr2 hb2 ⊢;clear s1 BX HX BB hW0 hsz hmk hg
 go_loopw [8] (fun l wr=>∃(k:Nat) (cur:List Value),1<=k/\k<=n/\l=.int .i64 k/\Hid (cur.length=n)/\Hid (cur.take k=List.replicate k (.bool u))/\Hid (wr.heap[g]?=some (.cells cur.toArray 4 (0,0)))/\Below g w1 wr) (fun l _=>n-(intOf l).toNat)
 case atStart=>exact⟨1,splice ar 0 [.bool u],by omega,h1,rfl,S1.out.2,S1.out.1,hr2,hb2⟩
 case round=>
  obtain⟨k,cur,hk1,hkn,rfl,hcl,hct,hcell,hbl2⟩:=hrel
  by_cases hlt:k<n
  . clear S1 hr2 hb2
    have hk0:(0:Int)<=(k:Int):=by omega
    have hk2:(k:Int)<=(n:Int):=by omega
    have hne:¬n=k:=by omega
    have hne':¬k=n:=by omega
    go_upto_region 9 with fail
    obtain⟨d,hd⟩:=Ki (n-k);obtain⟨m,hm⟩:=Ki (Nat.min k d);have hm0:min k d=m:=hm;have hm1:1<=m:=by omega
    have hm2:k+m<=n:=by omega
    have hm3:m<=k:=by omega
    clear hm0
    have hsrc:∀j v,(List.replicate m (Value.bool u))[j]?=some v->wr.cell? ((⟨g,0,none⟩:Addr).add j)=some v:=by
     intro j v hj;have hjm:j<m:=by have:=(Lq.1 hj).1;simpa using this
     rw[Nt,Lh hjm] at hj
     cases hj
     rw[N5,LH];refine zh hcell.out j ?_;rw[Ro];have h2:=congrArg (fun l=>l[j]?) hct.out;simp only[List.getElem?_take,List.getElem?_replicate] at h2;rwa[Lh (by omega),Lh (by omega)] at h2
    have SP:=zH (qq (cur:=cur) (x:=Value.bool u) (k:=k) (m:=m) (n:=n) hcl.out hct.out hm2);have HSRC:=zH hsrc;have HM:=zH hm;have HBL2:=zH hbl2;have hs1:IntKind.i64.wrap ((k:Int)+(m:Int))=(k:Int)+(m:Int):=Sf _ (by omega);have HS1:=zH hs1;clear hsrc hm hbl2 hs1
    go_region_law ((refine RU (by rfl) (.tmp 41) (.tmp 44) 36 36 (by rfl) 4 NM Ze (some ⟨g,k,none⟩) (some ⟨g,0,none⟩) d d k n (by simp[go_sem]) (by simp[go_sem]) g k cur 4 hcell.out (List.replicate m (.bool u)) (by rw[LB];exact HM.out.symm) (fun _=>⟨rfl,_,rfl,HSRC.out⟩) (by rw[LB,hcl.out];exact hm2) (by intro v hv;rw[Rg hv];rfl) g w1 HBL2.out.drew (Le _) ?_;intro w3 hr3 hb3;rw[LB]))
    all_goals
     rw[HS1.out];go_wp2_with fail
     go_frame
     go_roundw
     case rel=>
      (repeat apply Exists.intro)
      exact⟨⟨k+m,splice cur k (List.replicate m (.bool u)),by omega,by omega,rfl,SP.out.2,SP.out.1,hr3,hb3⟩,by first | rfl | (go_frame;rfl) | (simp[Act.put];done)⟩
     case measure=>simp[intOf];omega
  . obtain rfl:k=n:=by omega
    go_wp2_with fail;go_ret;refine⟨g,rfl,by have:=HGG.out;omega,?_,by have:=HGG.out;rw[this];exact hbl2⟩;unfold BRow xv;have e:=hct.out;rw[Nz (by have:=hcl.out;omega)] at e;rw[hcell.out,e];simp
theorem clone_kBl(A:Bb)(n cap:Nat)(cs:List Value)(w:Ba)(hl:cs.length=n*1)(hA:Raw w A n cs)(h1:∀u∈cs,u.oneCell'=true)(hn:n<=1000000) :
  Calls Tryz.prog 24 #[.slice A n cap] w (RetR kBl n cs w):=by
 have HT:=zH hA;have H1:=zH h1;have HL:=zH hl;clear hA h1 hl;have q:∀(w:Ba) (a:Bb) (n c n' c':Nat),(binOp .eql 36 (.slice a n c) (.slice none n' c')).run Tryz.prog w=.ok (.bool a.isNone) w:=fun w a n c n' c'=>N8 w _ _ a n c n' c' NM
 obtain⟨i0,hi,hz0,hz1,hz2⟩:=yT kBl_ok
 cases A with
 | none=>
  have hvs:n=0:=by
   rcases Nu n with h | h
   . exact h
   . obtain⟨b,off,e,_⟩:=HT.out h;cases e
  subst hvs;have hcs:cs=[]:=LJ (by have:=HL.out;omega);subst hcs;go_enter Tryz.func24,Tryz.ntmps24;go_wp2;go_ret;exact⟨_,rfl,OwnR.nil _ _ _,Lo _ _⟩
 | some ad=>
  have HC:Hid (∀(j:Nat) (u:Value),cs[j]?=some u->(w.alloc (.cells #[] 4)).cell? (ad.add j)=some u):=fun j u hj=>by
   have hjl:j<n*1:=by rw[<-HL.out];exact(Lq.1 hj).1
   obtain⟨b,off,e,hlt,hc⟩:=HT.out (by omega)
   cases e
   rw[N5];exact Ph _ (hc j u hj)
  go_enter Tryz.func24,Tryz.ntmps24;go_wp2_with (at_builtin;refine Pe _ rfl _ _ 36 rfl w.heap.size 4 i0 _ 1 1 NM hi hz0 hz1 hz2 rfl (by decide) _ _ _ rfl (Pm w #[] 0 (Le _) (NC _) rfl) ad n cap cs rfl HL.out HC.out H1.out ?qc4 ?qc5 ?qc6 ?_)
  case qc4=>unfold maxLen;omega
  case qc5=>omega
  case qc6=>simp
  intro v' w1 hown hgrow hnil;go_wp2;go_ret;refine⟨v',rfl,hown,?_⟩;exact((Lo _ w).alloc (Le _) _).grown hgrow (by simp) (by intro k hk;simp[Value.ownBlock] at hk;omega)
end
section
open Go.RowKit Go.Shelf
attribute [local go_sem] Oper.semAt_some
structure KwAt(w:Ba)(B bw n N:Nat)(cls:Nat->List Int):Prop where
 lt:bw<B
 size:w.cell? ⟨bw,10,none⟩=some (.int .i64 (n:Int))
 rows:∃b off cC,w.cell? ⟨bw,11,none⟩=some (.slice (some ⟨b,off,none⟩) N cC)/\b<B/\∀q,q<N->∃A c,w.cell? ⟨b,off+q,none⟩=some (.slice A n c)/\IAt w B A (cls q)
 len:∀q,(cls q).length=n
theorem KwAt.keep{w w':Ba}{B bw n N:Nat}{cls:Nat->List Int}(h:KwAt w B bw n N cls)(hb:Below B w w'):KwAt w' B bw n N cls:=by
 obtain⟨b,off,cC,h1,h2,h3⟩:=h.rows;refine⟨h.lt,(hb.cell (p:=⟨bw,10,none⟩) h.lt).trans h.size,⟨b,off,cC,(hb.cell (p:=⟨bw,11,none⟩) h.lt).trans h1,h2,fun q hq=>?_⟩,h.len⟩;obtain⟨A,c,h4,h5⟩:=h3 q hq;exact⟨A,c,(hb.cell (p:=⟨b,off+q,none⟩) h2).trans h4,h5.keep hb⟩
theorem KwAt.more{w:Ba}{B B' bw n N:Nat}{cls:Nat->List Int}(h:KwAt w B bw n N cls)(hB:B<=B'):KwAt w B' bw n N cls:=by
 obtain⟨b,off,cC,h1,h2,h3⟩:=h.rows;refine⟨by have:=h.lt;omega,h.size,⟨b,off,cC,h1,by omega,fun q hq=>?_⟩,h.len⟩;obtain⟨A,c,h4,h5⟩:=h3 q hq;exact⟨A,c,h4,h5.more hB⟩
theorem QI(bw n N:Nat)(cls:Nat->List Int)(h1:1<=n)(hn:n<=100000)(w:Ba)(hK:KwAt w w.heap.size bw n N cls) :
  Calls Tryz.prog 42 #[.pointer (some ⟨bw,0,none⟩)] w (xe (List.replicate n true) w):=by
 obtain⟨w1,hw1,d1,hs1,hB⟩:=zn w #[.bool true] 4;have HC:=zH (Qc n w.heap.size h1 hn true w1 d1);have z0:=hK.size;have z1:=(hK.keep hB).size;have hl:=hK.lt;have HW1:=zH hw1;have HB:=zH hB;unfold xe;rw[LB];clear hw1 d1 hB hK;go_enter Tryz.func42,Tryz.ntmps42;go_wp2_with fail;rw[HW1.out];refine HC.out.mono ?_;rintro e w2 ⟨g,rfl,hg,hr,hb2⟩;have HR:=zH hr;have HB2:=zH (HB.out.trans (hb2.mono (by omega)));clear hr hb2 HC HW1 HB z0 z1;go_wp2_with fail;go_ret;exact⟨g,rfl,by omega,HR.out,HB2.out⟩
theorem vC(bw n N:Nat)(cls:Nat->List Int)(hn:n<=100000)(q:Nat)(hq:q<N)(B:Bb)(cb:Nat)(set:List Bool)(hb:set.length=n)(w:Ba)(hK:KwAt w w.heap.size bw n N cls)(hB:BAt w w.heap.size B set) :
  Calls Tryz.prog 35 #[.pointer (some ⟨bw,0,none⟩),.int .i64 (q:Int),.slice B n cb] w (xe (xU n (cls q) set) w):=by
 obtain⟨b,off,cC,z1,hb2,hr⟩:=hK.rows;obtain⟨A,c,z2,hI⟩:=hr q hq;have HC:=zH (wV A B c cb n hn (cls q) set (hK.len q) hb w hI hB);have hl:=hK.lt;have hq0:(0:Int)<=(q:Int):=by omega
 have hq1:(q:Int)<(N:Int):=by omega
 unfold xe at HC ⊢;rw[yI] at HC ⊢;clear hr hI hK hB hb;go_enter Tryz.func35,Tryz.ntmps35;go_wp2_with fail;refine HC.out.mono ?_;rintro e w2 ⟨g,rfl,hg,hr2,hb3⟩;have HR:=zH hr2;have HB2:=zH hb3;clear hr2 hb3 HC z1 z2;go_wp2_with fail;go_ret;exact⟨g,rfl,hg,HR.out,HB2.out⟩
theorem qz(bw n N:Nat)(cls:Nat->List Int)(h1:1<=n)(hn:n<=100000)(hN:N<=5)(G:Nat)(hG:G<32)(B:Bb)(cb:Nat)(set:List Bool)(hb:set.length=n)(w:Ba)(hK:KwAt w w.heap.size bw n N cls)(hB:BAt w w.heap.size B set) :
  Calls Tryz.prog 26 #[.pointer (some ⟨bw,0,none⟩),.int .i64 (G:Int),.slice B n cb] w (xe (evL n cls (zL G N) set) w):=by
 have HA:=zH (QI bw n N cls h1 hn w hK);have HKN:=zH (fun (q:Nat) (hq:q<N) (X:Ba) (hX:Below w.heap.size w X)=>vC bw n N cls hn q hq B cb set hb X ((hK.keep hX).more hX.size) ((hB.keep hX).more hX.size));have HBO:=zH (fun (g g':Nat) (a b:List Bool) (ha:a.length=n) (hb:b.length=n) (X:Ba) (r1:BRow X g a) (r2:BRow X g' b)=>uT (some ⟨g,0,none⟩) (some ⟨g',0,none⟩) n n n hn a b ha hb X (r1.at_ r1.lt) (r2.at_ r2.lt));have HK:=zH hK;unfold xe at HA HKN HBO ⊢;rw[LB] at HA;simp only[yI] at HKN;simp only[yr] at HBO;rw[xL];clear hK hB hb;go_enter Tryz.func26,Tryz.ntmps26;go_wp2_with fail;refine HA.out.mono ?_;rintro e w2 ⟨g2,rfl,hg2,hr2,hb2⟩;have HR2:=zH hr2;have HB2:=zH hb2;obtain⟨b,off,cC,z1,hbb,_⟩:=(HK.out.keep hb2).rows;have hl:=HK.out.lt;clear hr2 hb2 HA;go_wp2_with fail
 go_loopw [7,16] (fun o i wr=>∃k g:Nat,k<=N/\i=.int .i64 (k:Int)/\o=.slice (some ⟨g,0,none⟩) n n/\w.heap.size<=g/\Hid (BRow wr g (evL n cls (zL G k) set))/\Hid (Below w.heap.size w wr)) (fun _ i _=>N-(intOf i).toNat)
 case atStart=>exact⟨0,g2,by omega,rfl,rfl,hg2,HR2,HB2⟩
 case round=>
  obtain⟨k,g,hk,rfl,rfl,hg,hr,hbw⟩:=hrel;clear HR2 z1
  by_cases hlt:k<N
  . have hb1:=Q5 hG (show k<5 by omega)
    have hk0:(0:Int)<=(k:Int):=by omega
    have hk1:(k:Int)<(N:Int):=by omega
    have hG00:(0:Int)<=(G:Int):=by omega
    have hmn:min k 64=k:=by omega
    by_cases hbit:G.testBit k=true
    case neg=>
     have hbf:G.testBit k=false:=by simpa using hbit
     rw[hbf] at hb1;have hE:zL G (k+1)=zL G k:=by rw[km,Lg hbit]
     have hr2:Hid (BRow wr g (evL n cls (zL G (k+1)) set)):=by rw[hE];exact hr
     clear hr hE hbit hbf;go_wp2_with fail
     go_roundw
     case rel=>exact⟨k+1,g,by omega,by go_num,rfl,hg,hr2,hbw⟩
     case measure=>simp[intOf];omega
    case pos=>
    rw[hbit] at hb1;have HE:Hid (evL n cls (zL G (k+1)) set=qG n (evL n cls (zL G k) set) (xU n (cls k) set)):=by rw[Hid,km,Lh hbit,ZV]
    have HC:=zH (HKN.out k hlt wr hbw.out);clear hbit;go_wp2_with fail;refine HC.out.mono ?_;rintro e w3 ⟨g3,rfl,hg3,hr3,hb3⟩;have hs3:=hbw.out.size;have hrw:BRow w3 g (evL n cls (zL G k) set):=Lb hb3 hr.out.lt hr.out;have HC2:=zH (HBO.out g g3 _ _ (xL n cls set (zL G k)) (yI n (cls k) set) w3 hrw hr3);rw[<-HE.out] at HC2;have HB3:=zH (hbw.out.trans (hb3.mono hs3));clear hr hbw hr3 hrw hb3 HC;go_wp2_with fail;refine HC2.out.mono ?_;rintro e w4 ⟨g4,rfl,hg4,hr4,hb4⟩;have HR4:=zH hr4;have HB4:=zH (Lc HB3.out hb4);have hg4':w.heap.size<=g4:=by have:=HB3.out.size;omega
    clear hr4 hb4 HC2 HB3;go_wp2_with fail
    go_roundw
    case rel=>exact⟨k+1,g4,by omega,by go_num,rfl,hg4',HR4,HB4⟩
    case measure=>simp[intOf];omega
  . obtain rfl:N=k:=by omega
    go_wp2_with fail;go_ret;exact⟨g,rfl,hg,hr.out,hbw.out⟩
end
section
open Go.RowKit Go.Shelf
attribute [local go_sem] Oper.semAt_some
section
variable {B D pt:Nat} {wD w W W':Ba}
theorem ownR_same{K:Kd}{base:Nat}{v:Value}{n:Nat}{cs:List Value}(h:OwnR K W base v n cs)(hs:∀k,v.ownBlock=some k->W'.heap[k]?=W.heap[k]?):OwnR K W' base v n cs:=by
 refine⟨h.1,?_⟩;rcases h.2 with hn | ⟨g,cap,cur,rfl,hb,hg,rest⟩
 . exact .inl hn
 . exact .inr ⟨g,cap,cur,rfl,hb,(hs g rfl).trans hg,rest⟩
end
end
section
open Go.RowKit Go.Shelf
attribute [local go_sem] Oper.semAt_some
theorem own_ne{w:Ba}{base base' n:Nat}{v V:Value}{xs:List Int}{cs:List Value}(h:Own w base v xs)(g:OwnR kIs w base' V n cs):v.ownBlock=none\/v.ownBlock≠V.ownBlock:=by
 rcases h.2 with ⟨rfl,_⟩ | ⟨b,cap,cur,rfl,_,hb,_⟩
 . exact .inl rfl
 . refine .inr fun e=>?_
   rcases g.2 with ⟨rfl,_⟩ | ⟨b',cap',cur',rfl,_,hb',_⟩
   . cases e
   . have:b=b':=by simpa[Value.ownBlock] using e
     subst this;rw[hb] at hb'
     cases hb'
structure NwIn(B bw n:Nat)(S SW:Array Value)(cls:Nat->List Int)(w W:Ba)(A:Bb)(k c:Nat)(cs:List Value):Prop where
 below:Below B w W
 b0:W.heap[B]?=some (.cells S 35 (0,0))
 bx:W.heap[bw]?=some (.cells SW 77 (0,0))
 own:OwnR kIs W (bw+1) (.slice A k c) k cs
 rows:∀q,q<k->∃A' c',cs[q]?=some (.slice A' n c')/\Own W (bw+1) (.slice A' n c') (cls q)
 len:cs.length=k
 lo:B<bw
theorem NwIn.on{B bw n k c:Nat}{S SW:Array Value}{cls:Nat->List Int}{w W W':Ba}{A:Bb}{cs:List Value}(h:NwIn B bw n S SW cls w W A k c cs)(hb:Below W.heap.size W W'):NwIn B bw n S SW cls w W' A k c cs:=by
 have l1:=zj h.bx;have l0:=zj h.b0;refine⟨h.below.trans (hb.mono (by omega)),Lb hb l0 h.b0,Lb hb l1 h.bx,h.own.below hb (Le _),fun q hq=>?_,h.len,h.lo⟩;obtain⟨A',c',e1,e2⟩:=h.rows q hq;exact⟨A',c',e1,e2.below hb (Le _)⟩
theorem NwIn.push{B bw n k c c2:Nat}{S SW SW':Array Value}{cls:Nat->List Int}{w W W1 W2:Ba}{A A2 A3:Bb}{c3:Nat}{cs:List Value}(h:NwIn B bw n S SW cls w W A k c cs)(hrow:Own W (bw+1) (.slice A3 n c3) (cls k))
  (ho:OwnR kIs W1 (bw+1) (.slice A2 (k+1) c2) (k+1) (cs++[.slice A3 n c3])) (hg:W.grownBy W1 (Value.slice A k c).ownBlock) (hs:∀z,z≠bw->W2.heap[z]?=W1.heap[z]?) (hb:Below B W1 W2) (hx:W2.heap[bw]?=some (.cells SW' 77 (0,0))) :
  NwIn B bw n S SW' cls w W2 A2 (k+1) c2 (cs++[.slice A3 n c3]):=by
 have l1:=zj h.bx;have l0:=zj h.b0;have lo:=h.lo;have hne:∀z,z<=bw->(Value.slice A k c).ownBlock≠some z:=fun z hz e=>by have:=(h.own.lt z e).1;omega
 have keep:∀(v:Value) (xs:List Int),Own W (bw+1) v xs->Own W2 (bw+1) v xs:=fun v xs hv=>by
  have h1:=hv.kept hg (own_ne hv h.own);exact h1.same fun z hz _=>hs z (by omega)
 refine⟨h.below.trans (((Lo _ _).grown hg (by omega) (fun r e=>by have:=(h.own.lt r e).1;omega)).trans hb),(hs B (by omega)).trans ((hg.block B l0 (fun e=>hne B (by omega) e.symm)).trans h.b0),hx,ownR_same ho (fun z e=>hs z (by have:=(ho.lt z e).1;omega)),fun q hq=>?_,by simp[h.len],lo⟩
 by_cases e:q=k
 . subst e
   exact⟨A3,c3,by rw[LM (by rw[h.len];exact Le _),h.len,NN];rfl,keep _ _ hrow⟩
 . obtain⟨A',c',e1,e2⟩:=h.rows q (by omega)
   exact⟨A',c',by rw[LP (by rw[h.len];omega)];exact e1,keep _ _ e2⟩
def RetKw(s:Sy)(w:Ba)(e:Ending)(w':Ba):Prop:=Below w.heap.size w w'/\((zV s≠0/\e=.returned (.tuple #[.pointer none,.int .i64 (zV s)])) \/
 (zV s=0/\∃bw,e=.returned (.tuple #[.pointer (some ⟨bw,0,none⟩),.int .i64 0])/\KwAt w' w'.heap.size bw (ptn s) s.n.toNat (yx s)))
def XP(s:Sy)(A SV AV AX:Bb)(kc ks kv kx:Nat)(w:Ba)(e:Ending)(w':Ba):Prop:=Below w.heap.size w w'/\((zV s≠0/\e=.returned (.tuple #[.pointer none,.int .i64 (zV s)])) \/
 (zV s=0/\∃bw,e=.returned (.tuple #[.pointer (some ⟨bw,0,none⟩),.int .i64 0])/\KwAt w' w'.heap.size bw (ptn s) s.n.toNat (yx s) /\
  ∃mb,w.heap.size<=mb/\MapOf (Value.int .i64) w' mb 0 (fun _=>none)/\∃AQ cQ,w'.heap[bw]?=some (.cells #[.int .i64 s.p.t.n,.int .i64 s.p.t.ins,.int .i64 s.p.t.outs,.slice A s.p.t.cases.length kc,.int .i64 s.p.a.n,.slice SV s.p.a.sts.length ks,.int .i64 s.p.k,.int .i64 s.n,.slice AV s.vs.length kv,.slice AX s.xs.length kx,.int .i64 (ptn s:Int),.slice AQ s.n.toNat cQ,.map (some mb)] 77 (0,0))))
theorem kr(s:Sy)(hs:LowS s)(hf:yR s.p)(A SV AV AX:Bb)(kc ks kv kx:Nat)(w:Ba)(hS:SyAt w w.heap.size A SV AV AX s) :
  Calls Tryz.prog 34 #[.agg (s.vs_ A kc SV ks AV kv AX kx)] w (XP s A SV AV AX kc ks kv kx w):=by
 obtain⟨w1,hw1,d0,hs1,hB⟩:=zn w (s.vs_ A kc SV ks AV kv AX kx) 35;have HCN:=zH (JL s hs hf A SV AV AX kc ks kv kx w1 (hS.up hB));have HCL:=zH (fun (q:Nat) (X:Ba) (hX:Below w.heap.size w X)=>Q3 s hs hf (q:Int) A SV AV AX kc ks kv kx X ((hS.keep hX).more hX.size));have HE0:Hid (zV s≠0->j6 s=(0,zV s)):=fun h=>Lh h
 have HE1:Hid (zV s=0->j6 s=((ptn s:Int),0)/\1<=ptn s/\(∃N:Nat,s.n=(N:Int)/\1<=N/\N<=5)/\∀q:Nat,(q:Int)<s.n->clsE s (q:Int)=(yx s q,0)):=fun h=>by
  obtain⟨_,K,N,hF⟩:=yn hf h;have hx:=xs_pos hf h;have:=LO hx (show 1<=s.p.k.toNat+1 by omega);refine⟨Lg (by simpa using h),by unfold ptn;omega,⟨N,hF.n,hF.n1,hF.n5⟩,fun q hq=>?_⟩;unfold clsE;rw[Lg (by simpa using h),Lg (by omega),Ls]
 have HKL:Hid (∀q,(yx s q).length=ptn s):=fun q=>ZX s q
 unfold XP;obtain⟨r,hr⟩:=Ki (zV s);rw[hr] at HE0 HE1 ⊢;obtain⟨R,hRR⟩:=Ki (j6 s);rw[hRR] at HCN HE0 HE1;obtain⟨CLS,hCLS⟩:=Ki (yx s);rw[hCLS] at HE1 HKL ⊢;obtain⟨n,hn⟩:=Ki (ptn s);rw[hn] at HE1 HKL ⊢;unfold Sy.vs_ at hw1 d0 HCN HCL ⊢;have HW1:=zH hw1;have HB:=zH hB;have HD:=zH d0;obtain⟨p0,p1,p2,p3,p4,p5,p6,p7,p8,p9⟩:=zB (d0);clear hw1 d0 hB hS hr hRR hs hf hn hCLS;go_enter Tryz.func34,Tryz.ntmps34;go_wp2_with fail;rw[HW1.out];go_wp2_with fail;refine HCN.out.mono ?_;rintro e w2 ⟨rfl,hb2⟩;have HB2:=zH (HB.out.trans (hb2.mono (by omega)));have HD:=zH (La hb2 HD.out);clear p0 p1 p2 p3 p4 p5 p6 p7 p8 p9 hb2 HCN HW1 HB
 by_cases h0:r=0
 case neg=>
  have hR:Hid (R=(0,r)):=HE0.out h0;have e0:(r != 0)=true:=by simpa using h0
  clear HE0 HE1 HD HCL HKL;rw[hR.out];go_wp2_with fail
  go_ret2
  exact⟨HB2.out,.inl ⟨h0,rfl⟩⟩
 case pos=>
 subst h0;obtain⟨e1,hn1,⟨N,hN,hN1,hN5⟩,hcl⟩:=HE1.out rfl;rw[e1];have HNN:=zH hN;have HCE:=zH hcl;have HN1:=zH (And.intro hn1 (And.intro hN1 hN5));have hmm:=@run_makeMap Tryz.prog;obtain⟨p0,p1,p2,p3,p4,p5,p6,p7,p8,p9⟩:=zB (HD.out);clear HE0 HE1 e1 hn1 hN1 hN5 hN hcl;go_upto_region 5 with fail
 obtain⟨a3,h3⟩:=Ki (w2.alloc (.map #[] 0));have y3:a3.heap.size=w2.heap.size+1:=by rw[<-h3];simp
 have z3:Below w2.heap.size w2 a3:=by rw[<-h3];exact zW _ _
 have m3:MapOf (Value.int .i64) a3 w2.heap.size 0 (fun _=>none):=by rw[<-h3];exact MapOf.made w2
 rw[h3];obtain⟨a4,h4,x4,y4,z4⟩:=zn a3 #[.int .i64 s.p.t.n,.int .i64 s.p.t.ins,.int .i64 s.p.t.outs,.slice A s.p.t.cases.length kc,.int .i64 s.p.a.n,.slice SV s.p.a.sts.length ks,.int .i64 s.p.k,.int .i64 s.n,.slice AV s.vs.length kv,.slice AX s.xs.length kx,.int .i64 (n:Int),.slice none 0 0,.map (some w2.heap.size)] 77;rw[h4];rw[y3] at x4 y4;have hwl:=zj HD.out
 have hIN:NwIn w.heap.size (w2.heap.size+1) n #[.int .i64 s.p.t.n,.int .i64 s.p.t.ins,.int .i64 s.p.t.outs,.slice A s.p.t.cases.length kc,.int .i64 s.p.a.n,.slice SV s.p.a.sts.length ks,.int .i64 s.p.k,.int .i64 s.n,.slice AV s.vs.length kv,.slice AX s.xs.length kx] #[.int .i64 s.p.t.n,.int .i64 s.p.t.ins,.int .i64 s.p.t.outs,.slice A s.p.t.cases.length kc,.int .i64 s.p.a.n,.slice SV s.p.a.sts.length ks,.int .i64 s.p.k,.int .i64 s.n,.slice AV s.vs.length kv,.slice AX s.xs.length kx,.int .i64 (n:Int),.slice none 0 0,.map (some w2.heap.size)] CLS w a4 none 0 0 []:=
  ⟨HB2.out.trans ((z3.trans (z4.mono (by omega))).mono (by omega)),Lb z4 (by omega) (Lb z3 hwl HD.out),x4,OwnR.nil _ _ _,fun q hq=>by omega,rfl,by omega⟩
 have HIN:=zH hIN;have HM4:Hid (MapOf (Value.int .i64) a4 w2.heap.size 0 (fun _=>none)):=m3.same (z4.block _ (by omega));have hmw:Hid (w.heap.size<=w2.heap.size):=HB2.out.size;have q7:a4.cell? ⟨w.heap.size,7,none⟩=some (.int .i64 (N:Int)):=by rw[<-HNN.out];exact zh hIN.b0 7 rfl
 obtain⟨bw,hbw⟩:=Ki (w2.heap.size+1);have HBW:Hid (w2.heap.size<bw):=by rw[Hid];omega
 rw[hbw] at HIN ⊢;clear h3 y3 z3 m3 h4 x4 y4 z4 hwl hIN HD hbw hmm p0 p1 p2 p3 p4 p5 p6 p7 p8 p9;go_wp2_with fail
 go_loopw [26] (fun i wr=>∃k:Nat,k<=N/\i=.int .i64 (k:Int)/\∃AQ cQ cs,Hid (NwIn w.heap.size bw n #[.int .i64 s.p.t.n,.int .i64 s.p.t.ins,.int .i64 s.p.t.outs,.slice A s.p.t.cases.length kc,.int .i64 s.p.a.n,.slice SV s.p.a.sts.length ks,.int .i64 s.p.k,.int .i64 s.n,.slice AV s.vs.length kv,.slice AX s.xs.length kx] #[.int .i64 s.p.t.n,.int .i64 s.p.t.ins,.int .i64 s.p.t.outs,.slice A s.p.t.cases.length kc,.int .i64 s.p.a.n,.slice SV s.p.a.sts.length ks,.int .i64 s.p.k,.int .i64 s.n,.slice AV s.vs.length kv,.slice AX s.xs.length kx,.int .i64 (n:Int),.slice AQ k cQ,.map (some w2.heap.size)] CLS w wr AQ k cQ cs)/\Hid (MapOf (Value.int .i64) wr w2.heap.size 0 (fun _=>none))) (fun i _=>N-(intOf i).toNat)
 case atStart=>exact⟨0,by omega,rfl,none,0,[],HIN,HM4⟩
 case round=>
  obtain⟨k,hk,rfl,AQ,cQ,cs,hI,HM⟩:=hrel;clear HIN q7 HM4
  by_cases hlt:k<N
  . have hc:=HCL.out k wr hI.out.below
    rw[HCE.out k (by rw[HNN.out];omega)] at hc;have HC:=zH hc;have hk0:(0:Int)<=(k:Int):=by omega
    have hk1:(k:Int)<(N:Int):=by omega
    have hkl:=HKL.out k;have hk5:k<=5:=by have:=HN1.out;omega
    obtain⟨p0,p1,p2,p3,p4,p5,p6,p7,p8,p9⟩:=zB (hI.out.b0);clear hc;go_wp2_with fail;refine HC.out.mono ?_;rintro e w3 ⟨A3,c3,rfl,ho3,hb3⟩;have hI3:=hI.out.on hb3;have hlo:=hI.out.lo;have hlx:=zj hI.out.bx;have hmb:=HBW.out;have HM:=zH (HM.out.same (hb3.block _ (by omega)));have ho3':Own w3 (bw+1) (.slice A3 n c3) (CLS k):=by rw[<-hkl];exact ho3.low (by omega)
    dsimp only;rw[hkl];have HI3:=zH hI3;have HO3:=zH ho3';have b11:=zh hI3.bx 11 rfl;have hlx3:=zj hI3.bx;clear p0 p1 p2 p3 p4 p5 p6 p7 p8 p9 hb3 ho3 ho3' hI3 hI HC hkl;go_upto_region 11 with fail
    obtain⟨W4,hW4,d4,hs4,hb4⟩:=zn w3 #[.slice A3 n c3] 44;have HI4:=zH (HI3.out.on hb4);have HM:=zH (HM.out.same (hb4.block _ (by omega)));have HO4:=zH (HO3.out.below hb4 (Le _));have b11':=zh HI4.out.bx 11 rfl;have HR4:=zH HI4.out.own;have HLE:=zH HI4.out.len;have hb4s:bw+1<=W4.heap.size:=by omega
    have HW4:=zH hW4;clear HI3 HO3 hW4 hb4
    go_wp2_with (at_builtin; go_must (rw [HW4.out]; refine xx XB rfl _ _ (by rfl) (bw + 1) (.slice AQ k cQ) k cs (by rfl) HR4.out w3.heap.size #[.slice A3 n c3] (by rfl) d4 rfl (by simp [Value.oneCell']) (by omega) hb4s _ rfl ?_); intro g' cap' w5 hr5 hg5 hat5 hlt5
                 have hx5:=(hg5.block bw (zj HI4.out.bx) (fun e=>by have:=(HR4.out.lt bw e.symm).1;omega)).trans HI4.out.bx;have u11:=zh hx5 11 rfl;have f11:=zi hx5 11;have l11:=zj hx5;have HX5:=zH hx5;have HM:=zH (HM.out.same (hg5.block _ (by have:=zj HI4.out.bx;omega) (fun e=>by have:=(HR4.out.lt _ e.symm).1;omega)));have HR5:=zH hr5;have HG5:=zH hg5
                 clear hx5 hr5 hg5 hat5 hlt5)
    have hnew:=Ll w5 bw 11 _ _ (.slice (some ⟨g',0,none⟩) (k+1) cap') HX5.out;have hI6:=HI4.out.push HO4.out HR5.out HG5.out (W2:=w5.setCell ⟨bw,11,none⟩ (.slice (some ⟨g',0,none⟩) (k+1) cap')) (fun z hz=>Lf w5 ⟨bw,11,none⟩ _ z hz) ((Lo _ _).setCell (by show w.heap.size<=bw;omega) _) hnew;have HI6:=zH hI6;have HM:=zH (HM.out.same (Lf w5 ⟨bw,11,none⟩ (.slice (some ⟨g',0,none⟩) (k+1) cap') w2.heap.size (by show ¬w2.heap.size=bw;omega)));clear hnew hI6 HI4 HO4 HR4 HR5 HG5 HX5 b11 b11' HW4
    go_roundw
    case rel=>exact⟨k+1,by omega,by go_num,_,_,_,HI6,HM⟩
    case measure=>simp[intOf];omega
  . obtain rfl:N=k:=by omega
    have hend:Hid (KwAt wr wr.heap.size bw n N CLS):=by
     have hl:=zj hI.out.bx;obtain⟨A0,c0,e0,_,_,hf⟩:=hI.out.own.form
     cases e0
     obtain⟨g,rfl,_,hg,hcs⟩:=hf (by have:=HN1.out;omega);refine⟨hl,zh hI.out.bx 10 rfl,⟨g,0,cQ,zh hI.out.bx 11 rfl,hg,fun q hq=>?_⟩,HKL.out⟩;obtain⟨A',c',e1,e2⟩:=hI.out.rows q hq;exact⟨A',c',by rw[LH];exact hcs q _ e1,own_on e2 (fun _ _ _=>rfl)⟩
    have HBE:=zH hI.out.below;have HBX:=zH hI.out.bx;clear hI;go_wp2_with fail
    go_ret2
    refine⟨HBE.out,bw,rfl,?_,w2.heap.size,hmw.out,HM.out,AQ,cQ,?_⟩
    . rw[HNN.out,Ls]
      exact hend.out
    . have h9:=HBX.out
      rw[HNN.out] at h9 ⊢;rw[Ls];exact h9
theorem Xv(s:Sy)(hs:LowS s)(hf:yR s.p)(A SV AV AX:Bb)(kc ks kv kx:Nat)(w:Ba)(hS:SyAt w w.heap.size A SV AV AX s) :
  Calls Tryz.prog 34 #[.agg (s.vs_ A kc SV ks AV kv AX kx)] w (RetKw s w):=
 (kr s hs hf A SV AV AX kc ks kv kx w hS).mono fun e w' h=>by
  obtain⟨hb,h | ⟨h1,bw,h2,h3,_⟩⟩:=h
  . exact⟨hb,.inl h⟩
  . exact⟨hb,.inr ⟨h1,bw,h2,h3⟩⟩
end
section
theorem Y1:∀(a b:List Bool),a.length=b.length->(∀i,a.getD i false=true->b.getD i false=true)->a.count true<=b.count true/\(a≠b->a.count true<b.count true)
 | [],[],_,_=>⟨Le _,fun h=>absurd rfl h⟩
 | x::a,y::b,hl,h=>by
  obtain⟨h1,h2⟩:=Y1 a b (by simpa using hl) (fun i hi=>h (i+1) hi);have h0:=h 0;simp only[List.getD_cons_zero] at h0;simp only[List.count_cons]
  cases x with
  | false=>
   cases y with
   | false=>exact⟨by simpa using h1,fun hne=>by simpa using h2 (fun e=>hne (by rw[e]))⟩
   | true=>simp;omega
  | true=>
   rw[h0 rfl];exact⟨by simpa using h1,fun hne=>by have:=h2 (fun e=>hne (by rw[e]));simpa using this⟩
theorem kY{n:Nat}{F:Nat->List Bool}(hl:∀m,(F m).length=n)(hd:∀m i,(F (m+1)).getD i false=true->(F m).getD i false=true):∃M,M<=n/\F (M+1)=F M/\∀m,m<M->F (m+1)≠F m:=by
 have key:∀k,(∀m,m<k->F (m+1)≠F m)->(F k).count true+k<=n:=by
  intro k
  induction k with
  | zero=>intro _;have:=List.count_le_length (a:=true) (l:=F 0);rw[hl] at this;omega
  | succ k ih=>
   intro h;have h1:=ih fun m hm=>h m (by omega)
   have h2:=(Y1 (F (k+1)) (F k) (by rw[hl,hl]) (hd k)).2 (h k (by omega));omega
 have hex:∃m,F (m+1)=F m:=by
  refine NB fun hn=>?_
  have:=key (n+1) fun m _ e=>hn ⟨m,e⟩
  omega
 obtain⟨m,hm⟩:=hex;obtain⟨M,_,h2,h3⟩:=least_of (p:=fun m=>F (m+1)=F m) m hm;exact⟨M,by have:=key M h3;omega,h2,h3⟩
def zP(n:Nat)(ev:List Bool->List Bool)(set:List Bool):Nat->List Bool
 | 0=>List.replicate n true
 | m+1=>ev (qG n set (zP n ev set m))
def ya(n:Nat)(ev:List Bool->List Bool)(set:List Bool):Nat->List Bool
 | 0=>set
 | m+1=>qG n (ya n ev set m) (ev (ya n ev set m))
def yf(n:Nat)(ev:List Bool->List Bool)(set:List Bool):Nat->List Int
 | 0=>List.replicate n (-1)
 | m+1=>(List.range n).map fun i=>if (ya n ev set m).getD i false then (m:Int) else (yf n ev set m).getD i 0
theorem ua(n:Nat)(ev:List Bool->List Bool)(set:List Bool):∀m,(yf n ev set m).length=n
 | 0=>by simp[yf]
 | m+1=>by simp[yf]
def jb(n:Nat)(ev:List Bool->List Bool)(set:List Bool)(M:Nat):List Int:=(List.range n).map fun i=>if (ya n ev set M).getD i false then (n:Int) else (yf n ev set M).getD i 0
theorem jY{n:Nat}{a b:List Bool}{i:Nat}(h:i<n):(qG n a b).getD i false=(a.getD i false&&b.getD i false):=by rw[zt (by rw[yr];exact h),uu h]
section
variable {n:Nat} {cls:Nat->List Int} {ps:List Nat} {set:List Bool}
theorem xp:∀m,(zP n (evL n cls ps) set m).length=n
 | 0=>by simp[zP]
 | m+1=>xL _ _ _ _
theorem kN(hs:set.length=n):∀m,(ya n (evL n cls ps) set m).length=n
 | 0=>hs
 | _+1=>yr _ _ _
theorem ZO{l:List Bool}{i:Nat}(h:l.length<=i):l.getD i false=false:=by rw[Lj,List.getElem?_eq_none h];rfl
theorem evL_mono{a b:List Bool}(h:∀i,i<n->a.getD i false=true->b.getD i false=true){i:Nat}(hi:i<n)(ha:(evL n cls ps a).getD i false=true):(evL n cls ps b).getD i false=true:=
 (evL_iff hi ps).2 fun p hp j hj e=>h j hj ((evL_iff hi ps).1 ha p hp j hj e)
theorem qT:∀m i,(zP n (evL n cls ps) set (m+1)).getD i false=true->(zP n (evL n cls ps) set m).getD i false=true
 | 0,i,h=>by
  by_cases hi:i<n
  . simp[zP,List.getD_eq_getElem?_getD,hi]
  . rw[ZO (by rw[xp];omega)] at h;cases h
 | m+1,i,h=>by
  by_cases hi:i<n
  . refine evL_mono (fun j hj hh=>?_) hi h
    rw[jY hj,L7] at hh ⊢;exact⟨hh.1,qT m j hh.2⟩
  . rw[ZO (by rw[xp];omega)] at h;cases h
theorem jc(hs:set.length=n)(m i:Nat)(h:(ya n (evL n cls ps) set (m+1)).getD i false=true):(ya n (evL n cls ps) set m).getD i false=true:=by
 by_cases hi:i<n
 . rw[ya,jY hi,L7] at h;exact h.1
 . rw[ZO (by rw[kN hs];omega)] at h;cases h
variable {f:List Int}
end
end
section
open Go.RowKit
attribute [local go_sem] Oper.semAt_some
theorem gU(A A':Bb)(cap cap':Nat)(vs us:List Bool)(w:Ba)(B:Nat)(hB:B<=w.heap.size)(hA:BAt w B A vs)(hA':BAt w B A' us)(hl:vs.length<=1000000)(hl':us.length<=1000000) :
  Calls Tryz.prog 10 #[.slice A vs.length cap,.slice A' us.length cap'] w fun e w'=>e=.returned (.bool (decide (vs=us)))/\∃n,w'=w.drewN n:=by
 by_cases hll:vs.length=us.length
 . have HL:=zH hll
   have hl1:((vs.length:Int) != (us.length:Int))=false:=by simp[hll]
   clear hll;go_enter Tryz.func10,Tryz.ntmps10;go_wp2_with fail
   go_loopw [13] (fun i wr=>∃k m:Nat,k<=vs.length/\i=.int .i64 k/\wr=w.drewN m/\Hid (vs.take k=us.take k)) (fun i _=>vs.length-(intOf i).toNat)
   case atStart=>exact⟨0,0,by omega,rfl,rfl,by show vs.take 0=us.take 0;simp⟩
   case round=>
    obtain⟨k,m,hk,rfl,rfl,hall⟩:=hrel;have hle:k<=us.length:=by have:=HL.out;omega
    by_cases hlt:k<vs.length
    . have hlt':k<us.length:=by have:=HL.out;omega
      obtain⟨b,off,rfl,hb1,c0⟩:=hA.at_ k hlt;have hb2:b<w.heap.size:=by omega
      obtain⟨b',off',rfl,hb1',d0⟩:=hA'.at_ k hlt';have hb2':b'<w.heap.size:=by omega
      clear hA hA'
      by_cases hv:vs[k]=us[k]
      . have hz:Hid (vs.take (k+1)=us.take (k+1)):=jO hlt hlt' hall.out hv
        obtain⟨x,hx⟩:=Ki (vs[k]);obtain⟨y,hy⟩:=Ki (us[k]);rw[hx] at c0 hv;rw[hy] at d0 hv;subst hv;clear hx hy;have q1:(x != x)=false:=by simp
        have q2:(x==x)=true:=by simp
        go_wp2_with fail;go_quiet (fail);go_wp2_with fail
        go_roundw
        case rel=>exact⟨k+1,_,by omega,by go_num,rfl,hz⟩
        case measure=>simp[intOf];omega
      . have hz:Hid (decide (vs=us)=false):=Li (qs hlt hlt' hv)
        obtain⟨x,hx⟩:=Ki (vs[k]);obtain⟨y,hy⟩:=Ki (us[k]);rw[hx] at c0 hv;rw[hy] at d0 hv;have q1:(x != y)=true:=by simpa using hv
        have q2:(x==y)=false:=by simpa using hv
        clear hx hy hv;go_wp2_with fail;go_quiet (fail);go_wp2_with fail;go_ret;exact⟨zm hz.out.symm,_,qY _ _ _⟩
    . obtain rfl:k=vs.length:=by omega
      have hz:Hid (decide (vs=us)=true):=Lk (qt HL.out hall.out);go_wp2_with fail;go_ret;exact⟨zm hz.out.symm,_,rfl⟩
 . have hz:Hid (decide (vs=us)=false):=Li (by rintro rfl;exact hll rfl)
   have hl1:((vs.length:Int) != (us.length:Int))=true:=by simp;omega
   clear hll;go_enter Tryz.func10,Tryz.ntmps10;go_wp2_with fail;go_ret;exact⟨zm hz.out.symm,0,rfl⟩
end
section
open Go.RowKit Go.Shelf
attribute [local go_sem] Oper.semAt_some
def RetOp(s:Sy)(g:Int)(set:List Bool)(w:Ba)(e:Ending)(w':Ba):Prop:=Below w.heap.size w w'/\((zN s g set≠0/\e=.returned (.tuple #[.pointer none,.int .i64 (zN s g set)])) \/
 (zN s g set=0/\∃bw,e=.returned (.tuple #[.pointer (some ⟨bw,0,none⟩),.int .i64 0])/\KwAt w' w'.heap.size bw (ptn s) s.n.toNat (yx s)))
def RetOpG(s:Sy)(g:Int)(set:List Bool)(A SV AV AX:Bb)(kc ks kv kx:Nat)(w:Ba)(e:Ending)(w':Ba):Prop:=Below w.heap.size w w'/\((zN s g set≠0/\e=.returned (.tuple #[.pointer none,.int .i64 (zN s g set)])) \/
 (zN s g set=0/\∃bw,e=.returned (.tuple #[.pointer (some ⟨bw,0,none⟩),.int .i64 0])/\KwAt w' w'.heap.size bw (ptn s) s.n.toNat (yx s) /\
  ∃mb,w.heap.size<=mb/\MapOf (Value.int .i64) w' mb 0 (fun _=>none)/\∃AQ cQ,w'.heap[bw]?=some (.cells #[.int .i64 s.p.t.n,.int .i64 s.p.t.ins,.int .i64 s.p.t.outs,.slice A s.p.t.cases.length kc,.int .i64 s.p.a.n,.slice SV s.p.a.sts.length ks,.int .i64 s.p.k,.int .i64 s.n,.slice AV s.vs.length kv,.slice AX s.xs.length kx,.int .i64 (ptn s:Int),.slice AQ s.n.toNat cQ,.map (some mb)] 77 (0,0))))
theorem wO(s:Sy)(hs:LowS s)(hf:yR s.p)(g:Int)(set:List Bool)(A SV AV AX AB:Bb)(kc ks kv kx kb:Nat)(_hsl:set.length<=1000000)(w:Ba)(hS:SyAt w w.heap.size A SV AV AX s) :
  Calls Tryz.prog 19 #[.agg (s.vs_ A kc SV ks AV kv AX kx),.int .i64 g,.slice AB set.length kb] w (RetOpG s g set A SV AV AX kc ks kv kx w):=by
 obtain⟨w1,hw1,d0,hs1,hB⟩:=zn w (s.vs_ A kc SV ks AV kv AX kx) 35;have HNW:=zH (kr s hs hf A SV AV AX kc ks kv kx w1 (hS.up hB))
 have HE0:Hid (zV s≠0->zN s g set=zV s):=fun h=>by
  have:zZ s g=zV s:=Lh h;unfold zN;rw[this,Lh h]
 have HE1:Hid (zV s=0->(∃N:Nat,s.n=(N:Int)/\1<=N/\N<=5/\((g<0\/(2:Int)^N<=g)->zN s g set=2)/\(¬(g<0\/(2:Int)^N<=g)->zN s g set=if set.length≠ptn s then 15 else 0))/\ptn s<=700):=fun h=>by
  obtain⟨_,K,N,hF⟩:=yn hf h;have hr:zZ s g=if g<0\/(2:Int)^N<=g then 2 else 0:=by unfold zZ;rw[Lg (by simpa using h),hF.n,Ls]
  have hpn:ptn s<=700:=by
   have hk:=hF.k;have hk6:=hF.k6;have:=LO hF.lx (show K+1<=7 by omega);unfold ptn;rw[hk,Ls];omega
  refine⟨⟨N,hF.n,hF.n1,hF.n5,fun h2=>?_,fun h2=>?_⟩,hpn⟩
  . unfold zN;rw[hr,Lh h2];rfl
  . unfold zN;rw[hr,Lg h2,Lg (by simp)]
 unfold XP at HNW;unfold RetOpG;obtain⟨r,hr⟩:=Ki (zV s);rw[hr] at HNW HE0 HE1;obtain⟨E,hE⟩:=Ki (zN s g set);rw[hE] at HE0 HE1 ⊢;obtain⟨n,hn⟩:=Ki (ptn s);rw[hn] at HNW HE1 ⊢;unfold Sy.vs_ at hw1 d0 HNW ⊢;have HW1:=zH hw1;have HB:=zH hB;have HD:=zH d0;obtain⟨p0,p1,p2,p3,p4,p5,p6,p7,p8,p9⟩:=zB (d0);clear hw1 d0 hB hS hr hs hf hn hE;go_enter Tryz.func19,Tryz.ntmps19;go_wp2_with fail;rw[HW1.out];go_wp2_with fail;refine HNW.out.mono ?_;rintro e w2 ⟨hb2,hcase⟩;have HB2:=zH (HB.out.trans (hb2.mono (by omega)));have HD:=zH (La hb2 HD.out);clear p0 p1 p2 p3 p4 p5 p6 p7 p8 p9 hb2 HNW HW1 HB;rcases hcase with ⟨h0,rfl⟩ | ⟨rfl,bw,rfl,hK,mb,hmb,hmm,AQ,cQ,hbx⟩
 . have hR:Hid (E=r):=HE0.out h0
   have e0:(r != 0)=true:=by simpa using h0
   clear HE0 HE1 HD;go_wp2_with fail
   go_ret2
   rw[hR.out];exact⟨HB2.out,.inl ⟨h0,rfl⟩⟩
 have HXX:=zH (And.intro (show w.heap.size<=mb by omega) (And.intro hmm hbx));clear hmb hmm hbx;obtain⟨⟨N,hN,hN1,hN5,hbad,hok⟩,hpn⟩:=HE1.out rfl;have HBAD:=zH hbad;have HOK:=zH hok;have HNN:=zH hN;have HK:=zH hK;have z10:=hK.size
 have h2b:(1:Int)<=(2:Int)^N/\(2:Int)^N<=32:=by
  obtain rfl | rfl | rfl | rfl | rfl:N=1\/N=2\/N=3\/N=4\/N=5:=by omega
  all_goals decide
 have hwT:IntKind.i64.wrap ((2:Int)^N)=(2:Int)^N:=by rw[Lp];omega
 have hmn:min N 64=N:=by omega
 have q7:w2.cell? ⟨w.heap.size,7,none⟩=some (.int .i64 (N:Int)):=by rw[<-HNN.out];exact zh HD.out 7 rfl
 have hlK:=HK.out.lt;clear HE0 HE1 hbad hok hN hK h2b
 by_cases hneg:g<0
 . have hR:Hid (E=2):=HBAD.out (.inl hneg)
   have e0:decide (g<0)=true:=Lk hneg;clear HBAD HOK HD z10;go_wp2_with fail
   go_ret2
   rw[hR.out];exact⟨HB2.out,.inl ⟨by decide,rfl⟩⟩
 have e0:decide (g<0)=false:=Li hneg
 by_cases hbig:(2:Int)^N<=g
 . have hR:Hid (E=2):=HBAD.out (.inr hbig)
   have e1:decide (g>=(2:Int)^N)=true:=Lk hbig;have e2:decide ((2:Int)^N<=g)=true:=Lk hbig;clear HBAD HOK HD z10;go_wp2_with fail
   go_ret2
   rw[hR.out];exact⟨HB2.out,.inl ⟨by decide,rfl⟩⟩
 have e1:decide (g>=(2:Int)^N)=false:=Li hbig;have e2:decide ((2:Int)^N<=g)=false:=Li hbig;have hR0:=HOK.out (by omega)
 by_cases hlen:set.length=n
 . have hR:Hid (E=0):=by rw[Hid,hR0,Lg (by simpa using hlen)]
   have HLN:=zH hlen;obtain⟨ln,hln⟩:=Ki set.length;rw[hln] at hlen;subst hlen;rw[hln] at *;clear HBAD HOK HD hR0 hln;go_wp2_with fail
   go_ret2
   rw[hR.out];exact⟨HB2.out,.inr ⟨rfl,bw,rfl,HK.out,mb,HXX.out.1,HXX.out.2.1,AQ,cQ,HXX.out.2.2⟩⟩
 . have hR:Hid (E=15):=by rw[Hid,hR0,Lh hlen]
   have e3:((set.length:Int) != (n:Int))=true:=by simp;omega
   have i3:¬(set.length:Int)=(n:Int):=by omega
   clear HBAD HOK HD hR0;go_wp2_with fail
   go_ret2
   rw[hR.out];exact⟨HB2.out,.inl ⟨by decide,rfl⟩⟩
theorem vB(s:Sy)(hs:LowS s)(hf:yR s.p)(g:Int)(set:List Bool)(A SV AV AX AB:Bb)(kc ks kv kx kb:Nat)(hsl:set.length<=1000000)(w:Ba)(hS:SyAt w w.heap.size A SV AV AX s) :
  Calls Tryz.prog 19 #[.agg (s.vs_ A kc SV ks AV kv AX kx),.int .i64 g,.slice AB set.length kb] w (RetOp s g set w):=
 (wO s hs hf g set A SV AV AX AB kc ks kv kx kb hsl w hS).mono fun e w' h=>by
  obtain⟨hb,h | ⟨h1,bw,h2,h3,_⟩⟩:=h
  . exact⟨hb,.inl h⟩
  . exact⟨hb,.inr ⟨h1,bw,h2,h3⟩⟩
theorem wW(bw n N:Nat)(cls:Nat->List Int)(h1:1<=n)(hn:n<=100000)(hN:N<=5)(G:Nat)(hG:G<32)(B:Bb)(cb:Nat)(set:List Bool)(hb:set.length=n)(M:Nat)(hMn:M<=n)(hM:zP n (evL n cls (zL G N)) set (M+1)=zP n (evL n cls (zL G N)) set M)(hlt:∀m,m<M->zP n (evL n cls (zL G N)) set (m+1)≠zP n (evL n cls (zL G N)) set m)
  (w:Ba) (hK:KwAt w w.heap.size bw n N cls) (hB:BAt w w.heap.size B set) :
  Calls Tryz.prog 20 #[.pointer (some ⟨bw,0,none⟩),.int .i64 (G:Int),.slice B n cb] w fun e w'=>∃g:Nat,e=.returned (.tuple #[.slice (some ⟨g,0,none⟩) n n,.int .i64 (M:Int)])/\w.heap.size<=g/\BRow w' g (zP n (evL n cls (zL G N)) set M)/\Below w.heap.size w w':=by
 have HA:=zH (QI bw n N cls h1 hn w hK);have HEV:=zH (fun (g:Nat) (x:List Bool) (hx:x.length=n) (X:Ba) (hX:Below w.heap.size w X) (hr:BRow X g x)=>qz bw n N cls h1 hn hN G hG (some ⟨g,0,none⟩) n x hx X ((hK.keep hX).more hX.size) (hr.at_ hr.lt));have HBO:=zH (fun (g:Nat) (x:List Bool) (hx:x.length=n) (X:Ba) (hX:Below w.heap.size w X) (hr:BRow X g x)=>uT B (some ⟨g,0,none⟩) cb n n hn set x hb hx X ((hB.keep hX).more hX.size) (hr.at_ hr.lt));have HLN:Hid (∀m,(zP n (evL n cls (zL G N)) set m).length=n):=fun m=>xp m
 have HST:Hid (∀m,evL n cls (zL G N) (qG n set (zP n (evL n cls (zL G N)) set m))=zP n (evL n cls (zL G N)) set (m+1)):=fun _=>rfl
 have HM:=zH hM;have HLT:=zH hlt;unfold xe at HA HEV HBO;rw[LB] at HA;simp only[xL] at HEV;simp only[yr] at HBO;have h00:Hid (zP n (evL n cls (zL G N)) set 0=List.replicate n true):=rfl;obtain⟨F,hF⟩:=Ki (zP n (evL n cls (zL G N)) set);rw[hF] at HLN HST HM HLT h00 ⊢;clear hK hB hb hM hlt hF;go_enter Tryz.func20,Tryz.ntmps20;go_wp2_with fail;refine HA.out.mono ?_;rintro e w2 ⟨g2,rfl,hg2,hr2,hb2⟩;have HR2:Hid (BRow w2 g2 (F 0)):=by rw[h00.out];exact hr2
 have HB2:=zH hb2;clear hr2 hb2 HA h00;go_wp2_with fail
 go_loopw [8,9] (fun o i wr=>∃k g:Nat,k<=M/\i=.int .i64 (k:Int)/\o=.slice (some ⟨g,0,none⟩) n n/\w.heap.size<=g/\Hid (BRow wr g (F k))/\Hid (Below w.heap.size w wr)) (fun _ i _=>M+1-(intOf i).toNat)
 case atStart=>exact⟨0,g2,by omega,rfl,rfl,hg2,HR2,HB2⟩
 case round=>
  obtain⟨k,g,hk,rfl,rfl,hg,hr,hbw⟩:=hrel;clear HR2;have hsw:=hbw.out.size;have HC:=zH (HBO.out g (F k) (HLN.out k) wr hbw.out hr.out);go_wp2_with fail;refine HC.out.mono ?_;rintro e w3 ⟨g3,rfl,hg3,hr3,hb3⟩;have HR3:Hid (BRow w3 g (F k)):=Lb hb3 hr.out.lt hr.out;have HB3:=zH (hbw.out.trans (hb3.mono hsw));have HC2:=zH (HEV.out g3 _ (yr _ _ _) w3 HB3.out hr3);simp only[HST.out] at HC2;clear hr3 hb3 HC hr hbw;go_wp2_with fail;refine HC2.out.mono ?_;rintro e w4 ⟨g4,rfl,hg4,hr4,hb4⟩;have HR4:=zH hr4;have HR5:Hid (BRow w4 g (F k)):=Lb hb4 HR3.out.lt HR3.out;have HB4:=zH (Lc HB3.out hb4);have heq:=gU (some ⟨g4,0,none⟩) (some ⟨g,0,none⟩) n n (F (k+1)) (F k) w4 w4.heap.size (Le _) (HR4.out.at_ HR4.out.lt) (HR5.out.at_ HR5.out.lt) (by rw[HLN.out];omega) (by rw[HLN.out];omega);rw[HLN.out,HLN.out] at heq;have HEQ:=zH heq;have hs4:=HB4.out.size;have hg4':w.heap.size<=g4:=by have:=HB3.out.size;omega
  clear hr4 hb4 HC2 HB3 HR3 heq;go_wp2_with fail;refine HEQ.out.mono ?_;rintro e w5 ⟨rfl,q,rfl⟩;have HB5:=zH (HB4.out.trans (zT (Lo _ _) q));have HR6:Hid (BRow (w4.drewN q) g4 (F (k+1))):=HR4.out;have HR7:Hid (BRow (w4.drewN q) g (F k)):=HR5.out;obtain⟨w5,hw5⟩:=Ki (w4.drewN q);rw[hw5] at HB5 HR6 HR7 ⊢;clear hw5 HEQ HR4 HR5 HB4
  by_cases hst:F (k+1)=F k
  · have hkM : k = M := by
     refine NB fun hne=>?_
     exact HLT.out k (by omega) hst
    subst hkM;have e0:decide (F (k+1)=F k)=true:=Lk hst;rw[e0];clear hst e0;go_wp2_with fail
    go_ret2
    exact⟨g,rfl,hg,HR7.out,HB5.out⟩
  · have hkM : k < M := by
     refine NB fun hne=>?_
     have:k=M:=by omega
     subst this;exact hst HM.out
    have e0:decide (F (k+1)=F k)=false:=Li hst;rw[e0];clear hst e0;go_wp2_with fail
    go_roundw
    case rel=>exact⟨k+1,g4,by omega,by go_num,rfl,hg4',HR6,HB5⟩
    case measure=>simp[intOf];omega
end
section
open Go.RowKit
attribute [local go_sem] Oper.semAt_some
theorem uj{S:Nat->Prop}{W:Ba}{b:Nat}{xs:List Int}{t:TypeId}(hS:S b)(h:W.heap[b]?=some (.cells ((xs.map (Value.int .i64)).toArray) t (0,0))):IAtS S W (some ⟨b,0,none⟩) xs:=fun _=>
 ⟨b,0,rfl,hS,zj h,fun i hi=>by rw[LH];exact zh h i (by simp[hi])⟩
theorem QF{S:Nat->Prop}{W:Ba}{b:Nat}{v:List Int}{A:Bb}{c:Nat}{t:TypeId}(hS:S b)(h:W.heap[b]?=some (.cells #[.slice A v.length c] t (0,0)))(h2:IAtS S W A v):LAtS S W (some ⟨b,0,none⟩) [v]:=fun _=>
 ⟨b,0,rfl,hS,zj h,fun i hi=>by
  obtain rfl:i=0:=by simpa using hi
  exact⟨A,c,zh h 0 rfl,h2⟩⟩
theorem set10{w:Ba}{g:Nat}{a0 a1 a2 a3 a4 a5 a6 a7 a8 a9:Value}{t:TypeId}(h:w.heap[g]?=some (.cells #[a0,a1,a2,a3,a4,a5,a6,a7,a8,a9] t (0,0)))(v0 v1 v2 v3 v4 v5 v6 v7 v8 v9:Value) :
  ∃W,((((((((((w.setCell ⟨g,0,none⟩ v0).setCell ⟨g,1,none⟩ v1).setCell ⟨g,2,none⟩ v2).setCell ⟨g,3,none⟩ v3).setCell ⟨g,4,none⟩ v4).setCell ⟨g,5,none⟩ v5).setCell ⟨g,6,none⟩ v6).setCell ⟨g,7,none⟩ v7).setCell ⟨g,8,none⟩ v8).setCell ⟨g,9,none⟩ v9)=W/\W.heap[g]?=some (.cells #[v0,v1,v2,v3,v4,v5,v6,v7,v8,v9] t (0,0))/\(∀k,k≠g->W.heap[k]?=w.heap[k]?)/\(∀B,B<=g->Below B w W)/\W.heap.size=w.heap.size:=by
 refine⟨_,rfl,?_,fun k hk=>?_,fun B hB=>?_,by simp[World.setCell]⟩
 . have k0:(w.setCell ⟨g,0,none⟩ v0).heap[g]?=some (.cells #[v0,a1,a2,a3,a4,a5,a6,a7,a8,a9] t (0,0)):=Ll _ g 0 _ _ v0 h
   have k1:((w.setCell ⟨g,0,none⟩ v0).setCell ⟨g,1,none⟩ v1).heap[g]?=some (.cells #[v0,v1,a2,a3,a4,a5,a6,a7,a8,a9] t (0,0)):=Ll _ g 1 _ _ v1 k0;have k2:(((w.setCell ⟨g,0,none⟩ v0).setCell ⟨g,1,none⟩ v1).setCell ⟨g,2,none⟩ v2).heap[g]?=some (.cells #[v0,v1,v2,a3,a4,a5,a6,a7,a8,a9] t (0,0)):=Ll _ g 2 _ _ v2 k1;have k3:((((w.setCell ⟨g,0,none⟩ v0).setCell ⟨g,1,none⟩ v1).setCell ⟨g,2,none⟩ v2).setCell ⟨g,3,none⟩ v3).heap[g]?=some (.cells #[v0,v1,v2,v3,a4,a5,a6,a7,a8,a9] t (0,0)):=Ll _ g 3 _ _ v3 k2;have k4:(((((w.setCell ⟨g,0,none⟩ v0).setCell ⟨g,1,none⟩ v1).setCell ⟨g,2,none⟩ v2).setCell ⟨g,3,none⟩ v3).setCell ⟨g,4,none⟩ v4).heap[g]?=some (.cells #[v0,v1,v2,v3,v4,a5,a6,a7,a8,a9] t (0,0)):=Ll _ g 4 _ _ v4 k3;have k5:((((((w.setCell ⟨g,0,none⟩ v0).setCell ⟨g,1,none⟩ v1).setCell ⟨g,2,none⟩ v2).setCell ⟨g,3,none⟩ v3).setCell ⟨g,4,none⟩ v4).setCell ⟨g,5,none⟩ v5).heap[g]?=some (.cells #[v0,v1,v2,v3,v4,v5,a6,a7,a8,a9] t (0,0)):=Ll _ g 5 _ _ v5 k4;have k6:(((((((w.setCell ⟨g,0,none⟩ v0).setCell ⟨g,1,none⟩ v1).setCell ⟨g,2,none⟩ v2).setCell ⟨g,3,none⟩ v3).setCell ⟨g,4,none⟩ v4).setCell ⟨g,5,none⟩ v5).setCell ⟨g,6,none⟩ v6).heap[g]?=some (.cells #[v0,v1,v2,v3,v4,v5,v6,a7,a8,a9] t (0,0)):=Ll _ g 6 _ _ v6 k5
   have k7:((((((((w.setCell ⟨g,0,none⟩ v0).setCell ⟨g,1,none⟩ v1).setCell ⟨g,2,none⟩ v2).setCell ⟨g,3,none⟩ v3).setCell ⟨g,4,none⟩ v4).setCell ⟨g,5,none⟩ v5).setCell ⟨g,6,none⟩ v6).setCell ⟨g,7,none⟩ v7).heap[g]?=some (.cells #[v0,v1,v2,v3,v4,v5,v6,v7,a8,a9] t (0,0)):=Ll _ g 7 _ _ v7 k6;have k8:(((((((((w.setCell ⟨g,0,none⟩ v0).setCell ⟨g,1,none⟩ v1).setCell ⟨g,2,none⟩ v2).setCell ⟨g,3,none⟩ v3).setCell ⟨g,4,none⟩ v4).setCell ⟨g,5,none⟩ v5).setCell ⟨g,6,none⟩ v6).setCell ⟨g,7,none⟩ v7).setCell ⟨g,8,none⟩ v8).heap[g]?=some (.cells #[v0,v1,v2,v3,v4,v5,v6,v7,v8,a9] t (0,0)):=Ll _ g 8 _ _ v8 k7;have k9:((((((((((w.setCell ⟨g,0,none⟩ v0).setCell ⟨g,1,none⟩ v1).setCell ⟨g,2,none⟩ v2).setCell ⟨g,3,none⟩ v3).setCell ⟨g,4,none⟩ v4).setCell ⟨g,5,none⟩ v5).setCell ⟨g,6,none⟩ v6).setCell ⟨g,7,none⟩ v7).setCell ⟨g,8,none⟩ v8).setCell ⟨g,9,none⟩ v9).heap[g]?=some (.cells #[v0,v1,v2,v3,v4,v5,v6,v7,v8,v9] t (0,0)):=Ll _ g 9 _ _ v9 k8;exact k9
 . exact(Lf _ ⟨g,9,none⟩ v9 k hk).trans ((Lf _ ⟨g,8,none⟩ v8 k hk).trans ((Lf _ ⟨g,7,none⟩ v7 k hk).trans ((Lf _ ⟨g,6,none⟩ v6 k hk).trans ((Lf _ ⟨g,5,none⟩ v5 k hk).trans ((Lf _ ⟨g,4,none⟩ v4 k hk).trans ((Lf _ ⟨g,3,none⟩ v3 k hk).trans ((Lf _ ⟨g,2,none⟩ v2 k hk).trans ((Lf _ ⟨g,1,none⟩ v1 k hk).trans (Lf _ ⟨g,0,none⟩ v0 k hk)))))))))
 . refine Lw (p:=⟨g,9,none⟩) ?_ hB _
   refine Lw (p:=⟨g,8,none⟩) ?_ hB _;refine Lw (p:=⟨g,7,none⟩) ?_ hB _;refine Lw (p:=⟨g,6,none⟩) ?_ hB _;refine Lw (p:=⟨g,5,none⟩) ?_ hB _;refine Lw (p:=⟨g,4,none⟩) ?_ hB _;refine Lw (p:=⟨g,3,none⟩) ?_ hB _;refine Lw (p:=⟨g,2,none⟩) ?_ hB _;refine Lw (p:=⟨g,1,none⟩) ?_ hB _;refine Lw (p:=⟨g,0,none⟩) ?_ hB _;exact Lo B w
end
section
open Go.RowKit Go.Shelf
attribute [local go_sem] Oper.semAt_some
theorem BAt.of_own{w w':Ba}{base:Nat}{A':Bb}{n c:Nat}{bs:List Bool}(h:OwnR kBl w base (.slice A' n c) n (bs.map .bool))(hn:bs.length=n)(hk:∀k,base<=k->w'.heap[k]?=w.heap[k]?)(hz:w.heap.size<=w'.heap.size):BAt w' w'.heap.size A' bs:=fun h0=>by
 have hlt:=h.lt;obtain⟨A,cap,e,_,_,h3⟩:=h.form
 cases e
 obtain⟨g,rfl,ho,hg,hc⟩:=h3 (by omega);have hb:=(hlt g ho).1;exact⟨g,0,rfl,by omega,fun i hi=>by rw[LH];exact(LA (hk g hb)).trans (hc _ _ (by rw[RQ,Lm hi];rfl))⟩
theorem BAt.raw{w:Ba}{A:Bb}{bs:List Bool}(h:BAt w w.heap.size A bs):Raw w A bs.length (bs.map Value.bool):=fun h0=>by
 obtain⟨b,off,e,hlt,hc⟩:=h h0;refine⟨b,off,e,hlt,fun j u hj=>?_⟩;rw[RQ] at hj;obtain⟨x,hx,rfl⟩:=Option.map_eq_some_iff.1 hj;obtain⟨hl,rfl⟩:=Lq.1 hx;exact hc j hl
theorem row_ne{w:Ba}{g b o:Nat}{xs:List Int}{x:Bool}(h:RowAt w g xs)(hb:w.cell? ⟨b,o,none⟩=some (.bool x)):b≠g:=by
 rintro rfl
 by_cases ho:o<xs.length
 . rw[h.cell o ho] at hb;cases hb
 · have : w.cell? ⟨b, o, none⟩ = none := by
    unfold RowAt at h;simp[World.cell?,h];omega
   rw[this] at hb;cases hb
def evG(s:Sy)(g:Int):List Bool->List Bool:=evL (ptn s) (yx s) (psG s g)
def Xd(s:Sy)(g:Int)(set:List Bool)(w:Ba)(e:Ending)(w':Ba):Prop:=Below w.heap.size w w'/\((zN s g set≠0/\e=.returned (.tuple #[.slice none 0 0,.int .i64 0,.int .i64 (zN s g set)])) \/
 (zN s g set=0/\∃(M gr:Nat),e=.returned (.tuple #[.slice (some ⟨gr,0,none⟩) (ptn s) (ptn s),.int .i64 (M:Int),.int .i64 0])/\M<=ptn s/\zP (ptn s) (evG s g) set (M+1)=zP (ptn s) (evG s g) set M/\(∀m,m<M->zP (ptn s) (evG s g) set (m+1)≠zP (ptn s) (evG s g) set m)/\w.heap.size<=gr/\BRow w' gr (zP (ptn s) (evG s g) set M)))
def Xc(s:Sy)(g:Int)(set:List Bool)(w:Ba)(e:Ending)(w':Ba):Prop:=Below w.heap.size w w'/\((zN s g set≠0/\e=.returned (.tuple #[.slice none 0 0,.int .i64 (zN s g set)])) \/
 (zN s g set=0/\∃(M gr:Nat),e=.returned (.tuple #[.slice (some ⟨gr,0,none⟩) (ptn s) (ptn s),.int .i64 0])/\ya (ptn s) (evG s g) set (M+1)=ya (ptn s) (evG s g) set M/\(∀m,m<M->ya (ptn s) (evG s g) set (m+1)≠ya (ptn s) (evG s g) set m)/\w.heap.size<=gr/\RowAt w' gr (jb (ptn s) (evG s g) set M)))
theorem xE{s:Sy}{g:Int}{set:List Bool}(hf:yR s.p)(h:zN s g set=0):∃G:Nat,g=(G:Int)/\G<32/\s.n.toNat<=5/\1<=ptn s/\ptn s<=700/\set.length=ptn s/\psG s g=zL G s.n.toNat:=by
 obtain⟨h1,h2⟩:=vF h;obtain⟨hv,hg0,hg1⟩:=jq h1;obtain⟨_,K,N,hF⟩:=yn hf hv;obtain⟨f1,f2,_⟩:=YF hf h1;obtain⟨G,rfl⟩:=Lr hg0;have hN:s.n.toNat=N:=by rw[hF.n];rfl
 have hn5:=hF.n5;refine⟨G,rfl,?_,by omega,f1,f2,h2,rfl⟩;rw[hN] at hg1;have:=Ni (n:=2) (show 0<2 by omega) hn5;have h2':((2^N:Nat):Int)=(2:Int)^N:=by push_cast;rfl
 omega
theorem wY(s:Sy)(hs:LowS s)(hf:yR s.p)(g:Int)(set:List Bool)(A SV AV AX AB:Bb)(kc ks kv kx kb:Nat)(hsl:set.length<=1000000)(w:Ba)(hS:SyAt w w.heap.size A SV AV AX s)(hB0:BAt w w.heap.size AB set) :
  Calls Tryz.prog 6 #[.agg (s.vs_ A kc SV ks AV kv AX kx),.int .i64 g,.slice AB set.length kb] w (Xd s g set w):=by
 obtain⟨w1,hw1,d0,hs1,hB⟩:=zn w (s.vs_ A kc SV ks AV kv AX kx) 35;have HO:=zH (vB s hs hf g set A SV AV AX AB kc ks kv kx kb hsl w1 (hS.up hB));have HBA:Hid (∀X,Below w1.heap.size w1 X->BAt X X.heap.size AB set):=fun X hX=>(((hB0.keep hB).more hB.size).keep hX).more hX.size
 have HC:Hid (zN s g set=0->∃(G M:Nat),g=(G:Int)/\M<=ptn s/\zP (ptn s) (evG s g) set (M+1)=zP (ptn s) (evG s g) set M/\(∀m,m<M->zP (ptn s) (evG s g) set (m+1)≠zP (ptn s) (evG s g) set m)/\set.length=ptn s /\
   ∀(bw:Nat) (X:Ba),Below w1.heap.size w1 X->KwAt X X.heap.size bw (ptn s) s.n.toNat (yx s)->Calls Tryz.prog 20 #[.pointer (some ⟨bw,0,none⟩),.int .i64 (G:Int),.slice AB (ptn s) kb] X fun e w'=>∃g':Nat,e=.returned (.tuple #[.slice (some ⟨g',0,none⟩) (ptn s) (ptn s),.int .i64 (M:Int)])/\X.heap.size<=g'/\BRow w' g' (zP (ptn s) (evG s g) set M)/\Below X.heap.size X w'):=fun h=>by
  obtain⟨G,hg,hG,hN,hn1,hn7,hl,hps⟩:=xE hf h;obtain⟨M,m1,m2,m3⟩:=kY (F:=zP (ptn s) (evL (ptn s) (yx s) (psG s g)) set) xp qT;refine⟨G,M,hg,m1,m2,m3,hl,fun bw X hX hK=>?_⟩;unfold evG;rw[hps] at m2 m3 ⊢;exact wW bw (ptn s) s.n.toNat (yx s) hn1 (by omega) hN G hG AB kb set hl M m1 m2 m3 X hK (HBA.out X hX)
 unfold RetOp at HO;unfold Xd;obtain⟨E,hE⟩:=Ki (zN s g set);rw[hE] at HO HC ⊢;obtain⟨n,hn⟩:=Ki (ptn s);rw[hn] at HO HC ⊢;unfold Sy.vs_ at hw1 d0 HO ⊢;have HW1:=zH hw1;have HB:=zH hB;obtain⟨p0,p1,p2,p3,p4,p5,p6,p7,p8,p9⟩:=zB (d0);clear hw1 d0 hB hS hB0 hs hf hE HBA hn;go_enter Tryz.func6,Tryz.ntmps6;go_wp2_with fail;rw[HW1.out];go_wp2_with fail;refine HO.out.mono ?_;rintro e w2 ⟨hb2,hcase⟩;have HB2:=zH hb2;clear p0 p1 p2 p3 p4 p5 p6 p7 p8 p9 hb2 HO HW1;rcases hcase with ⟨h0,rfl⟩ | ⟨rfl,bw,rfl,hK⟩
 . have e0:(E != 0)=true:=by simpa using h0
   clear HC;go_wp2_with fail
   go_ret3
   exact⟨Lc HB.out HB2.out,.inl ⟨h0,rfl⟩⟩
 obtain⟨G,M,rfl,m1,m2,m3,hl,hc⟩:=HC.out rfl;have HCC:=zH (hc bw w2 HB2.out hK);have HM:=zH (And.intro m1 (And.intro m2 m3));rw[hl];clear HC hc m1 m2 m3 hK hl;go_wp2_with fail;refine HCC.out.mono ?_;rintro e w3 ⟨g3,rfl,hg3,hr3,hb3⟩;have HR3:=zH hr3;have HB3:=zH (HB.out.trans ((Lc HB2.out hb3).mono HB.out.size));have hgw:w.heap.size<=g3:=by have:=HB.out.size;have:=HB2.out.size;omega
 clear hr3 hb3 HCC;go_wp2_with fail
 go_ret3
 exact⟨HB3.out,M,g3,rfl,HM.out.1,HM.out.2.1,HM.out.2.2,hgw,HR3.out⟩
end
section
open Go.RowKit
def uc(n:Nat)(a:List Bool):List Bool:=(List.range n).map fun i=>!(a.getD i false)
theorem qU(n:Nat)(a:List Bool):(uc n a).length=n:=by simp[uc]
theorem Xu{n:Nat}{a:List Bool}{i:Nat}(h:i<n):(uc n a).getD i false=!(a.getD i false):=by
 rw[zt (by rw[qU];exact h)];simp[uc]
section
variable {n:Nat} {cls:Nat->List Int} {ps:List Nat}
theorem QE{set:List Bool}(hs:set.length=n){i:Nat}:∀ {m m':Nat},m<=m'->(ya n (evL n cls ps) set m').getD i false=true->(ya n (evL n cls ps) set m).getD i false=true:=by
 intro m m' h
 induction m' with
 | zero => intro e; have : m = 0 := by omega
           subst this;exact e
 | succ k ih=>
  intro e
  by_cases hk:m=k+1
  . subst hk;exact e
  . exact ih (by omega) (jc hs k i e)
theorem uQ{set:List Bool}{M:Nat}(hM:ya n (evL n cls ps) set (M+1)=ya n (evL n cls ps) set M):∀m,ya n (evL n cls ps) set (M+m)=ya n (evL n cls ps) set M
 | 0=>rfl
 | m+1=>by
  show ya n (evL n cls ps) set (M+m+1)=_;rw[ya,uQ hM m];exact hM
theorem lev_up{set:List Bool}{M m:Nat}(hM:ya n (evL n cls ps) set (M+1)=ya n (evL n cls ps) set M)(h:M<=m):ya n (evL n cls ps) set m=ya n (evL n cls ps) set M:=by
 have:=uQ hM (m-M);rwa[show M+(m-M)=m by omega] at this
theorem out_ge{set:List Bool}(hs:set.length=n){i:Nat}(hi:i<n):∀(M m:Nat),(m:Int)<=(yf n (evL n cls ps) set M).getD i 0↔m<M/\(ya n (evL n cls ps) set m).getD i false=true
 | 0,m=>by
  rw[yf,Lj,Nt,Lh hi];simp only[Option.getD_some];exact⟨fun h=>by omega,fun h=>by omega⟩
 | M+1,m=>by
  have ih:=out_ge hs hi M m;rw[yf,zt (by simpa using hi),LZ,Nb]
  cases hl:(ya n (evL n cls ps) set M).getD i false with
  | true=>
   rw[Lh rfl];constructor
   . intro h;exact⟨by omega,QE hs (by omega) hl⟩
   . intro h;omega
  | false=>
   rw[Lg (by simp),ih];constructor
   . rintro⟨h1,h2⟩;exact⟨by omega,h2⟩
   . rintro⟨h1,h2⟩
     refine⟨?_,h2⟩
     by_cases e:m=M
     . subst e;rw[hl] at h2;cases h2
     . omega
theorem JM{set:List Bool}{i:Nat}(hi:i<n):∀(M:Nat),-1<=(yf n (evL n cls ps) set M).getD i 0/\(yf n (evL n cls ps) set M).getD i 0<=(M:Int)-1
 | 0=>by
  rw[yf,Lj,Nt,Lh hi];simp only[Option.getD_some];omega
 | M+1=>by
  have ih:=JM (set:=set) hi M;rw[yf,zt (by simpa using hi),LZ,Nb]
  split<;>omega
end
section
variable {s:Sy} {K N:Nat}
end
end
end Go.Proofs.YtohjmddnennajaaGreatDoor
