/- Merged. -/
import Derived.Test.YtkmbdfdaffmhjaaGreatTg
open Go.Proofs.Tryz
open Go.Value renaming int->O,slice->I,bool->Ah,agg->Ai,pointer->Aj
open Go.IntKind renaming i64->U
open Option renaming none->Z,some->J
open Go.Obj renaming cells->Ag
open Go.Ending renaming returned->Ak
open Go.Proofs.Tryz renaming prog->Al
open Go.RowKit renaming Below->Am,intOf->Ap,Hid->Aq
open Go renaming Calls->An,Value->Ar
open Bool renaming true->Au,false->Aw
namespace Go.Proofs.YtkmbdfdaffmhjaaGreat
abbrev Sk:=@Int.ofNat_tmod
set_option maxRecDepth 100000
set_option maxHeartbeats 4000000
section
open Go.RowKit Go.Shelf
attribute [local go_sem] Oper.semAt_some
theorem kW(g:Int)(F:Fm)(v:Ar)(w:Ba)(S:Nat->Prop)(hF:FmX w S F v):An Al 10 #[O U 10,O U g,v] w (RetFm S (f1 10 g 0 F) w):=by
 obtain⟨d,A,c,rfl,hA⟩:=hF;unfold Fm.vs;obtain⟨w1,ae,d0,aw,aB⟩:=zm w #[O U F.h.op,O U F.h.p,O U F.h.o,O U F.h.v,O U F.h.g,I A F.args.length c] 32;obtain⟨w2,aC,d1,bQ,az⟩:=zm w1 #[O U 0,O U 0,O U 0,O U 0,O U 0,I Z 0 0] 32;have d0:=Lb az (by omega) d0;rw[aw] at d1 bQ;obtain⟨w3,cO,d2,dx,ck⟩:=zm w2 #[O U F.h.op,O U F.h.p,O U F.h.o,O U F.h.v,O U F.h.g,I A F.args.length c] 32;rw[bQ] at d2 dx;obtain⟨w4,ip,d3,iU,fZ⟩:=zm w3 #[O U 10,O U 0,O U 0,O U 0,O U 0,I (J ⟨w.heap.size+1+1,0,Z⟩) 1 1] 32;rw[dx] at d3 iU;have d2:=Lb fZ (by omega) d2;have e1:=Lb fZ (by omega) (Lb ck (by omega) d1);have Az:Am w.heap.size w w4:=((aB.trans (az.mono (by omega))).trans (ck.mono (by omega))).trans (fZ.mono (by omega));obtain⟨w5,eU⟩:=Kk (w4.setCell ⟨w.heap.size+1+1+1,1,Z⟩ (O U g));have k5:∀z,z≠w.heap.size+1+1+1->w5.heap[z]?=w4.heap[z]?:=fun z hz=>by rw[<-eU];exact Lf w4 ⟨_,1,Z⟩ _ z hz
 have cZ:w5.heap.size=w4.heap.size:=by rw[<-eU];simp[World.setCell]
 have HA:=zH hA;have HB:Aq (Am w.heap.size w w5):=by rw[Aq,<-eU];exact Az.setCell (by show w.heap.size<=w.heap.size+1+1+1;omega) _
 have E1:=zH ((k5 _ (by omega)).trans e1);have E2:=zH ((k5 _ (by omega)).trans d2);have ak:=zH ae;have dK:=zH aC;have fI:=zH cO;have iI:=zH ip;have lC:=zH eU;have HZ:=zH (And.intro iU cZ);obtain⟨q0,q1,q2,q3,q4,q5,_⟩:=Ki d0;obtain⟨r0,r1,r2,r3,r4,r5,_⟩:=Ki e1;have g0:=zi e1 0;have g1:=zi e1 1;have g2:=zi e1 2;have g3:=zi e1 3;have g4:=zi e1 4;have g5:=zi e1 5;obtain⟨c0,c1,c2,c3,c4,c5,_⟩:=Ki d3;have k0:=zi d3 0;have k1:=zi d3 1;have k2:=zi d3 2;have k3:=zi d3 3;have k4:=zi d3 4;have k5:=zi d3 5;clear hA ae aC cO ip eU d0 d1 d2 d3 e1 aB az ck fZ Az k5 cZ;go_enter func10,ntmps10;go_upto_region 1 with fail
 rw[ak.out,dK.out];go_upto_region 2 with fail
 rw[fI.out,iI.out];go_wp2_with fail;rw[lC.out];obtain⟨WF,cM,f1,f2,f3,f4⟩:=xU E1.out (O U 10) (O U g) (O U 0) (O U 0) (O U 0) (I (J ⟨w.heap.size+1+1,0,Z⟩) 1 1);rw[cM];have hz:=HZ.out
 (try simp only[Exit.inBlock,Exit.then])
 refine LI (L9 (P:=Al) rfl _ _ (w.heap.size+1) 32 _ (0,0) _ rfl f1 LW rfl (by kernel_rfl)) rfl ?_;have fw:Am w.heap.size w5 WF:=f3 _ (by omega);have ir:=HB.out.trans fw;have hE:WF.heap[w.heap.size+1+1]?=J (Ag (F.vs A c) 32 (0,0)):=(f2 _ (by omega)).trans E2.out;obtain⟨D,hD⟩:=Yx (S:=fun k=>S k\/w.heap.size<=k) hE (.inr (by omega)) (HA.out.keep ir.size fun k hk hs=>⟨.inl hs,ir.block k hk⟩);exact⟨_,rfl,⟨D,J ⟨w.heap.size+1+1,0,Z⟩,1,rfl,hD⟩,ir⟩
theorem qS(op:Int)(cS:op=11\/op=12\/op=13)(g:Int)(F:Fm)(v:Ar)(w:Ba)(S:Nat->Prop)(hF:FmX w S F v):An Al 10 #[O U op,O U g,v] w (RetFm S (f1 op 0 g F) w):=by
 obtain⟨d,A,c,rfl,hA⟩:=hF;unfold Fm.vs;obtain⟨w1,ae,d0,aw,aB⟩:=zm w #[O U F.h.op,O U F.h.p,O U F.h.o,O U F.h.v,O U F.h.g,I A F.args.length c] 32;obtain⟨w2,aC,d1,bQ,az⟩:=zm w1 #[O U 0,O U 0,O U 0,O U 0,O U 0,I Z 0 0] 32;have d0:=Lb az (by omega) d0;rw[aw] at d1 bQ;obtain⟨w3,cO,d2,dx,ck⟩:=zm w2 #[O U F.h.op,O U F.h.p,O U F.h.o,O U F.h.v,O U F.h.g,I A F.args.length c] 32;rw[bQ] at d2 dx;obtain⟨w4,ip,d3,iU,fZ⟩:=zm w3 #[O U op,O U 0,O U 0,O U 0,O U 0,I (J ⟨w.heap.size+1+1,0,Z⟩) 1 1] 32;rw[dx] at d3 iU;have d2:=Lb fZ (by omega) d2;have e1:=Lb fZ (by omega) (Lb ck (by omega) d1);have Az:Am w.heap.size w w4:=((aB.trans (az.mono (by omega))).trans (ck.mono (by omega))).trans (fZ.mono (by omega));obtain⟨w5,eU⟩:=Kk (w4.setCell ⟨w.heap.size+1+1+1,4,Z⟩ (O U g));have k5:∀z,z≠w.heap.size+1+1+1->w5.heap[z]?=w4.heap[z]?:=fun z hz=>by rw[<-eU];exact Lf w4 ⟨_,4,Z⟩ _ z hz
 have cZ:w5.heap.size=w4.heap.size:=by rw[<-eU];simp[World.setCell]
 have HA:=zH hA;have HB:Aq (Am w.heap.size w w5):=by rw[Aq,<-eU];exact Az.setCell (by show w.heap.size<=w.heap.size+1+1+1;omega) _
 have E1:=zH ((k5 _ (by omega)).trans e1);have E2:=zH ((k5 _ (by omega)).trans d2);have ak:=zH ae;have dK:=zH aC;have fI:=zH cO;have iI:=zH ip;have lC:=zH eU;have HZ:=zH (And.intro iU cZ);obtain⟨q0,q1,q2,q3,q4,q5,_⟩:=Ki d0;obtain⟨r0,r1,r2,r3,r4,r5,_⟩:=Ki e1;have g0:=zi e1 0;have g1:=zi e1 1;have g2:=zi e1 2;have g3:=zi e1 3;have g4:=zi e1 4;have g5:=zi e1 5;obtain⟨c0,c1,c2,c3,c4,c5,_⟩:=Ki d3;have k0:=zi d3 0;have k1:=zi d3 1;have k2:=zi d3 2;have k3:=zi d3 3;have k4:=zi d3 4;have k5:=zi d3 5;have rj:(op==10)=Aw:=by rcases cS with rfl | rfl | rfl<;>rfl
 clear cS;clear hA ae aC cO ip eU d0 d1 d2 d3 e1 aB az ck fZ Az k5 cZ;go_enter func10,ntmps10;go_upto_region 1 with fail
 rw[ak.out,dK.out];go_upto_region 2 with fail
 rw[fI.out,iI.out];go_wp2_with fail;rw[lC.out];obtain⟨WF,cM,f1,f2,f3,f4⟩:=xU E1.out (O U op) (O U 0) (O U 0) (O U 0) (O U g) (I (J ⟨w.heap.size+1+1,0,Z⟩) 1 1);rw[cM];have hz:=HZ.out
 (try simp only[Exit.inBlock,Exit.then])
 refine LI (L9 (P:=Al) rfl _ _ (w.heap.size+1) 32 _ (0,0) _ rfl f1 LW rfl (by kernel_rfl)) rfl ?_;have fw:Am w.heap.size w5 WF:=f3 _ (by omega);have ir:=HB.out.trans fw;have hE:WF.heap[w.heap.size+1+1]?=J (Ag (F.vs A c) 32 (0,0)):=(f2 _ (by omega)).trans E2.out;obtain⟨D,hD⟩:=Yx (S:=fun k=>S k\/w.heap.size<=k) hE (.inr (by omega)) (HA.out.keep ir.size fun k hk hs=>⟨.inl hs,ir.block k hk⟩);exact⟨_,rfl,⟨D,J ⟨w.heap.size+1+1,0,Z⟩,1,rfl,hD⟩,ir⟩
theorem xb(g:Int)(b:Nat)(F:Fm)(v:Ar)(w:Ba)(hb:w.cell? ⟨b,0,Z⟩=J (O U g))(hF:FmA w F v):An Al 9 #[v,Aj (J ⟨b,0,Z⟩)] w (kG (f1 10 g 0 F) w):=by
 have cd:=zH hF;obtain⟨d,A,c,rfl,hA⟩:=hF;unfold Fm.vs at cd ⊢;obtain⟨w1,ae,d0,aw,aB⟩:=zm w #[O U F.h.op,O U F.h.p,O U F.h.o,O U F.h.v,O U F.h.g,I A F.args.length c] 32;obtain⟨w2,aC,d1,bQ,az⟩:=zm w1 #[O U 0,O U 0,O U 0,O U 0,O U 0,I Z 0 0] 32;have d0:=Lb az (by omega) d0;rw[aw] at d1 bQ;have aF:Am w.heap.size w w2:=aB.trans (az.mono (by omega));have y0:=(aF.cell (p:=⟨b,0,Z⟩) (LG w _ hb)).trans hb;have HC:=zH (kW g F _ w2 (fun k=>k<w.heap.size) (FmX.keep cd.out aF.size fun k hk _=>⟨hk,aF.block k hk⟩));have HB:=zH aF;have HZ:=zH bQ;have D1:=zH d1;have ak:=zH ae;have dK:=zH aC;obtain⟨q0,q1,q2,q3,q4,q5,_⟩:=Ki d0;unfold RetFm at HC;clear hA ae aC d0 d1 aB az aF hb;go_enter func9,ntmps9;go_upto_region 1 with fail
 rw[ak.out,dK.out];go_wp2_with fail;refine HC.out.mono ?_;rintro e w5 ⟨v5,rfl,oK,aj⟩;obtain⟨d5,A5,c5,rfl,ld⟩:=oK;have e2:=Lb aj (by omega) D1.out;have aK:=zH aj;have lE:=zH ld;have E2:=zH e2;obtain⟨r0,r1,r2,r3,r4,r5,_⟩:=Ki e2;have g0:=zi e2 0;have g1:=zi e2 1;have g2:=zi e2 2;have g3:=zi e2 3;have g4:=zi e2 4;have g5:=zi e2 5;unfold Fm.vs;clear ld aj e2;go_wp2_with fail;obtain⟨WF,cM,f1,f2,f3,f4⟩:=xU E2.out (O U (f1 10 g 0 F).h.op) (O U (f1 10 g 0 F).h.p) (O U (f1 10 g 0 F).h.o) (O U (f1 10 g 0 F).h.v) (O U (f1 10 g 0 F).h.g) (.slice A5 (f1 10 g 0 F).args.length c5);rw[cM]
 (try simp only[Exit.inBlock,Exit.then])
 refine LI (L9 (P:=Al) rfl _ _ (w.heap.size+1) 32 _ (0,0) _ rfl f1 LW rfl (by kernel_rfl)) rfl ?_;have hz:=HZ.out;have fw:Am w.heap.size w5 WF:=f3 _ (by omega);have cZ:=aK.out.size;refine⟨_,rfl,⟨d5,A5,c5,rfl,lE.out.keep (by omega) fun k hk hs=>⟨trivial,f2 k ?_⟩⟩,(Lc HB.out aK.out).trans fw⟩;rcases hs with hs | hs<;>omega
theorem xx(g:Int)(b:Nat)(F:Fm)(v:Ar)(w:Ba)(hb:w.cell? ⟨b,0,Z⟩=J (O U g))(hF:FmA w F v):An Al 15 #[v,Aj (J ⟨b,0,Z⟩)] w (kG (f1 12 0 g F) w):=by
 have cd:=zH hF;obtain⟨d,A,c,rfl,hA⟩:=hF;unfold Fm.vs at cd ⊢;obtain⟨w1,ae,d0,aw,aB⟩:=zm w #[O U F.h.op,O U F.h.p,O U F.h.o,O U F.h.v,O U F.h.g,I A F.args.length c] 32;obtain⟨w2,aC,d1,bQ,az⟩:=zm w1 #[O U 0,O U 0,O U 0,O U 0,O U 0,I Z 0 0] 32;have d0:=Lb az (by omega) d0;rw[aw] at d1 bQ;have aF:Am w.heap.size w w2:=aB.trans (az.mono (by omega));have y0:=(aF.cell (p:=⟨b,0,Z⟩) (LG w _ hb)).trans hb;have HC:=zH (qS 12 (by simp) g F _ w2 (fun k=>k<w.heap.size) (FmX.keep cd.out aF.size fun k hk _=>⟨hk,aF.block k hk⟩));have HB:=zH aF;have HZ:=zH bQ;have D1:=zH d1;have ak:=zH ae;have dK:=zH aC;obtain⟨q0,q1,q2,q3,q4,q5,_⟩:=Ki d0;unfold RetFm at HC;clear hA ae aC d0 d1 aB az aF hb;go_enter func15,ntmps15;go_upto_region 1 with fail
 rw[ak.out,dK.out];go_wp2_with fail;refine HC.out.mono ?_;rintro e w5 ⟨v5,rfl,oK,aj⟩;obtain⟨d5,A5,c5,rfl,ld⟩:=oK;have e2:=Lb aj (by omega) D1.out;have aK:=zH aj;have lE:=zH ld;have E2:=zH e2;obtain⟨r0,r1,r2,r3,r4,r5,_⟩:=Ki e2;have g0:=zi e2 0;have g1:=zi e2 1;have g2:=zi e2 2;have g3:=zi e2 3;have g4:=zi e2 4;have g5:=zi e2 5;unfold Fm.vs;clear ld aj e2;go_wp2_with fail;obtain⟨WF,cM,f1,f2,f3,f4⟩:=xU E2.out (O U (f1 12 0 g F).h.op) (O U (f1 12 0 g F).h.p) (O U (f1 12 0 g F).h.o) (O U (f1 12 0 g F).h.v) (O U (f1 12 0 g F).h.g) (.slice A5 (f1 12 0 g F).args.length c5);rw[cM]
 (try simp only[Exit.inBlock,Exit.then])
 refine LI (L9 (P:=Al) rfl _ _ (w.heap.size+1) 32 _ (0,0) _ rfl f1 LW rfl (by kernel_rfl)) rfl ?_;have hz:=HZ.out;have fw:Am w.heap.size w5 WF:=f3 _ (by omega);have cZ:=aK.out.size;refine⟨_,rfl,⟨d5,A5,c5,rfl,lE.out.keep (by omega) fun k hk hs=>⟨trivial,f2 k ?_⟩⟩,(Lc HB.out aK.out).trans fw⟩;rcases hs with hs | hs<;>omega
theorem uy(g:Int)(b:Nat)(F:Fm)(v:Ar)(w:Ba)(hb:w.cell? ⟨b,0,Z⟩=J (O U g))(hF:FmA w F v):An Al 16 #[v,Aj (J ⟨b,0,Z⟩)] w (kG (f1 11 0 g F) w):=by
 have cd:=zH hF;obtain⟨d,A,c,rfl,hA⟩:=hF;unfold Fm.vs at cd ⊢;obtain⟨w1,ae,d0,aw,aB⟩:=zm w #[O U F.h.op,O U F.h.p,O U F.h.o,O U F.h.v,O U F.h.g,I A F.args.length c] 32;obtain⟨w2,aC,d1,bQ,az⟩:=zm w1 #[O U 0,O U 0,O U 0,O U 0,O U 0,I Z 0 0] 32;have d0:=Lb az (by omega) d0;rw[aw] at d1 bQ;have aF:Am w.heap.size w w2:=aB.trans (az.mono (by omega));have y0:=(aF.cell (p:=⟨b,0,Z⟩) (LG w _ hb)).trans hb;have HC:=zH (qS 11 (by simp) g F _ w2 (fun k=>k<w.heap.size) (FmX.keep cd.out aF.size fun k hk _=>⟨hk,aF.block k hk⟩));have HB:=zH aF;have HZ:=zH bQ;have D1:=zH d1;have ak:=zH ae;have dK:=zH aC;obtain⟨q0,q1,q2,q3,q4,q5,_⟩:=Ki d0;unfold RetFm at HC;clear hA ae aC d0 d1 aB az aF hb;go_enter func16,ntmps16;go_upto_region 1 with fail
 rw[ak.out,dK.out];go_wp2_with fail;refine HC.out.mono ?_;rintro e w5 ⟨v5,rfl,oK,aj⟩;obtain⟨d5,A5,c5,rfl,ld⟩:=oK;have e2:=Lb aj (by omega) D1.out;have aK:=zH aj;have lE:=zH ld;have E2:=zH e2;obtain⟨r0,r1,r2,r3,r4,r5,_⟩:=Ki e2;have g0:=zi e2 0;have g1:=zi e2 1;have g2:=zi e2 2;have g3:=zi e2 3;have g4:=zi e2 4;have g5:=zi e2 5;unfold Fm.vs;clear ld aj e2;go_wp2_with fail;obtain⟨WF,cM,f1,f2,f3,f4⟩:=xU E2.out (O U (f1 11 0 g F).h.op) (O U (f1 11 0 g F).h.p) (O U (f1 11 0 g F).h.o) (O U (f1 11 0 g F).h.v) (O U (f1 11 0 g F).h.g) (.slice A5 (f1 11 0 g F).args.length c5);rw[cM]
 (try simp only[Exit.inBlock,Exit.then])
 refine LI (L9 (P:=Al) rfl _ _ (w.heap.size+1) 32 _ (0,0) _ rfl f1 LW rfl (by kernel_rfl)) rfl ?_;have hz:=HZ.out;have fw:Am w.heap.size w5 WF:=f3 _ (by omega);have cZ:=aK.out.size;refine⟨_,rfl,⟨d5,A5,c5,rfl,lE.out.keep (by omega) fun k hk hs=>⟨trivial,f2 k ?_⟩⟩,(Lc HB.out aK.out).trans fw⟩;rcases hs with hs | hs<;>omega
theorem xP(g:Int)(b:Nat)(F:Fm)(v:Ar)(w:Ba)(hb:w.cell? ⟨b,0,Z⟩=J (O U g))(hF:FmA w F v):An Al 17 #[v,Aj (J ⟨b,0,Z⟩)] w (kG (f1 13 0 g F) w):=by
 have cd:=zH hF;obtain⟨d,A,c,rfl,hA⟩:=hF;unfold Fm.vs at cd ⊢;obtain⟨w1,ae,d0,aw,aB⟩:=zm w #[O U F.h.op,O U F.h.p,O U F.h.o,O U F.h.v,O U F.h.g,I A F.args.length c] 32;obtain⟨w2,aC,d1,bQ,az⟩:=zm w1 #[O U 0,O U 0,O U 0,O U 0,O U 0,I Z 0 0] 32;have d0:=Lb az (by omega) d0;rw[aw] at d1 bQ;have aF:Am w.heap.size w w2:=aB.trans (az.mono (by omega));have y0:=(aF.cell (p:=⟨b,0,Z⟩) (LG w _ hb)).trans hb;have HC:=zH (qS 13 (by simp) g F _ w2 (fun k=>k<w.heap.size) (FmX.keep cd.out aF.size fun k hk _=>⟨hk,aF.block k hk⟩));have HB:=zH aF;have HZ:=zH bQ;have D1:=zH d1;have ak:=zH ae;have dK:=zH aC;obtain⟨q0,q1,q2,q3,q4,q5,_⟩:=Ki d0;unfold RetFm at HC;clear hA ae aC d0 d1 aB az aF hb;go_enter func17,ntmps17;go_upto_region 1 with fail
 rw[ak.out,dK.out];go_wp2_with fail;refine HC.out.mono ?_;rintro e w5 ⟨v5,rfl,oK,aj⟩;obtain⟨d5,A5,c5,rfl,ld⟩:=oK;have e2:=Lb aj (by omega) D1.out;have aK:=zH aj;have lE:=zH ld;have E2:=zH e2;obtain⟨r0,r1,r2,r3,r4,r5,_⟩:=Ki e2;have g0:=zi e2 0;have g1:=zi e2 1;have g2:=zi e2 2;have g3:=zi e2 3;have g4:=zi e2 4;have g5:=zi e2 5;unfold Fm.vs;clear ld aj e2;go_wp2_with fail;obtain⟨WF,cM,f1,f2,f3,f4⟩:=xU E2.out (O U (f1 13 0 g F).h.op) (O U (f1 13 0 g F).h.p) (O U (f1 13 0 g F).h.o) (O U (f1 13 0 g F).h.v) (O U (f1 13 0 g F).h.g) (.slice A5 (f1 13 0 g F).args.length c5);rw[cM]
 (try simp only[Exit.inBlock,Exit.then])
 refine LI (L9 (P:=Al) rfl _ _ (w.heap.size+1) 32 _ (0,0) _ rfl f1 LW rfl (by kernel_rfl)) rfl ?_;have hz:=HZ.out;have fw:Am w.heap.size w5 WF:=f3 _ (by omega);have cZ:=aK.out.size;refine⟨_,rfl,⟨d5,A5,c5,rfl,lE.out.keep (by omega) fun k hk hs=>⟨trivial,f2 k ?_⟩⟩,(Lc HB.out aK.out).trans fw⟩;rcases hs with hs | hs<;>omega
end
section
open Go.RowKit
attribute [local go_sem] Oper.semAt_some
def wh(w:Ba)(e:Ending)(w':Ba):Prop:=∃b:Bool,e=Ak (Ah b)/\Am w.heap.size w w'
def RetIx(w:Ba)(e:Ending)(w':Ba):Prop:=∃r:Int,e=Ak (O U r)/\Am w.heap.size w w'
theorem ZX(f g:Fm)(A B:Bb)(c e:Nat)(w:Ba)(hl:f.args.length<=1000000)
  (Cp:RecAt w A f.args fun cs _ X=>∀(y:Fm) (B':Bb) (e' d':Nat),FsAt X X.heap.size d' B' y.args->An Al 161 #[.agg cs,.agg (y.vs B' e')] X (wh X))
  (hrg:RecAt w B g.args fun cs y X=>∃(B':Bb) (e' d':Nat),cs=y.vs B' e'/\FsAt X X.heap.size d' B' y.args) :
  An Al 161 #[.agg (f.vs A c),.agg (g.vs B e)] w (wh w):=by
 obtain⟨w1,ae,d0,d1,aw,hB⟩:=xk w (f.vs A c) (g.vs B e) 32 32;have IR:=zH Cp;have Ox:=zH hrg;unfold Fm.vs at ae d0 d1 ⊢;unfold wh at IR ⊢;obtain⟨l,aN⟩:=Kk f.args;obtain⟨u,huu⟩:=Kk g.args;rw[aN] at ae d0 IR hl ⊢;rw[huu] at ae d1 Ox ⊢;obtain⟨n,hn⟩:=Kk l.length;have HN:=zH hn;rw[hn] at ae d0 hl ⊢;obtain⟨m,hm⟩:=Kk u.length;have HM:=zH hm;rw[hm] at ae d1 ⊢;obtain⟨a0,MD⟩:=Kk f.h.op;obtain⟨a1,fP⟩:=Kk f.h.p;obtain⟨a2,ra⟩:=Kk f.h.o;obtain⟨a3,MB⟩:=Kk f.h.v;obtain⟨a4,CK⟩:=Kk f.h.g;obtain⟨b0,lL⟩:=Kk g.h.op;obtain⟨b1,aQ⟩:=Kk g.h.p;obtain⟨b2,ah⟩:=Kk g.h.o;obtain⟨b3,al⟩:=Kk g.h.v;obtain⟨b4,aP⟩:=Kk g.h.g;rw[MD,fP,ra,MB,CK] at ae d0 ⊢;rw[lL,aQ,ah,al,aP] at ae d1 ⊢;have ak:=zH ae;have HB:=zH hB;have D0:Aq (∀X,Am w1.heap.size w1 X->X.heap[w.heap.size]?=J (Ag #[O U a0,O U a1,O U a2,O U a3,O U a4,I A n c] 32 (0,0))):=fun X hX=>La hX d0
 have D1:Aq (∀X,Am w1.heap.size w1 X->X.heap[w.heap.size+1]?=J (Ag #[O U b0,O U b1,O U b2,O U b3,O U b4,I B m e] 32 (0,0))):=fun X hX=>La hX d1
 obtain⟨p0,p1,p2,p3,p4,p5,_⟩:=Ki (d0);obtain⟨q0,q1,q2,q3,q4,q5,_⟩:=Ki (d1);clear ae d0 d1 hB Cp hrg aN huu hn hm MD fP ra MB CK lL aQ ah al aP;have HF:Aq (∀X,Am w1.heap.size w1 X->∀b:Bool,∃b':Bool,Ak (Ah b)=Ak (Ah b')/\Am w.heap.size w X):=fun X hX b=>⟨b,rfl,Lc HB.out hX⟩
 go_enter func161,ntmps161;go_upto_region 1 with fail
 rw[ak.out];obtain⟨x0,iT⟩:∃x,(a0 != b0)=x:=⟨_,rfl⟩;obtain⟨x1,sS⟩:∃x,(a1 != b1)=x:=⟨_,rfl⟩;obtain⟨x2,So⟩:∃x,(a2 != b2)=x:=⟨_,rfl⟩;obtain⟨x3,hx3⟩:∃x,(a3 != b3)=x:=⟨_,rfl⟩;obtain⟨x4,hx4⟩:∃x,(a4 != b4)=x:=⟨_,rfl⟩;obtain⟨x5,H'⟩:∃x,((n:Int) != (m:Int))=x:=⟨_,rfl⟩
 cases x0
 case true=>
  go_wp2_with fail;go_ret
  first | exact HF.out _ (Li _ _) Aw | exact(HB.out)
 cases x1
 case true=>
  go_wp2_with fail;go_ret
  first | exact HF.out _ (Li _ _) Aw | exact(HB.out)
 cases x2
 case true=>
  go_wp2_with fail;go_ret
  first | exact HF.out _ (Li _ _) Aw | exact(HB.out)
 cases x3
 case true=>
  go_wp2_with fail;go_ret
  first | exact HF.out _ (Li _ _) Aw | exact(HB.out)
 cases x4
 case true=>
  clear IR Ox;go_wp2_with fail;go_ret
  first | exact HF.out _ (Li _ _) Aw | exact(HB.out)
 cases x5
 case true=>
  clear IR Ox;go_wp2_with fail;go_ret
  first | exact HF.out _ (Li _ _) Aw | exact(HB.out)
 have tM:m=n:=by
  have:=H';simp at this;omega
 subst tM;go_wp2_with fail
 go_loopw [5] (fun i wr=>∃k:Nat,k<=m/\i=O U (k:Int)/\Aq (Am w1.heap.size w1 wr)) (fun i _=>m-(Ap i).toNat)
 case atStart=>exact⟨0,by omega,rfl,Li _ _⟩
 obtain⟨k,hk,rfl,bD⟩:=hrel;clear p0 p1 p2 p3 p4 p5 q0 q1 q2 q3 q4 q5 ak;have pm:IntKind.i64.wrap ((k:Int)+1)=((k+1:Nat):Int):=by rw[Ll];omega
 obtain⟨p0,p1,p2,p3,p4,p5,_⟩:=Ki (D0.out _ bD.out);obtain⟨q0,q1,q2,q3,q4,q5,_⟩:=Ki (D1.out _ bD.out)
 by_cases ac:k<m
 . have dS:(0:Int)<=(k:Int):=by omega
   have aW:(k:Int)<(m:Int):=by omega
   obtain⟨bb,ob,A',c',eA,cj,ap,aJ⟩:=IR.out k (by rw[HN.out];exact ac);obtain⟨bu,ou,B',e',eB,hbu,DW,dp⟩:=Ox.out k (by rw[HM.out];exact ac);subst eA;subst eB;have fL:Am w.heap.size w wr:=Lc HB.out bD.out;have oy:=fL.drew;obtain⟨B2,e2,d2,eq2,rO⟩:=dp _ oy;have hC:=aJ _ oy _ B2 e2 d2 rO;rw[<-eq2] at hC;have hc:=ap _ oy;have nM:=DW _ oy;obtain⟨x,hx⟩:=Kk (l[k]'(by rw[HN.out];exact ac));obtain⟨y,hy⟩:=Kk (u[k]'(by rw[HM.out];exact ac));simp only[hx] at hc hC;simp only[hy] at nM hC;obtain⟨⟨h0,h1,h2,h3,h4⟩,xl⟩:=x;obtain⟨⟨i0,i1,i2,i3,i4⟩,yl⟩:=y;have hc:∀j v,#[O U h0,O U h1,O U h2,O U h3,O U h4,I A' xl.length c'][j]?=J v->wr.drew.cell? ⟨bb,ob+k*6+j,Z⟩=J v:=hc;have nM:∀j v,#[O U i0,O U i1,O U i2,O U i3,O U i4,I B' yl.length e'][j]?=J v->wr.drew.cell? ⟨bu,ou+k*6+j,Z⟩=J v:=nM;simp only[Fm.vs,Fm.args,Fm.h] at hC;have HC:=zH hC;have z0:wr.drew.cell? ⟨bb,ob+k*6,Z⟩=J (O U h0):=hc 0 _ rfl;have z1:wr.drew.cell? ⟨bb,ob+k*6+1,Z⟩=J (O U h1):=hc 1 _ rfl;have z2:wr.drew.cell? ⟨bb,ob+k*6+2,Z⟩=J (O U h2):=hc 2 _ rfl;have z3:wr.drew.cell? ⟨bb,ob+k*6+3,Z⟩=J (O U h3):=hc 3 _ rfl;have z4:wr.drew.cell? ⟨bb,ob+k*6+4,Z⟩=J (O U h4):=hc 4 _ rfl;have z5:wr.drew.cell? ⟨bb,ob+k*6+5,Z⟩=J (I A' xl.length c'):=hc 5 _ rfl
   have v0:wr.drew.cell? ⟨bu,ou+k*6,Z⟩=J (O U i0):=nM 0 _ rfl;have v1:wr.drew.cell? ⟨bu,ou+k*6+1,Z⟩=J (O U i1):=nM 1 _ rfl;have v2:wr.drew.cell? ⟨bu,ou+k*6+2,Z⟩=J (O U i2):=nM 2 _ rfl;have v3:wr.drew.cell? ⟨bu,ou+k*6+3,Z⟩=J (O U i3):=nM 3 _ rfl;have v4:wr.drew.cell? ⟨bu,ou+k*6+4,Z⟩=J (O U i4):=nM 4 _ rfl;have v5:wr.drew.cell? ⟨bu,ou+k*6+5,Z⟩=J (I B' yl.length e'):=nM 5 _ rfl;have Dd:=zH bD.out.drew;clear ap DW aJ dp hC hx hy hc nM rO eq2 oy fL bD;go_upto_region 6 with fail
   refine zt [(0,Au),(1,Au),(2,Au),(3,Au),(4,Au),(5,Au),(6,Au),(7,Au),(8,Au),(9,Au),(10,Aw),(11,Aw)] (fun X=>X=wr.drew) (by kernel_rfl) (by kernel_rfl) rfl ?_;have p5:wr.drew.cell? ⟨w.heap.size,5,Z⟩=J (I (J ⟨bb,ob,Z⟩) m c):=p5;have q5:wr.drew.cell? ⟨w.heap.size+1,5,Z⟩=J (I (J ⟨bu,ou,Z⟩) m e):=q5
   repeat
    apply zj rfl
    . rintro K' aa X rfl
      go_simp;exact aa
   refine yb rfl (by kernel_rfl) ?_;intro K' aa;go_simp;refine HC.out.mono ?_;rintro e w3 ⟨bo,rfl,al⟩;have bK:=zH (Lc Dd.out al);refine aa (fun _=>True) _ _ trivial ?_;clear aa K' al HC z0 z1 z2 z3 z4 z5 v0 v1 v2 v3 v4 v5;refine zn rfl ?_;intro K' aa;go_simp;refine aa _ _ trivial ?_;clear aa K';refine zy ?_
   cases bo with
   | false=>
    clear IR Ox;go_wp2_with fail;go_ret
    first | exact HF.out _ bK.out Aw | exact⟨⟨Aw,rfl⟩,Lc HB.out bK.out⟩ | exact Lc HB.out bK.out
   | true=>
    go_wp2_with fail
    go_roundw
    case rel=>exact⟨k+1,by omega,by go_num,bK⟩
    case measure=>simp[Ap];omega
 obtain rfl:k=m:=by omega
 have aW:¬(k:Int)<(k:Int):=by omega
 go_wp2_with fail;go_ret
 first | exact HF.out _ bD.out Au | exact⟨.inr rfl,Lc HB.out bD.out⟩ | exact .inr ⟨rfl,Lc HB.out bD.out⟩ | exact⟨⟨Au,rfl⟩,Lc HB.out bD.out⟩ | exact⟨Au,rfl,Lc HB.out bD.out⟩ | exact Lc HB.out bD.out
theorem ZW{d:Nat}{f x:Fm}(h:(zL (d+1) f).1<=1000000)(hx:x∈f.args):(zL d x).1<=1000000:=Lr (uB (zL d) hx) h
theorem Xa:∀(d:Nat) (f:Fm) (A:Bb) (c:Nat) (w:Ba),FsAt w w.heap.size d A f.args->(zL d f).1<=1000000->∀(g:Fm) (B:Bb) (e d':Nat),FsAt w w.heap.size d' B g.args ->
  An Al 161 #[.agg (f.vs A c),.agg (g.vs B e)] w (wh w)
 | 0,f,A,c,w,hA,hb,g,B,e,d',hB=>by
  have h0:f.args=[]:=hA
  exact ZX f g A B c e w (by rw[h0];decide) (RecAt.none hA) (by
   cases d' with
   | zero=>exact RecAt.none hB
   | succ d'=>exact RecAt.of hB fun y B' e' X _ hX=>⟨B',e',d',rfl,hX⟩)
 | d+1,f,A,c,w,hA,hb,g,B,e,d',hB=>by
  have h1:(zN (zL d) f.args).1<=1000000:=hb;have h3:=qW (zL d) (ka d) f.args;refine ZX f g A B c e w (by omega) (RecAt.of hA fun x A' c' X hx hX y B' e' d' hY=>Xa d x A' c' X hX (ZW hb hx) y B' e' d' hY) ?_
  cases d' with
  | zero=>exact RecAt.none hB
  | succ d'=>exact RecAt.of hB fun y B' e' X _ hX=>⟨B',e',d',rfl,hX⟩
structure FmE where
 f:Fm
 A:Bb
 c:Nat
def FmE.cs(q:FmE):List Ar:=[O U q.f.h.op,O U q.f.h.p,O U q.f.h.o,O U q.f.h.v,O U q.f.h.g,I q.A q.f.args.length q.c]
def FmE.ok(w:Ba)(B:Nat)(q:FmE):Prop:=∃d,FsAt w B d q.A q.f.args/\(zL d q.f).1<=1000000
def FlAt(w:Ba)(B:Nat)(A:Bb)(qs:List FmE):Prop:=0<qs.length->∃b o,A=J ⟨b,o,Z⟩/\b<B/\∀i (hi:i<qs.length) j v,(qs[i].cs)[j]?=J v->w.cell? ⟨b,o+i*6+j,Z⟩=J v
theorem FlAt.keep{w w':Ba}{B:Nat}{A:Bb}{qs:List FmE}(h:FlAt w B A qs)(hb:Am B w w'):FlAt w' B A qs:=fun h0=>by
 obtain⟨b,o,e,ac,hr⟩:=h h0;exact⟨b,o,e,ac,fun i hi j v hv=>(hb.cell ac).trans (hr i hi j v hv)⟩
theorem FmE.ok.keep{w w':Ba}{B:Nat}{q:FmE}(h:q.ok w B)(hb:Am B w w'):q.ok w' B:=by obtain⟨d,h1,h2⟩:=h;exact⟨d,h1.keep hb,h2⟩
theorem FmE.ok.more{w:Ba}{B B':Nat}{q:FmE}(h:q.ok w B)(hb:B<=B'):q.ok w B':=by obtain⟨d,h1,h2⟩:=h;exact⟨d,h1.more hb,h2⟩
theorem QA(qs:List FmE)(n:Nat)(hn:qs.length=n)(SA:n<=1000000)(A:Bb)(c:Nat)(g:Fm)(B:Bb)(e d':Nat)(w:Ba)(hA:FlAt w w.heap.size A qs)(hq:∀q∈qs,q.ok w w.heap.size)(hB:FsAt w w.heap.size d' B g.args) :
  An Al 141 #[I A n c,.agg (g.vs B e)] w (RetIx w):=by
 obtain⟨w1,ae,d0,aw,aB⟩:=zm w (g.vs B e) 32;have HN:=zH hn;have HA:=zH (hA.keep aB);have HQ:Aq (∀X,Am w1.heap.size w1 X->∀q∈qs,q.ok X X.heap.size):=fun X hX q hm=>((((hq q hm).keep aB).more aB.size).keep hX).more hX.size
 have HG:Aq (∀X,Am w1.heap.size w1 X->FsAt X X.heap.size d' B g.args):=fun X hX=>(((hB.keep aB).more aB.size).keep hX).more hX.size
 have Ot:Aq (∀(q:FmE) (X:Ba),q.ok X X.heap.size->FsAt X X.heap.size d' B g.args->An Al 161 #[.agg (q.f.vs q.A q.c),.agg (g.vs B e)] X (wh X)):=fun q X h1 h2=>by
  obtain⟨d,h3,h4⟩:=h1;exact Xa d q.f q.A q.c X h3 h4 g B e d' h2
 unfold Fm.vs at ae d0 Ot ⊢;unfold wh at Ot;unfold RetIx;obtain⟨m,hm⟩:=Kk g.args.length;rw[hm] at ae d0 Ot ⊢;obtain⟨b0,lL⟩:=Kk g.h.op;obtain⟨b1,aQ⟩:=Kk g.h.p;obtain⟨b2,ah⟩:=Kk g.h.o;obtain⟨b3,al⟩:=Kk g.h.v;obtain⟨b4,aP⟩:=Kk g.h.g;rw[lL,aQ,ah,al,aP] at ae d0 Ot ⊢;have ak:=zH ae;have HB:=zH aB;have D1:Aq (∀X,Am w1.heap.size w1 X->X.heap[w.heap.size]?=J (Ag #[O U b0,O U b1,O U b2,O U b3,O U b4,I B m e] 32 (0,0))):=fun X hX=>La hX d0
 clear ae d0 aB hA hq hB hn hm lL aQ ah al aP;go_enter func141,ntmps141;go_wp2_with fail;rw[ak.out];go_wp2_with fail
 go_loopw [5] (fun i wr=>∃k:Nat,k<=n/\i=O U (k:Int)/\Aq (Am w1.heap.size w1 wr)) (fun i _=>n-(Ap i).toNat)
 case atStart=>exact⟨0,by omega,rfl,Li _ _⟩
 obtain⟨k,hk,rfl,bD⟩:=hrel;have pm:IntKind.i64.wrap ((k:Int)+1)=((k+1:Nat):Int):=by rw[Ll];omega
 by_cases ac:k<n
 . have dS:(0:Int)<=(k:Int):=by omega
   have aW:(k:Int)<(n:Int):=by omega
   have SG:k<qs.length:=by rw[HN.out];exact ac
   obtain⟨bb,ob,eA,cj,hc⟩:=(HA.out.keep (bD.out.drew.mono HB.out.size)) (by omega);subst eA;have hc:=hc k SG;have HC:=zH (Ot.out qs[k] wr.drew (HQ.out _ bD.out.drew _ (Le SG)) (HG.out _ bD.out.drew));obtain⟨q,Cr⟩:=Kk (qs[k]);rw[Cr] at hc HC;obtain⟨⟨⟨h0,h1,h2,h3,h4⟩,xl⟩,A',c'⟩:=q;simp only[Fm.args,Fm.h] at HC;have hc:∀j v,[O U h0,O U h1,O U h2,O U h3,O U h4,I A' xl.length c'][j]?=J v->wr.drew.cell? ⟨bb,ob+k*6+j,Z⟩=J v:=hc;have z0:wr.drew.cell? ⟨bb,ob+k*6,Z⟩=J (O U h0):=hc 0 _ rfl;have z1:wr.drew.cell? ⟨bb,ob+k*6+1,Z⟩=J (O U h1):=hc 1 _ rfl;have z2:wr.drew.cell? ⟨bb,ob+k*6+2,Z⟩=J (O U h2):=hc 2 _ rfl;have z3:wr.drew.cell? ⟨bb,ob+k*6+3,Z⟩=J (O U h3):=hc 3 _ rfl;have z4:wr.drew.cell? ⟨bb,ob+k*6+4,Z⟩=J (O U h4):=hc 4 _ rfl;have z5:wr.drew.cell? ⟨bb,ob+k*6+5,Z⟩=J (I A' xl.length c'):=hc 5 _ rfl;have dd:=D1.out _ bD.out.drew;obtain⟨q0,q1,q2,q3,q4,q5,_⟩:=Ki (dd);have Dd:=zH bD.out.drew;go_upto_region 4 with fail
   refine zt [(0,Au),(1,Au),(2,Au),(3,Au),(4,Au),(5,Aw)] (fun X=>X=wr.drew) (by kernel_rfl) (by kernel_rfl) rfl ?_
   repeat
    apply zj rfl
    . rintro K' aa X rfl
      go_simp;exact aa
   refine yb rfl (by kernel_rfl) ?_;intro K' aa;go_simp;refine HC.out.mono ?_;rintro e w3 ⟨bo,rfl,al⟩;have bK:=zH (Lc Dd.out al);refine aa (fun _=>True) _ _ trivial ?_;refine zy ?_
   cases bo with
   | true=>
    have cF:=zH (Lc HB.out bK.out);go_wp2_with fail;go_ret
    first | exact cF.out | exact⟨⟨_,rfl⟩,cF.out⟩ | exact⟨_,rfl,cF.out⟩
   | false=>
    go_wp2_with fail
    go_roundw
    case rel=>exact⟨k+1,by omega,by go_num,bK⟩
    case measure=>simp[Ap];omega
 obtain rfl:k=n:=by omega
 have aW:¬(k:Int)<(k:Int):=by omega
 have cF:=zH (Lc HB.out bD.out);go_wp2_with fail;go_ret
 first | exact cF.out | exact⟨⟨_,rfl⟩,cF.out⟩ | exact⟨_,rfl,cF.out⟩
def kFm:Kd:=⟨32,30,6,64,Ai #[O U 0,O U 0,O U 0,O U 0,O U 0,I Z 0 0]⟩
theorem kFm_ok:KdOk Al kFm:=⟨underlying30,by kernel_rfl,by rfl,by decide,by decide⟩
def flC(qs:List FmE):List Ar:=qs.flatMap FmE.cs
theorem flC_at:∀(qs:List FmE) (i:Nat) (hi:i<qs.length) (j:Nat) (v:Ar),(qs[i].cs)[j]?=J v->(flC qs)[i*6+j]?=J v
 | q::qs,0,_,j,v,h=>by
  have hj:j<q.cs.length:=(Lp.1 h).1;show(q.cs++flC qs)[0*6+j]?=J v;rw[PP,LQ,LO hj];exact h
 | q::qs,i+1,hi,j,v,h=>by
  show(q.cs++flC qs)[(i+1)*6+j]?=J v;have h6:q.cs.length=6:=rfl;rw[LJ (by omega),h6,show(i+1)*6+j-6=i*6+j by omega];exact flC_at qs i (by simpa using hi) j v h
theorem Ji(qs:List FmE)(q:FmE):flC (qs++[q])=flC qs++q.cs:=by simp[flC]
theorem fl_own{w:Ba}{ab:Nat}{A:Bb}{n c:Nat}{qs:List FmE}(h:OwnR kFm w ab (I A n c) n (flC qs))(hn:qs.length=n):FlAt w w.heap.size A qs:=fun h0=>by
 obtain⟨A',c',e,_,_,hr⟩:=h.form
 cases e
 obtain⟨g,rfl,_,hg,hc⟩:=hr (by omega);exact⟨g,0,rfl,hg,fun i hi j v hv=>by rw[LQ];exact hc _ _ (flC_at qs i hi j v hv)⟩
def JL(S B0:Nat)(w:Ba)(e:Ending)(w':Ba):Prop:=∃(qs:List FmE) (A:Bb) (c:Nat),e=Ak (I A qs.length c)/\qs.length<=S/\OwnR kFm w' w.heap.size (I A qs.length c) qs.length (flC qs)/\(∀q∈qs,q.ok w' B0)/\Am w.heap.size w w'
def RecB(B0:Nat)(w:Ba)(A:Bb)(l:List Fm)(F:Array Ar->Fm->Ba->Prop):Prop:=∀i (hi:i<l.length),∃b o A' c',A=J ⟨b,o,Z⟩/\b<B0 /\
 (∀W,Am B0 w W->∀j v,(l[i].vs A' c')[j]?=J v->W.cell? ⟨b,o+i*6+j,Z⟩=J v)/\∀X,Am B0 w X->B0<=X.heap.size->F (l[i].vs A' c') l[i] X
theorem RecB.of{d B0:Nat}{w:Ba}{A:Bb}{l:List Fm}{F:Array Ar->Fm->Ba->Prop}(h:FsAt w B0 (d+1) A l)
  (hF:∀(x:Fm) (A':Bb) (c':Nat) (X:Ba),x∈l->B0<=X.heap.size->FsAt X B0 d A' x.args->F (x.vs A' c') x X):RecB B0 w A l F:=fun i hi=>by
 obtain⟨b,o,e,ac,hr⟩:=h (by omega);obtain⟨A',c',h1,h2⟩:=hr i hi;exact⟨b,o,A',c',e,ac,fun W hW j v hv=>(hW.cell ac).trans (h1 j v hv),fun X hX hs=>hF _ A' c' X (Le hi) hs (h2.keep hX)⟩
theorem RecB.none{B0:Nat}{w:Ba}{A:Bb}{l:List Fm}{F:Array Ar->Fm->Ba->Prop}(h:FsAt w B0 0 A l):RecB B0 w A l F:=fun i hi=>by
 rw[show l=[] from h] at hi;cases hi
theorem XG(f:Fm)(R:Fm->Nat×Nat)(A:Bb)(c B0:Nat)(w:Ba)(dl:B0<=w.heap.size)(hl:f.args.length<=1000000)(hb:(zN R f.args).1<=1000000)
  (hf:FmE.ok w B0 ⟨f,A,c⟩)
  (dX:RecB B0 w A f.args fun cs x X=>An Al 100 #[.agg cs] X (JL (R x).1 B0 X)) :
  An Al 100 #[.agg (f.vs A c)] w (JL (zN R f.args).1 B0 w):=by
 obtain⟨w1,ae,d0,aw,hB⟩:=zm w (f.vs A c) 32;have aX:=zH dX;have mH:=zH (fun k=>qU R f.args k);have rT:=zH (fun k (h:k<f.args.length)=>(by rw[Lq h,qV]:zN R (f.args.take (k+1))=((zN R (f.args.take k)).1+(R f.args[k]).1,max (zN R (f.args.take k)).2 (R f.args[k]).2)));have eM:Aq (zN R (f.args.take f.args.length)=zN R f.args):=by rw[Aq,LS]
 have rz:=zH hb
 have Bd:Aq (∀(qs:List FmE) (A2:Bb) (c2:Nat) (q:FmE) (X:Ba),qs.length<=1000000->FlAt X X.heap.size A2 qs->(∀q∈qs,q.ok X B0)->q.ok X B0->B0<=X.heap.size->An Al 141 #[I A2 qs.length c2,Ai #[O U q.f.h.op,O U q.f.h.p,O U q.f.h.o,O U q.f.h.v,O U q.f.h.g,I q.A q.f.args.length q.c]] X (RetIx X)):=fun qs A2 c2 q X h1 h2 h3 h4 h5=>by
  obtain⟨d,h6,_⟩:=h4;exact QA qs qs.length rfl h1 A2 c2 q.f q.A q.c d X h2 (fun q hq=>(h3 q hq).more h5) (h6.more h5)
 have OU:=zH hf;have iN:=zH dl;unfold Fm.vs at ae d0 aX ⊢;unfold JL at aX ⊢;unfold RetIx at Bd;obtain⟨f0,f1⟩:=f;obtain⟨a0,a1,a2,a3,a4⟩:=f0;dsimp only[Fm.h,Fm.args] at ae d0 aX mH rT eM rz hl ⊢;obtain⟨l,aN⟩:=Kk f1;rw[aN] at ae d0 aX mH rT eM rz hl OU ⊢;obtain⟨T,hT⟩:=Kk ((zN R l).1);have eM:Aq ((zN R (l.take l.length)).1=T):=by rw[Aq,eM.out];exact hT
 rw[hT] at rz ⊢;have mH:Aq (∀k,(zN R (l.take k)).1<=T):=fun k=>by rw[<-hT];exact(mH.out k).1
 obtain⟨n,hn⟩:=Kk l.length;have HN:=zH hn;rw[hn] at ae d0 eM hl ⊢;have ak:=zH ae;have HB:=zH hB;have D0:Aq (∀X,Am w1.heap.size w1 X->X.heap[w.heap.size]?=J (Ag #[O U a0,O U a1,O U a2,O U a3,O U a4,I A n c] 32 (0,0))):=fun X hX=>La hX d0
 have pF:Aq (∀X,Am w1.heap.size w1 X->FmE.ok X B0 ⟨⟨⟨a0,a1,a2,a3,a4⟩,l⟩,A,c⟩):=fun X hX=>OU.out.keep ((Lc hB hX).mono iN.out)
 have Tz:Aq (∀X,Am w1.heap.size w1 X->Am B0 w X):=fun X hX=>(Lc hB hX).mono iN.out
 clear ae d0 hB dX hb aN hT hn hf;go_enter func100,ntmps100;go_wp2_with fail;rw[ak.out];go_wp2_with fail
 go_loopw [3,4] (fun o i wr=>∃(k:Nat) (qs:List FmE) (Ao:Bb) (co:Nat),k<=n/\i=O U (k:Int)/\o=I Ao qs.length co/\Aq (qs.length+1<=(zN R (l.take k)).1)/\Aq (OwnR kFm wr w1.heap.size (I Ao qs.length co) qs.length (flC qs))/\Aq (∀q∈qs,q.ok wr B0)/\Aq (Am w1.heap.size w1 wr)) (fun _ i _=>n-(Ap i).toNat)
 case atStart=>exact⟨0,[],Z,0,by omega,rfl,rfl,by show _<=_;simp[zN],OwnR.nil _ _ _,fun q h=>(by cases h),Li _ _⟩
 obtain⟨k,qs,Ao,co,hk,rfl,rfl,tJ,hO,Cr,bD⟩:=hrel;have pm:IntKind.i64.wrap ((k:Int)+1)=((k+1:Nat):Int):=by rw[Ll];omega
 have dd:=D0.out _ bD.out;obtain⟨p0,p1,p2,p3,p4,p5,_⟩:=Ki (dd)
 by_cases ac:k<n
 . have dy:k<l.length:=by rw[HN.out];exact ac
   have fl:=rT.out k dy;have Bu:=mH.out (k+1);obtain⟨bb,ob,A',c',eA,cj,ap,aJ⟩:=aX.out k dy;subst eA;obtain⟨x,hx⟩:=Kk (l[k]);rw[hx] at ap aJ fl;obtain⟨r1,iV⟩:=Kk ((R x).1);obtain⟨a,ha⟩:=Kk ((zN R (l.take k)).1);have lz:(zN R (l.take (k+1))).1=a+r1:=by rw[fl,<-ha,<-iV]
   rw[lz] at Bu;have aq:=zH lz;have HQL:Aq (qs.length+1<=a):=by rw[<-ha];exact tJ.out
   have dj:=rz.out;have h6:a+r1<=1000000:=by omega
   have hC:=aJ wr (Tz.out _ bD.out) (by have:=(Tz.out _ bD.out).size;have:=iN.out;omega);simp only[iV] at hC;have hc:=ap wr (Tz.out _ bD.out);obtain⟨⟨h0,h1,h2,h3,h4⟩,xl⟩:=x;have hc:∀j v,#[O U h0,O U h1,O U h2,O U h3,O U h4,I A' xl.length c'][j]?=J v->wr.cell? ⟨bb,ob+k*6+j,Z⟩=J v:=hc;simp only[Fm.vs,Fm.args,Fm.h] at hC;have HC:=zH hC;have z0:wr.cell? ⟨bb,ob+k*6,Z⟩=J (O U h0):=hc 0 _ rfl;have z1:wr.cell? ⟨bb,ob+k*6+1,Z⟩=J (O U h1):=hc 1 _ rfl;have z2:wr.cell? ⟨bb,ob+k*6+2,Z⟩=J (O U h2):=hc 2 _ rfl;have z3:wr.cell? ⟨bb,ob+k*6+3,Z⟩=J (O U h3):=hc 3 _ rfl;have z4:wr.cell? ⟨bb,ob+k*6+4,Z⟩=J (O U h4):=hc 4 _ rfl;have z5:wr.cell? ⟨bb,ob+k*6+5,Z⟩=J (I A' xl.length c'):=hc 5 _ rfl;have dS:(0:Int)<=(k:Int):=by omega
   have aW:(k:Int)<(n:Int):=by omega
   obtain⟨wE,rfl⟩:∃x,x=wr:=⟨_,rfl⟩;go_wp2_with fail;refine HC.out.mono ?_;rintro e w3 ⟨ps,A5,c5,rfl,Cv,ML,Ih,al⟩;have hsE:=bD.out.size;have tl:=zH (hO.out.below al (Ld _));have Tw:=zH (ML.low (base':=w1.heap.size) hsE);have HQ3:Aq (∀q∈qs,q.ok w3 B0):=fun q hq=>(Cr.out q hq).keep (al.mono (by have:=(Tz.out _ bD.out).size;have:=iN.out;omega))
   have HP3:=zH Ih;have bK:=zH (bD.out.trans (al.mono hsE))
   have rX:Aq (∀b,(I Ao qs.length co).ownBlock=J b->(I A5 ps.length c5).ownBlock≠J b):=fun b h1 h2=>by
    have h3:=(hO.out.lt b h1).2;have h4:=(ML.lt b h2).1;omega
   have EK:=zH Cv;obtain⟨m,hm⟩:=Kk ps.length;have HM:=zH hm;rw[hm] at Tw rX EK ⊢;have hm6:m<=1000000:=by have:=EK.out;omega
   go_wp2_with fail
   go_loopw [3,6] (fun o i wr=>∃(j:Nat) (qs:List FmE) (Ao:Bb) (co:Nat),j<=m/\i=O U (j:Int)/\o=I Ao qs.length co/\Aq (qs.length+1<=a+j)/\Aq (OwnR kFm wr w1.heap.size (I Ao qs.length co) qs.length (flC qs))/\Aq (∀q∈qs,q.ok wr B0)/\Aq (Am w1.heap.size w1 wr)/\Aq (OwnR kFm wr w1.heap.size (I A5 m c5) m (flC ps))/\Aq (∀q∈ps,q.ok wr B0)/\Aq (∀b,(I Ao qs.length co).ownBlock=J b->(I A5 m c5).ownBlock≠J b)) (fun _ i _=>m-(Ap i).toNat)
   case atStart=>exact⟨0,qs,Ao,co,by omega,rfl,rfl,HQL,tl,HQ3,bK,Tw,HP3,rX⟩
   obtain⟨j,qs,Ao,co,hj,rfl,rfl,tJ,hO,Cr,bD,ML,Ih,bC⟩:=hrel;have hwj:IntKind.i64.wrap ((j:Int)+1)=((j+1:Nat):Int):=by rw[Ll];omega
   have FE:=bD.out.size
   by_cases hjt:j<m
   . have SK:(0:Int)<=(j:Int):=by omega
     have Ip:(j:Int)<(m:Int):=by omega
     have Vn:j<ps.length:=by rw[HM.out];exact hjt
     obtain⟨bp,op,e5,oV,te⟩:=(fl_own ML.out HM.out) (by omega);have te:=te j Vn;obtain⟨q,Sv⟩:=Kk (ps[j]);rw[Sv] at te;have hqo:q.ok wr B0:=Ih.out q (by rw[<-Sv];exact Le Vn);have HC:=zH (Bd.out qs Ao co q wr (by have:=tJ.out;have:=EK.out;omega) (fl_own hO.out rfl) Cr.out hqo (by omega));have HQO:=zH hqo;obtain⟨⟨⟨h0,h1,h2,h3,h4⟩,xl⟩,A',c'⟩:=q;dsimp only[Fm.h,Fm.args] at HC;have te:∀j' v,[O U h0,O U h1,O U h2,O U h3,O U h4,I A' xl.length c'][j']?=J v->wr.cell? ⟨bp,op+j*6+j',Z⟩=J v:=te;subst e5;have z0:wr.cell? ⟨bp,op+j*6,Z⟩=J (O U h0):=te 0 _ rfl;have z1:wr.cell? ⟨bp,op+j*6+1,Z⟩=J (O U h1):=te 1 _ rfl;have z2:wr.cell? ⟨bp,op+j*6+2,Z⟩=J (O U h2):=te 2 _ rfl;have z3:wr.cell? ⟨bp,op+j*6+3,Z⟩=J (O U h3):=te 3 _ rfl;have z4:wr.cell? ⟨bp,op+j*6+4,Z⟩=J (O U h4):=te 4 _ rfl;have z5:wr.cell? ⟨bp,op+j*6+5,Z⟩=J (I A' xl.length c'):=te 5 _ rfl;go_wp2_with fail;refine HC.out.mono ?_;rintro e w4 ⟨r,rfl,aP⟩;have mS:=zH (hO.out.below aP (Ld _));have HP4:=zH (ML.out.below aP (Ld _));have GX:Aq (∀q∈qs,q.ok w4 B0):=fun q hq=>(Cr.out q hq).keep (aP.mono (by omega))
     have HK4:Aq (∀q∈ps,q.ok w4 B0):=fun q hq=>(Ih.out q hq).keep (aP.mono (by omega))
     have HX4:=zH (HQO.out.keep (aP.mono (by omega)));have fK:=zH (bD.out.trans (aP.mono FE));have y0:=(aP.cell (p:=⟨bp,op+j*6,Z⟩) oV).trans z0;have y1:=(aP.cell (p:=⟨bp,op+j*6+1,Z⟩) oV).trans z1;have y2:=(aP.cell (p:=⟨bp,op+j*6+2,Z⟩) oV).trans z2;have y3:=(aP.cell (p:=⟨bp,op+j*6+3,Z⟩) oV).trans z3;have y4:=(aP.cell (p:=⟨bp,op+j*6+4,Z⟩) oV).trans z4;have y5:=(aP.cell (p:=⟨bp,op+j*6+5,Z⟩) oV).trans z5;have iU:=fK.out.size
     by_cases hr:r<0
     case neg=>
      have HQL4:Aq (qs.length+1<=a+(j+1)):=by have:=tJ.out;show _<=_;omega
      go_wp2_with fail
      go_roundw
      case rel=>exact⟨j+1,qs,Ao,co,by omega,by go_num,rfl,HQL4,mS,GX,fK,HP4,HK4,bC⟩
      simp[Ap];omega
     case pos=>
     go_upto_region 10 with fail
     obtain⟨W4,tg,d4,cZ,aj⟩:=zm w4 #[O U h0,O U h1,O U h2,O U h3,O U h4,I A' xl.length c'] 32;have rq:=zH (mS.out.below aj (Ld _));have HP5:=zH (HP4.out.below aj (Ld _));have aK:=zH (fK.out.trans (aj.mono iU));have HQ5:Aq (∀q∈qs,q.ok W4 B0):=fun q hq=>(GX.out q hq).keep (aj.mono (by omega))
     have lQ:Aq (∀q∈ps,q.ok W4 B0):=fun q hq=>(HK4.out q hq).keep (aj.mono (by omega))
     have HX5:=zH (HX4.out.keep (aj.mono (by omega)));have fU:=aK.out.size;have iI:=zH tg;have hq6:qs.length<=1000000:=by have:=tJ.out;have:=EK.out;omega
     clear tg aj mS HP4 GX HK4 HX4 fK
     go_wp2_with (at_builtin; go_must (rw [iI.out]; refine yI kFm_ok rfl _ _ (by rfl) w1.heap.size (I Ao qs.length co) qs.length (flC qs) (by rfl) rq.out w4.heap.size #[O U h0, O U h1, O U h2, O U h3, O U h4, I A' xl.length c'] (by rfl) d4 rfl (by simp [Value.oneCell']) (by omega) fU _ rfl ?_); intro g' aH w5 dM cK sA pT
                  have ez:=zH dM;have fh:=zH (aK.out.grown cK fU (fun k e=>(rq.out.lt k e).1));have o7:Aq (Am B0 W4 w5):=(Li B0 W4).grown cK (by have:=fU;omega) (fun k e=>by have:=(rq.out.lt k e).1;omega)
                  have C6:Aq ((I (J ⟨bp,op,Z⟩) m c5).ownBlock=Z\/(I (J ⟨bp,op,Z⟩) m c5).ownBlock≠(I Ao qs.length co).ownBlock):=by
                   cases hv:(I (J ⟨bp,op,Z⟩) m c5).ownBlock with
                   | none=>exact .inl rfl
                   | some b=>exact .inr fun e=>bC.out b e.symm hv
                  have HP6:=zH (HP5.out.kept cK C6.out);have ef:Aq ((I Ao qs.length co).ownBlock=J g'\/g'=W4.heap.size):=sA
                  clear dM cK sA pT C6)
     have EJ:Aq (OwnR kFm w5 w1.heap.size (.slice (J ⟨g',0,Z⟩) (qs++[(⟨⟨⟨h0,h1,h2,h3,h4⟩,xl⟩,A',c'⟩:FmE)]).length aH) (qs++[(⟨⟨⟨h0,h1,h2,h3,h4⟩,xl⟩,A',c'⟩:FmE)]).length (flC (qs++[⟨⟨⟨h0,h1,h2,h3,h4⟩,xl⟩,A',c'⟩]))):=by rw[Ji,Lv];exact ez.out
     have HQ6:Aq (∀q∈qs++[⟨⟨⟨h0,h1,h2,h3,h4⟩,xl⟩,A',c'⟩],q.ok w5 B0):=fun q hq=>by
      rcases Ng.1 hq with hq | hq
      . exact(HQ5.out q hq).keep o7.out
      . rw[LY] at hq;subst hq;exact HX5.out.keep o7.out
     have Bc:Aq (∀q∈ps,q.ok w5 B0):=fun q hq=>(lQ.out q hq).keep o7.out
     have HQL6:Aq ((qs++[(⟨⟨⟨h0,h1,h2,h3,h4⟩,xl⟩,A',c'⟩:FmE)]).length+1<=a+(j+1)):=by have:=tJ.out;show _<=_;rw[Lv];simp only[List.length_cons,List.length_nil];omega
     have HNE6:Aq (∀b,(I (J ⟨g',0,Z⟩) (qs++[(⟨⟨⟨h0,h1,h2,h3,h4⟩,xl⟩,A',c'⟩:FmE)]).length aH).ownBlock=J b->(I (J ⟨bp,op,Z⟩) m c5).ownBlock≠J b):=fun b h1 h2=>by
      have e1:g'=b:=by simpa[Value.ownBlock] using h1
      subst e1;rcases ef.out with e | e
      . exact bC.out g' e h2
      . have:=(HP5.out.lt g' h2).2;omega
     have aL:(qs++[(⟨⟨⟨h0,h1,h2,h3,h4⟩,xl⟩,A',c'⟩:FmE)]).length=qs.length+1:=by simp
     have rx:=zH aL
     go_roundw
     case rel=>exact⟨j+1,_,J ⟨g',0,Z⟩,aH,by omega,by go_num,by rw[rx.out],HQL6,EJ,HQ6,fh,HP6,Bc,HNE6⟩
     simp[Ap];omega
   obtain rfl:j=m:=by omega
   have Ip:¬(j:Int)<(j:Int):=by omega
   have HQLE:Aq (qs.length+1<=(zN R (l.take (k+1))).1):=by rw[aq.out];have:=tJ.out;have:=EK.out;show _<=_;omega
   go_wp2_with fail
   go_roundw
   case rel=>exact⟨k+1,qs,Ao,co,by omega,by go_num,rfl,HQLE,hO,Cr,bD⟩
   simp[Ap];omega
 obtain rfl:k=n:=by omega
 have aW:¬(k:Int)<(k:Int):=by omega
 have FE:=bD.out.size;have HQT:Aq (qs.length+1<=T):=by have:=tJ.out;rw[eM.out] at this;exact this
 have hT6:=rz.out;have hq6:qs.length<=1000000:=by have:=HQT.out;omega
 have HC:=zH (Bd.out qs Ao co ⟨⟨⟨a0,a1,a2,a3,a4⟩,l⟩,A,c⟩ wr hq6 (fl_own hO.out rfl) Cr.out (pF.out _ bD.out) (by omega));dsimp only[Fm.h,Fm.args] at HC;rw[HN.out] at HC;go_wp2_with fail;refine HC.out.mono ?_;rintro e w4 ⟨r,rfl,aP⟩;have mS:=zH (hO.out.below aP (Ld _));have GX:Aq (∀q∈qs,q.ok w4 B0):=fun q hq=>(Cr.out q hq).keep (aP.mono (by omega))
 have fK:=zH (bD.out.trans (aP.mono FE));have iU:=fK.out.size
 by_cases hr:r<0
 case neg=>
  have cF:=zH (Lc HB.out fK.out);have HOF:=zH (mS.out.low (base':=w.heap.size) HB.out.size);go_wp2_with fail;go_ret;exact⟨qs,Ao,co,rfl,by have:=HQT.out;omega,HOF.out,GX.out,cF.out⟩
 case pos=>
 have dd:=D0.out _ fK.out;obtain⟨p0,p1,p2,p3,p4,p5,_⟩:=Ki (dd);go_upto_region 12 with fail
 obtain⟨W4,tg,d4,cZ,aj⟩:=zm w4 #[O U a0,O U a1,O U a2,O U a3,O U a4,I A k c] 32;have rq:=zH (mS.out.below aj (Ld _));have aK:=zH (fK.out.trans (aj.mono iU));have HQ5:Aq (∀q∈qs,q.ok W4 B0):=fun q hq=>(GX.out q hq).keep (aj.mono (by omega))
 have fU:=aK.out.size;have iI:=zH tg;clear tg aj mS GX fK Bd
 go_wp2_with (at_builtin; go_must (rw [iI.out]; refine yI kFm_ok rfl _ _ (by rfl) w1.heap.size (I Ao qs.length co) qs.length (flC qs) (by rfl) rq.out w4.heap.size #[O U a0, O U a1, O U a2, O U a3, O U a4, I A k c] (by rfl) d4 rfl (by simp [Value.oneCell']) (by omega) fU _ rfl ?_); intro g' aH w5 dM cK sA pT
              have ez:=zH dM;have fh:=zH (aK.out.grown cK fU (fun k e=>(rq.out.lt k e).1));have o7:Aq (Am B0 W4 w5):=(Li B0 W4).grown cK (by have:=fU;omega) (fun k e=>by have:=(rq.out.lt k e).1;omega)
              clear dM cK sA pT)
 have EJ:Aq (OwnR kFm w5 w.heap.size (I (J ⟨g',0,Z⟩) (qs.length+1) aH) (qs.length+1) (flC (qs++[⟨⟨⟨a0,a1,a2,a3,a4⟩,l⟩,A,c⟩]))):=by
  rw[Ji];have:=ez.out;rw[<-HN.out] at this;exact this.low HB.out.size
 have HQ6:Aq (∀q∈qs++[⟨⟨⟨a0,a1,a2,a3,a4⟩,l⟩,A,c⟩],q.ok w5 B0):=fun q hq=>by
  rcases Ng.1 hq with hq | hq
  . exact(HQ5.out q hq).keep o7.out
  . rw[LY] at hq;subst hq;exact pF.out _ fh.out
 have cF:=zH (Lc HB.out fh.out);go_wp2_with fail;go_ret;have aL:(qs++[(⟨⟨⟨a0,a1,a2,a3,a4⟩,l⟩,A,c⟩:FmE)]).length=qs.length+1:=by simp
 refine⟨qs++[⟨⟨⟨a0,a1,a2,a3,a4⟩,l⟩,A,c⟩],J ⟨g',0,Z⟩,aH,?_,?_,?_,HQ6.out,cF.out⟩
 . rw[aL];rfl
 . rw[aL];exact HQT.out
 rw[aL];exact EJ.out
theorem JJ(B0:Nat):∀(d:Nat) (f:Fm) (A:Bb) (c:Nat) (w:Ba),B0<=w.heap.size->FsAt w B0 d A f.args->(zL d f).1<=1000000 ->
  An Al 100 #[.agg (f.vs A c)] w (JL (zL d f).1 B0 w)
 | 0,f,A,c,w,h0,hA,hb=>by
  have e:f.args=[]:=hA;have:=XG f (fun _=>(0,0)) A c B0 w h0 (by rw[e];decide) (by rw[e];decide) ⟨0,hA,hb⟩ (RecB.none hA);exact this
 | d+1,f,A,c,w,h0,hA,hb=>by
  have h1:(zN (zL d) f.args).1<=1000000:=hb;have h3:=qW (zL d) (ka d) f.args;exact XG f (zL d) A c B0 w h0 (by omega) h1 ⟨d+1,hA,hb⟩ (RecB.of hA fun x A' c' X hx hs hX=>JJ B0 d x A' c' X hs hX (ZW hb hx))
theorem repis_any(op:Int)(w:Ba):An Al 142 #[O U op] w fun e w'=>e=Ak (Ah (decide (10<=op/\op<=13)))/\w'=w:=by
 by_cases h1:(10:Int)<=op
 . by_cases h2:op<=13
   . rw[Lw ⟨h1,h2⟩]
     go_enter func142,ntmps142;go_wp2_with fail;go_ret;exact⟨rfl,rfl⟩
   rw[Lu (fun h=>h2 h.2)];go_enter func142,ntmps142;go_wp2_with fail;go_ret;exact⟨rfl,rfl⟩
 rw[Lu (fun h=>h1 h.1)];go_enter func142,ntmps142;go_wp2_with fail;go_ret;exact⟨rfl,rfl⟩
theorem Xi(f:Fm)(R:Fm->Nat)(M:Nat)(hM:M<=1000000)(hR:∀x∈f.args,R x<=M)(A:Bb)(c:Nat)(w:Ba)(hl:f.args.length<=1000000)
  (dX:RecAt w A f.args fun cs x X=>An Al 101 #[.agg cs] X fun e w'=>∃m:Nat,e=Ak (O U (m:Int))/\m<=R x/\Am X.heap.size X w') :
  An Al 101 #[.agg (f.vs A c)] w fun e w'=>∃m:Nat,e=Ak (O U (m:Int))/\m<=M+1/\Am w.heap.size w w':=by
 obtain⟨w1,ae,d0,aw,hB⟩:=zm w (f.vs A c) 32;have aX:=zH dX;have HR:=zH hR;unfold Fm.vs at ae d0 aX ⊢;obtain⟨⟨a0,a1,a2,a3,a4⟩,f1⟩:=f;dsimp only[Fm.h,Fm.args] at ae d0 aX hl HR ⊢;obtain⟨l,aN⟩:=Kk f1;rw[aN] at ae d0 aX hl HR ⊢;obtain⟨n,hn⟩:=Kk l.length;have HN:=zH hn;rw[hn] at ae d0 hl
 try rw[hn]
 have ak:=zH ae;have HB:=zH hB;have D0:Aq (∀X,Am w1.heap.size w1 X->X.heap[w.heap.size]?=J (Ag #[O U a0,O U a1,O U a2,O U a3,O U a4,I A n c] 32 (0,0))):=fun X hX=>La hX d0
 clear ae d0 hB dX aN hn;go_enter func101,ntmps101;go_wp2_with fail;rw[ak.out];go_wp2_with fail
 go_loopw [3,4] (fun o i wr=>∃k m:Nat,k<=n/\i=O U (k:Int)/\o=O U (m:Int)/\m<=M/\Aq (Am w1.heap.size w1 wr)) (fun _ i _=>n-(Ap i).toNat)
 case atStart=>exact⟨0,0,by omega,rfl,rfl,by omega,Li _ _⟩
 obtain⟨k,m,hk,rfl,rfl,hm,bD⟩:=hrel;clear ak;have pm:IntKind.i64.wrap ((k:Int)+1)=((k+1:Nat):Int):=by rw[Ll];omega
 obtain⟨p0,p1,p2,p3,p4,p5,_⟩:=Ki (D0.out _ bD.out)
 by_cases ac:k<n
 . skip
   have dy:k<l.length:=by rw[HN.out];exact ac
   obtain⟨bb,ob,A',c',eA,cj,ap,aJ⟩:=aX.out k dy;subst eA;obtain⟨x,hx⟩:=Kk (l[k]);rw[hx] at ap aJ;have hC:=aJ wr (Lc HB.out bD.out);have hc:=ap wr (Lc HB.out bD.out);have HX:=zH hx;obtain⟨⟨h0,h1,h2,h3,h4⟩,xl⟩:=x;have hc:∀j v,#[O U h0,O U h1,O U h2,O U h3,O U h4,I A' xl.length c'][j]?=J v->wr.cell? ⟨bb,ob+k*6+j,Z⟩=J v:=hc;simp only[Fm.vs,Fm.args,Fm.h] at hC;have HC:=zH hC;have z0:wr.cell? ⟨bb,ob+k*6,Z⟩=J (O U h0):=hc 0 _ rfl;have z1:wr.cell? ⟨bb,ob+k*6+1,Z⟩=J (O U h1):=hc 1 _ rfl;have z2:wr.cell? ⟨bb,ob+k*6+2,Z⟩=J (O U h2):=hc 2 _ rfl;have z3:wr.cell? ⟨bb,ob+k*6+3,Z⟩=J (O U h3):=hc 3 _ rfl;have z4:wr.cell? ⟨bb,ob+k*6+4,Z⟩=J (O U h4):=hc 4 _ rfl;have z5:wr.cell? ⟨bb,ob+k*6+5,Z⟩=J (I A' xl.length c'):=hc 5 _ rfl;have dS:(0:Int)<=(k:Int):=by omega
   have aW:(k:Int)<(n:Int):=by omega
   clear ap aJ hC hc hx;go_wp2_with fail;refine HC.out.mono ?_;rintro e w3 ⟨r,rfl,hr,al⟩;have hrM:r<=M:=Lr hr (by rw[<-HX.out];exact HR.out _ (Le dy));have bK:=zH (Lc bD.out al);clear al bD HC hr z0 z1 z2 z3 z4 z5
   by_cases hrm:(m:Int)<(r:Int)
   . go_wp2_with fail
     go_roundw
     case rel=>exact⟨k+1,r,by omega,by go_num,rfl,hrM,bK⟩
     simp[Ap];omega
   go_wp2_with fail
   go_roundw
   case rel=>exact⟨k+1,m,by omega,by go_num,rfl,hm,bK⟩
   simp[Ap];omega
 obtain rfl:k=n:=by omega
 have aW:¬(k:Int)<(k:Int):=by omega
 have mO:=zH (Lc HB.out bD.out);clear aX HR;go_wp2_with fail;refine(repis_any a0 wr).mono ?_;rintro e w4 ⟨rfl,ip⟩;obtain rfl:wr=w4:=ip.symm;obtain⟨b,Mq⟩:∃b,decide (10<=a0/\a0<=13)=b:=⟨_,rfl⟩;rw[Mq];have oJ:IntKind.i64.wrap ((m:Int)+1)=((m+1:Nat):Int):=by rw[Ll];omega
 cases b with
 | false=>
  go_wp2_with fail;go_ret;exact⟨m,rfl,by omega,mO.out⟩
 | true=>
  go_wp2_with fail;go_ret;exact⟨m+1,by first | rfl | (push_cast;rfl),by omega,mO.out⟩
theorem siz_dep(R:Fm->Nat×Nat){l:List Fm}{x:Fm}(h:x∈l):(R x).2<=(zN R l).2:=by
 obtain⟨i,hi,rfl⟩:=LP h;have h1:=(qU R l (i+1)).2;rw[Lq hi,qV] at h1;have:(R l[i]).2<=max (zN R (l.take i)).2 (R l[i]).2:=NF _ _;omega
theorem QS:∀(d:Nat) (f:Fm) (A:Bb) (c:Nat) (w:Ba),FsAt w w.heap.size d A f.args->(zL d f).1<=1000000 ->
  An Al 101 #[.agg (f.vs A c)] w fun e w'=>∃m:Nat,e=Ak (O U (m:Int))/\m<=(zL d f).2/\Am w.heap.size w w'
 | 0,f,A,c,w,hA,hb=>by
  have h0:f.args=[]:=hA;exact Xi f (fun _=>0) (zN (fun _=>(0,0)) f.args).2 (by rw[h0];decide) (fun x hx=>Nz _) A c w (by rw[h0];decide) (RecAt.none hA)
 | d+1,f,A,c,w,hA,hb=>by
  have h1:(zN (zL d) f.args).1<=1000000:=hb;have h2:(zN (zL d) f.args).2+1<=(zN (zL d) f.args).1:=kY (d+1) f;have h3:=qW (zL d) (ka d) f.args;exact Xi f (fun x=>(zL d x).2) (zN (zL d) f.args).2 (by omega) (fun x hx=>siz_dep _ hx) A c w (by omega) (RecAt.of hA fun x A' c' X hx hX=>QS d x A' c' X hX (ZW hb hx))
theorem light_any(d:Nat)(f:Fm)(A:Bb)(c:Nat)(w:Ba)(hA:FsAt w w.heap.size d A f.args)(hb:(zL d f).1<=1000000):An Al 57 #[.agg (f.vs A c)] w (wh w):=by
 obtain⟨w1,ae,d0,aw,hB⟩:=zm w (f.vs A c) 32;have H1:=zH (JJ w1.heap.size d f A c w1 (Ld _) ((hA.keep hB).more hB.size) hb);have H2:=zH (fun (X:Ba) (hX:Am w1.heap.size w1 X)=>QS d f A c X ((((hA.keep hB).more hB.size).keep hX).more hX.size) hb);unfold Fm.vs at ae d0 H1 H2 ⊢;unfold JL at H1;obtain⟨⟨a0,a1,a2,a3,a4⟩,f1⟩:=f;dsimp only[Fm.h,Fm.args] at ae d0 H1 H2 ⊢;obtain⟨n,hn⟩:=Kk f1.length;rw[hn] at ae d0 H1 H2 ⊢;have ak:=zH ae;have HB:=zH hB;have D0:Aq (∀X,Am w1.heap.size w1 X->X.heap[w.heap.size]?=J (Ag #[O U a0,O U a1,O U a2,O U a3,O U a4,I A n c] 32 (0,0))):=fun X hX=>La hX d0
 have HRT:Aq (∀(b:Bool) (X:Ba),Am w1.heap.size w1 X->wh w (Ak (Ah b)) X):=fun b X hX=>⟨b,rfl,Lc HB.out hX⟩
 clear ae d0 hB hn hb hA;go_enter func57,ntmps57;go_wp2_with fail;rw[ak.out];go_wp2_with fail;refine H1.out.mono ?_;rintro e w2 ⟨qs,A2,c2,rfl,_,_,_,ah⟩;have aT:=zH ah
 by_cases hq:(qs.length:Int)<=14
 . have HC:=zH (H2.out w2 aT.out)
   obtain⟨p0,p1,p2,p3,p4,p5,_⟩:=Ki (D0.out _ aT.out);clear H2;go_wp2_with fail;refine HC.out.mono ?_;rintro e w3 ⟨m,rfl,_,al⟩;have bK:=zH (Lc aT.out al)
   by_cases hm:(m:Int)<=5
   . go_wp2_with fail
     go_ret;exact HRT.out Au _ bK.out
   have mL:decide ((m:Int)<=5)=Aw:=Lu hm;go_wp2_with fail;go_ret;exact HRT.out Aw _ bK.out
 clear H2;go_wp2_with fail;go_ret;exact HRT.out Aw _ aT.out
end
section
open Go.RowKit
def fcK(R:Fm->Nat×Nat)(L:Nat)(l:List Fm)(k:Nat):Nat:=min (zN R (l.take k)).1 L
theorem fcK_zero(R:Fm->Nat×Nat){L:Nat}(h:1<=L)(l:List Fm):fcK R L l 0=1:=by
 unfold fcK;rw[PB];show min 1 L=1;omega
theorem fcK_step(R:Fm->Nat×Nat)(_hR:∀x,1<=(R x).1){L k:Nat}{l:List Fm}(hk:k<l.length)(h:fcK R L l k<L):fcK R L l (k+1)=fcK R L l k+min (R l[k]).1 (L-fcK R L l k):=by
 unfold fcK at *;rw[Lq hk,qV];dsimp only;omega
theorem fcK_end(R:Fm->Nat×Nat){L k:Nat}{l:List Fm}(h:l.length<=k\/L<=fcK R L l k):fcK R L l k=min (zN R l).1 L:=by
 unfold fcK at *;rcases h with h | h
 . rw[NZ h]
 have:=(qU R l k).1;omega
end
section
open Go.RowKit Go.Shelf
attribute [local go_sem] Oper.semAt_some
theorem gQ(f:Fm)(R:Fm->Nat×Nat)(hR:∀x,1<=(R x).1)(L:Nat)(hL1:1<=L)(hL:L<=140)(A:Bb)(c:Nat)(w:Ba)
  (dX:RecAt w A f.args fun cs x X=>∀L':Nat,1<=L'->L'<=140->An Al 99 #[.agg cs,O U (L':Int)] X fun e w'=>e=Ak (O U ((min (R x).1 L':Nat):Int))/\Am X.heap.size X w') :
  An Al 99 #[.agg (f.vs A c),O U (L:Int)] w fun e w'=>e=Ak (O U ((min (zN R f.args).1 L:Nat):Int))/\Am w.heap.size w w':=by
 obtain⟨w1,ae,d0,aw,hB⟩:=zm w (f.vs A c) 32;have aX:=zH dX;have rT:=zH (fun k (h:k<f.args.length)=>fcK_step R hR (L:=L) h);have Hk:=zH (fun k=>fcK_end R (L:=L) (k:=k) (l:=f.args));have oG:=zH (fcK_zero R hL1 f.args);have TA:Aq (∀k,fcK R L f.args k<=L):=fun k=>by unfold fcK;omega
 unfold Fm.vs at ae d0 aX ⊢;obtain⟨l,aN⟩:=Kk f.args;rw[aN] at ae d0 aX rT Hk oG TA ⊢;obtain⟨T,hT⟩:=Kk (min (zN R l).1 L);rw[hT] at Hk ⊢;obtain⟨n,hn⟩:=Kk l.length;have HN:=zH hn;rw[hn] at ae d0 Hk ⊢;have ak:=zH ae;have HB:=zH hB;have dU:=zH d0;have p4:=zh (d0) 4 rfl;have p5:=zh (d0) 5 rfl;clear ae d0 hB dX aN hT hn;go_enter func99,ntmps99;go_wp2_with fail;rw[ak.out];go_wp2_with fail
 go_loopw [5,6] (fun a i wr=>∃k:Nat,k<=n/\i=O U (k:Int)/\a=O U (fcK R L l k:Int)/\k+1<=fcK R L l k/\Aq (Am w1.heap.size w1 wr)) (fun _ i _=>n-(Ap i).toNat)
 case atStart=>exact⟨0,by omega,rfl,by rw[oG.out];rfl,by rw[oG.out];omega,Li _ _⟩
 obtain⟨k,hk,rfl,rfl,sq,bD⟩:=hrel;clear p4 p5 ak oG;obtain⟨a,ha⟩:=Kk (fcK R L l k);have haL:a<=L:=by rw[<-ha];exact TA.out k
 have p5:=zh (La bD.out dU.out) 5 rfl;rw[ha] at sq ⊢
 by_cases ac:k<n
 . have dS:(0:Int)<=(k:Int):=by omega
   have aW:(k:Int)<(n:Int):=by omega
   by_cases Wa:a<L
   . have fP:(a:Int)<(L:Int):=by omega
     have dy:k<l.length:=by have:=HN.out;omega
     have fl:=rT.out k dy (by rw[ha];exact Wa);rw[ha] at fl;obtain⟨bb,o,A',c',eA,cj,ap,aJ⟩:=aX.out k dy;subst eA;obtain⟨x,hx⟩:=Kk (l[k]);rw[hx] at ap aJ fl;obtain⟨xh,xl⟩:=x;obtain⟨h0,h1,h2,h3,h4⟩:=xh;have Wd:Am w.heap.size w wr:=HB.out.trans (bD.out.mono (by have:=HB.out.size;omega));have hc:∀j v,#[O U h0,O U h1,O U h2,O U h3,O U h4,I A' xl.length c'][j]?=J v->wr.cell? ⟨bb,o+k*6+j,Z⟩=J v:=ap wr Wd;have z0:wr.cell? ⟨bb,o+k*6,Z⟩=J (O U h0):=hc 0 _ rfl;have z1:wr.cell? ⟨bb,o+k*6+1,Z⟩=J (O U h1):=hc 1 _ rfl;have z2:wr.cell? ⟨bb,o+k*6+2,Z⟩=J (O U h2):=hc 2 _ rfl;have z3:wr.cell? ⟨bb,o+k*6+3,Z⟩=J (O U h3):=hc 3 _ rfl;have z4:wr.cell? ⟨bb,o+k*6+4,Z⟩=J (O U h4):=hc 4 _ rfl;have z5:wr.cell? ⟨bb,o+k*6+5,Z⟩=J (I A' xl.length c'):=hc 5 _ rfl;have aO:bb<wr.heap.size:=by have:=bD.out.size;have:=HB.out.size;omega
     have HC:=zH (aJ wr Wd (L-a) (by omega) (by omega));simp only[Fm.vs,Fm.args,Fm.h] at HC;have pK:(L:Int)-(a:Int)=((L-a:Nat):Int):=by omega
     have fj:IntKind.i64.wrap ((L-a:Nat):Int)=((L-a:Nat):Int):=by rw[Ll];omega
     obtain⟨r,hr⟩:=Kk (min (R (Fm.mk ⟨h0,h1,h2,h3,h4⟩ xl)).1 (L-a));have hrL:r<=L-a:=by omega
     have iV:1<=r:=by have:=hR (Fm.mk ⟨h0,h1,h2,h3,h4⟩ xl);omega
     rw[hr] at HC fl;have pD:=zH fl;obtain⟨q,hq⟩:=Kk (L-a);rw[hq] at HC pK fj hrL;have Dd:=zH bD.out;clear ap aJ hx hc bD Wd hr fl hq;go_wp2_with fail;refine HC.out.mono ?_;rintro e w3 ⟨rfl,al⟩;have bK:=zH (Lc Dd.out al);have ae:IntKind.i64.wrap ((a:Int)+(r:Int))=((a+r:Nat):Int):=by rw[Ll];omega
     have aC:IntKind.i64.wrap ((k:Int)+1)=((k+1:Nat):Int):=by rw[Ll];omega
     clear al HC z0 z1 z2 z3 z4 z5 p5 pK fj;go_wp2_with fail
     go_roundw
     case rel=>exact⟨k+1,by omega,by go_num,by first | (rw[pD.out];done) | (rw[pD.out];go_num),by rw[pD.out];omega,bK⟩
     simp[Ap];omega
   have fP:¬(a:Int)<(L:Int):=by omega
   have hE:Aq (a=T):=by rw[Aq,<-Hk.out k (.inr (by rw[ha];omega)),ha]
   have mO:=zH (HB.out.trans (bD.out.mono (by have:=HB.out.size;omega)));clear rT Hk TA aX bD;go_wp2_with fail;go_ret;rw[hE.out];exact⟨rfl,mO.out⟩
 have aW:¬(k:Int)<(n:Int):=by omega
 have hE:Aq (a=T):=by rw[Aq,<-Hk.out k (.inl (by have:=HN.out;omega)),ha]
 have mO:=zH (HB.out.trans (bD.out.mono (by have:=HB.out.size;omega)));clear rT Hk TA aX bD;go_wp2_with fail;go_ret;rw[hE.out];exact⟨rfl,mO.out⟩
theorem gR:∀(d:Nat) (f:Fm) (L:Nat) (_:1<=L) (_:L<=140) (A:Bb) (c:Nat) (w:Ba),FsAt w w.heap.size d A f.args ->
  An Al 99 #[.agg (f.vs A c),O U (L:Int)] w fun e w'=>e=Ak (O U ((min (zL d f).1 L:Nat):Int))/\Am w.heap.size w w'
 | 0,f,L,h1,hL,A,c,w,hA=>by
  have h0:f.args=[]:=hA;have:=gQ f (fun _=>(1,1)) (fun _=>Ld _) L h1 hL A c w (RecAt.none hA);rw[h0] at this;unfold zL;rw[h0];exact this
 | d+1,f,L,h1,hL,A,c,w,hA=>gQ f (zL d) (ka d) L h1 hL A c w (RecAt.of hA fun x A' c' X hx hX L' WU hL'=>gR d x L' WU hL' A' c' X hX)
theorem QD(d:Nat)(f:Fm)(A:Bb)(c:Nat)(w:Ba)(hA:FsAt w w.heap.size d A f.args) :
  An Al 56 #[.agg (f.vs A c)] w fun e w'=>e=Ak (Ah (decide ((zL d f).1<140)))/\Am w.heap.size w w':=by
 obtain⟨w1,ae,d0,aw,hB⟩:=zm w (f.vs A c) 32;have pb:=zH (gR d f 140 (by omega) (by omega) A c w1 ((hA.keep hB).more hB.size));have hdd:decide (((min (zL d f).1 140:Nat):Int)<140)=decide ((zL d f).1<140):=decide_eq_decide.2 (by omega);have sc:=zH hdd;obtain⟨r,hr⟩:=Kk (min (zL d f).1 140);rw[hr] at pb sc;unfold Fm.vs at ae d0 pb ⊢;have ak:=zH ae;have HB:=zH hB;clear ae d0 hB hA hr hdd;go_enter func56,ntmps56;go_wp2_with fail;rw[ak.out];go_wp2_with fail;refine pb.out.mono ?_;rintro e w3 ⟨rfl,al⟩;have mO:=zH (Lc HB.out al);go_wp2_with fail;go_ret;rw[<-sc.out];exact⟨rfl,mO.out⟩
theorem ZO(A:Bb)(ca n:Nat)(hn:n<=100000)(a:List Bool)(ha:a.length=n)(w:Ba)(hA:BAt w w.heap.size A a) :
  An Al 63 #[I A n ca] w (RetB (qb n a) w):=by
 have HA:=zH hA;have np:=zH ha;have iD:=xy n hn;obtain⟨rs,oL⟩:=Kk (qb n a);have eh:rs.length=n:=by rw[<-oL];exact qf ..
 have eo:=zH eh
 have ef:Aq (∀k (h:k<n),rs[k]'(by rw[eo.out];exact h)=!(a[k]'(by rw[np.out];exact h))):=fun k h=>by
  subst oL;rw[<-zw (by rw[eo.out];exact h) Aw,xN h,zw (by omega)]
 unfold RetB;rw[oL,eh];go_enter func63,ntmps63;go_upto_region 2 with fail
 obtain⟨w3,cO,d3,dx,ck⟩:=zm w (xZ (List.replicate n Aw)) 4;rw[cO];have pi:=zH (HA.out.keep ck);have fI:=zH ck;have oG:Aq (BRow w3 w.heap.size (xG rs 0)):=by rw[vp,eo.out];exact d3
 obtain⟨g,hg⟩:=Kk w.heap.size;rw[hg] at pi fI oG dx ⊢;go_wp2_with fail
 go_loopw [11] (fun i wr=>∃k:Nat,k<=n/\i=O U (k:Int)/\Aq (BRow wr g (xG rs k))/\Aq (Am g w3 wr)) (fun i _=>n-(Ap i).toNat)
 case atStart=>exact⟨0,by omega,rfl,oG,Li _ _⟩
 obtain⟨k,hk,rfl,bD,aO⟩:=hrel;have pm:IntKind.i64.wrap ((k:Int)+1)=((k+1:Nat):Int):=by rw[Ll];omega
 by_cases ac:k<n
 . obtain⟨b1,o1,rfl,aQ,z0⟩:=(pi.out.keep aO.out).at_ k (by rw[np.out];exact ac)
   have bG:=ef.out k ac;obtain⟨x,hx⟩:=Kk (a[k]'(by rw[np.out];exact ac));rw[hx] at z0 bG;have nI:k<rs.length:=by rw[eo.out];exact ac
   have rI:=uS rs (Ru nI);have y0:=zh bD.out k (qI (xG rs k) k (by omega));have f0:=zi bD.out k
   have od:Aq (BRow (wr.setCell ⟨g,k,Z⟩ (Ah (!x))) g (xG rs (k+1))):=by
    rw[<-bG,<-uR rs nI];show _=_;rw[Lk wr _ k _ _ _ bD.out,vr]
   have tt:=zH (aO.out.setCell (p:=⟨g,k,Z⟩) (by show g<=g;omega) (Ah (!x)));obtain⟨u,hu⟩:=Kk ((xG rs k)[k]'(by omega));rw[hu] at y0;have dS:(0:Int)<=(k:Int):=by omega
   have aW:(k:Int)<(n:Int):=by omega
   cases x with
   | false=>
    go_wp2_with fail
    go_roundw
    case rel=>exact⟨k+1,by omega,by go_num,od,tt⟩
    case measure=>simp[Ap];omega
   | true=>
    go_wp2_with fail
    go_roundw
    case rel=>exact⟨k+1,by omega,by go_num,od,tt⟩
    case measure=>simp[Ap];omega
 obtain rfl:n=k:=by omega
 have aW:¬(n:Int)<(n:Int):=by omega
 have HE:Aq (BRow wr g rs):=by have:=bD.out;rwa[show xG rs n=rs by rw[<-eo.out];exact uT rs] at this
 have Dl:=zH (fI.out.trans aO.out);subst hg;go_wp2_with fail;go_ret;exact⟨w.heap.size,rfl,Ld _,HE.out,Dl.out⟩
theorem tand_any(x y:Bool)(w:Ba):An Al 65 #[Ah x,Ah y] w fun e w'=>e=Ak (Ah (x&&y))/\Am w.heap.size w w':=by
 cases x with
 | false=>
  go_enter func65,ntmps65;go_wp2_with fail;go_ret;exact⟨rfl,by first | exact Li _ _ | exact(Li _ _).drew⟩
 | true=>
  go_enter func65,ntmps65;go_wp2_with fail;go_ret;exact⟨rfl,by first | exact Li _ _ | exact(Li _ _).drew⟩
theorem tor_any(x y:Bool)(w:Ba):An Al 66 #[Ah x,Ah y] w fun e w'=>e=Ak (Ah (x||y))/\Am w.heap.size w w':=by
 cases x with
 | false=>
  go_enter func66,ntmps66;go_wp2_with fail;go_ret;exact⟨rfl,by first | exact Li _ _ | exact(Li _ _).drew⟩
 | true=>
  go_enter func66,ntmps66;go_wp2_with fail;go_ret;exact⟨rfl,by first | exact Li _ _ | exact(Li _ _).drew⟩
theorem tpw_any(op:Bool->Bool->Bool)(kf:Nat)(ek:Enters Al kf)(cS:∀x y X,An Al kf #[Ah x,Ah y] X fun e w'=>e=Ak (Ah (op x y))/\Am X.heap.size X w')(A B:Bb)(ca cb n:Nat)(hn:n<=100000)(a b:List Bool)(ha:a.length=n)(hb:b.length=n)(rs:List Bool)(eh:rs.length=n)(bG:∀k (h:k<n),rs[k]'(by omega)=op (a[k]'(by omega)) (b[k]'(by omega)))
  (w:Ba) (hA:BAt w w.heap.size A a) (hB:BAt w w.heap.size B b) :
  An Al 64 #[I A n ca,I B n cb,.func (.func kf) #[] #[]] w (RetB rs w):=by
 have HA:=zH hA;have HB:=zH hB;have np:=zH ha;have tn:=zH hb;have iD:=xy n hn;have eo:=zH eh;have ef:Aq (∀k (h:k<n),rs[k]'(by rw[eo.out];exact h)=op (a[k]'(by rw[np.out];exact h)) (b[k]'(by rw[tn.out];exact h))):=bG;have Tw:=zH cS;unfold RetB;rw[eh];clear bG cS hA hB ha hb eh;go_enter func64,ntmps64;go_upto_region 2 with fail
 obtain⟨w3,cO,d3,dx,ck⟩:=zm w (xZ (List.replicate n Aw)) 4;rw[cO];have pi:=zH (HA.out.keep ck);have bK:=zH (HB.out.keep ck);have fI:=zH ck;have oG:Aq (BRow w3 w.heap.size (xG rs 0)):=by rw[vp,eo.out];exact d3
 obtain⟨g,hg⟩:=Kk w.heap.size;rw[hg] at pi bK fI oG dx ⊢;go_wp2_with fail
 go_loopw [14] (fun i wr=>∃k:Nat,k<=n/\i=O U (k:Int)/\Aq (BRow wr g (xG rs k))/\Aq (Am g w3 wr)) (fun i _=>n-(Ap i).toNat)
 case atStart=>exact⟨0,by omega,rfl,oG,Li _ _⟩
 obtain⟨k,hk,rfl,bD,aO⟩:=hrel;have pm:IntKind.i64.wrap ((k:Int)+1)=((k+1:Nat):Int):=by rw[Ll];omega
 by_cases ac:k<n
 . have dS:(0:Int)<=(k:Int):=by omega
   have aW:(k:Int)<(n:Int):=by omega
   obtain⟨b1,o1,rfl,aQ,z0⟩:=(pi.out.keep aO.out).at_ k (by rw[np.out];exact ac);obtain⟨b2,o2,rfl,ah,z1⟩:=(bK.out.keep aO.out).at_ k (by rw[tn.out];exact ac);have bG:=ef.out k ac;obtain⟨x,hx⟩:=Kk (a[k]'(by rw[np.out];exact ac));obtain⟨y,hy⟩:=Kk (b[k]'(by rw[tn.out];exact ac));rw[hx] at z0 bG;rw[hy] at z1 bG;have nI:k<rs.length:=by rw[eo.out];exact ac
   obtain⟨z,hz⟩:=Kk (op x y);have hc:=Tw.out x y;rw[hz] at bG hc;have HC:=zH hc;have cH:=bD.out.lt;have ai:Aq (∀X,Am wr.heap.size wr X->X.cell? ⟨b1,o1+k,Z⟩=J (Ah x)/\X.cell? ⟨b2,o2+k,Z⟩=J (Ah y)):=fun X hX=>⟨(hX.cell (p:=⟨b1,_,Z⟩) (LG wr _ z0)).trans z0,(hX.cell (p:=⟨b2,_,Z⟩) (LG wr _ z1)).trans z1⟩
   have HX:=zH bG;clear z0 z1 bG hc hx hy hz;go_upto_region 5 with fail
   refine zt [(0,Au),(1,Au),(2,Au),(3,Au),(4,Au),(5,Au),(6,Au),(7,Au),(8,Au),(9,Au),(10,Au),(11,Aw),(12,Aw),(13,Aw)] (fun X=>X.cell? ⟨b1,o1+k,Z⟩=J (Ah x)/\X.cell? ⟨b2,o2+k,Z⟩=J (Ah y)) (by kernel_rfl) (by kernel_rfl) (ai.out _ (Li _ _).drew) ?_
   repeat
    apply zj rfl
    . rintro K' aa X ⟨u1,u2⟩
      go_simp;exact aa
   refine zn rfl ?_;intro K' aa;go_simp;rw[ek];refine Sl (HC.out _) ?_;rintro e w5 ⟨rfl,aj⟩;have aj:Am wr.heap.size wr w5:=(Li _ wr).drew.trans aj;have Hm:=zH ((aj.block g cH).trans bD.out);have HBW5:=zH (aO.out.trans (aj.mono (by have:=aO.out.size;omega)));have Vj:=ai.out _ aj;refine aa _ _ Vj ?_;clear aa K' aj;have rI:=uS rs (Ru nI);have y0:=zh Hm.out k (qI (xG rs k) k (by omega));have f0:=zi Hm.out k;obtain⟨u,hu⟩:=Kk ((xG rs k)[k]'(by omega));rw[hu] at y0
   have od:Aq (BRow (w5.setCell ⟨g,k,Z⟩ (Ah z)) g (xG rs (k+1))):=by
    rw[<-HX.out,<-uR rs nI];show _=_;rw[Lk w5 _ k _ _ _ Hm.out,vr]
   have tt:=zH (HBW5.out.setCell (p:=⟨g,k,Z⟩) (by show g<=g;omega) (Ah z));refine zn rfl ?_;intro K' aa;go_simp;refine aa _ _ (by assumption) ?_;clear aa K';refine yb rfl (by kernel_rfl) ?_;intro K' aa;go_simp;refine aa (fun _=>True) _ _ trivial ?_;refine zy ?_;go_wp2_with fail
   go_roundw
   case rel=>exact⟨k+1,by omega,by go_num,od,tt⟩
   simp[Ap];omega
 obtain rfl:n=k:=by omega
 have aW:¬(n:Int)<(n:Int):=by omega
 have HE:Aq (BRow wr g rs):=by have:=bD.out;rwa[show xG rs n=rs by rw[<-eo.out];exact uT rs] at this
 have Dl:=zH (fI.out.trans aO.out);subst hg;go_wp2_with fail;go_ret;exact⟨w.heap.size,rfl,Ld _,HE.out,Dl.out⟩
theorem bw_any(s:Sy)(A SV AV AX:Bb)(kc ks kv kx:Nat)(w:Ba):An Al 120 #[.agg (s.vs_ A kc SV ks AV kv AX kx)] w fun e w'=>
  e=Ak (.func (.func 145) #[] #[Aj (J ⟨w.heap.size,0,Z⟩)])/\w.alloc (Ag (s.vs_ A kc SV ks AV kv AX kx) 39)=w':=by
 unfold Sy.vs_;go_enter func120,ntmps120;go_wp2;go_ret;exact⟨rfl,rfl⟩
theorem Jy(C:Array Ar)(K M m:Nat)(hK:K<=100)(hM:M<=100)(hm:M*(K+1)=m)(AX:Bb)(kx:Nat)(hC6:C[6]?=J (O U (K:Int)))(hC9:C[9]?=J (I AX M kx))(bs:Nat)(w:Ba)(hb:w.heap[bs]?=J (Ag C 39 (0,0))) :
  Qe Al 145 #[Aj (J ⟨bs,0,Z⟩)] (fun x:Nat×Bool=>#[O U x.1,Ah x.2]) (fun k=>k=bs) (bwL K m) w:=fun n hn l Af Jx W hW hJ Ww hY h0=>by
 have oV:bs<w.heap.size:=(Ln.1 hb).1;have mB:=(hW.block bs oV).trans hb;have HY:=zH hY;have c6:=zh mB 6 hC6;have c9:=zh mB 9 hC9;have H0:=zH h0;have C7:=zH mB;have hpW:bs<W.heap.size:=LE oV hW.size;have lZ:m<=10100:=by rw[<-hm];exact LV hM (show K+1<=101 by omega)
 have ae:IntKind.i64.wrap ((K:Int)+1)=(K:Int)+1:=by rw[Ll];omega
 have U8:(M:Int)*((K:Int)+1)=(m:Int):=by rw[<-hm];push_cast;rfl
 have aC:IntKind.i64.wrap ((M:Int)*((K:Int)+1))=(m:Int):=by rw[U8,Ll];omega
 have cO:IntKind.i64.wrap ((m:Int)-1)=(m:Int)-1:=by rw[Ll];omega
 have ip:IntKind.i64.wrap ((K:Int)+1-1)=(K:Int):=by rw[Ll];omega
 refine RM func145 rfl trivial ?_ rfl;simp only[ntmps145,List.size_toArray,List.length_cons,List.length_nil,Nat.reduceAdd,Nat.reduceSub,Array.replicate_succ,Array.replicate_zero,List.push_toArray,List.append_toArray,List.nil_append,List.cons_append];gi_wp2_with fail
 gi_loopw [4] (fun q wr=>∃k:Nat,k<=m/\q=O U ((k:Int)-1)/\∃pre:List { x:Nat×Bool // x∈bwL K m },Aq (pre.map (·.1)++bwL K k=bwL K m)/\Aq (Af pre wr)/\Aq (wr.heap[bs]?=J (Ag C 39 (0,0)))/\W.heap.size<=wr.heap.size) (fun q _=>(Ap q+1).toNat)
 case atStart=>exact⟨m,by omega,rfl,[],by simp[Aq],H0,C7,Ld _⟩
 case round=>
  obtain⟨k,hk,rfl,pre,mA,la,ti,bL⟩:=hrel
  cases k with
  | succ j=>
   have ej:((j+1:Nat):Int)-1=(j:Int):=by omega
   rw[ej];have pO:pre.map (·.1)++((j,!zY K j)::bwL K j)=bwL K m:=mA.out;have dC:(j,!zY K j)∈bwL K m:=by rw[<-pO];simp
   have aL:pre.length<(bwL K m).length:=by
    have:=congrArg List.length pO;simp only[List.length_append,List.length_map,List.length_cons] at this;omega
   obtain⟨fn,tmps,assign,body,hy,hR⟩:=HY.out pre ⟨(j,!zY K j),dC⟩ _ la.out aL;dsimp only at hy
   have AP:Aq ((pre++[(⟨(j,!zY K j),dC⟩:{ x:Nat×Bool // x∈bwL K m })]).map (·.1)++bwL K j=bwL K m):=by
    rw[LK,Nh];exact pO
   have HR:=zH hR;obtain⟨r,hr⟩:=Kk (j % (K+1));have rI:r<K+1:=by rw[<-hr];exact Pv _ (by omega)
   have iV:((j:Int)).tmod ((K:Int)+1)=(r:Int):=by rw[<-hr];exact(Sk j (K+1)).symm
   have lL:((r:Int) != (K:Int))=!zY K j:=by
    unfold zY;rw[hr]
    by_cases e:r=K
    . rw[Lw e,e];simp
    . rw[Lu e];simp;omega
   obtain⟨lb,In⟩:=Kk (zY K j);rw[In] at lL hy;have DR:(0:Int)<=(j:Int):=by omega
   have hwj:IntKind.i64.wrap ((j:Int)-1)=(j:Int)-1:=by rw[Ll];omega
   have oJ:IntKind.i64.wrap (r:Int)=(r:Int):=by rw[Ll];omega
   clear hr In;have hz:¬((K:Int)+1)=0:=by omega
   gi_wp2_with fail;refine HR.out.mono ?_;rintro e W3 (⟨rfl,GE,rL⟩ | ⟨rfl,rg⟩)
   . have aw:wr.heap.size<=W3.heap.size:=rL.size
     have P3:=zH ((rL.same bs rfl (by omega)).trans ti.out);have J3:=zH GE;have nD:W.heap.size<=W3.heap.size:=by omega
     gi_wp2_with fail
     go_roundw
     case rel=>exact⟨j,by omega,rfl,_,AP,J3,P3,nD⟩
     case measure=>simp[Ap]
   . gi_wp2_with fail
     refine LI (Rr rfl _ _ _) rfl ?_;refine⟨⟨_,rfl⟩,.inr ⟨_,?_,rg⟩⟩;exact⟨_,AP.out⟩
  | zero=>
   have HP:Aq (pre.map (·.1)=bwL K m):=by have:=mA.out;rwa[bwL,Nj] at this
   have DR:¬(0:Int)<=((0:Nat):Int)-1:=by omega
   gi_wp2_with fail
   go_end0
   exact⟨⟨_,rfl⟩,.inl ⟨pre,HP.out,la.out⟩⟩
theorem grown_blk{X X':Ba}{row:Option Nat}{D b:Nat}(hg:X.grownBy X' row)(hr:∀r,row=J r->D<=r/\∃o:Obj,X.heap[r]?=J o/\o.isCells=Aw){cs:Array Ar}{t:TypeId}(h:X.heap[b]?=J (Ag cs t (0,0))):X'.heap[b]?=J (Ag cs t (0,0)):=
 (Nd hg (fun r e=>(hr r e).2) h rfl).trans h
structure BwIn(g n:Nat)(rs:List Bool)(L:List (Nat×Bool))(w:Ba)(ys:List (Nat×Bool))(X:Ba):Prop where
 wrote:Wrote (fun z=>z=g) w X
 row:∃bs,bs.length=n/\BRow X g bs/\(ys <+: L->bs=jk rs (n-ys.length))
theorem BwIn.turn{g n:Nat}{rs:List Bool}{L ys:List (Nat×Bool)}{w X X':Ba}{row:Option Nat}(h:BwIn g n rs L w ys X)(_hl:g<w.heap.size)(hg:X.grownBy X' row)(hr:∀r,row=J r->w.heap.size<=r/\∃o:Obj,X.heap[r]?=J o/\o.isCells=Aw):BwIn g n rs L w ys X':=by
 obtain⟨h1,bs,h2,h3,h4⟩:=h;exact⟨h1.trans (Wrote.of_grown (R:=fun k=>w.heap.size<=k) hg fun k e _=>(hr k e).1) (fun k hk h=>absurd (show w.heap.size<=k from h) (by omega)),bs,h2,grown_blk hg hr h3,h4⟩
theorem brow_setB{w:Ba}{g:Nat}{bs:List Bool}(h:BRow w g bs)(k:Nat)(x:Bool):BRow (w.setCell ⟨g,k,Z⟩ (Ah x)) g (bs.set k x):=by
 unfold BRow at *;rw[World.setCell,PF,Lj rfl,h];simp[xZ,List.map_set]
theorem BwIn.set{g K n:Nat}{rs:List Bool}{w X:Ba}{pre:List { x:Nat×Bool // x∈bwL K n }}{x:{ x:Nat×Bool // x∈bwL K n }}{bs:List Bool}(eh:rs.length=n)(hw:Wrote (fun z=>z=g) w X)(cp:bs.length=n)(an:BRow X g bs)
  (v:Bool) (hv:(pre++[x]).map (·.1) <+: bwL K n->∀k,k<n->x.1=(k,!zY K k)->bs=jk rs (k+1)->v=rs.getD k Aw) (bN:pre.map (·.1) <+: bwL K n->bs=jk rs (n-(pre.map (·.1)).length)) :
  BwIn g n rs (bwL K n) w ((pre++[x]).map (·.1)) (X.setCell ⟨g,x.1.1,Z⟩ (Ah v)).drew:=by
 refine⟨(hw.trans (Wrote.of_grown (zQ X g x.1.1 (Ah v)) fun k e hk=>by cases e;rfl) (fun _ _ h=>h)).trans (Wrote.of_below (Li _ _).drew) (fun _ _ h=>h),_,?_,brow_setB an _ _,fun hp=>?_⟩
 . rw[List.length_set];exact cp
 obtain⟨k,hk,ek⟩:=bw_next hp
 have FN:pre.map (·.1) <+: bwL K n:=by
  refine List.IsPrefix.trans ?_ hp;rw[LK];exact List.prefix_append _ _
 have hb:=bN FN;rw[LM,show n-pre.length=k+1 by omega] at hb;have h2:=hv hp k (by omega) ek hb;rw[ek,hb,h2,zw (by omega),behB_set (by omega)];simp only[List.length_map,List.length_append,List.length_cons,List.length_nil];rw[show n-(pre.length+(0+1))=k by omega]
theorem tnext_any(s:Sy)(AC SV AV AX:Bb)(kc ks kv kx K M n:Nat)(hk:s.p.k=(K:Int))(hK:K<=100)(hM:s.xs.length=M)(sD:M<=100)(hn:n=M*(K+1))(A:Bb)(ca:Nat)(a:List Bool)(ha:a.length=n)(rs:List Bool)(eh:rs.length=n)
  (bG:∀k,k<n->rs.getD k Aw=(!zY K k&&a.getD (k+1) Aw)) (w:Ba) (hA:BAt w w.heap.size A a) :
  An Al 67 #[.agg (s.vs_ AC kc SV ks AV kv AX kx),I A n ca] w (RetB rs w):=by
 have oC:n<=10100:=by rw[hn];exact LV sD (show K+1<=101 by omega)
 have iD:=xy n (by omega);unfold RetB;rw[eh];obtain⟨w1,ae,d0,aw,aB⟩:=zm w (s.vs_ AC kc SV ks AV kv AX kx) 39;obtain⟨w2,aC,d1,bQ,az⟩:=zm w1 #[I A n ca] 58;rw[aw] at d1 bQ;obtain⟨w3,cO,d2,dx,ck⟩:=zm w2 (xZ (List.replicate n Aw)) 4;have hT:w2.heap.size=w.heap.size+1+1:=by omega
 obtain⟨w5,eU,d5,cZ,lO⟩:=zm w3 #[I (J ⟨w2.heap.size,0,Z⟩) n n] 58;rw[dx] at d5 cZ;have BG:Am w2.heap.size w2 w5:=ck.trans (lO.mono (by omega));have Oh:Am w.heap.size w w2:=aB.trans (az.mono (by omega));have Ew:=Oh.trans (BG.mono (by omega));have e0:=(BG.block w.heap.size (by omega)).trans (Lb az (by omega) d0);have e1:=(BG.block (w.heap.size+1) (by omega)).trans (d1);have e2:BRow w5 w2.heap.size (List.replicate n Aw):=Lb lO (by omega) d2;obtain⟨g,hg⟩:=Kk w2.heap.size;rw[hg] at d5 cZ e2;have ak:=zH ae;have dK:=zH aC;have fI:=zH cO;rw[hg] at eU;have lC:=zH eU;have UE:w2.heap.size=g:=hg;have HG:=zH hg;have aK:=zH Ew;have di:=zH e0;have aq:=zH e1;have am:=zH e2;have fT:=zH d5;have ED:=zH cZ;have tq:Aq (g=w.heap.size+1+1):=by rw[Aq,<-hg];exact hT
 have lE:=zH (hA.keep Ew);have iK:=zH ha;have eo:=zH eh;have ef:=zH bG;have ee:=zH hn;have q1:=zh d1 0 rfl;have BW:=zH (fun X=>bw_any s AC SV AV AX kc ks kv kx X);have IT:Aq (∀(b:Nat) (X:Ba),X.heap[b]?=J (Ag (s.vs_ AC kc SV ks AV kv AX kx) 39 (0,0))->Qe Al 145 #[Aj (J ⟨b,0,Z⟩)] (fun x:Nat×Bool=>#[O U x.1,Ah x.2]) (fun k=>k=b) (bwL K n) X):=fun b X h=>Jy (s.vs_ AC kc SV ks AV kv AX kx) K M n hK sD hn.symm AX kx (by rw[<-hk];rfl) (by rw[<-hM];rfl) b X h
 unfold Sy.vs_ at ak di BW IT ⊢;clear ae aC cO eU hg hT d0 d1 d2 d5 aw bQ dx cZ aB az ck lO BG Oh Ew e0 e1 e2 hA ha bG eh hn hk hM;refine yr func67 rfl ?_;simp only[ntmps67,List.size_toArray,List.length_cons,List.length_nil,Nat.reduceAdd,Nat.reduceSub,Array.replicate_succ,Array.replicate_zero,List.push_toArray,List.append_toArray,List.nil_append,List.cons_append];go_upto_region 1 with fail
 rw[ak.out,dK.out];go_upto_region 2 with fail
 rw[fI.out,lC.out];obtain⟨p0,p1,p2,p3,p4,p5,p6,p7,p8,p9⟩:=zK (di.out);go_wp2_with fail;refine(BW.out w5).mono ?_;rintro e w6 ⟨rfl,sU⟩;obtain⟨W6,pA,d6,fU,lc⟩:=zm w5 #[O U s.p.t.n,O U s.p.t.ins,O U s.p.t.outs,I AC s.p.t.cases.length kc,O U s.p.a.n,I SV s.p.a.sts.length ks,O U s.p.k,O U s.n,I AV s.vs.length kv,I AX s.xs.length kx] 39;obtain rfl:W6=w6:=pA.symm.trans sU;have ib:=zH (IT.out _ W6 d6);have aq:=zH (La lc aq.out);have am:=zH (La lc am.out);have fT:=zH (La lc fT.out);have fh:=zH (Lc aK.out lc);have I7:=zH (lE.out.keep (lc.mono aK.out.size));have fd:g<W6.heap.size:=by have:=ED.out;omega
 have HZ6:Aq (W6.heap.size=w5.heap.size+1):=fU;have Hi:Aq (BwIn g n rs (bwL K n) W6 (([]:List { x:Nat×Bool // x∈bwL K n }).map (·.1)) W6):=⟨Wrote.refl _ _,_,LU,am.out,fun _=>by simp only[List.map_nil,List.length_nil,Nat.sub_zero];exact(XF eo.out).symm⟩;clear pA sU d6 fU lc p0 p1 p2 p3 p4 p5 p6 p7 p8 p9 BW IT;go_wp2_with fail
 refine ut rfl (NC func145 (by kernel_rfl) rfl) ib.out (by rintro z rfl;have:=HZ6.out;omega) (fun _=>rfl)
  (fun (pre:List { x:Nat×Bool // x∈bwL K n }) (X:Ba)=>BwIn g n rs (bwL K n) W6 (pre.map (·.1)) X)
  (fun _ _ _=>False)
  ?hI (fun _ _ _ _ _ h _ _=>h)
  Hi.out ?a1 ?assign ?body ?done ?stop
 case hI=>
  intro pre X X' row hX hg hr;exact BwIn.turn hX fd hg hr
 case assign=>
  intro l x W Kc Wv;gi_wp2;exact Wv
 case body=>
  intro l pre x X hI ac;obtain⟨hi,oQ⟩:=bwL_mem x.2;obtain⟨fL,bs,cp,an,bN⟩:=hI;have rh:=(fL.block _ (zk fT.out) (by show ¬_=g;omega)).trans fT.out;have lz:=(fL.block _ (zk aq.out) (by show ¬_=g;have:=tq.out;omega)).trans aq.out;obtain⟨⟨i,m⟩,hx⟩:=x;dsimp only at hi oQ
  have eb:Aq (∀v,KeepsFrom W6.heap.size X (X.setCell ⟨g,i,Z⟩ (Ah v)).drew/\KeepB (fun k=>k=w5.heap.size) X (X.setCell ⟨g,i,Z⟩ (Ah v)).drew):=fun v=>
   ⟨⟨by show X.heap.size<=(X.setCell ⟨g,i,Z⟩ (Ah v)).heap.size;simp[World.setCell],fun k o _ hk ho=>(Lf X ⟨g,i,Z⟩ _ k (fun e=>by have e:k=g:=e;rw[e,an] at hk;cases hk;cases ho)).trans hk⟩,(KeepB.setCell (by show ¬g=w5.heap.size;have:=ED.out;omega) _).trans (KeepB.drew _ _)⟩
  have iJ:=zH (fun (v:Bool) hv=>BwIn.set (x:=⟨(i,m),hx⟩) eo.out fL cp an v hv bN);have y0:=zh an i (qI bs i (by omega));have f0:=zi an i;have q5:=zh rh 0 rfl;have q1:=zh lz 0 rfl;have Ir:(0:Int)<=(i:Int):=by omega
  have hi1:(i:Int)<(n:Int):=by omega
  have HB:=zH an;obtain⟨u,hu⟩:=Kk (bs[i]'(by omega));rw[hu] at y0
  cases m with
  | false=>
   have hv:(pre++[(⟨(i,Aw),hx⟩:{ x:Nat×Bool // x∈bwL K n })]).map (·.1) <+: bwL K n->∀k,k<n->(i,Aw)=(k,!zY K k)->bs=jk rs (k+1)->Aw=rs.getD k Aw:=fun _ k hk e _=>by
    rw[ef.out k hk];have:(!zY K k)=Aw:=(congrArg Prod.snd e).symm;rw[this];rfl
   have HS:=zH (iJ.out Aw hv);have iw:=zH (eb.out Aw);have ai:=zH (And.intro rh lz);clear oQ hv fL an bN iJ eb rh lz ac q5 q1;gi_wp2_with fail;refine zX [(0,Au),(1,Au),(2,Au),(3,Au),(4,Au),(5,Au),(6,Au),(7,Au),(8,Au),(9,Au),(10,Aw),(11,Aw)] (fun X=>X.heap[g+1]?=J (Ag #[I (J ⟨g,0,Z⟩) n n] 58 (0,0))/\X.heap[w.heap.size+1]?=J (Ag #[I A n ca] 58 (0,0))) (by kernel_rfl) (by kernel_rfl) (by kernel_rfl) (by rintro⟨_,_,h⟩;exact h) ai.out ?_
   repeat
    apply zj rfl
    . rintro K' aa Y ⟨u1,u2⟩
      have y1:=zh u1 0 rfl;have y2:=zh u2 0 rfl;clear u1 u2;go_simp;exact aa
   refine zn rfl ?_;intro K' aa;go_simp;refine aa _ _ ai.out ?_;clear aa K';refine yb rfl (by kernel_rfl) ?_;intro K' aa;go_simp;refine aa (fun _=>True) _ _ trivial ?_;refine zy ?_;exact⟨iw.out.1,iw.out.2,HS.out⟩
  | true=>
   have fN:zY K i=Aw:=by cases h:zY K i with
    | false=>rfl
    | true=>rw[h] at oQ;cases oQ
   have rM:i+1<n:=by rw[ee.out] at hi ⊢;exact more_lt hi fN
   obtain⟨ba,oa,rfl,CF,hz⟩:=(I7.out.keep (fL.below (B:=w.heap.size) fh.out.size (fun k hk e=>by have:k=g:=e;have:=tq.out;omega))).at_ (i+1) (by rw[iK.out];exact rM);obtain⟨v,UH⟩:=Kk (a[i+1]'(by rw[iK.out];exact rM));rw[UH] at hz
   have hv:(pre++[(⟨(i,Au),hx⟩:{ x:Nat×Bool // x∈bwL K n })]).map (·.1) <+: bwL K n->∀k,k<n->(i,Au)=(k,!zY K k)->bs=jk rs (k+1)->v=rs.getD k Aw:=fun _ k hk e _=>by
    obtain rfl:i=k:=congrArg Prod.fst e;rw[ef.out i hk,fN,zw (by rw[iK.out];exact rM),UH];rfl
   have HS:=zH (iJ.out v hv);have iw:=zH (eb.out v);have hwi:IntKind.i64.wrap ((i:Int)+1)=(i:Int)+1:=by rw[Ll];omega
   have hi3:(0:Int)<=(i:Int)+1:=by omega
   have hi4:(i:Int)+1<(n:Int):=by omega
   have hti:((i:Int)+1).toNat=i+1:=by omega
   have ai:=zH (And.intro rh (And.intro lz hz));clear oQ hv fL an bN iJ eb rh lz ac q5 q1 hz UH CF;gi_wp2_with fail;refine zX [(0,Au),(1,Au),(2,Au),(3,Au),(4,Au),(5,Au),(6,Au),(7,Au),(8,Au),(9,Au),(10,Aw),(11,Aw)] (fun X=>X.heap[g+1]?=J (Ag #[I (J ⟨g,0,Z⟩) n n] 58 (0,0))/\X.heap[w.heap.size+1]?=J (Ag #[I (J ⟨ba,oa,Z⟩) n ca] 58 (0,0))/\X.cell? ⟨ba,oa+(i+1),Z⟩=J (Ah v)) (by kernel_rfl) (by kernel_rfl) (by kernel_rfl) (by rintro⟨_,_,h⟩;exact h) ai.out ?_
   repeat
    apply zj rfl
    . rintro K' aa Y ⟨u1,u2,u3⟩
      have y1:=zh u1 0 rfl;have y2:=zh u2 0 rfl;clear u1 u2;go_simp;exact aa
   refine zn rfl ?_;intro K' aa;go_simp;refine aa _ _ ai.out ?_;clear aa K';refine yb rfl (by kernel_rfl) ?_;intro K' aa;go_simp;refine aa (fun _=>True) _ _ trivial ?_;refine zy ?_;exact⟨iw.out.1,iw.out.2,HS.out⟩
 case done=>
  intro D ys W hD iy hI ik;obtain⟨fL,bs,cp,an,bN⟩:=hI
  have ma:bs=rs:=by
   have h1:=bN (by rw[iy];exact List.prefix_refl _);rw[iy,uW,Nq,JD] at h1;exact h1
  rw[ma] at an;have sI:=zH an;have Om:=zH fL;have HD:=zH ik;have q5:=zh ((fL.block _ (zk fT.out) (by show ¬_=g;omega)).trans fT.out) 0 rfl;clear fL an bN ma ik iy cp;go_wp2_with fail;refine yU (B:=w.heap.size) (kn (by have:=fh.out.size;omega) HD.out) (v:=I (J ⟨g,0,Z⟩) n n) (fun W=>by kernel_rfl) ?_;intro X hX;refine⟨g,rfl,by have:=tq.out;omega,?_,fh.out.trans ((Om.out.below (B:=w.heap.size) fh.out.size (fun k hk e=>by have:k=g:=e;have:=tq.out;omega)).trans hX.below)⟩;exact hX.same _ _ sI.out rfl
 intro D c pre W hD hS hI;exact hI.elim
theorem JR(s:Sy)(AC SV AV AX:Bb)(kc ks kv kx K M n:Nat)(hk:s.p.k=(K:Int))(hK:K<=100)(hM:s.xs.length=M)(sD:M<=100)(hn:n=M*(K+1))(A:Bb)(ca:Nat)(a:List Bool)(ha:a.length=n)(B:Bb)(cb:Nat)(b:List Bool)(hb:b.length=n)(rs:List Bool)(eh:rs.length=n)
  (bG:∀k,k<n->rs.getD k Aw=(b.getD k Aw||(a.getD k Aw&&(!zY K k&&rs.getD (k+1) Aw)))) (w:Ba) (hA:BAt w w.heap.size A a) (hB:BAt w w.heap.size B b) :
  An Al 70 #[.agg (s.vs_ AC kc SV ks AV kv AX kx),I A n ca,I B n cb] w (RetB rs w):=by
 have oC:n<=10100:=by rw[hn];exact LV sD (show K+1<=101 by omega)
 have iD:=xy n (by omega);unfold RetB;rw[eh];obtain⟨w1,ae,d0,aw,aB⟩:=zm w (s.vs_ AC kc SV ks AV kv AX kx) 39;obtain⟨w2,aC,d1,bQ,az⟩:=zm w1 #[I A n ca] 58;rw[aw] at d1 bQ;obtain⟨BT,Ku,Tf,KD,Ay⟩:=zm w2 #[I B n cb] 58;rw[bQ] at Tf KD;obtain⟨w3,cO,d2,dx,ck⟩:=zm BT (xZ (List.replicate n Aw)) 4;have hT:BT.heap.size=w.heap.size+1+1+1:=by omega
 obtain⟨w5,eU,d5,cZ,lO⟩:=zm w3 #[I (J ⟨BT.heap.size,0,Z⟩) n n] 58;rw[dx] at d5 cZ;have BG:Am BT.heap.size BT w5:=ck.trans (lO.mono (by omega));have Oh:Am w.heap.size w BT:=(aB.trans (az.mono (by omega))).trans (Ay.mono (by omega));have Ew:=Oh.trans (BG.mono (by omega));have e0:=(BG.block w.heap.size (by omega)).trans (Lb Ay (by omega) (Lb az (by omega) d0));have e1:=(BG.block (w.heap.size+1) (by omega)).trans (Lb Ay (by omega) d1);have e2:BRow w5 BT.heap.size (List.replicate n Aw):=Lb lO (by omega) d2;have e1b:=(BG.block (w.heap.size+1+1) (by omega)).trans Tf;obtain⟨g,hg⟩:=Kk BT.heap.size;rw[hg] at d5 cZ e2;have ak:=zH ae;have dK:=zH aC;have HW2b:=zH Ku;have fI:=zH cO;rw[hg] at eU;have lC:=zH eU;have UE:BT.heap.size=g:=hg;have HG:=zH hg;have aK:=zH Ew;have di:=zH e0;have aq:=zH e1;have Dh:=zH e1b;have am:=zH e2;have fT:=zH d5;have ED:=zH cZ;have tq:Aq (g=w.heap.size+1+1+1):=by rw[Aq,<-hg];exact hT
 have lE:=zH (hA.keep Ew);have HB5b:=zH (hB.keep Ew);have iK:=zH ha;have pf:=zH hb;have eo:=zH eh;have ef:=zH bG;have ee:=zH hn;have q1:=zh (Lb Ay (by omega) d1) 0 rfl;have J':=zh Tf 0 rfl;have BW:=zH (fun X=>bw_any s AC SV AV AX kc ks kv kx X);have IT:Aq (∀(b:Nat) (X:Ba),X.heap[b]?=J (Ag (s.vs_ AC kc SV ks AV kv AX kx) 39 (0,0))->Qe Al 145 #[Aj (J ⟨b,0,Z⟩)] (fun x:Nat×Bool=>#[O U x.1,Ah x.2]) (fun k=>k=b) (bwL K n) X):=fun b X h=>Jy (s.vs_ AC kc SV ks AV kv AX kx) K M n hK sD hn.symm AX kx (by rw[<-hk];rfl) (by rw[<-hM];rfl) b X h
 unfold Sy.vs_ at ak di BW IT ⊢;clear ae aC cO eU hg hT d0 d1 d2 d5 aw bQ dx cZ aB az ck lO BG Oh Ew e0 e1 e2 hA ha bG eh hn hk hM Ku KD Ay Tf e1b hB hb;refine yr func70 rfl ?_;simp only[ntmps70,List.size_toArray,List.length_cons,List.length_nil,Nat.reduceAdd,Nat.reduceSub,Array.replicate_succ,Array.replicate_zero,List.push_toArray,List.append_toArray,List.nil_append,List.cons_append];go_upto_region 1 with fail
 rw[ak.out,dK.out,HW2b.out];go_upto_region 2 with fail
 rw[fI.out,lC.out];obtain⟨p0,p1,p2,p3,p4,p5,p6,p7,p8,p9⟩:=zK (di.out);go_wp2_with fail;refine(BW.out w5).mono ?_;rintro e w6 ⟨rfl,sU⟩;obtain⟨W6,pA,d6,fU,lc⟩:=zm w5 #[O U s.p.t.n,O U s.p.t.ins,O U s.p.t.outs,I AC s.p.t.cases.length kc,O U s.p.a.n,I SV s.p.a.sts.length ks,O U s.p.k,O U s.n,I AV s.vs.length kv,I AX s.xs.length kx] 39;obtain rfl:W6=w6:=pA.symm.trans sU;have ib:=zH (IT.out _ W6 d6);have aq:=zH (La lc aq.out);have Dh:=zH (La lc Dh.out);have am:=zH (La lc am.out);have fT:=zH (La lc fT.out);have fh:=zH (Lc aK.out lc);have I7:=zH (lE.out.keep (lc.mono aK.out.size));have HB6b:=zH (HB5b.out.keep (lc.mono aK.out.size));have fd:g<W6.heap.size:=by have:=ED.out;omega
 have HZ6:Aq (W6.heap.size=w5.heap.size+1):=fU;have Hi:Aq (BwIn g n rs (bwL K n) W6 (([]:List { x:Nat×Bool // x∈bwL K n }).map (·.1)) W6):=⟨Wrote.refl _ _,_,LU,am.out,fun _=>by simp only[List.map_nil,List.length_nil,Nat.sub_zero];exact(XF eo.out).symm⟩;clear pA sU d6 fU lc p0 p1 p2 p3 p4 p5 p6 p7 p8 p9 BW IT;go_wp2_with fail
 refine ut rfl (NC func145 (by kernel_rfl) rfl) ib.out (by rintro z rfl;have:=HZ6.out;omega) (fun _=>rfl)
  (fun (pre:List { x:Nat×Bool // x∈bwL K n }) (X:Ba)=>BwIn g n rs (bwL K n) W6 (pre.map (·.1)) X)
  (fun _ _ _=>False)
  ?hI (fun _ _ _ _ _ h _ _=>h)
  Hi.out ?a1 ?assign ?body ?done ?stop
 case hI=>
  intro pre X X' row hX hg hr;exact BwIn.turn hX fd hg hr
 case assign=>
  intro l x W Kc Wv;gi_wp2;exact Wv
 case body=>
  intro l pre x X hI ac;obtain⟨hi,oQ⟩:=bwL_mem x.2;obtain⟨fL,bs,cp,an,bN⟩:=hI;have rh:=(fL.block _ (zk fT.out) (by show ¬_=g;omega)).trans fT.out;have lz:=(fL.block _ (zk aq.out) (by show ¬_=g;have:=tq.out;omega)).trans aq.out;have nS:=(fL.block _ (zk Dh.out) (by show ¬_=g;have:=tq.out;omega)).trans Dh.out;obtain⟨⟨i,m⟩,hx⟩:=x;dsimp only at hi oQ
  have eb:Aq (∀v,KeepsFrom W6.heap.size X (X.setCell ⟨g,i,Z⟩ (Ah v)).drew/\KeepB (fun k=>k=w5.heap.size) X (X.setCell ⟨g,i,Z⟩ (Ah v)).drew):=fun v=>
   ⟨⟨by show X.heap.size<=(X.setCell ⟨g,i,Z⟩ (Ah v)).heap.size;simp[World.setCell],fun k o _ hk ho=>(Lf X ⟨g,i,Z⟩ _ k (fun e=>by have e:k=g:=e;rw[e,an] at hk;cases hk;cases ho)).trans hk⟩,(KeepB.setCell (by show ¬g=w5.heap.size;have:=ED.out;omega) _).trans (KeepB.drew _ _)⟩
  have iJ:=zH (fun (v:Bool) hv=>BwIn.set (x:=⟨(i,m),hx⟩) eo.out fL cp an v hv bN);have y0:=zh an i (qI bs i (by omega));have f0:=zi an i;have q5:=zh rh 0 rfl;have q1:=zh lz 0 rfl;have J':=zh nS 0 rfl;have Ir:(0:Int)<=(i:Int):=by omega
  have hi1:(i:Int)<(n:Int):=by omega
  have HB:=zH an;obtain⟨u,hu⟩:=Kk (bs[i]'(by omega));rw[hu] at y0;have nN:=fL.below (B:=w.heap.size) fh.out.size (fun k hk e=>by have:k=g:=e;have:=tq.out;omega);obtain⟨ba,oa,rfl,CF,Cf⟩:=(I7.out.keep nN).at_ i (by rw[iK.out];exact hi);obtain⟨bb,ob,rfl,cj,tB⟩:=(HB6b.out.keep nN).at_ i (by rw[pf.out];exact hi);have CJ:a.getD i Aw=a[i]'(by rw[iK.out];exact hi):=zw (by rw[iK.out];exact hi) _;have CE:b.getD i Aw=b[i]'(by rw[pf.out];exact hi):=zw (by rw[pf.out];exact hi) _;obtain⟨y,hyd⟩:=Kk (a[i]'(by rw[iK.out];exact hi));obtain⟨x,hxd⟩:=Kk (b[i]'(by rw[pf.out];exact hi));rw[hyd] at Cf CJ;rw[hxd] at tB CE;clear hyd hxd CF cj nN
  cases x with
  | true=>
   have hv:(pre++[(⟨(i,m),hx⟩:{ x:Nat×Bool // x∈bwL K n })]).map (·.1) <+: bwL K n->∀k,k<n->(i,m)=(k,!zY K k)->bs=jk rs (k+1)->Au=rs.getD k Aw:=fun _ k hk e hb=>by
    obtain rfl:i=k:=congrArg Prod.fst e;rw[ef.out i hk,<-oQ,CE,CJ];rfl
   have HS:=zH (iJ.out Au hv);have iw:=zH (eb.out Au);have ai:=zH (And.intro rh (And.intro lz (And.intro nS (And.intro Cf tB))));clear hv fL an bN iJ eb rh lz nS ac q5 q1 J' Cf tB CE CJ oQ ef;gi_wp2_with fail;refine zX [(0,Au),(1,Au),(2,Au),(3,Au),(4,Au),(5,Au),(6,Au),(7,Au),(8,Au),(9,Au),(10,Au),(11,Au),(12,Au),(13,Au),(14,Au),(15,Au),(16,Au),(17,Au),(18,Au),(19,Au),(20,Au),(21,Au),(22,Aw),(23,Aw)] (fun X=>X.heap[g+1]?=J (Ag #[I (J ⟨g,0,Z⟩) n n] 58 (0,0))/\X.heap[w.heap.size+1]?=J (Ag #[I (J ⟨ba,oa,Z⟩) n ca] 58 (0,0))/\X.heap[w.heap.size+1+1]?=J (Ag #[I (J ⟨bb,ob,Z⟩) n cb] 58 (0,0))/\X.cell? ⟨ba,oa+i,Z⟩=J (Ah y)/\X.cell? ⟨bb,ob+i,Z⟩=J (Ah Au)) (by kernel_rfl) (by kernel_rfl) (by kernel_rfl) (by rintro⟨_,_,h⟩;exact h) ai.out ?_
   repeat
    apply zj rfl
    . rintro K' aa Y ⟨u1,u2,u3,u4,u5⟩
      have y1:=zh u1 0 rfl;have y2:=zh u2 0 rfl;have y3:=zh u3 0 rfl;clear u1 u2 u3;go_simp;exact aa
   refine zn rfl ?_;intro K' aa;go_simp;refine aa _ _ ai.out ?_;clear aa K';refine yb rfl (by kernel_rfl) ?_;intro K' aa;go_simp;refine aa (fun _=>True) _ _ trivial ?_;refine zy ?_;exact⟨iw.out.1,iw.out.2,HS.out⟩
  | false=>
   cases y with
   | false=>
    have hv:(pre++[(⟨(i,m),hx⟩:{ x:Nat×Bool // x∈bwL K n })]).map (·.1) <+: bwL K n->∀k,k<n->(i,m)=(k,!zY K k)->bs=jk rs (k+1)->Aw=rs.getD k Aw:=fun _ k hk e hb=>by
     obtain rfl:i=k:=congrArg Prod.fst e;rw[ef.out i hk,<-oQ,CE,CJ];rfl
    have HS:=zH (iJ.out Aw hv);have iw:=zH (eb.out Aw);have ai:=zH (And.intro rh (And.intro lz (And.intro nS (And.intro Cf tB))));clear hv fL an bN iJ eb rh lz nS ac q5 q1 J' Cf tB CE CJ oQ ef;gi_wp2_with fail;refine zX [(0,Au),(1,Au),(2,Au),(3,Au),(4,Au),(5,Au),(6,Au),(7,Au),(8,Au),(9,Au),(10,Au),(11,Au),(12,Au),(13,Au),(14,Au),(15,Au),(16,Au),(17,Au),(18,Au),(19,Au),(20,Au),(21,Au),(22,Aw),(23,Aw)] (fun X=>X.heap[g+1]?=J (Ag #[I (J ⟨g,0,Z⟩) n n] 58 (0,0))/\X.heap[w.heap.size+1]?=J (Ag #[I (J ⟨ba,oa,Z⟩) n ca] 58 (0,0))/\X.heap[w.heap.size+1+1]?=J (Ag #[I (J ⟨bb,ob,Z⟩) n cb] 58 (0,0))/\X.cell? ⟨ba,oa+i,Z⟩=J (Ah Aw)/\X.cell? ⟨bb,ob+i,Z⟩=J (Ah Aw)) (by kernel_rfl) (by kernel_rfl) (by kernel_rfl) (by rintro⟨_,_,h⟩;exact h) ai.out ?_
    repeat
     apply zj rfl
     . rintro K' aa Y ⟨u1,u2,u3,u4,u5⟩
       have y1:=zh u1 0 rfl;have y2:=zh u2 0 rfl;have y3:=zh u3 0 rfl;clear u1 u2 u3;go_simp;exact aa
    refine zn rfl ?_;intro K' aa;go_simp;refine aa _ _ ai.out ?_;clear aa K';refine yb rfl (by kernel_rfl) ?_;intro K' aa;go_simp;refine aa (fun _=>True) _ _ trivial ?_;refine zy ?_;exact⟨iw.out.1,iw.out.2,HS.out⟩
   | true=>
    cases m with
    | false=>
     have hv:(pre++[(⟨(i,Aw),hx⟩:{ x:Nat×Bool // x∈bwL K n })]).map (·.1) <+: bwL K n->∀k,k<n->(i,Aw)=(k,!zY K k)->bs=jk rs (k+1)->Aw=rs.getD k Aw:=fun _ k hk e hb=>by
      obtain rfl:i=k:=congrArg Prod.fst e;rw[ef.out i hk,<-oQ,CE,CJ];rfl
     have HS:=zH (iJ.out Aw hv);have iw:=zH (eb.out Aw);have ai:=zH (And.intro rh (And.intro lz (And.intro nS (And.intro Cf tB))));clear hv fL an bN iJ eb rh lz nS ac q5 q1 J' Cf tB CE CJ oQ ef;gi_wp2_with fail;refine zX [(0,Au),(1,Au),(2,Au),(3,Au),(4,Au),(5,Au),(6,Au),(7,Au),(8,Au),(9,Au),(10,Au),(11,Au),(12,Au),(13,Au),(14,Au),(15,Au),(16,Au),(17,Au),(18,Au),(19,Au),(20,Au),(21,Au),(22,Aw),(23,Aw)] (fun X=>X.heap[g+1]?=J (Ag #[I (J ⟨g,0,Z⟩) n n] 58 (0,0))/\X.heap[w.heap.size+1]?=J (Ag #[I (J ⟨ba,oa,Z⟩) n ca] 58 (0,0))/\X.heap[w.heap.size+1+1]?=J (Ag #[I (J ⟨bb,ob,Z⟩) n cb] 58 (0,0))/\X.cell? ⟨ba,oa+i,Z⟩=J (Ah Au)/\X.cell? ⟨bb,ob+i,Z⟩=J (Ah Aw)) (by kernel_rfl) (by kernel_rfl) (by kernel_rfl) (by rintro⟨_,_,h⟩;exact h) ai.out ?_
     repeat
      apply zj rfl
      . rintro K' aa Y ⟨u1,u2,u3,u4,u5⟩
        have y1:=zh u1 0 rfl;have y2:=zh u2 0 rfl;have y3:=zh u3 0 rfl;clear u1 u2 u3;go_simp;exact aa
     refine zn rfl ?_;intro K' aa;go_simp;refine aa _ _ ai.out ?_;clear aa K';refine yb rfl (by kernel_rfl) ?_;intro K' aa;go_simp;refine aa (fun _=>True) _ _ trivial ?_;refine zy ?_;exact⟨iw.out.1,iw.out.2,HS.out⟩
    | true=>
     have fN:zY K i=Aw:=by cases h:zY K i with
      | false=>rfl
      | true=>rw[h] at oQ;cases oQ
     have rM:i+1<n:=by rw[ee.out] at hi ⊢;exact more_lt hi fN
     have Ur:=zh an (i+1) (qI bs (i+1) (by omega));obtain⟨z,Us⟩:=Kk (bs[i+1]'(by omega));rw[Us] at Ur;have hwi:IntKind.i64.wrap ((i:Int)+1)=(i:Int)+1:=by rw[Ll];omega
     have hi3:(0:Int)<=(i:Int)+1:=by omega
     have hi4:(i:Int)+1<(n:Int):=by omega
     have hti:((i:Int)+1).toNat=i+1:=by omega
     have hv:(pre++[(⟨(i,Au),hx⟩:{ x:Nat×Bool // x∈bwL K n })]).map (·.1) <+: bwL K n->∀k,k<n->(i,Au)=(k,!zY K k)->bs=jk rs (k+1)->z=rs.getD k Aw:=fun _ k hk e hb=>by
      obtain rfl:i=k:=congrArg Prod.fst e;rw[ef.out i hk,<-oQ,CE,CJ];rw[PG,Nn,Nn,<-Us];subst hb;rw[behB_at (by rw[eo.out];exact rM),zw (by rw[eo.out];exact rM)]
     have HS:=zH (iJ.out z hv);have iw:=zH (eb.out z);have ai:=zH (And.intro rh (And.intro lz (And.intro nS (And.intro Cf (And.intro tB Ur)))));clear hv fL an bN iJ eb rh lz nS ac q5 q1 J' Cf tB CE CJ oQ ef Ur Us fN;gi_wp2_with fail;refine zX [(0,Au),(1,Au),(2,Au),(3,Au),(4,Au),(5,Au),(6,Au),(7,Au),(8,Au),(9,Au),(10,Au),(11,Au),(12,Au),(13,Au),(14,Au),(15,Au),(16,Au),(17,Au),(18,Au),(19,Au),(20,Au),(21,Au),(22,Aw),(23,Aw)] (fun X=>X.heap[g+1]?=J (Ag #[I (J ⟨g,0,Z⟩) n n] 58 (0,0))/\X.heap[w.heap.size+1]?=J (Ag #[I (J ⟨ba,oa,Z⟩) n ca] 58 (0,0))/\X.heap[w.heap.size+1+1]?=J (Ag #[I (J ⟨bb,ob,Z⟩) n cb] 58 (0,0))/\X.cell? ⟨ba,oa+i,Z⟩=J (Ah Au)/\X.cell? ⟨bb,ob+i,Z⟩=J (Ah Aw)/\X.cell? ⟨g,i+1,Z⟩=J (Ah z)) (by kernel_rfl) (by kernel_rfl) (by kernel_rfl) (by rintro⟨_,_,h⟩;exact h) ai.out ?_
     repeat
      apply zj rfl
      . rintro K' aa Y ⟨u1,u2,u3,u4,u5,u6⟩
        have y1:=zh u1 0 rfl;have y2:=zh u2 0 rfl;have y3:=zh u3 0 rfl;clear u1 u2 u3;go_simp;exact aa
     refine zn rfl ?_;intro K' aa;go_simp;refine aa _ _ ai.out ?_;clear aa K';refine yb rfl (by kernel_rfl) ?_;intro K' aa;go_simp;refine aa (fun _=>True) _ _ trivial ?_;refine zy ?_;exact⟨iw.out.1,iw.out.2,HS.out⟩
 case done=>
  intro D ys W hD iy hI ik;obtain⟨fL,bs,cp,an,bN⟩:=hI
  have ma:bs=rs:=by
   have h1:=bN (by rw[iy];exact List.prefix_refl _);rw[iy,uW,Nq,JD] at h1;exact h1
  rw[ma] at an;have sI:=zH an;have Om:=zH fL;have HD:=zH ik;have q5:=zh ((fL.block _ (zk fT.out) (by show ¬_=g;omega)).trans fT.out) 0 rfl;clear fL an bN ma ik iy cp;go_wp2_with fail;refine yU (B:=w.heap.size) (kn (by have:=fh.out.size;omega) HD.out) (v:=I (J ⟨g,0,Z⟩) n n) (fun W=>by kernel_rfl) ?_;intro X hX;refine⟨g,rfl,by have:=tq.out;omega,?_,fh.out.trans ((Om.out.below (B:=w.heap.size) fh.out.size (fun k hk e=>by have:k=g:=e;have:=tq.out;omega)).trans hX.below)⟩;exact hX.same _ _ sI.out rfl
 intro D c pre W hD hS hI;exact hI.elim
end
section
open Go.RowKit Go.Shelf
def kBs:Kd:=⟨58,136,1,24,I Z 0 0⟩
theorem kBs_ok:KdOk Al kBs:=⟨underlying136,by kernel_rfl,by rfl,by decide,by decide⟩
def vc(n:Nat)(R:List Bool)(w:Ba)(e:Ending)(w':Ba):Prop:=∃A c,e=Ak (.tuple #[I A n c,O U 0])/\BAt w' w'.heap.size A R/\(∀a,A=J a->w.heap.size<=a.block)/\Am w.heap.size w w'
theorem BAt.grown{w w':Ba}{A:Bb}{bs:List Bool}{row:Option Nat}(h:BAt w w.heap.size A bs)(hg:w.grownBy w' row)(hr:∀a,A=J a->row≠J a.block):BAt w' w'.heap.size A bs:=fun h0=>by
 obtain⟨b,off,e,ac,hc⟩:=h h0;have hb:=hg.block b ac (fun e2=>hr _ e e2.symm);exact⟨b,off,e,LE ac hg.size,fun i hi=>(LN (a:=⟨b,off+i,Z⟩) hb).trans (hc i hi)⟩
structure VaIn(D n:Nat)(RS:Nat->List Bool)(w W:Ba)(P:Bb)(k c:Nat)(cs:List Ar):Prop where
 below:Am D w W
 own:OwnR kBs W D (I P k c) k cs
 rows:∀j,j<k->∃A c',cs[j]?=J (I A n c')/\BAt W W.heap.size A (RS j)/\(∀a,A=J a->a.block<W.heap.size/\(I P k c).ownBlock≠J a.block)
 len:cs.length=k
theorem VaIn.start{D n:Nat}{RS:Nat->List Bool}{w W:Ba}(h:Am D w W):VaIn D n RS w W Z 0 0 []:=⟨h,OwnR.nil _ _ _,fun j hj=>absurd hj (by omega),rfl⟩
theorem VaIn.on{D n k c:Nat}{RS:Nat->List Bool}{w W W':Ba}{P:Bb}{cs:List Ar}(h:VaIn D n RS w W P k c cs)(hD:D<=W.heap.size)(hb:Am W.heap.size W W'):VaIn D n RS w W' P k c cs:=by
 refine⟨h.below.trans (hb.mono hD),h.own.below hb (Ld _),fun j hj=>?_,h.len⟩;obtain⟨A,c',e1,e2,e3⟩:=h.rows j hj;exact⟨A,c',e1,(e2.keep hb).more hb.size,fun a e=>⟨LE (e3 a e).1 hb.size,(e3 a e).2⟩⟩
theorem VaIn.push{D n k c c2 c3 g':Nat}{RS:Nat->List Bool}{w W W1:Ba}{P A3:Bb}{cs:List Ar}(h:VaIn D n RS w W P k c cs)(hD:D<=W.heap.size)(an:BAt W W.heap.size A3 (RS k))(hf:∀a,A3=J a->a.block<W.heap.size/\(I P k c).ownBlock≠J a.block)
  (ho:OwnR kBs W1 D (I (J ⟨g',0,Z⟩) (k+1) c2) (k+1) (cs++[I A3 n c3])) (hg:W.grownBy W1 (I P k c).ownBlock) (bG:(I P k c).ownBlock=J g'\/g'=W.heap.size) :
  VaIn D n RS w W1 (J ⟨g',0,Z⟩) (k+1) c2 (cs++[I A3 n c3]):=by
 have bC:∀(A:Bb),(∀a,A=J a->a.block<W.heap.size/\(I P k c).ownBlock≠J a.block)->∀a,A=J a->a.block<W1.heap.size/\(I (J ⟨g',0,Z⟩) (k+1) c2).ownBlock≠J a.block:=fun A h2 a e=>by
  obtain⟨e2,e1⟩:=h2 a e;refine⟨LE e2 hg.size,?_⟩;show J g'≠J a.block;intro e3;have e4:g'=a.block:=NL e3;rcases bG with h5 | h5
  . rw[h5,e4] at e1;exact e1 rfl
  . omega
 refine⟨h.below.trans ((Li _ _).grown hg hD (fun r e=>(h.own.lt r e).1)),ho,fun j hj=>?_,by simp[h.len]⟩
 by_cases e:j=k
 . subst e
   exact⟨A3,c3,by rw[LJ (by rw[h.len];exact Ld _),h.len,Nq];rfl,an.grown hg (fun a e=>(hf a e).2),bC A3 hf⟩
 obtain⟨A,c',e1,e2,e3⟩:=h.rows j (by omega);exact⟨A,c',by rw[LO (by rw[h.len];omega)];exact e1,e2.grown hg (fun a e=>(e3 a e).2),bC A e3⟩
end
section
open Go.RowKit Go.Shelf
attribute [local go_sem] Oper.semAt_some
def wi(R:List Bool×Int)(w:Ba)(e:Ending)(w':Ba):Prop:=∃A c,e=Ak (.tuple #[I A R.1.length c,O U R.2])/\BAt w' w'.heap.size A R.1/\(∀a,A=J a->w.heap.size<=a.block)/\Am w.heap.size w w'
theorem Ym(s:Sy)(hs:LowS s)(hf:xu s.p)(g:Int)(set:List Bool)(A SV AV AX AB:Bb)(kc ks kv kx kb:Nat)(mz:set.length<=1000000)(w:Ba)(hS:SyAt w w.heap.size A SV AV AX s)(dl:BAt w w.heap.size AB set) :
  An Al 72 #[.agg (s.vs_ A kc SV ks AV kv AX kx),O U g,I AB set.length kb] w (wi (evyE s g set) w):=by
 obtain⟨w1,ae,d0,aw,hB⟩:=zm w (s.vs_ A kc SV ks AV kv AX kx) 39;have HO:=zH (Ye s hs hf g set A SV AV AX AB kc ks kv kx kb mz w1 (hS.up hB));have mT:Aq (∀X,Am w1.heap.size w1 X->BAt X X.heap.size AB set):=fun X hX=>(((dl.keep hB).more hB.size).keep hX).more hX.size
 have HC:Aq (yn s g set=0->∃G:Nat,g=(G:Int)/\set.length=ptn s/\evyE s g set=(evG s g set,0)/\∀(bw:Nat) (X:Ba),Am w1.heap.size w1 X->KwAt X X.heap.size bw (ptn s) s.n.toNat (yt s)->An Al 43 #[Aj (J ⟨bw,0,Z⟩),O U (G:Int),I AB (ptn s) kb] X (RetB (evG s g set) X)):=fun h=>by
  obtain⟨G,hg,hG,hN,dG,oC,hl,fW⟩:=jX hf h;refine⟨G,hg,hl,Lg (by simpa using h),fun bw X hX hK=>?_⟩;unfold evG;rw[fW];exact vP bw (ptn s) s.n.toNat (yt s) dG (by omega) hN G hG AB kb set hl X hK (mT.out X hX)
 unfold RetB at HC;obtain⟨E,hE⟩:=Kk (yn s g set);obtain⟨R,hR⟩:=Kk (evyE s g set);have tk:Aq (E≠0->R=([],E)):=fun h=>by rw[<-hR,<-hE] at *;exact Lj h
 unfold RetOp at HO;unfold wi;rw[hE] at HO HC;rw[hR] at HC ⊢;obtain⟨n,hn⟩:=Kk (ptn s);rw[hn] at HO HC;unfold Sy.vs_ at ae d0 HO ⊢;have ak:=zH ae;have HB:=zH hB;clear ae d0 hB dl hE hR hS hs hf mT hn;go_enter func72,ntmps72;go_wp2_with fail;rw[ak.out];go_wp2_with fail;refine HO.out.mono ?_;rintro e w2 ⟨ah,ii⟩;have aT:=zH ah;have O2:Aq (w.heap.size<=w2.heap.size):=Lr HB.out.size ah.size;rcases ii with ⟨h0,rfl⟩ | ⟨rfl,bw,rfl,hK⟩
 . have e0:(E != 0)=Au:=by simpa using h0
   have fY:Aq (R=([],E)):=tk.out h0;go_wp2_with fail
   go_ret2
   rw[fY.out];exact⟨Z,0,rfl,fun h=>absurd h (by simp),fun _ e=>(by cases e),Lc HB.out aT.out⟩
 obtain⟨G,rfl,hl,fY,hc⟩:=HC.out rfl;have BQ:=zH (hc bw w2 aT.out hK);have HRR:=zH fY;rw[hl];go_wp2_with fail;refine BQ.out.mono ?_;rintro e w3 ⟨g3,rfl,Gd,mK,al⟩;have nm:=zH mK;have bK:=zH (HB.out.trans ((Lc aT.out al).mono HB.out.size));go_wp2_with fail
 go_ret2
 rw[HRR.out];have hz:=O2.out;exact⟨J ⟨g3,0,Z⟩,_,rfl,nm.out.at_ nm.out.lt,fun _ e=>(by cases e;show w.heap.size<=g3;omega),bK.out⟩
theorem uO(s:Sy)(hs:LowS s)(hf:xu s.p)(g:Int)(set:List Bool)(A SV AV AX AB:Bb)(kc ks kv kx kb:Nat)(mz:set.length<=1000000)(w:Ba)(hS:SyAt w w.heap.size A SV AV AX s)(dl:BAt w w.heap.size AB set) :
  An Al 73 #[.agg (s.vs_ A kc SV ks AV kv AX kx),O U g,I AB set.length kb] w (wi (dstE s g set) w):=by
 obtain⟨w1,ae,d0,aw,hB⟩:=zm w (s.vs_ A kc SV ks AV kv AX kx) 39;have HO:=zH (gU s hs hf g set A SV AV AX AB kc ks kv kx kb mz w1 (hS.up hB));have mT:Aq (∀X,Am w1.heap.size w1 X->BAt X X.heap.size AB set):=fun X hX=>(((dl.keep hB).more hB.size).keep hX).more hX.size
 have HC:Aq (yn s g set=0->set.length=ptn s/\dstE s g set=(yo (ptn s) (qm s g) set,0)/\∀(bw mb:Nat) (X:Ba),Am w1.heap.size w1 X->KwD s A SV AV AX kc ks kv kx w1.heap.size X bw mb 0 (fun _=>Z)->An Al 122 #[Aj (J ⟨bw,0,Z⟩),O U g,I AB (ptn s) kb] X fun e w'=>∃g' m' F',e=Ak (I (J ⟨g',0,Z⟩) (ptn s) (ptn s))/\X.heap.size<=g'/\BRow w' g' (yo (ptn s) (qm s g) set)/\KwD s A SV AV AX kc ks kv kx w1.heap.size w' bw mb m' F'/\Wrote (fun z=>z=mb) X w'):=fun h=>by
  obtain⟨G,hg,hG,hN,dG,oC,hl,fW⟩:=jX hf h;exact⟨hl,Lg (by simpa using h),fun bw mb X hX hK=>kdist_any s hs hf A SV AV AX kc ks kv kx w1.heap.size g (Yu h).1 (by omega) AB kb set hl bw mb 0 _ X hK (mT.out X hX)⟩
 have ia:Aq (∀X,Am w1.heap.size w1 X->SyAt X w1.heap.size A SV AV AX s):=fun X hX=>(hS.up hB).keep hX
 obtain⟨E,hE⟩:=Kk (yn s g set);obtain⟨R,hR⟩:=Kk (dstE s g set);have tk:Aq (E≠0->R=([],E)):=fun h=>by rw[<-hR,<-hE] at *;exact Lj h
 unfold RetOpG at HO;unfold wi;rw[hE] at HO HC;rw[hR] at HC ⊢;obtain⟨n,hn⟩:=Kk (ptn s);have ee:=zH hn;rw[hn] at HO HC;unfold Sy.vs_ at ae d0 HO ⊢;have ak:=zH ae;have HB:=zH hB;clear ae d0 hB dl hE hR hS hs hf mT hn;go_enter func73,ntmps73;go_wp2_with fail;rw[ak.out];go_wp2_with fail;refine HO.out.mono ?_;rintro e w2 ⟨ah,ii⟩;have aT:=zH ah;have O2:Aq (w.heap.size<=w2.heap.size):=Lr HB.out.size ah.size;rcases ii with ⟨h0,rfl⟩ | ⟨rfl,bw,rfl,hK,mb,sn,lZ,AQ,cQ,ce⟩
 . have e0:(E != 0)=Au:=by simpa using h0
   have fY:Aq (R=([],E)):=tk.out h0;go_wp2_with fail
   go_ret2
   rw[fY.out];exact⟨Z,0,rfl,fun h=>absurd h (by simp),fun _ e=>(by cases e),Lc HB.out aT.out⟩
 obtain⟨hl,fY,hc⟩:=HC.out rfl;have HKD:Aq (KwD s A SV AV AX kc ks kv kx w1.heap.size w2 bw mb 0 (fun _=>Z)):=⟨by rw[ee.out];exact hK,⟨AQ,cQ,by rw[ee.out];exact ce⟩,lZ,fun g v h=>(by cases h),ia.out w2 aT.out,aT.out.size,sn⟩;have BQ:=zH (hc bw mb w2 aT.out HKD.out);have HRR:=zH fY;rw[hl];go_wp2_with fail;refine BQ.out.mono ?_;rintro e w3 ⟨g3,m3,F3,rfl,Gd,mK,rL,cO⟩;have nm:=zH mK
 have bK:Aq (Am w.heap.size w w3):=by
  have h2:=aT.out.size;have h3:=cO.size;exact HB.out.trans ⟨cO.os.trans aT.out.os,cO.tape.trans aT.out.tape,cO.output.trans aT.out.output,by omega,fun k hk=>(cO.block k (by omega) (by show ¬k=mb;omega)).trans (aT.out.block k (by omega))⟩
 go_wp2_with fail
 go_ret2
 rw[HRR.out];have hz:=O2.out;refine⟨J ⟨g3,0,Z⟩,n,?_,nm.out.at_ nm.out.lt,fun _ e=>(by cases e;show w.heap.size<=g3;omega),bK.out⟩;dsimp only;rw[yC]
 rfl
theorem Q3(s:Sy)(hs:LowS s)(hf:xu s.p)(q:Int)(set:List Bool)(A SV AV AX AB:Bb)(kc ks kv kx kb:Nat)(_GP:set.length<=1000000)(w:Ba)(hS:SyAt w w.heap.size A SV AV AX s)(dl:BAt w w.heap.size AB set) :
  An Al 71 #[.agg (s.vs_ A kc SV ks AV kv AX kx),O U q,I AB set.length kb] w (wi (knwE s q set) w):=by
 obtain⟨w1,ae,d0,aw,hB⟩:=zm w (s.vs_ A kc SV ks AV kv AX kx) 39;have HO:=zH (XW s hs hf A SV AV AX kc ks kv kx w1 (hS.up hB));have mT:Aq (∀X,Am w1.heap.size w1 X->BAt X X.heap.size AB set):=fun X hX=>(((dl.keep hB).more hB.size).keep hX).more hX.size
 have mR:Aq (zZ s=0->∃N:Nat,s.n=(N:Int)/\N<=5/\ptn s<=700):=fun h=>by
  obtain⟨_,K,N,hF⟩:=yG hf h;have hk:=hF.k;have DO:=hF.k6;have:=LV hF.lx (show s.p.k.toNat+1<=7 by omega);exact⟨N,hF.n,hF.n5,by unfold ptn;omega⟩
 have HE:Aq (knwE s q set=if zZ s≠0 then ([],zZ s) else if q<0\/s.n<=q then ([],2) else if set.length≠ptn s then ([],15) else (yo (ptn s) (yt s q.toNat) set,0)):=rfl;obtain⟨R,hR⟩:=Kk (knwE s q set);rw[hR] at HE ⊢;obtain⟨r,hr⟩:=Kk (zZ s);unfold RetKw at HO;unfold wi;rw[hr] at HO mR HE;obtain⟨n,hn⟩:=Kk (ptn s);rw[hn] at HO mR HE;unfold Sy.vs_ at ae d0 HO ⊢;have ak:=zH ae;have HB:=zH hB;have HD:=zH d0;clear ae d0 hB dl hR hr hS hs hf hn;go_enter func71,ntmps71;go_wp2_with fail;rw[ak.out];go_wp2_with fail;refine HO.out.mono ?_;rintro e w2 ⟨ah,ii⟩;have aT:=zH ah;have O2:Aq (w.heap.size<=w2.heap.size):=Lr HB.out.size ah.size;have cF:=zH (Lc HB.out ah);have mi:=zH (La ah HD.out);rcases ii with ⟨h0,rfl⟩ | ⟨rfl,bw,rfl,hK⟩
 . have e0:(r != 0)=Au:=by simpa using h0
   have fY:Aq (R=([],r)):=HE.out.trans (Lj h0);go_wp2_with fail
   go_ret2
   rw[fY.out];exact⟨Z,0,rfl,fun h=>absurd h (by simp),fun _ e=>(by cases e),cF.out⟩
 obtain⟨N,hN,MO,oC⟩:=mR.out rfl;have HE:Aq (R=_):=HE.out.trans (Lg (by simp));rw[hN] at HE;have q7:w2.cell? ⟨w.heap.size,7,Z⟩=J (O U (N:Int)):=by rw[<-hN];exact zh mi.out 7 rfl
 have HK:=zH hK;have z10:=hK.size;have ee:=zH hN
 by_cases Ig:q<0
 . have e0:decide (q<0)=Au:=Lw Ig
   have fY:Aq (R=([],2)):=HE.out.trans (Lj (.inl Ig));go_wp2_with fail
   go_ret2
   rw[fY.out];exact⟨Z,0,rfl,fun h=>absurd h (by simp),fun _ e=>(by cases e),cF.out⟩
 by_cases Bw:(N:Int)<=q
 . have e1:decide (q>=(N:Int))=Au:=Lw Bw
   have fY:Aq (R=([],2)):=HE.out.trans (Lj (.inr Bw));go_wp2_with fail
   go_ret2
   rw[fY.out];exact⟨Z,0,rfl,fun h=>absurd h (by simp),fun _ e=>(by cases e),cF.out⟩
 have HE:Aq (R=_):=HE.out.trans (Lg (by omega))
 by_cases hl:set.length=n
 case neg=>
  have e2:((set.length:Int) != (n:Int))=Au:=by simpa using(by omega:¬(set.length:Int)=(n:Int))
  have fY:Aq (R=([],15)):=HE.out.trans (Lj hl);go_wp2_with fail
  go_ret2
  rw[fY.out];exact⟨Z,0,rfl,fun h=>absurd h (by simp),fun _ e=>(by cases e),cF.out⟩
 have fY:Aq (R=(yo n (yt s q.toNat) set,0)):=HE.out.trans (Lg (by simpa using hl));obtain⟨k,rfl⟩:=Ls (show 0<=q by omega);rw[Lo] at fY;have BQ:=zH (Yk bw n s.n.toNat (yt s) (by omega) k (by rw[ee.out,Lo];omega) AB kb set hl w2 HK.out (mT.out w2 aT.out));rw[hl];unfold RetB at BQ;go_wp2_with fail;refine BQ.out.mono ?_;rintro e w3 ⟨g3,rfl,Gd,mK,al⟩;have nm:=zH mK;have bK:=zH (Lc cF.out al);go_wp2_with fail
 go_ret2
 rw[fY.out];have hz:=O2.out;exact⟨J ⟨g3,0,Z⟩,_,rfl,nm.out.at_ nm.out.lt,fun _ e=>(by cases e;show w.heap.size<=g3;omega),bK.out⟩
end
section
open Go.RowKit
theorem Xh{N:Nat}{h:Fh}{k:Nat}(he:xt N h k=0):0<=h.op/\(k:Int)=arN h.op/\(h.op=10->0<=h.p/\h.p<=(N:Int)-1)/\(h.op=11\/h.op=12\/h.op=13->0<=h.g/\h.g<=(2:Int)^N-1):=by
 unfold xt at he
 by_cases h1:h.op<0\/17<h.op
 . rw[Lj h1] at he;cases he
 rw[Lg h1] at he
 by_cases h2:(k:Int)≠arN h.op
 . rw[Lj h2] at he;cases he
 rw[Lg h2] at he
 split at he
 . cases he
 rename_i h3;refine⟨by omega,by simpa using h2,fun e=>?_,fun e=>?_⟩
 . have hu:usP h.op=Au:=by unfold usP;rw[Ny];omega
   exact N4 fun hn=>h3 (.inl ⟨hu,hn⟩)
 have hu:usG h.op=Au:=by unfold usG;rw[Ny];omega
 exact N4 fun hn=>h3 (.inr (.inr (.inr ⟨hu,hn⟩)))
section
variable {n:Nat} {aA:Nat->List Int} {ps:List Nat}
theorem Xg{set:List Bool}{M:Nat}(hM:zR n (evL n aA ps) set (M+1)=zR n (evL n aA ps) set M):∀m,zR n (evL n aA ps) set (M+m)=zR n (evL n aA ps) set M
 | 0=>rfl
 | m+1=>by
  show zR n (evL n aA ps) set (M+m+1)=_;rw[zR,Xg hM m];exact hM
theorem now_up{set:List Bool}{M:Nat}(hM:zR n (evL n aA ps) set (M+1)=zR n (evL n aA ps) set M)(h:M<=n):zR n (evL n aA ps) set n=zR n (evL n aA ps) set M:=by
 have:=Xg hM (n-M);rwa[show M+(n-M)=n by omega] at this
end
theorem atm_fine{s:Sy}{K N:Nat}(hF:Fine s K N)(hv:zZ s=0){out:List Int}(lm:¬(0<out.length/\out.length≠s.vs.length)){f:Fm}(eG:xt N f.h f.args.length=0)(hk:f.args.length=0):atmE s out 0 f=(jl s out f.h,0):=by
 have hn:=hF.n;have h1:=hF.n1;have h5:=hF.n5;have ha:f.args=[]:=Pw.1 hk;have hN:s.n.toNat=N:=by omega
 have hE:qw s.n 0 f=0:=by
  unfold qw;rw[Lg (by omega)];have h2:uX (zL 0 f)=0:=by unfold zL;rw[ha];rfl
  rw[Lg (by rw[h2];simp),hN];unfold yJ vx;rw[Lg (by rw[eG];simp),ha]
  rfl
 unfold atmE;rw[Lg (by rw[hv];simp),Lg lm,Lg (by rw[hE];simp),Lg (by omega)]
theorem ffs_all:∀ {l:List Int},Zp l=0->∀x∈l,x=0
 | [],_,x,hx=>by cases hx
 | e::l,h,x,hx=>by
  unfold Zp at h
  by_cases he:e≠0
  . rw[Lj he] at h;exact absurd h he
  . rw[Lg he] at h
    rcases LL.1 hx with rfl | hx
    . simpa using he
    . exact ffs_all h x hx
theorem wP{N:Nat}{R:Fm->Int}{f:Fm}(h:vx N R f=0):xt N f.h f.args.length=0/\∀x∈f.args,R x=0:=by
 unfold vx at h
 by_cases he:xt N f.h f.args.length≠0
 . rw[Lj he] at h;exact absurd h he
 rw[Lg he] at h;exact⟨by simpa using he,fun x hx=>ffs_all h _ (LZ.2 ⟨x,hx,rfl⟩)⟩
end
section
open Go.RowKit Go.Shelf
attribute [local go_sem] Oper.semAt_some
section
variable (s:Sy) (AC SV AV AX:Bb) (kc ks kv kx K M n:Nat) (hk:s.p.k=(K:Int)) (hK:K<=100) (hM:s.xs.length=M) (sD:M<=100) (hn:n=M*(K+1)) (dG:1<=n) (A:Bb) (ca:Nat) (a:List Bool) (ha:a.length=n) (w:Ba) (hA:BAt w w.heap.size A a)
include hk hK hM sD hn ha hA
theorem JU:An Al 67 #[.agg (s.vs_ AC kc SV ks AV kv AX kx),I A n ca] w (RetB (vy n K a) w):=
 tnext_any s AC SV AV AX kc ks kv kx K M n hk hK hM sD hn A ca a ha (vy n K a) (uL ..) (fun _ h=>jA h) w hA
theorem gG(B:Bb)(cb:Nat)(b:List Bool)(hb:b.length=n)(hB:BAt w w.heap.size B b):An Al 70 #[.agg (s.vs_ AC kc SV ks AV kv AX kx),I A n ca,I B n cb] w (RetB (vt n K a b) w):=
 JR s AC SV AV AX kc ks kv kx K M n hk hK hM sD hn A ca a ha B cb b hb (vt n K a b) (kU ..) (fun k h=>ZJ (by rw[hn];exact R8 ..) h) w hA hB
include dG
theorem Qr:An Al 69 #[.agg (s.vs_ AC kc SV ks AV kv AX kx),I A n ca] w (RetB (kO n K a) w):=by
 obtain⟨w1,ae,d0,aw,aB⟩:=zm w (s.vs_ AC kc SV ks AV kv AX kx) 39;obtain⟨w2,aC,d1,bQ,az⟩:=oneboxr w1 #[Ah Au] 4;have oC:n<=10100:=by rw[hn];exact LV sD (show K+1<=101 by omega)
 have pZ:Am w1.heap.size w1 w2:=az;rw[aw] at d1;have HR:=zH (gP n (w.heap.size+1) dG (by omega) Au w2 d1);have HU:=zH (fun (g:Nat) (X:Ba) (hX:Am w2.heap.size w2 X) (hg:BRow X g (List.replicate n Au))=>gG s AC SV AV AX kc ks kv kx K M n hk hK hM sD hn (J ⟨g,0,Z⟩) n (List.replicate n Au) (by simp) X (hg.at_ hg.lt) A ca a ha (((((hA.keep aB).more aB.size).keep pZ).more pZ.size).keep hX |>.more hX.size));have ai:Aq (∀X,Am w1.heap.size w1 X->X.heap[w.heap.size]?=J (Ag (s.vs_ AC kc SV ks AV kv AX kx) 39 (0,0))):=fun X hX=>Lb hX (by omega) d0
 have HB:=zH aB;have O4:=zH pZ;have ak:=zH ae;have dK:=zH aC;have hl:(kO n K a).length=n:=kp ..;unfold RetB at HU ⊢;rw[show vt n K (List.replicate n Au) a=kO n K a from rfl] at HU;rw[hl] at HU ⊢;obtain⟨R,hR⟩:=Kk (kO n K a);rw[hR] at HU ⊢;unfold Sy.vs_ at ak HU ai ⊢;clear ae aC d0 d1 bQ aB az pZ hA hR hl hk hM hn;go_enter func69,ntmps69;go_upto_region 1 with fail
 rw[ak.out];refine zt [(0,Au),(2,Au),(3,Au),(5,Au),(1,Aw),(4,Aw),(6,Aw),(7,Aw)] (fun X=>X.heap[w.heap.size]?=J (Ag #[O U s.p.t.n,O U s.p.t.ins,O U s.p.t.outs,I AC s.p.t.cases.length kc,O U s.p.a.n,I SV s.p.a.sts.length ks,O U s.p.k,O U s.n,I AV s.vs.length kv,I AX s.xs.length kx] 39 (0,0))) (by kernel_rfl) (by kernel_rfl) (ai.out _ (Li _ _).drew) ?_
 repeat
  apply zj rfl
  . rintro K' aa X u1
    obtain⟨x0,x1,x2,x3,x4,x5,x6,x7,x8,x9⟩:=zK (u1);clear u1;go_simp;exact aa
 refine zn rfl ?_;intro K' aa;go_simp;rw[dK.out];refine aa _ _ (ai.out _ O4.out) ?_;clear aa K';refine zn rfl ?_;intro K' aa;go_simp;refine HR.out.mono ?_;rintro e w3 ⟨g3,rfl,Gd,mK,al⟩;have OS:=zH mK;have bK:=zH al;have sP:=zH (Lc O4.out al);refine aa _ _ (ai.out _ sP.out) ?_;clear aa K' al mK;refine zn rfl ?_;intro K' aa;go_simp;refine(HU.out g3 w3 bK.out OS.out).mono ?_;rintro e w4 ⟨g4,rfl,It,sV,aP⟩;have rZ:=zH sV;have lD:=zH (Lc sP.out aP)
 have hz4:w.heap.size<=g4:=by
  have h1:=sP.out.size;omega
 refine aa _ _ (ai.out _ lD.out) ?_;clear aa K' aP sV;refine zn rfl ?_;intro K' aa;go_simp;refine aa _ _ (ai.out _ lD.out) ?_;refine zy ?_;clear aa K';go_wp2_with fail;go_ret;exact⟨g4,rfl,hz4,rZ.out,Lc HB.out lD.out⟩
theorem talw_any:An Al 68 #[.agg (s.vs_ AC kc SV ks AV kv AX kx),I A n ca] w (RetB (kQ n K a) w):=by
 obtain⟨w1,ae,d0,aw,aB⟩:=zm w (s.vs_ AC kc SV ks AV kv AX kx) 39;have oC:n<=10100:=by rw[hn];exact LV sD (show K+1<=101 by omega)
 have rt:=zH (ZO A ca n (by omega) a ha w1.drew ((hA.keep aB).more aB.size));have HE:=zH (fun (g:Nat) (X:Ba) (hg:BRow X g (qb n a))=>Qr s AC SV AV AX kc ks kv kx K M n hk hK hM sD hn dG (J ⟨g,0,Z⟩) n (qb n a) (qf ..) X (hg.at_ hg.lt));have oh:=zH (fun (g:Nat) (X:Ba) (hg:BRow X g (kO n K (qb n a)))=>ZO (J ⟨g,0,Z⟩) n n (by omega) (kO n K (qb n a)) (kp ..) X (hg.at_ hg.lt));have ai:Aq (∀X,Am w1.heap.size w1 X->X.heap[w.heap.size]?=J (Ag (s.vs_ AC kc SV ks AV kv AX kx) 39 (0,0))):=fun X hX=>Lb hX (by omega) d0
 have HB:=zH aB;have ak:=zH ae;unfold RetB at rt HE oh ⊢;rw[qf] at rt;rw[show qb n (kO n K (qb n a))=kQ n K a from rfl] at oh;simp only[kp,wg] at HE oh ⊢;obtain⟨R1,hR1⟩:=Kk (qb n a);rw[hR1] at rt HE oh;obtain⟨R2,nh⟩:=Kk (kO n K R1);rw[nh] at HE oh;obtain⟨R,hR⟩:=Kk (kQ n K a);rw[hR] at oh ⊢;unfold Sy.vs_ at ak HE ai ⊢;clear ae d0 aB hA hR hR1 nh hk hM hn;go_enter func68,ntmps68;go_upto_region 1 with fail
 rw[ak.out];refine zt [(0,Au),(1,Au),(2,Aw),(3,Aw),(4,Aw),(5,Aw)] (fun X=>X.heap[w.heap.size]?=J (Ag #[O U s.p.t.n,O U s.p.t.ins,O U s.p.t.outs,I AC s.p.t.cases.length kc,O U s.p.a.n,I SV s.p.a.sts.length ks,O U s.p.k,O U s.n,I AV s.vs.length kv,I AX s.xs.length kx] 39 (0,0))) (by kernel_rfl) (by kernel_rfl) (ai.out _ (Li _ _).drew) ?_
 repeat
  apply zj rfl
  . rintro K' aa X u1
    obtain⟨x0,x1,x2,x3,x4,x5,x6,x7,x8,x9⟩:=zK (u1);clear u1;go_simp;exact aa
 refine zn rfl ?_;intro K' aa;go_simp;refine rt.out.mono ?_;rintro e w3 ⟨g3,rfl,Gd,mK,al⟩;have OS:=zH mK;have sP:Aq (Am w1.heap.size w1 w3):=(Li _ w1).drew.trans al;refine aa _ _ (ai.out _ sP.out) ?_;clear aa K' al mK;refine zn rfl ?_;intro K' aa;go_simp;refine(HE.out g3 w3 OS.out).mono ?_;rintro e w4 ⟨g4,rfl,It,sV,aP⟩;have rZ:=zH sV;have lD:=zH (Lc sP.out aP);refine aa _ _ (ai.out _ lD.out) ?_;clear aa K' aP sV;refine zn rfl ?_;intro K' aa;go_simp;refine(oh.out g4 w4 rZ.out).mono ?_;rintro e w5 ⟨g5,rfl,cK,dM,aj⟩;have iL:=zH dM
 have hz5:w.heap.size<=g5:=by
  have h1:=lD.out.size;omega
 have Ho:=zH (Lc lD.out aj);refine aa _ _ (ai.out _ Ho.out) ?_;clear aa K' aj dM;refine zn rfl ?_;intro K' aa;go_simp;refine aa _ _ (ai.out _ Ho.out) ?_;refine zy ?_;clear aa K';go_wp2_with fail;go_ret;exact⟨g5,rfl,hz5,iL.out,Lc HB.out Ho.out⟩
end
section
variable {s:Sy} (hs:LowS s) (hf:xu s.p) (hv:zZ s=0) {N:Nat} (fl:s.n=(N:Int)) {n:Nat} (hp:ptn s=n) (oC:n<=700) (a:List Bool) (ha:a.length=n) (AC SV AV AX A:Bb) (kc ks kv kx ca:Nat) (w:Ba) (hS:SyAt w w.heap.size AC SV AV AX s) (hA:BAt w w.heap.size A a)
include hv fl hp ha
theorem ZL{g:Int}(hg:0<=g/\g<=(2:Int)^N-1):yn s g a=0:=by
 have h2:yd s g=0:=by
  unfold yd;rw[Lg (by simpa using hv),Lg];rw[fl,Lo];omega
 unfold yn;rw[h2,Lg (by simp),Lg];rw[ha,hp];simp
include hs hf oC hS hA
theorem tv_knows(q:Int)(hq:0<=q/\q<=(N:Int)-1):An Al 71 #[.agg (s.vs_ AC kc SV ks AV kv AX kx),O U q,I A n ca] w (vc n (yo n (yt s q.toNat) a) w):=by
 have hC:=Q3 s hs hf q a AC SV AV AX A kc ks kv kx ca (by omega) w hS hA
 have e1:knwE s q a=(yo n (yt s q.toNat) a,0):=by
  unfold knwE;rw[Lg (by simpa using hv),Lg (by rw[fl];omega),Lg (by rw[ha,hp];simp),hp]
 rw[e1,ha] at hC;refine hC.mono ?_;rintro e w' ⟨A',c',rfl,hb,hf,hw⟩;have hz:((yo n (yt s q.toNat) a,(0:Int)).1).length=n:=yC ..;rw[hz];exact⟨A',c',rfl,hb,hf,hw⟩
theorem tv_every(g:Int)(hg:0<=g/\g<=(2:Int)^N-1):An Al 72 #[.agg (s.vs_ AC kc SV ks AV kv AX kx),O U g,I A n ca] w (vc n (evG s g a) w):=by
 have hC:=Ym s hs hf g a AC SV AV AX A kc ks kv kx ca (by omega) w hS hA
 have e1:evyE s g a=(evG s g a,0):=by
  unfold evyE;rw[Lg (by simpa using ZL hv fl hp a ha hg)]
 rw[e1,ha] at hC;refine hC.mono ?_;rintro e w' ⟨A',c',rfl,hb,hf,hw⟩;have hz:((evG s g a,(0:Int)).1).length=n:=by rw[<-hp];exact jC ..
 rw[hz];exact⟨A',c',rfl,hb,hf,hw⟩
theorem tv_dist(g:Int)(hg:0<=g/\g<=(2:Int)^N-1):An Al 73 #[.agg (s.vs_ AC kc SV ks AV kv AX kx),O U g,I A n ca] w (vc n (yo n (qm s g) a) w):=by
 have hC:=uO s hs hf g a AC SV AV AX A kc ks kv kx ca (by omega) w hS hA
 have e1:dstE s g a=(yo n (qm s g) a,0):=by
  unfold dstE;rw[Lg (by simpa using ZL hv fl hp a ha hg),hp]
 rw[e1,ha] at hC;refine hC.mono ?_;rintro e w' ⟨A',c',rfl,hb,hf,hw⟩;have hz:((yo n (qm s g) a,(0:Int)).1).length=n:=yC ..;rw[hz];exact⟨A',c',rfl,hb,hf,hw⟩
theorem tv_common(g:Int)(hg:0<=g/\g<=(2:Int)^N-1):An Al 74 #[.agg (s.vs_ AC kc SV ks AV kv AX kx),O U g,I A n ca] w fun e w'=>∃(M gr:Nat),e=Ak (.tuple #[I (J ⟨gr,0,Z⟩) n n,O U (M:Int),O U 0])/\w.heap.size<=gr/\BRow w' gr (zR n (evG s g) a n)/\Am w.heap.size w w':=by
 have hC:=Q4 s hs hf g a AC SV AV AX A kc ks kv kx ca (by omega) w hS hA;have su:=ZL hv fl hp a ha hg;rw[ha] at hC;refine hC.mono ?_;rintro e w' ⟨hw,cN⟩;rw[hp] at cN;rcases cN with ⟨hx,_⟩ | ⟨_,M,gr,rfl,hM,iA,_,DR,hr⟩
 . exact absurd su hx
 refine⟨M,gr,rfl,DR,?_,hw⟩
 have e1:zR n (evG s g) a n=zR n (evG s g) a M:=by
  unfold evG at iA ⊢;rw[hp] at iA ⊢;exact now_up iA hM
 rw[e1];exact hr
end
end
section
open Go.RowKit
theorem tv_ops{N:Nat}{h:Fh}{k:Nat}(he:xt N h k=0)(hk:k≠0):(7<=h.op/\h.op<=17)/\(((h.op=8\/h.op=9\/h.op=17)/\k=2)\/(¬(h.op=8\/h.op=9\/h.op=17)/\k=1)):=by
 obtain⟨h0,h1,_⟩:=Xh he
 have h17:h.op<=17:=by
  unfold xt at he
  by_cases e:h.op<0\/17<h.op
  . rw[Lj e] at he;cases he
  omega
 unfold arN at h1
 by_cases e:h.op=8\/h.op=9\/h.op=17
 . rw[Lj e] at h1
   exact⟨by omega,.inl ⟨e,by omega⟩⟩
 rw[Lg e] at h1
 by_cases e2:h.op<=6
 . rw[Lj e2] at h1;omega
 rw[Lg e2] at h1;exact⟨by omega,.inr ⟨e,by omega⟩⟩
theorem tvlS_one{s:Sy}{h:Fh}{a b b':List Bool}(hr:7<=h.op/\h.op<=17)(h1:¬(h.op=8\/h.op=9\/h.op=17)):vU s h a b=vU s h a b':=by
 unfold vU evlS
 repeat' split
 all_goals first | rfl | omega
def ws(s:Sy)(out:List Int)(d:Nat)(f:Fm):List Bool×Int:=
 if zZ s≠0 then ([],zZ s) else if 0<out.length/\out.length≠s.vs.length then ([],15) else if qw s.p.t.n d f≠0 then ([],qw s.p.t.n d f) else (xn s out d f,0)
end
section
open Go.RowKit Go.Shelf
attribute [local go_sem] Oper.semAt_some
theorem RetB.vo{n:Nat}{R:List Bool}{w w':Ba}{e:Ending}(h:RetB R w e w')(hl:R.length=n):∃g:Nat,e=Ak (I (J ⟨g,0,Z⟩) n n)/\BAt w' w'.heap.size (J ⟨g,0,Z⟩) R/\w.heap.size<=g/\Am w.heap.size w w':=by
 obtain⟨g,rfl,h1,h2,h3⟩:=h;rw[hl];exact⟨g,rfl,h2.at_ h2.lt,h1,h3⟩
theorem gF(s:Sy)(hs:LowS s)(hf:xu s.p)(hv:zZ s=0)(K N:Nat)(hF:Fine s K N)(dG:1<=ptn s)(oC:ptn s<=700)(out:List Int)(lm:¬(0<out.length/\out.length≠s.vs.length))(cr:Nat)(AR AC SV AV AX:Bb)(kc ks kv kx:Nat)(f:Fm)(AF:Bb)(cf:Nat)(eG:xt N f.h f.args.length=0)(RA:Fm->List Bool)(hRA:∀x,(RA x).length=ptn s)(w:Ba)(hS:SyAt w w.heap.size AC SV AV AX s)(hO:IAt w w.heap.size AR out)
  (dX:∀i (hi:i<f.args.length),∃b o A' c',AF=J ⟨b,o,Z⟩/\b<w.heap.size/\(∀j v,(f.args[i].vs A' c')[j]?=J v->w.cell? ⟨b,o+i*6+j,Z⟩=J v) /\
   ∀X,Am w.heap.size w X->An Al 38 #[.agg (s.vs_ AC kc SV ks AV kv AX kx),Ai #[I AR out.length cr],.agg (f.args[i].vs A' c')] X (vc (ptn s) (RA f.args[i]) X)) :
  An Al 38 #[.agg (s.vs_ AC kc SV ks AV kv AX kx),Ai #[I AR out.length cr],.agg (f.vs AF cf)] w (vc (ptn s) (if f.args.length=0 then jl s out f.h else vU s f.h (RA (f.args.getD 0 default)) (RA (f.args.getD 1 default))) w):=by
 obtain⟨TT,sC⟩:∃TT,(if f.args.length=0 then jl s out f.h else vU s f.h (RA (f.args.getD 0 default)) (RA (f.args.getD 1 default)))=TT:=⟨_,rfl⟩;rw[sC];have HT0:Aq (f.args.length=0->TT=jl s out f.h):=fun h=>by rw[<-sC,Lj h]
 have HT1:Aq (f.args.length≠0->TT=vU s f.h (RA (f.args.getD 0 default)) (RA (f.args.getD 1 default))):=fun h=>by rw[<-sC,Lg h]
 clear sC;obtain⟨wa,ec,da,ie,mc⟩:=zm w (s.vs_ AC kc SV ks AV kv AX kx) 39;obtain⟨wb,fj,db,fM,iH⟩:=zm wa #[I AR out.length cr] 52;obtain⟨w1,ae,dc,oA,fz⟩:=zm wb (f.vs AF cf) 32;have hB:Am w.heap.size w w1:=(mc.trans (iH.mono (by omega))).trans (fz.mono (by omega));have da:w1.heap[w.heap.size]?=J (Ag (s.vs_ AC kc SV ks AV kv AX kx) 39 (0,0)):=Lb fz (by omega) (Lb iH (by omega) da);have db:w1.heap[w.heap.size+1]?=J (Ag #[I AR out.length cr] 52 (0,0)):=by rw[<-ie];exact Lb fz (by omega) db
 have dc:w1.heap[w.heap.size+1+1]?=J (Ag (f.vs AF cf) 32 (0,0)):=by rw[<-ie,<-fM];exact dc
 have cY:w1.heap.size=w.heap.size+3:=by omega
 have ia:Aq (∀X,Am w1.heap.size w1 X->SyAt X X.heap.size AC SV AV AX s):=fun X hX=>(hS.up hB).up hX
 have BK:Aq (∀X,Am w1.heap.size w1 X->IAt X X.heap.size AR out):=fun X hX=>(((hO.keep hB).more hB.size).keep hX).more hX.size
 have aX:Aq (∀i (hi:i<f.args.length),∃b o A' c',AF=J ⟨b,o,Z⟩/\(∀X,Am w1.heap.size w1 X->∀j v,(f.args[i].vs A' c')[j]?=J v->X.cell? ⟨b,o+i*6+j,Z⟩=J v)/\∀X,Am w1.heap.size w1 X->An Al 38 #[.agg (s.vs_ AC kc SV ks AV kv AX kx),Ai #[I AR out.length cr],.agg (f.args[i].vs A' c')] X (vc (ptn s) (RA f.args[i]) X)):=fun i hi=>by
  obtain⟨b,o,A',c',e,hb,h1,h2⟩:=dX i hi;exact⟨b,o,A',c',e,fun X hX j v hv=>((Lc hB hX).cell (p:=⟨b,_,Z⟩) hb).trans (h1 j v hv),fun X hX=>h2 X (Lc hB hX)⟩
 have Ml:=Xh eG;have Cw:=hF.n;obtain⟨n,hn⟩:=Kk (ptn s);have KY:n=s.xs.length*(K+1):=by rw[<-hn];unfold ptn;rw[hF.k,Lo]
 have hKN:=And.intro hF.k6 (And.intro hF.lx hF.n5);have ff:=zH hB
 have aY:Aq (∀X,Am w1.heap.size w1 X->X.heap[w.heap.size]?=J (Ag #[O U s.p.t.n,O U s.p.t.ins,O U s.p.t.outs,I AC s.p.t.cases.length kc,O U s.p.a.n,I SV s.p.a.sts.length ks,O U s.p.k,O U s.n,I AV s.vs.length kv,I AX s.xs.length kx] 39 (0,0))/\X.heap[w.heap.size+1]?=J (Ag #[I AR out.length cr] 52 (0,0))/\X.heap[w.heap.size+1+1]?=J (Ag #[O U f.h.op,O U f.h.p,O U f.h.o,O U f.h.v,O U f.h.g,I AF f.args.length cf] 32 (0,0))):=
  fun X hX=>⟨Lb hX (by omega) da,Lb hX (by omega) db,Lb hX (by omega) dc⟩
 have ef:Aq (f.args.length=0->An Al 62 #[.agg (s.vs_ AC kc SV ks AV kv AX kx),Ai #[I AR out.length cr],.agg (f.vs AF cf)] w1 (vc n (jl s out f.h) w1)):=fun hk=>by
  have hA:=atomN_any s hs hf out 0 f (by unfold zL;rw[Pw.1 hk];decide) AC SV AV AX AF AR kc ks kv kx cf cr w1 (ia.out _ (Li _ _)) (BK.out _ (Li _ _)) (show f.args=[] from Pw.1 hk);rw[atm_fine hF hv lm eG hk] at hA;refine hA.mono ?_;rintro e w' ⟨A,c,rfl,ho,hb⟩;have hl:(jl s out f.h).length=n:=by rw[uZ];exact hn
  dsimp only at ho ⊢;rw[hl] at ho ⊢;obtain⟨g,rfl,hg,bZ⟩:=OwnB.of hl (by omega) ho;exact⟨_,c,rfl,bZ.at_ bZ.lt,fun a e=>by cases e;exact hg,hb⟩
 have TK:=zH (fun (X:Ba) (hX:Am w1.heap.size w1 X) (a:List Bool) (ha:a.length=n) (A:Bb) (ca:Nat) (hA:BAt X X.heap.size A a)=>tv_knows hs hf hv Cw hn (by omega) a ha AC SV AV AX A kc ks kv kx ca X (ia.out X hX) hA);have TE:=zH (fun (X:Ba) (hX:Am w1.heap.size w1 X) (a:List Bool) (ha:a.length=n) (A:Bb) (ca:Nat) (hA:BAt X X.heap.size A a)=>tv_every hs hf hv Cw hn (by omega) a ha AC SV AV AX A kc ks kv kx ca X (ia.out X hX) hA);have TD:=zH (fun (X:Ba) (hX:Am w1.heap.size w1 X) (a:List Bool) (ha:a.length=n) (A:Bb) (ca:Nat) (hA:BAt X X.heap.size A a)=>tv_dist hs hf hv Cw hn (by omega) a ha AC SV AV AX A kc ks kv kx ca X (ia.out X hX) hA);have TC:=zH (fun (X:Ba) (hX:Am w1.heap.size w1 X) (a:List Bool) (ha:a.length=n) (A:Bb) (ca:Nat) (hA:BAt X X.heap.size A a)=>tv_common hs hf hv Cw hn (by omega) a ha AC SV AV AX A kc ks kv kx ca X (ia.out X hX) hA);have TN:=zH (fun (X:Ba) (a:List Bool) (ha:a.length=n) (A:Bb) (ca:Nat) (hA:BAt X X.heap.size A a)=>JU s AC SV AV AX kc ks kv kx K s.xs.length n hF.k (by omega) rfl (by omega) KY A ca a ha X hA);have TU:=zH (fun (X:Ba) (a:List Bool) (ha:a.length=n) (A:Bb) (ca:Nat) (hA:BAt X X.heap.size A a)=>gG s AC SV AV AX kc ks kv kx K s.xs.length n hF.k (by omega) rfl (by omega) KY A ca a ha X hA)
 have TV:=zH (fun (X:Ba) (a:List Bool) (ha:a.length=n) (A:Bb) (ca:Nat) (hA:BAt X X.heap.size A a)=>Qr s AC SV AV AX kc ks kv kx K s.xs.length n hF.k (by omega) rfl (by omega) KY (by omega) A ca a ha X hA);have TW:=zH (fun (X:Ba) (a:List Bool) (ha:a.length=n) (A:Bb) (ca:Nat) (hA:BAt X X.heap.size A a)=>talw_any s AC SV AV AX kc ks kv kx K s.xs.length n hF.k (by omega) rfl (by omega) KY (by omega) A ca a ha X hA);have TG:=zH (fun (X:Ba) (a:List Bool) (ha:a.length=n) (A:Bb) (ca:Nat) (hA:BAt X X.heap.size A a)=>ZO A ca n (by omega) a ha X hA)
 have fm:Aq (∀a b,vU s f.h a b=if f.h.op=14 then vy n K a else if f.h.op=15 then kQ n K a else if f.h.op=16 then kO n K a else if f.h.op=17 then vt n K a b else if f.h.op=10 then yo n (yt s f.h.p.toNat) a else if f.h.op=11 then evG s f.h.g a else if f.h.op=12 then yo n (qm s f.h.g) a else if f.h.op=13 then zR n (evG s f.h.g) a n else if f.h.op=7 then qb n a else if f.h.op=8 then qz n a b else orL n a b):=fun a b=>by
  unfold vU evlS;rw[hn,hF.k,Lo]
 have Bg:Aq (∀g a,(evG s g a).length=n):=fun g a=>by rw[<-hn];exact jC ..
 have rV:Aq (∀x,(RA x).length=n):=fun x=>by rw[<-hn];exact hRA x
 have OD:Aq (f.args.length≠0->_):=fun hk=>tv_ops eG hk
 have fR:=zH Ml;have pE:Aq (∀a b b',7<=f.h.op/\f.h.op<=17->¬(f.h.op=8\/f.h.op=9\/f.h.op=17)->vU s f.h a b=vU s f.h a b'):=fun a b b' h1 h2=>tvlS_one h1 h2
 rw[hn];rw[hn] at dG oC aX;unfold vc at aX ef TK TE TD ⊢;unfold Sy.vs_ at ec aX ef TK TE TD TC TN TU TV TW ⊢;unfold Fm.vs at ae ef ⊢;have o8:=zH ec;have o7:=zH fj;have o5:=zH ae;have mJ:Aq (Am w1.heap.size w1 w1):=Li _ _;obtain⟨D0,D1,D2⟩:=aY.out _ mJ.out;clear ec fj ae da db dc ie fM oA mc iH fz hB hS hO dX hRA Ml hs hf hv hF lm eG hn Cw KY ia BK;obtain⟨p0,p1,p2,p3,p4,p5,p6,p7,p8,p9⟩:=zK (D0);have r0:=zh (D1) 0 rfl;obtain⟨f0,f1,f2,f3,f4,f5,_⟩:=Ki (D2);clear D0 D1 D2;go_enter func38,ntmps38;go_upto_region 1 with fail
 rw[o8.out,o7.out,o5.out]
 by_cases hk:f.args.length=0
 case pos=>
  have e0:((f.args.length:Int)==0)=Au:=by rw[hk];rfl
  have HC:=zH (ef.out hk);rw[hk] at HC;go_wp2_with fail;refine HC.out.mono ?_;rintro e w4 ⟨A4,c4,rfl,Ik,Gf,aP⟩;have mS:=zH Ik;have sb:=zH Gf;have fK:=zH (Lc ff.out aP);clear Ik Gf aP HC;go_wp2_with fail
  go_ret2
  exact⟨A4,c4,rfl,by rw[HT0.out hk];exact mS.out,fun a e=>Lr ff.out.size (sb.out a e),fK.out⟩
 have e0:((f.args.length:Int)==0)=Aw:=by rw[beq_eq_false_iff_ne];omega
 obtain⟨AD,p'⟩:=OD.out hk;have iX:f.args.length<=2:=by omega
 have rD:=zH (And.intro AD p');have HRS:Aq (VaIn w1.heap.size n (fun j=>RA (f.args.getD j default)) w1 w1 Z 0 0 []):=VaIn.start (Li _ _);clear p' AD ef OD;go_wp2_with fail
 go_loopw [8,31] (fun v8 i wr=>∃j:Nat,j<=f.args.length/\i=O U (j:Int)/\∃P c cs,v8=I P j c/\Aq (VaIn w1.heap.size n (fun j=>RA (f.args.getD j default)) w1 wr P j c cs)) (fun v8 i _=>f.args.length-(Ap i).toNat)
 case atStart=>exact⟨0,by omega,rfl,Z,0,[],rfl,HRS⟩
 obtain⟨j,hj,rfl,P,c,cs,rfl,hI⟩:=hrel;have hwj:IntKind.i64.wrap ((j:Int)+1)=((j+1:Nat):Int):=by rw[Ll];omega
 by_cases ac:j<f.args.length
 . obtain⟨bf,of,A',c',rfl,oD,SQ⟩:=aX.out j ac
   obtain⟨x,hx⟩:=Kk (f.args[j]);have i5:f.args.getD j default=x:=by rw[zw ac];exact hx
   rw[hx] at oD SQ;have hrx:=rV.out x;have EF:Aq ((fun j=>RA (f.args.getD j default)) j=RA x):=by rw[Aq];dsimp only;rw[i5]
   obtain⟨RX,IF⟩:=Kk (RA x);rw[IF] at SQ hrx EF;obtain⟨⟨h0,h1,h2,h3,h4⟩,xl⟩:=x;have hc:∀j' v,#[O U h0,O U h1,O U h2,O U h3,O U h4,I A' xl.length c'][j']?=J v->wr.cell? ⟨bf,of+j*6+j',Z⟩=J v:=oD wr hI.out.below;have z0:wr.cell? ⟨bf,of+j*6,Z⟩=J (O U h0):=hc 0 _ rfl;have z1:wr.cell? ⟨bf,of+j*6+1,Z⟩=J (O U h1):=hc 1 _ rfl;have z2:wr.cell? ⟨bf,of+j*6+2,Z⟩=J (O U h2):=hc 2 _ rfl;have z3:wr.cell? ⟨bf,of+j*6+3,Z⟩=J (O U h3):=hc 3 _ rfl;have z4:wr.cell? ⟨bf,of+j*6+4,Z⟩=J (O U h4):=hc 4 _ rfl;have z5:wr.cell? ⟨bf,of+j*6+5,Z⟩=J (I A' xl.length c'):=hc 5 _ rfl;have dS:(0:Int)<=(j:Int):=by omega
   have aW:(j:Int)<(f.args.length:Int):=by omega
   have aO:bf<wr.heap.size:=LG wr _ z0;have HC:=zH SQ;simp only[Fm.vs,Fm.args,Fm.h] at HC;have oz:w1.heap.size<=wr.heap.size:=hI.out.below.size;clear oD SQ hx IF hc i5 p0 p1 p2 p3 p4 p5 p6 p7 p8 p9 r0 f0 f1 f2 f3 f4 f5;go_upto_region 7 with fail
   obtain⟨W5,iG,d5,cZ,aj⟩:=zm wr #[O U h0,O U h1,O U h2,O U h3,O U h4,I A' xl.length c'] 32;rw[iG];have aK:=zH (hI.out.below.trans (aj.mono oz));have rY:=zH (hI.out.on oz aj);have dV:=zH (HC.out W5 aK.out);obtain⟨D0,D1,D2⟩:=aY.out _ aK.out;obtain⟨p0,p1,p2,p3,p4,p5,p6,p7,p8,p9⟩:=zK (D0);have r0:=zh (D1) 0 rfl;obtain⟨y0,y1,y2,y3,y4,y5,_⟩:=Ki d5;have hs5r:wr.heap.size<=W5.heap.size:=by omega
   clear D0 D1 D2 iG d5 aj z0 z1 z2 z3 z4 z5 HC cZ;go_wp2_with fail;refine dV.out.mono ?_;rintro e w6 ⟨A3,c3,rfl,Bv,hf6,dj⟩;have HI6:=zH (rY.out.on (by omega) dj);have EJ:=zH Bv;have HF6:=zH hf6;have fU:W5.heap.size<=w6.heap.size:=dj.size;clear Bv hf6 dj dV aK p0 p1 p2 p3 p4 p5 p6 p7 p8 p9 r0 y0 y1 y2 y3 y4 y5;go_upto_region 10 with fail
   obtain⟨W7,pz,d7,fq,dk⟩:=zm w6 #[I A3 n c3] 58;have HI7:=zH (HI6.out.on (by omega) dk);have EI:=zH ((EJ.out.keep dk).more dk.size);have C8:=zH HI7.out.own;have V8:w1.heap.size<=W7.heap.size:=by omega
   have o9:=zH pz;clear pz dk
   go_wp2_with (at_builtin; go_must (rw [o9.out]; refine yI kBs_ok rfl _ _ (by rfl) w1.heap.size (I P j c) j cs (by rfl) C8.out w6.heap.size #[I A3 n c3] (by rfl) d7 rfl (by simp [Value.oneCell']) (by omega) V8 _ rfl ?_); intro g' aH w8 Su VD Mz L7
                have HR8:=zH Su;have HG8:=zH VD;have HAT8:=zH Mz
                clear Su VD Mz L7)
   have C5:=zH (HI7.out.push (by omega) (by rw[EF.out];exact EI.out) (fun a e=>by
    obtain⟨b0,off0,e0,Vd,_⟩:=EI.out (by omega);have e1:=HF6.out a e;rw[e0] at e;obtain rfl:=NL e;refine⟨Vd,fun e2=>?_⟩;have:=(hI.out.own.lt _ e2).2;have e1:W5.heap.size<=b0:=e1;have:b0<wr.heap.size:=this
    omega) HR8.out HG8.out HAT8.out)
   go_roundw
   case rel=>exact⟨j+1,by omega,by go_num,_,_,_,rfl,C5⟩
   simp[Ap];omega
 obtain rfl:f.args.length=j:=by omega
 have aW:¬(f.args.length:Int)<(f.args.length:Int):=by omega
 obtain⟨AD,p'⟩:=rD.out;obtain⟨A0,c0,x0,Cq,_⟩:=hI.out.rows 0 (by omega);obtain⟨A1,c1,x1,iV,_⟩:=hI.out.rows (f.args.length-1) (by omega)
 try dsimp only at Cq iV
 obtain⟨P',c',eV,_,_,bn⟩:=hI.out.own.form;simp only[Value.slice.injEq,true_and] at eV;obtain⟨rfl,rfl⟩:=eV;obtain⟨g,rfl,_,fd,dP⟩:=bn (by omega);have z0:=dP 0 _ x0;have z1:=dP (f.args.length-1) _ x1;obtain⟨a,ha⟩:=Kk (RA (f.args.getD 0 default));obtain⟨b,hb⟩:=Kk (RA (f.args.getD (f.args.length-1) default));have iK:Aq (a.length=n):=by rw[<-ha];exact rV.out _
 have pf:Aq (b.length=n):=by rw[<-hb];exact rV.out _
 have f':Aq (TT=vU s f.h a b):=by
  rw[Aq,HT1.out hk,ha];rcases p' with ⟨_,h2⟩ | ⟨h1,_⟩
  . rw[<-hb,h2]
  exact pE.out _ _ _ AD h1
 rw[ha] at Cq;rw[hb] at iV;have oz:w1.heap.size<=wr.heap.size:=hI.out.below.size;have Sp:IntKind.i64.wrap ((f.args.length:Int)-1)=(f.args.length:Int)-1:=by rw[Ll];omega
 have Ir:(0:Int)<(f.args.length:Int):=by omega
 have hi0n:0<f.args.length:=by omega
 have hi1n:(1:Int)<=(f.args.length:Int):=by omega
 have hi1:(0:Int)<=(f.args.length:Int)-1:=by omega
 have rM:(f.args.length:Int)-1<(f.args.length:Int):=by omega
 have hti:((f.args.length:Int)-1).toNat=f.args.length-1:=by omega
 have Iv:Am wr.heap.size wr wr.drew:=(Li _ wr).drew;have eF:Aq (Am w1.heap.size w1 wr.drew):=hI.out.below.trans (Iv.mono oz);have pW:=(Cq.keep Iv).more Iv.size;have Iy:=(iV.keep Iv).more Iv.size;have ai:=zH (And.intro z0 z1);have Tb:f.h.op=7\/f.h.op=8\/f.h.op=9\/f.h.op=14\/f.h.op=15\/f.h.op=16\/f.h.op=17\/f.h.op=10\/f.h.op=11\/f.h.op=12\/f.h.op=13:=by omega
 clear ha hb Cq iV bn dP x0 x1 p' AD HT0 HT1 HRS p0 p1 p2 p3 p4 p5 p6 p7 p8 p9 r0 f0 f1 f2 f3 f4 f5;go_upto_region 12 with fail
 refine zt [(0,Au),(1,Au),(2,Au),(3,Au),(4,Au),(5,Au),(6,Au),(7,Au),(8,Au),(9,Au),(10,Au)] (fun X=>X.cell? ⟨g,0,Z⟩=J (I A0 n c0)/\X.cell? ⟨g,f.args.length-1,Z⟩=J (I A1 n c1)) (by kernel_rfl) (by kernel_rfl) ai.out ?_
 repeat
  apply zj rfl
  . rintro K' aa X ⟨u1,u2⟩
    go_simp;exact aa
 refine zy ?_;obtain⟨wd,oy⟩:=Kk wr.drew;rw[oy] at eF pW Iy ⊢;obtain⟨D0,D1,D2⟩:=aY.out _ eF.out;obtain⟨p0,p1,p2,p3,p4,p5,p6,p7,p8,p9⟩:=zK (D0);have r0:=zh (D1) 0 rfl;obtain⟨f0,f1,f2,f3,f4,f5,_⟩:=Ki (D2);clear D0 D1 D2 ai z0 z1 Iv oy fd;go_upto_region 14 with fail
 rcases Tb with h | h | h | h | h | h | h | h | h | h | h
 . have e7:(f.h.op==7)=Au:=by rw[h];rfl
   have eD:Aq (TT=qb n a):=by rw[Aq,f'.out,fm.out,h];rfl
   have HC:=zH ((TG.out wd a iK.out A0 c0 pW).mono fun _ _ h=>h.vo (qf ..));clear h f' fm TK TE TD TC TN TU TV TW TG fR rD pE Bg rV aX;go_wp2_with fail;refine HC.out.mono ?_;rintro e w5 ⟨g5,rfl,dM,cK,aj⟩;have ez:=zH dM;have iL:=zH cK;have aK:=zH (ff.out.trans ((Lc eF.out aj).mono ff.out.size));clear dM cK aj HC;go_wp2_with fail
   go_ret2
   have hz:=Lr ff.out.size eF.out.size;exact⟨J ⟨g5,0,Z⟩,n,rfl,by rw[eD.out];exact ez.out,fun a e=>by cases e;exact Lr hz iL.out,aK.out⟩
 . have e7:(f.h.op==7)=Aw:=by rw[h];rfl
   have e8:(f.h.op==8)=Au:=by rw[h];rfl
   have eD:Aq (TT=qz n a b):=by rw[Aq,f'.out,fm.out,h];rfl
   have HC:=zH ((tpw_any (fun x y=>x&&y) _ (NC func65 (by kernel_rfl) rfl) (fun x y X=>tand_any x y X) A0 A1 c0 c1 n (by omega) a b iK.out pf.out (qz n a b) (yN ..) (fun k hk=>by rw[ZD hk,zw (by rw[iK.out];exact hk),zw (by rw[pf.out];exact hk)]) wd pW Iy).mono fun _ _ h=>h.vo (yN ..));clear h f' fm TK TE TD TC TN TU TV TW TG fR rD pE Bg rV aX;go_wp2_with fail;refine HC.out.mono ?_;rintro e w5 ⟨g5,rfl,dM,cK,aj⟩;have ez:=zH dM;have iL:=zH cK;have aK:=zH (ff.out.trans ((Lc eF.out aj).mono ff.out.size));clear dM cK aj HC;go_wp2_with fail
   go_ret2
   have hz:=Lr ff.out.size eF.out.size;exact⟨J ⟨g5,0,Z⟩,n,rfl,by rw[eD.out];exact ez.out,fun a e=>by cases e;exact Lr hz iL.out,aK.out⟩
 . have e7:(f.h.op==7)=Aw:=by rw[h];rfl
   have e8:(f.h.op==8)=Aw:=by rw[h];rfl
   have e9:(f.h.op==9)=Au:=by rw[h];rfl
   have eD:Aq (TT=orL n a b):=by rw[Aq,f'.out,fm.out,h];rfl
   have HC:=zH ((tpw_any (fun x y=>x||y) _ (NC func66 (by kernel_rfl) rfl) (fun x y X=>tor_any x y X) A0 A1 c0 c1 n (by omega) a b iK.out pf.out (orL n a b) (jy ..) (fun k hk=>by rw[orL_at hk,zw (by rw[iK.out];exact hk),zw (by rw[pf.out];exact hk)]) wd pW Iy).mono fun _ _ h=>h.vo (jy ..));clear h f' fm TK TE TD TC TN TU TV TW TG fR rD pE Bg rV aX;go_wp2_with fail;refine HC.out.mono ?_;rintro e w5 ⟨g5,rfl,dM,cK,aj⟩;have ez:=zH dM;have iL:=zH cK;have aK:=zH (ff.out.trans ((Lc eF.out aj).mono ff.out.size));clear dM cK aj HC;go_wp2_with fail
   go_ret2
   have hz:=Lr ff.out.size eF.out.size;exact⟨J ⟨g5,0,Z⟩,n,rfl,by rw[eD.out];exact ez.out,fun a e=>by cases e;exact Lr hz iL.out,aK.out⟩
 . have e7:(f.h.op==7)=Aw:=by rw[h];rfl
   have e8:(f.h.op==8)=Aw:=by rw[h];rfl
   have e9:(f.h.op==9)=Aw:=by rw[h];rfl
   have GO:(f.h.op==14)=Au:=by rw[h];rfl
   have eD:Aq (TT=vy n K a):=by rw[Aq,f'.out,fm.out,h];rfl
   have HC:=zH ((TN.out wd a iK.out A0 c0 pW).mono fun _ _ h=>h.vo (uL ..));clear h f' fm TK TE TD TC TN TU TV TW TG fR rD pE Bg rV aX;go_wp2_with fail;refine HC.out.mono ?_;rintro e w5 ⟨g5,rfl,dM,cK,aj⟩;have ez:=zH dM;have iL:=zH cK;have aK:=zH (ff.out.trans ((Lc eF.out aj).mono ff.out.size));clear dM cK aj HC;go_wp2_with fail
   go_ret2
   have hz:=Lr ff.out.size eF.out.size;exact⟨J ⟨g5,0,Z⟩,n,rfl,by rw[eD.out];exact ez.out,fun a e=>by cases e;exact Lr hz iL.out,aK.out⟩
 . have e7:(f.h.op==7)=Aw:=by rw[h];rfl
   have e8:(f.h.op==8)=Aw:=by rw[h];rfl
   have e9:(f.h.op==9)=Aw:=by rw[h];rfl
   have GO:(f.h.op==14)=Aw:=by rw[h];rfl
   have En:(f.h.op==15)=Au:=by rw[h];rfl
   have eD:Aq (TT=kQ n K a):=by rw[Aq,f'.out,fm.out,h];rfl
   have HC:=zH ((TW.out wd a iK.out A0 c0 pW).mono fun _ _ h=>h.vo (wg ..));clear h f' fm TK TE TD TC TN TU TV TW TG fR rD pE Bg rV aX;go_wp2_with fail;refine HC.out.mono ?_;rintro e w5 ⟨g5,rfl,dM,cK,aj⟩;have ez:=zH dM;have iL:=zH cK;have aK:=zH (ff.out.trans ((Lc eF.out aj).mono ff.out.size));clear dM cK aj HC;go_wp2_with fail
   go_ret2
   have hz:=Lr ff.out.size eF.out.size;exact⟨J ⟨g5,0,Z⟩,n,rfl,by rw[eD.out];exact ez.out,fun a e=>by cases e;exact Lr hz iL.out,aK.out⟩
 . have e7:(f.h.op==7)=Aw:=by rw[h];rfl
   have e8:(f.h.op==8)=Aw:=by rw[h];rfl
   have e9:(f.h.op==9)=Aw:=by rw[h];rfl
   have GO:(f.h.op==14)=Aw:=by rw[h];rfl
   have En:(f.h.op==15)=Aw:=by rw[h];rfl
   have CX:(f.h.op==16)=Au:=by rw[h];rfl
   have eD:Aq (TT=kO n K a):=by rw[Aq,f'.out,fm.out,h];rfl
   have HC:=zH ((TV.out wd a iK.out A0 c0 pW).mono fun _ _ h=>h.vo (kp ..));clear h f' fm TK TE TD TC TN TU TV TW TG fR rD pE Bg rV aX;go_wp2_with fail;refine HC.out.mono ?_;rintro e w5 ⟨g5,rfl,dM,cK,aj⟩;have ez:=zH dM;have iL:=zH cK;have aK:=zH (ff.out.trans ((Lc eF.out aj).mono ff.out.size));clear dM cK aj HC;go_wp2_with fail
   go_ret2
   have hz:=Lr ff.out.size eF.out.size;exact⟨J ⟨g5,0,Z⟩,n,rfl,by rw[eD.out];exact ez.out,fun a e=>by cases e;exact Lr hz iL.out,aK.out⟩
 . have e7:(f.h.op==7)=Aw:=by rw[h];rfl
   have e8:(f.h.op==8)=Aw:=by rw[h];rfl
   have e9:(f.h.op==9)=Aw:=by rw[h];rfl
   have GO:(f.h.op==14)=Aw:=by rw[h];rfl
   have En:(f.h.op==15)=Aw:=by rw[h];rfl
   have CX:(f.h.op==16)=Aw:=by rw[h];rfl
   have Td:(f.h.op==17)=Au:=by rw[h];rfl
   have eD:Aq (TT=vt n K a b):=by rw[Aq,f'.out,fm.out,h];rfl
   have HC:=zH ((TU.out wd a iK.out A0 c0 pW A1 c1 b pf.out Iy).mono fun _ _ h=>h.vo (kU ..));clear h f' fm TK TE TD TC TN TU TV TW TG fR rD pE Bg rV aX;go_wp2_with fail;refine HC.out.mono ?_;rintro e w5 ⟨g5,rfl,dM,cK,aj⟩;have ez:=zH dM;have iL:=zH cK;have aK:=zH (ff.out.trans ((Lc eF.out aj).mono ff.out.size));clear dM cK aj HC;go_wp2_with fail
   go_ret2
   have hz:=Lr ff.out.size eF.out.size;exact⟨J ⟨g5,0,Z⟩,n,rfl,by rw[eD.out];exact ez.out,fun a e=>by cases e;exact Lr hz iL.out,aK.out⟩
 . have e7:(f.h.op==7)=Aw:=by rw[h];rfl
   have e8:(f.h.op==8)=Aw:=by rw[h];rfl
   have e9:(f.h.op==9)=Aw:=by rw[h];rfl
   have GO:(f.h.op==14)=Aw:=by rw[h];rfl
   have En:(f.h.op==15)=Aw:=by rw[h];rfl
   have CX:(f.h.op==16)=Aw:=by rw[h];rfl
   have Td:(f.h.op==17)=Aw:=by rw[h];rfl
   have rj:(f.h.op==10)=Au:=by rw[h];rfl
   have eD:Aq (TT=yo n (yt s f.h.p.toNat) a):=by rw[Aq,f'.out,fm.out,h];rfl
   have HC:=zH (TK.out wd eF.out a iK.out A0 c0 pW f.h.p (fR.out.2.2.1 h));clear h f' fm TK TE TD TC TN TU TV TW TG fR rD pE Bg rV aX;go_wp2_with fail;refine HC.out.mono ?_;rintro e w5 ⟨A5,c5,rfl,dM,cK,aj⟩;have ez:=zH dM;have iL:=zH cK;have aK:=zH (ff.out.trans ((Lc eF.out aj).mono ff.out.size));clear dM cK aj HC;go_wp2_with fail
   go_ret2
   have hz:=Lr ff.out.size eF.out.size;exact⟨A5,c5,rfl,by rw[eD.out];exact ez.out,fun a e=>Lr hz (iL.out a e),aK.out⟩
 . have e7:(f.h.op==7)=Aw:=by rw[h];rfl
   have e8:(f.h.op==8)=Aw:=by rw[h];rfl
   have e9:(f.h.op==9)=Aw:=by rw[h];rfl
   have GO:(f.h.op==14)=Aw:=by rw[h];rfl
   have En:(f.h.op==15)=Aw:=by rw[h];rfl
   have CX:(f.h.op==16)=Aw:=by rw[h];rfl
   have Td:(f.h.op==17)=Aw:=by rw[h];rfl
   have rj:(f.h.op==10)=Aw:=by rw[h];rfl
   have BF:(f.h.op==11)=Au:=by rw[h];rfl
   have eD:Aq (TT=evG s f.h.g a):=by rw[Aq,f'.out,fm.out,h];rfl
   have HC:=zH (TE.out wd eF.out a iK.out A0 c0 pW f.h.g (fR.out.2.2.2 (.inl h)));clear h f' fm TK TE TD TC TN TU TV TW TG fR rD pE Bg rV aX;go_wp2_with fail;refine HC.out.mono ?_;rintro e w5 ⟨A5,c5,rfl,dM,cK,aj⟩;have ez:=zH dM;have iL:=zH cK;have aK:=zH (ff.out.trans ((Lc eF.out aj).mono ff.out.size));clear dM cK aj HC;go_wp2_with fail
   go_ret2
   have hz:=Lr ff.out.size eF.out.size;exact⟨A5,c5,rfl,by rw[eD.out];exact ez.out,fun a e=>Lr hz (iL.out a e),aK.out⟩
 . have e7:(f.h.op==7)=Aw:=by rw[h];rfl
   have e8:(f.h.op==8)=Aw:=by rw[h];rfl
   have e9:(f.h.op==9)=Aw:=by rw[h];rfl
   have GO:(f.h.op==14)=Aw:=by rw[h];rfl
   have En:(f.h.op==15)=Aw:=by rw[h];rfl
   have CX:(f.h.op==16)=Aw:=by rw[h];rfl
   have Td:(f.h.op==17)=Aw:=by rw[h];rfl
   have rj:(f.h.op==10)=Aw:=by rw[h];rfl
   have BF:(f.h.op==11)=Aw:=by rw[h];rfl
   have BE:(f.h.op==12)=Au:=by rw[h];rfl
   have eD:Aq (TT=yo n (qm s f.h.g) a):=by rw[Aq,f'.out,fm.out,h];rfl
   have HC:=zH (TD.out wd eF.out a iK.out A0 c0 pW f.h.g (fR.out.2.2.2 (.inr (.inl h))));clear h f' fm TK TE TD TC TN TU TV TW TG fR rD pE Bg rV aX;go_wp2_with fail;refine HC.out.mono ?_;rintro e w5 ⟨A5,c5,rfl,dM,cK,aj⟩;have ez:=zH dM;have iL:=zH cK;have aK:=zH (ff.out.trans ((Lc eF.out aj).mono ff.out.size));clear dM cK aj HC;go_wp2_with fail
   go_ret2
   have hz:=Lr ff.out.size eF.out.size;exact⟨A5,c5,rfl,by rw[eD.out];exact ez.out,fun a e=>Lr hz (iL.out a e),aK.out⟩
 have e7:(f.h.op==7)=Aw:=by rw[h];rfl
 have e8:(f.h.op==8)=Aw:=by rw[h];rfl
 have e9:(f.h.op==9)=Aw:=by rw[h];rfl
 have GO:(f.h.op==14)=Aw:=by rw[h];rfl
 have En:(f.h.op==15)=Aw:=by rw[h];rfl
 have CX:(f.h.op==16)=Aw:=by rw[h];rfl
 have Td:(f.h.op==17)=Aw:=by rw[h];rfl
 have rj:(f.h.op==10)=Aw:=by rw[h];rfl
 have BF:(f.h.op==11)=Aw:=by rw[h];rfl
 have BE:(f.h.op==12)=Aw:=by rw[h];rfl
 have eD:Aq (TT=zR n (evG s f.h.g) a n):=by rw[Aq,f'.out,fm.out,h];rfl
 have HC:=zH (TC.out wd eF.out a iK.out A0 c0 pW f.h.g (fR.out.2.2.2 (.inr (.inr h))));clear h f' fm TK TE TD TC TN TU TV TW TG fR rD pE Bg rV aX;go_wp2_with fail;refine HC.out.mono ?_;rintro e w5 ⟨M5,g5,rfl,cK,dM,aj⟩;have ez:=zH dM;have iL:=zH cK;have aK:=zH (ff.out.trans ((Lc eF.out aj).mono ff.out.size));clear dM cK aj HC;go_wp2_with fail
 go_ret2
 have hz:=Lr ff.out.size eF.out.size;exact⟨J ⟨g5,0,Z⟩,n,rfl,by rw[eD.out];exact ez.out.at_ ez.out.lt,fun a e=>by cases e;exact Lr hz iL.out,aK.out⟩
end
section
open Go.RowKit Go.Shelf
theorem ZK(s:Sy)(hs:LowS s)(hf:xu s.p)(hv:zZ s=0)(K N:Nat)(hF:Fine s K N)(dG:1<=ptn s)(oC:ptn s<=700)(out:List Int)(lm:¬(0<out.length/\out.length≠s.vs.length))(cr:Nat)(AR AC SV AV AX:Bb)(kc ks kv kx:Nat):∀(d:Nat) (f:Fm) (AF:Bb) (cf:Nat) (w:Ba),yJ N d f=0->FsAt w w.heap.size d AF f.args->SyAt w w.heap.size AC SV AV AX s->IAt w w.heap.size AR out ->
  An Al 38 #[.agg (s.vs_ AC kc SV ks AV kv AX kx),Ai #[I AR out.length cr],.agg (f.vs AF cf)] w (vc (ptn s) (xn s out d f) w)
 | 0,f,AF,cf,w,dp,hA,hS,hO=>by
  have h0:f.args.length=0:=by rw[show f.args=[] from hA];rfl
  have:=gF s hs hf hv K N hF dG oC out lm cr AR AC SV AV AX kc ks kv kx f AF cf (wP dp).1 (fun _=>List.replicate (ptn s) Aw) (fun _=>LU) w hS hO (fun i hi=>by omega);rw[Lj h0] at this;exact this
 | d+1,f,AF,cf,w,dp,hA,hS,hO=>
  gF s hs hf hv K N hF dG oC out lm cr AR AC SV AV AX kc ks kv kx f AF cf (wP (R:=yJ N d) dp).1 (xn s out d) (jM s out d) w hS hO (fun i hi=>by
   obtain⟨b,o,e,ac,hr⟩:=hA (by omega);obtain⟨A',c',h1,h2⟩:=hr i hi
   exact⟨b,o,A',c',e,ac,h1,fun X hX=>ZK s hs hf hv K N hF dG oC out lm cr AR AC SV AV AX kc ks kv kx d _ A' c' X ((wP (R:=yJ N d) dp).2 _ (Le hi)) ((h2.keep hX).more hX.size) (hS.up hX) ((hO.keep hX).more hX.size)⟩)
end
end Go.Proofs.YtkmbdfdaffmhjaaGreat
